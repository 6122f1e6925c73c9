/-
  sched.SchedEarliest answers true at every input: the earliest time at which something is to be tried is the least one of what waits.
-/
import Derived.Test.YtncijlpnidomfaaProg
import Derived.Test.YtncijlpnidomfaaBase
import Derived.Test.YtncijlpnidomfaaSched
import Derived.Test.YtncijlpnidomfaaOpen
import Derived.Test.YtncijlpnidomfaaEarliest
import Derived.Test.YtncijlpnidomfaaAwake22
import Derived.Test.YtncijlpnidomfaaRow
namespace Go.Proofs.Ytncijlpnidomfaa
open Go.ChangeShapes Go.WideShapes Go.ChangeAt Go.RowKit

def stepC (t : Int) (r : Int × Bool) (s : SV) : Int × Bool := if s.st = 0 then (r.1 + 1, r.2 || decide (s.du = t)) else r

/-! ### The plain law -/
theorem stepS_all (l : List SV) (r : Int × Bool) : (∀ s ∈ l, s.st = 0 → (l.foldl stepS r).1 ≤ s.du) ∧ ((l.foldl stepS r).2 = true → r.2 = true → (l.foldl stepS r).1 ≤ r.1) ∧ (r.2 = true → (l.foldl stepS r).2 = true) ∧
    ((l.foldl stepS r).2 = true ↔ r.2 = true ∨ ∃ s ∈ l, s.st = 0) ∧ ((l.foldl stepS r).2 = true → (r.2 = true ∧ (l.foldl stepS r).1 = r.1) ∨ ∃ s ∈ l, s.st = 0 ∧ s.du = (l.foldl stepS r).1) ∧ ((l.foldl stepS r).2 = false → l.foldl stepS r = r) := by
  induction l generalizing r with
  | nil => simp
  | cons s l ih =>
    obtain ⟨h1, h2, h3, h4, h5, h6⟩ := ih (stepS r s)
    rw [List.foldl_cons]
    generalize hR : l.foldl stepS (stepS r s) = R at *
    have hs : stepS r s = r ∨ (s.st = 0 ∧ stepS r s = (s.du, true) ∧ (r.2 = false ∨ s.du < r.1)) := by
      unfold stepS; split
      · rename_i h; exact .inr ⟨h.1, rfl, h.2⟩
      · exact .inl rfl
    have hw : s.st = 0 → (stepS r s).2 = true ∧ (stepS r s).1 ≤ s.du := by
      intro h0; unfold stepS; split
      · exact ⟨rfl, Int.le_refl _⟩
      · rename_i h
        have : ¬ (r.2 = false ∨ s.du < r.1) := fun h' => h ⟨h0, h'⟩
        constructor
        · cases hr : r.2 with
          | true => rfl
          | false => exact absurd (.inl hr) this
        · omega
    refine ⟨?_, ?_, ?_, ?_, ?_, ?_⟩
    · intro x hx h0
      rcases List.mem_cons.1 hx with rfl | hx
      · have := hw h0
        have h7 := h3 this.1
        have := h2 h7 this.1
        omega
      · exact h1 x hx h0
    · intro ha hb
      rcases hs with hs | ⟨_, hs, hc⟩
      · rw [hs] at h2; exact h2 ha hb
      · rw [hs] at h2
        have := h2 ha rfl
        rcases hc with hc | hc
        · rw [hc] at hb; cases hb
        · simp only at this; omega
    · intro hb
      rcases hs with hs | ⟨_, hs, _⟩
      · rw [hs] at h3; exact h3 hb
      · rw [hs] at h3; exact h3 rfl
    · rw [h4]
      constructor
      · rintro (h | ⟨x, hx, h0⟩)
        · rcases hs with hs | ⟨h0, hs, _⟩
          · rw [hs] at h; exact .inl h
          · exact .inr ⟨s, by simp, h0⟩
        · exact .inr ⟨x, by simp [hx], h0⟩
      · rintro (h | ⟨x, hx, h0⟩)
        · rcases hs with hs | ⟨_, hs, _⟩
          · rw [hs]; exact .inl h
          · rw [hs]; exact .inl rfl
        · rcases List.mem_cons.1 hx with rfl | hx
          · exact .inl (hw h0).1
          · exact .inr ⟨x, hx, h0⟩
    · intro ha
      rcases h5 ha with ⟨hb, hc⟩ | ⟨x, hx, h0, hd⟩
      · rcases hs with hs | ⟨h0, hs, _⟩
        · rw [hs] at hb hc; exact .inl ⟨hb, hc⟩
        · rw [hs] at hc; exact .inr ⟨s, by simp, h0, hc.symm⟩
      · exact .inr ⟨x, by simp [hx], h0, hd⟩
    · intro ha
      have h7 := h6 ha
      rcases hs with hs | ⟨h0, hs, _⟩
      · rw [hs] at h7; exact h7
      · rw [hs] at h7; rw [h7] at ha; cases ha
theorem stepC_all (t : Int) (l : List SV) (r : Int × Bool) (hr : 0 ≤ r.1) : r.1 ≤ (l.foldl (stepC t) r).1 ∧ ((l.foldl (stepC t) r).1 > r.1 ↔ ∃ s ∈ l, s.st = 0) ∧ ((l.foldl (stepC t) r).2 = true ↔ r.2 = true ∨ ∃ s ∈ l, s.st = 0 ∧ s.du = t) := by
  induction l generalizing r with
  | nil => simp
  | cons s l ih =>
    rw [List.foldl_cons]
    by_cases h0 : s.st = 0
    · have e : stepC t r s = (r.1 + 1, r.2 || decide (s.du = t)) := by simp [stepC, h0]
      rw [e]
      obtain ⟨h1, h2, h3⟩ := ih (r.1 + 1, r.2 || decide (s.du = t)) (by simp only; omega)
      refine ⟨by simp only at h1; omega, ⟨fun _ => ⟨s, by simp, h0⟩, fun _ => by simp only at h1; omega⟩, ?_⟩
      rw [h3]
      simp only [Bool.or_eq_true, decide_eq_true_eq, List.mem_cons]
      constructor
      · rintro ((h | h) | ⟨x, hx, h⟩)
        · exact .inl h
        · exact .inr ⟨s, .inl rfl, h0, h⟩
        · exact .inr ⟨x, .inr hx, h⟩
      · rintro (h | ⟨x, rfl | hx, h⟩)
        · exact .inl (.inl h)
        · exact .inl (.inr h.2)
        · exact .inr ⟨x, hx, h⟩
    · have e : stepC t r s = r := by simp [stepC, h0]
      rw [e]
      obtain ⟨h1, h2, h3⟩ := ih r hr
      refine ⟨h1, ?_, ?_⟩
      · rw [h2]
        constructor
        · rintro ⟨x, hx, h⟩; exact ⟨x, by simp [hx], h⟩
        · rintro ⟨x, hx, h⟩
          rcases List.mem_cons.1 hx with rfl | hx
          · exact absurd h h0
          · exact ⟨x, hx, h⟩
      · rw [h3]
        constructor
        · rintro (h | ⟨x, hx, h⟩)
          · exact .inl h
          · exact .inr ⟨x, by simp [hx], h⟩
        · rintro (h | ⟨x, hx, h⟩)
          · exact .inl h
          · rcases List.mem_cons.1 hx with rfl | hx
            · exact absurd h.1 h0
            · exact .inr ⟨x, hx, h⟩
/-- What is counted and found behind all is as the earliest says. -/
theorem count_found (l : List (List SV)) : let e := earliest l; let c := l.flatten.foldl (stepC e.1) (0, false); (e.2 = decide (0 < c.1)) ∧ c.2 = e.2 ∧ (e.2 = false → e.1 = 0) := by
  intro e c
  obtain ⟨_, _, _, h4, h5, h6⟩ := stepS_all l.flatten (0, false)
  obtain ⟨g1, g2, g3⟩ := stepC_all e.1 l.flatten (0, false) (by simp)
  simp only [Bool.false_eq_true, false_or, false_and] at h4 h5 g3
  have hc : (0 < c.1) ↔ ∃ s ∈ l.flatten, s.st = 0 := g2
  refine ⟨?_, ?_, fun h => by have := h6 h; exact congrArg Prod.fst this⟩
  · rw [Bool.eq_iff_iff, decide_eq_true_eq, hc]; exact h4
  · rw [Bool.eq_iff_iff]
    constructor
    · intro h; obtain ⟨s, hs, h0, _⟩ := g3.1 h; exact h4.2 ⟨s, hs, h0⟩
    · intro h; obtain ⟨s, hs, h0, hd⟩ := h5 h; exact g3.2 ⟨s, hs, h0, hd⟩
theorem not_less (l : List (List SV)) (s : SV) (m k : Nat) (sts : List SV) (hl : l.drop k = sts :: l.drop (k + 1)) (hs : sts.drop m = s :: sts.drop (m + 1)) (h0 : s.st = 0) : (earliest l).1 ≤ s.du := by
  refine (stepS_all l.flatten (0, false)).1 s ?_ h0
  have h1 : sts ∈ l := List.mem_of_mem_drop (i := k) (by rw [hl]; simp)
  have h2 : s ∈ sts := List.mem_of_mem_drop (i := m) (by rw [hs]; simp)
  exact List.mem_flatten.2 ⟨sts, h1, h2⟩

def RelO (l : List (List SV)) (t : Int) (R : Int × Bool) (w : World) (c f i : Value) (wr : World) : Prop :=
  ∃ (k : Nat) (cn : Int) (fd : Bool), k ≤ l.length ∧ i = .int .i64 k ∧ c = .int .i64 cn ∧ f = .bool fd ∧ 0 ≤ cn ∧ cn ≤ 30 * k ∧ Hid (((l.drop k).flatten).foldl (stepC t) (cn, fd) = R) ∧ Ext w wr
def RelI (l : List (List SV)) (sts : List SV) (k : Nat) (t : Int) (R : Int × Bool) (w : World) (c f i : Value) (wr : World) : Prop :=
  ∃ (m : Nat) (cn : Int) (fd : Bool), m ≤ sts.length ∧ i = .int .i64 m ∧ c = .int .i64 cn ∧ f = .bool fd ∧ 0 ≤ cn ∧ cn ≤ 30 * k + m ∧ Hid ((sts.drop m ++ (l.drop (k + 1)).flatten).foldl (stepC t) (cn, fd) = R) ∧ Ext w wr

set_option maxHeartbeats 2000000 in
theorem schedEarliest_walk (p : Option Addr) (l : List (List SV)) (cap : Nat) (w : World) (hz : Hid (Shows w 7 IsJob p l)) (hl : l.length ≤ 9223372036854775807) :
    Calls Try.prog 5 #[.slice p l.length cap] w fun r w' => r = .returned (.bool true) ∧ Below w.heap.size w w' := by
  obtain ⟨q1, q2, q3⟩ := count_found l
  have hcf : Hid (∃ r, l.flatten.foldl (stepC (earliest l).1) (0, false) = r ∧ (earliest l).2 = decide (0 < r.1) ∧ r.2 = (earliest l).2 ∧ ((earliest l).2 = false → (earliest l).1 = 0)) := ⟨_, rfl, q1, q2, q3⟩
  have hless := Lib.hid (not_less l)
  clear q1 q2 q3
  go_enter Try.func5, Try.ntmps5
  go_wp2_with first
    | (go_at_call 6; ((refine (awake22 _).mono ?_); rintro r w1 ⟨rfl, hb⟩; obtain ⟨b1, b1d, rfl⟩ := of_below hb; clear hb))
    | (go_at_call 19; ((refine (earliest_calls _ l _ _ (Lib.hid (hz.out.below stays_job (by (repeat' (first | (with_reducible exact Below.refl _ _) | (with_reducible refine Below.app ?_ ?_ _ _) | (with_reducible refine Below.alloc ?_ ?_ _) | (with_reducible refine Below.drew ?_) | (with_reducible refine Below.setCell ?_ ?_ _) | (with_reducible assumption) | omega | (simp; omega) | (simp; done)))))) hl).mono ?_); rintro r w1 ⟨rfl, hb⟩; obtain ⟨b2, b2d, rfl⟩ := of_below hb; clear hb))
  · go_returns; exact ⟨rfl, by (repeat' (first | (with_reducible exact Below.refl _ _) | (with_reducible refine Below.app ?_ ?_ _ _) | (with_reducible refine Below.alloc ?_ ?_ _) | (with_reducible refine Below.drew ?_) | (with_reducible refine Below.setCell ?_ ?_ _) | (with_reducible assumption) | omega | (simp; omega) | (simp; done)))⟩
  have hl30 : l.length ≤ 30 := by omega
  obtain ⟨R, hR0, hR⟩ := hcf.out
  replace hR0 := Lib.hid hR0
  replace hR := Lib.hid hR
  generalize (earliest l).1 = t at *
  generalize (earliest l).2 = some_ at *
  go_loopw [5, 6, 7] (fun c f i wr => RelO l t R w c f i wr) (fun _ _ i _ => l.length - (intOf i).toNat)
  case atStart => exact ⟨0, 0, false, by omega, rfl, rfl, rfl, by omega, by omega, hR0, ext_of (by (repeat' (first | (with_reducible exact Below.refl _ _) | (with_reducible refine Below.app ?_ ?_ _ _) | (with_reducible refine Below.alloc ?_ ?_ _) | (with_reducible refine Below.drew ?_) | (with_reducible refine Below.setCell ?_ ?_ _) | (with_reducible assumption) | omega | (simp; omega) | (simp; done))))⟩
  case round =>
    obtain ⟨k, cn, fd, hk, rfl, rfl, rfl, hc0, hc1, hr, bs, d, rfl⟩ := hrel
    by_cases hlt : k < l.length
    · obtain ⟨b, off, cs, rfl, hb, hcl, hc, i0, i1, s2, s3, p4, n4, c4, q, qc, p6, n6, c6, rfl, hql, hq⟩ := hz.out k hlt
      have e5 := hc 5 (by omega)
      clear hc
      simp at e5
      have hdr := Lib.hid (drop_step [] l k hlt)
      have hlk : l.getD k [] = l[k] := by simp [List.getD, hlt]
      rw [hlk] at hdr
      generalize l[k] = sts at *
      clear hlk
      replace hq := Lib.hid hq
      go_wp2
      · go_returns; exact ⟨rfl, by (repeat' (first | (with_reducible exact Below.refl _ _) | (with_reducible refine Below.app ?_ ?_ _ _) | (with_reducible refine Below.alloc ?_ ?_ _) | (with_reducible refine Below.drew ?_) | (with_reducible refine Below.setCell ?_ ?_ _) | (with_reducible assumption) | omega | (simp; omega) | (simp; done)))⟩
      have hs30 : sts.length ≤ 30 := by omega
      go_loopw [5, 6, 8] (fun c f i wr => RelI l sts k t R w c f i wr) (fun _ _ i _ => sts.length - (intOf i).toNat)
      case atStart => exact ⟨0, cn, fd, by omega, rfl, rfl, rfl, by omega, by omega, by go_light; have h1 := hr.out; rw [hdr.out, List.flatten_cons] at h1; exact h1, ext_of (by (repeat' (first | (with_reducible exact Below.refl _ _) | (with_reducible refine Below.app ?_ ?_ _ _) | (with_reducible refine Below.alloc ?_ ?_ _) | (with_reducible refine Below.drew ?_) | (with_reducible refine Below.setCell ?_ ?_ _) | (with_reducible assumption) | omega | (simp; omega) | (simp; done))))⟩
      case round =>
        obtain ⟨m, cn1, fd1, hm, rfl, rfl, rfl, hd0, hd1, hr1, bs1, d1, rfl⟩ := hrel
        by_cases hlm : m < sts.length
        · obtain ⟨b2, off2, cs, rfl, hb2, hcl2, hc2, rfl⟩ := hq.out m hlm
          have f0 := hc2 0 (by omega)
          have f1 := hc2 1 (by omega)
          have f2 := hc2 2 (by omega)
          have f3 := hc2 3 (by omega)
          clear hc2
          simp at f0 f1 f2 f3
          have hdr2 := Lib.hid (drop_step ⟨0, 0, 0, 0⟩ sts m hlm)
          have hlk : sts.getD m ⟨0, 0, 0, 0⟩ = sts[m] := by simp [List.getD, hlm]
          rw [hlk] at hdr2
          generalize sts[m] = s1 at *
          clear hlk
          obtain ⟨x0, x1, x2, x3⟩ := s1
          simp only at f0 f1 f2 f3
          have hr2 : Hid ((sts.drop (m + 1) ++ (l.drop (k + 1)).flatten).foldl (stepC t) (stepC t (cn1, fd1) ⟨x0, x1, x2, x3⟩) = R) := by
            have h1 := hr1.out; rw [hdr2.out] at h1; exact h1
          by_cases h0 : x0 = 0
          · have hle : t ≤ x2 := hless.out _ _ _ _ hdr.out hdr2.out h0
            subst h0
            clear hless
            by_cases hx : x2 = t
            · have hr3 : Hid ((sts.drop (m + 1) ++ (l.drop (k + 1)).flatten).foldl (stepC t) (cn1 + 1, true) = R) := by have h1 := hr2.out; unfold Hid; simpa [stepC, hx] using h1
              subst hx
              cases fd1
              all_goals
                go_wp2_with (go_at_call 14; ((refine (due_calls _ _ _ _ _ _).mono ?_); rintro r w1 ⟨rfl, hb⟩; obtain ⟨b6, b6d, rfl⟩ := of_below hb; clear hb))
                go_roundw
                case rel => first | exact ⟨m + 1, _, _, by omega, by go_num, rfl, rfl, by omega, by omega, hr3, ext_of (by (repeat' (first | (with_reducible exact Below.refl _ _) | (with_reducible refine Below.app ?_ ?_ _ _) | (with_reducible refine Below.alloc ?_ ?_ _) | (with_reducible refine Below.drew ?_) | (with_reducible refine Below.setCell ?_ ?_ _) | (with_reducible assumption) | omega | (simp; omega) | (simp; done))))⟩ | ((repeat apply Exists.intro); refine ⟨?rl, ?fr⟩; case fr => ((repeat' apply And.intro) <;> exact rfl); case rl => exact ⟨m + 1, _, _, by omega, by go_num, rfl, rfl, by omega, by omega, hr3, ext_of (by (repeat' (first | (with_reducible exact Below.refl _ _) | (with_reducible refine Below.app ?_ ?_ _ _) | (with_reducible refine Below.alloc ?_ ?_ _) | (with_reducible refine Below.drew ?_) | (with_reducible refine Below.setCell ?_ ?_ _) | (with_reducible assumption) | omega | (simp; omega) | (simp; done))))⟩)
                case measure => simp [intOf]; omega
            · have hr3 : Hid ((sts.drop (m + 1) ++ (l.drop (k + 1)).flatten).foldl (stepC t) (cn1 + 1, fd1) = R) := by have h1 := hr2.out; unfold Hid; simpa [stepC, hx] using h1
              cases fd1
              all_goals
                go_wp2_with (go_at_call 14; ((refine (due_calls _ _ _ _ _ _).mono ?_); rintro r w1 ⟨rfl, hb⟩; obtain ⟨b6, b6d, rfl⟩ := of_below hb; clear hb))
                go_roundw
                case rel => first | exact ⟨m + 1, _, _, by omega, by go_num, rfl, rfl, by omega, by omega, hr3, ext_of (by (repeat' (first | (with_reducible exact Below.refl _ _) | (with_reducible refine Below.app ?_ ?_ _ _) | (with_reducible refine Below.alloc ?_ ?_ _) | (with_reducible refine Below.drew ?_) | (with_reducible refine Below.setCell ?_ ?_ _) | (with_reducible assumption) | omega | (simp; omega) | (simp; done))))⟩ | ((repeat apply Exists.intro); refine ⟨?rl, ?fr⟩; case fr => ((repeat' apply And.intro) <;> exact rfl); case rl => exact ⟨m + 1, _, _, by omega, by go_num, rfl, rfl, by omega, by omega, hr3, ext_of (by (repeat' (first | (with_reducible exact Below.refl _ _) | (with_reducible refine Below.app ?_ ?_ _ _) | (with_reducible refine Below.alloc ?_ ?_ _) | (with_reducible refine Below.drew ?_) | (with_reducible refine Below.setCell ?_ ?_ _) | (with_reducible assumption) | omega | (simp; omega) | (simp; done))))⟩)
                case measure => simp [intOf]; omega
          · have hr3 : Hid ((sts.drop (m + 1) ++ (l.drop (k + 1)).flatten).foldl (stepC t) (cn1, fd1) = R) := by have h1 := hr2.out; unfold Hid; simpa [stepC, h0] using h1
            clear hless
            go_wp2
            all_goals
              go_roundw
              case rel => first | exact ⟨m + 1, _, _, by omega, by go_num, rfl, rfl, by omega, by omega, hr3, ext_of (by (repeat' (first | (with_reducible exact Below.refl _ _) | (with_reducible refine Below.app ?_ ?_ _ _) | (with_reducible refine Below.alloc ?_ ?_ _) | (with_reducible refine Below.drew ?_) | (with_reducible refine Below.setCell ?_ ?_ _) | (with_reducible assumption) | omega | (simp; omega) | (simp; done))))⟩ | ((repeat apply Exists.intro); refine ⟨?rl, ?fr⟩; case fr => ((repeat' apply And.intro) <;> exact rfl); case rl => exact ⟨m + 1, _, _, by omega, by go_num, rfl, rfl, by omega, by omega, hr3, ext_of (by (repeat' (first | (with_reducible exact Below.refl _ _) | (with_reducible refine Below.app ?_ ?_ _ _) | (with_reducible refine Below.alloc ?_ ?_ _) | (with_reducible refine Below.drew ?_) | (with_reducible refine Below.setCell ?_ ?_ _) | (with_reducible assumption) | omega | (simp; omega) | (simp; done))))⟩)
              case measure => simp [intOf]; omega
        · have hd : sts.drop m = [] := List.drop_of_length_le (by omega)
          go_wp2
          go_roundw
          case rel => first | exact ⟨k + 1, _, _, by omega, by go_num, rfl, rfl, by omega, by omega, by go_light; have h1 := hr1.out; rw [hd] at h1; exact h1, ext_of (by (repeat' (first | (with_reducible exact Below.refl _ _) | (with_reducible refine Below.app ?_ ?_ _ _) | (with_reducible refine Below.alloc ?_ ?_ _) | (with_reducible refine Below.drew ?_) | (with_reducible refine Below.setCell ?_ ?_ _) | (with_reducible assumption) | omega | (simp; omega) | (simp; done))))⟩ | ((repeat apply Exists.intro); refine ⟨?rl, ?fr⟩; case fr => ((repeat' apply And.intro) <;> exact rfl); case rl => exact ⟨k + 1, _, _, by omega, by go_num, rfl, rfl, by omega, by omega, by go_light; have h1 := hr1.out; rw [hd] at h1; exact h1, ext_of (by (repeat' (first | (with_reducible exact Below.refl _ _) | (with_reducible refine Below.app ?_ ?_ _ _) | (with_reducible refine Below.alloc ?_ ?_ _) | (with_reducible refine Below.drew ?_) | (with_reducible refine Below.setCell ?_ ?_ _) | (with_reducible assumption) | omega | (simp; omega) | (simp; done))))⟩)
          case measure => simp [intOf]; omega
    · have hd : l.drop k = [] := List.drop_of_length_le (by omega)
      have h1 := hr.out
      rw [hd] at h1
      have h2 := hR.out
      rw [← h1] at h2
      simp only [List.flatten_nil, List.foldl_nil] at h2
      obtain ⟨k1, k2, k3⟩ := h2
      clear hd h1
      subst k2
      replace k1 := Lib.hid k1
      replace k3 := Lib.hid k3
      go_wp2
      all_goals
        go_returns
        refine ⟨rb ?_, by (repeat' (first | (with_reducible exact Below.refl _ _) | (with_reducible refine Below.app ?_ ?_ _ _) | (with_reducible refine Below.alloc ?_ ?_ _) | (with_reducible refine Below.drew ?_) | (with_reducible refine Below.setCell ?_ ?_ _) | (with_reducible assumption) | omega | (simp; omega) | (simp; done)))⟩
        go_light
        have k1 := k1.out; have k3 := k3.out
        grind

theorem cellsJob : Try.prog.cellsOf 46 = 7 := by kernel_rfl
theorem cellsAddr : Try.prog.cellsOf 41 = 2 := by kernel_rfl
theorem cellsStr : Try.prog.cellsOf 9 = 1 := by kernel_rfl
theorem cellsTargets : Try.prog.cellsOf 42 = 1 := by kernel_rfl
theorem cellsStates : Try.prog.cellsOf 43 = 1 := by kernel_rfl
theorem cellsBytes : Try.prog.cellsOf 44 = 1 := by kernel_rfl
section
variable {H : Type} {enc : TypeId × Value → H} {w : World} {spare : Nat → Bool}
/-- a slice of whatever: just that it is one -/
theorem isSlice_of {t e : TypeId} (ht : Try.prog.underlying t = some (.slice e)) {n : Nat} {cs : List Value} {y : DataW H × List MemPlace} (h : DataW.trod enc Try.prog w 0 spare true n t cs = some y) : ∃ p m c, cs = [.slice p m c] := by
  rcases DataW.trod_slice ht h with ⟨rfl, _⟩ | ⟨a, len, cap, _, _, _, _, rfl, _⟩
  · exact ⟨none, 0, 0, rfl⟩
  · exact ⟨some a, len, cap, rfl⟩
theorem isState_of {n : Nat} {cs : List Value} {y : DataW H × List MemPlace} (h : DataW.trod enc Try.prog w 0 spare true n 29 cs = some y) : ∃ s, IsState w cs s := by
  obtain ⟨hl, hf⟩ := field_of Try.underlying29 h
  rw [cellsState] at hl
  match cs, hl with
  | [c0, c1, c2, c3], _ =>
    obtain ⟨m0, y0, h0⟩ := hf 0 _ rfl 1 cellsInt
    obtain ⟨m1, y1, h1⟩ := hf 1 _ rfl 1 cellsInt
    obtain ⟨m2, y2, h2⟩ := hf 2 _ rfl 1 cellsInt
    obtain ⟨m3, y3, h3⟩ := hf 3 _ rfl 1 cellsInt
    obtain ⟨z0, e0, _⟩ := isInt_of (w := w) Try.underlying3 h0
    obtain ⟨z1, e1, _⟩ := isInt_of (w := w) Try.underlying3 h1
    obtain ⟨z2, e2, _⟩ := isInt_of (w := w) Try.underlying3 h2
    obtain ⟨z3, e3, _⟩ := isInt_of (w := w) Try.underlying3 h3
    simp at e0 e1 e2 e3
    subst e0; subst e1; subst e2; subst e3
    exact ⟨⟨z0, z1, z2, z3⟩, rfl⟩
theorem isJob_of {n : Nat} {cs : List Value} {y : DataW H × List MemPlace} (h : DataW.trod enc Try.prog w 0 spare true n 46 cs = some y) : ∃ s, IsJob w cs s := by
  obtain ⟨hl, hf⟩ := field_of Try.underlying46 h
  rw [cellsJob] at hl
  match cs, hl with
  | [c0, c1, c2, c3, c4, c5, c6], _ =>
    obtain ⟨m0, y0, h0⟩ := hf 0 _ rfl 1 cellsInt
    obtain ⟨m1, y1, h1⟩ := hf 1 _ rfl 1 cellsInt
    obtain ⟨m2, y2, h2⟩ := hf 2 _ rfl 2 cellsAddr
    obtain ⟨m3, y3, h3⟩ := hf 3 _ rfl 1 cellsTargets
    obtain ⟨m4, y4, h4⟩ := hf 4 _ rfl 1 cellsStates
    obtain ⟨m5, y5, h5⟩ := hf 5 _ rfl 1 cellsBytes
    obtain ⟨_, ha⟩ := field_of Try.underlying41 h2
    obtain ⟨ma, ya, h6⟩ := ha 0 _ rfl 1 cellsStr
    obtain ⟨mb, yb, h7⟩ := ha 1 _ rfl 1 cellsStr
    obtain ⟨z0, e0, _⟩ := isInt_of (w := w) Try.underlying3 h0
    obtain ⟨z1, e1, _⟩ := isInt_of (w := w) Try.underlying3 h1
    obtain ⟨s2, e2, _⟩ := isStr_of (w := w) Try.underlying9 h6
    obtain ⟨s3, e3, _⟩ := isStr_of (w := w) Try.underlying9 h7
    obtain ⟨p4, n4, k4, e4⟩ := isSlice_of Try.underlying42 h3
    obtain ⟨p5, xs, k5, e5, l5, l6, hs⟩ := open_shows Try.underlying43 cellsState (by omega) isState_of h4
    obtain ⟨p6, n6, k6, e6⟩ := isSlice_of Try.underlying44 h5
    simp at e0 e1 e2 e3 e4 e5 e6
    subst e0; subst e1; subst e2; subst e3; subst e4; subst e5; subst e6
    exact ⟨xs, z0, z1, s2, s3, p4, n4, k4, p5, k5, p6, n6, k6, rfl, by unfold maxLen at l6; omega, hs⟩
end
theorem schedEarliest_law : LawWalk 5 Try.f5 := by
  intro H enc W base args ds ps hA hval
  rw [Try.params5] at hA hval
  obtain ⟨v0, vs0, d0, ds0, p0, q0, hargs, rfl, rfl, h0, r0⟩ := trodAll_cons hA
  obtain ⟨rfl, rfl, rfl⟩ := trodAll_nil r0
  obtain rfl : args = #[v0] := by cases args; simp_all
  obtain ⟨fuel, hf⟩ := h0
  obtain ⟨p, l, cap, e, hl, hm, hz⟩ := open_shows Try.underlying37 cellsJob (by omega) isJob_of hf
  obtain ⟨p', n', c', rfl⟩ := okWide_slice Try.underlying37 (hval 0 _ _ rfl rfl)
  simp [Value.cells] at e
  obtain ⟨rfl, rfl, rfl⟩ := e
  exact schedEarliest_walk p' l c' W hz (by unfold maxLen at hm; omega)

set_option maxRecDepth 100000 in
theorem schedEarliest_holds : Rows.SchedEarliestSaid :=
  OpenClaim.holds_of_wide 5 Try.f5 rfl rfl rfl rfl rfl rfl rfl ⟨rfl, rfl, rfl, rfl, rfl⟩ rfl rfl rfl rfl rfl (by kernel_rfl) Try.func5 (by kernel_rfl)
    (of_decide_eq_true (by kernel_rfl)) (by unfold Func.isWrapper; first | (rw [if_pos (by decide +kernel)]; kernel_rfl) | (rw [if_neg (by decide +kernel)]; exact ⟨rfl, rfl⟩))
    (fun os started H enc _ => law_lift (s := Rows.schedEarliestSpec) Try.func5 (by kernel_rfl) (by kernel_rfl) rfl (fun H ds hd => by match ds, hd with | [_], _ => rfl) (by kernel_rfl) os started H enc
      (ChangeSpec.witness6 (enc := enc) (C := Try.checked) false ⟨#[], #[.slice none 0 0], []⟩ 8 (by kernel_rfl) (by kernel_rfl) (by kernel_rfl) (by kernel_rfl)) schedEarliest_law)
#print axioms schedEarliest_holds
end Go.Proofs.Ytncijlpnidomfaa
