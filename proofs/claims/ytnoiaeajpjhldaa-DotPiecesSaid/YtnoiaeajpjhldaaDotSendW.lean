/-
  dot.Send: what it does.
-/
import Derived.Test.YtnoiaeajpjhldaaDotLines
namespace Go.Proofs.Ytnoiaeajpjhldaa
open Go.ChangeShapes Go.WideShapes Go.ChangeAt Go.RowKit

/-- A message's bytes as they are sent, but for its end. -/
def sendR : Bool → Bool → List UInt8 → List UInt8
  | _, _, [] => []
  | s, p, c :: r => (if (s && decide (c = 46)) = true then [46] else []) ++ c :: sendR (decide (c = 10) && p) (decide (c = 13)) r
/-- Does a line begin behind them? -/
def startR : Bool → Bool → List UInt8 → Bool
  | s, _, [] => s
  | _, p, c :: r => startR (decide (c = 10) && p) (decide (c = 13)) r
def prevR : Bool → List UInt8 → Bool
  | p, [] => p
  | _, c :: r => prevR (decide (c = 13)) r
theorem sendR_snoc : ∀ (a : List UInt8) (s p : Bool) (c : UInt8), sendR s p (a ++ [c]) = sendR s p a ++ ((if (startR s p a && decide (c = 46)) = true then [46] else []) ++ [c])
  | [], s, p, c => by simp [sendR, startR]
  | x :: a, s, p, c => by
    have := sendR_snoc a (decide (x = 10) && p) (decide (x = 13)) c
    simp only [List.cons_append, sendR, startR, this, List.append_assoc]
    try rfl
theorem startR_snoc : ∀ (a : List UInt8) (s p : Bool) (c : UInt8), startR s p (a ++ [c]) = (decide (c = 10) && prevR p a)
  | [], s, p, c => by simp [startR, prevR]
  | x :: a, s, p, c => by
    have := startR_snoc a (decide (x = 10) && p) (decide (x = 13)) c
    simp only [List.cons_append, startR, prevR, this]
theorem prevR_snoc : ∀ (a : List UInt8) (p : Bool) (c : UInt8), prevR p (a ++ [c]) = decide (c = 13)
  | [], p, c => by simp [prevR]
  | x :: a, p, c => by
    have := prevR_snoc a (decide (x = 13)) c
    simp only [List.cons_append, prevR, this]
theorem sendR_len : ∀ (a : List UInt8) (s p : Bool), (sendR s p a).length ≤ 2 * a.length
  | [], _, _ => by simp [sendR]
  | x :: a, s, p => by
    have := sendR_len a (decide (x = 10) && p) (decide (x = 13))
    simp only [sendR, List.length_append, List.length_cons]
    split <;> simp <;> omega
/-- A message as it is sent. -/
def sendP (l : List UInt8) : List UInt8 := sendR true false l ++ ((if l ≠ [] ∧ startR true false l = false then [13, 10] else []) ++ [46, 13, 10])
def SendPost (l : List UInt8) (w : World) (r : Ending) (w' : World) : Prop := ∃ v, r = .returned v ∧ w'.ownsRow w.heap.size 5 1 v (sendP l).length (Lib.byteCells (sendP l)) ∧ Below w.heap.size w w'
def RelSd (l : List UInt8) (w : World) (k : Nat) (v s : Value) (wr : World) : Prop :=
  wr.ownsRow w.heap.size 5 1 v (sendR true false (l.take k)).length (Lib.byteCells (sendR true false (l.take k))) ∧ s = .bool (startR true false (l.take k)) ∧ Below w.heap.size w wr
theorem prev_at {l : List UInt8} {k : Nat} (hk : k < l.length) (h0 : 0 < k) : prevR false (l.take k) = decide (l[k - 1]'(by omega) = 13) := by
  obtain ⟨j, rfl⟩ : ∃ j, k = j + 1 := ⟨k - 1, by omega⟩
  rw [List.take_succ_eq_append_getElem (by omega), prevR_snoc]
  simp
theorem two_new (W : World) (b : Nat) (hb : b = W.heap.size) (C : Array Value) (T : TypeId) : ∀ j u, C.toList[j]? = some u → (W.alloc (.cells C T)).cell? ((⟨b, 0, none⟩ : Addr).add j) = some u := fun j u h => by
  subst hb
  rw [show (⟨W.heap.size, 0, none⟩ : Addr).add j = ⟨W.heap.size, j, none⟩ by simp [Addr.add]; exact fun h => h.symm, World.cell?_alloc_mark]
  simpa using h
set_option maxHeartbeats 8000000 in
theorem send_calls {w : World} {q : Option Addr} {cap : Nat} {l : List UInt8} (h : BytesAt w q cap l) (hlen : l.length ≤ 100000000) : Calls Try.prog 9 #[.slice q l.length cap] w (SendPost l w) := by
  obtain ⟨i0, hi, hz0, hz1, hz2⟩ := info_parts infoByte
  have hpost : ∀ r w', (∃ v, r = Ending.returned v ∧ w'.ownsRow w.heap.size 5 1 v (sendP l).length (Lib.byteCells (sendP l)) ∧ Below w.heap.size w w') → SendPost l w r w' := fun r w' h => h
  replace hpost := Lib.hid hpost
  go_enter Try.func9, Try.ntmps9
  go_wp2
  go_loopw [3, 4, 9] (fun v s i wr => ∃ k : Nat, k ≤ l.length ∧ i = .int .i64 k ∧ RelSd l w k v s wr) (fun _ _ i _ => l.length - (intOf i).toNat)
  case atStart => exact ⟨0, by omega, rfl, World.ownsRow_nil _ _ _ _, rfl, Below.refl _ _⟩
  case round =>
    obtain ⟨k, hk, rfl, hown, rfl, hbw⟩ := hrel
    have hle := sendR_len (l.take k) true false
    rw [List.length_take] at hle
    have hle2 : (sendR true false (l.take k)).length ≤ 200000000 := by omega
    clear hle
    by_cases hlt : k < l.length
    · obtain ⟨bb, off, rfl, hbb0, hcell0⟩ := h.cell (by intro e; rw [e] at hlt; simp at hlt)
      have hbb : bb < wr.heap.size := Nat.lt_of_lt_of_le hbb0 hbw.size
      have hcell : ∀ i (h : i < l.length), wr.cell? ⟨bb, off + i, none⟩ = some (.int .u8 (l[i].toNat : Int)) := fun i hi => (hbw.cell (p := ⟨bb, off + i, none⟩) hbb0).trans (hcell0 i hi)
      have hfar := Lib.hid (fun (h0 : 0 < k) (W : World) (hW : Below w.heap.size w W) => (hW.cell (p := ⟨bb, off + (k - 1), none⟩) hbb0).trans (hcell0 (k - 1) (by omega)))
      clear hcell0
      have hck := hcell k hlt
      have htk : l.take (k + 1) = l.take k ++ [l[k]] := List.take_succ_eq_append_getElem hlt
      have hsn := sendR_snoc (l.take k) true false l[k]
      have hst := startR_snoc (l.take k) true false l[k]
      rw [← htk] at hsn hst
      have hpv := fun h0 => @prev_at l k hlt h0
      clear htk
      have hpk : 0 < k → wr.cell? ⟨bb, off + (k - 1), none⟩ = some (.int .u8 ((l[k - 1]'(by omega)).toNat : Int)) := fun h0 => hcell (k - 1) (by omega)
      generalize hS : startR true false (l.take k) = S at *
      have hbs : (∀ x : UInt8, ((l[k].toNat : Int) == (x.toNat : Int)) = decide (l[k] = x)) := fun x => by
        rw [Bool.eq_iff_iff]; simp [← UInt8.toNat_inj]; omega
      have h46 : ((l[k].toNat : Int) == 46) = decide (l[k] = 46) := hbs 46
      have h10 : ((l[k].toNat : Int) == 10) = decide (l[k] = 10) := hbs 10
      clear hbs hS hcell
      generalize hA : sendR true false (l.take k) = A at *
      generalize hA2 : sendR true false (l.take (k + 1)) = A2 at *
      generalize hS2 : startR true false (l.take (k + 1)) = S2 at *
      have hA2' : sendR true false (l.take (k + 1)) = A2 := hA2
      have hS2' : startR true false (l.take (k + 1)) = S2 := hS2
      replace hA2' := Lib.hid hA2'
      replace hS2' := Lib.hid hS2'
      clear hA hA2 hS2
      have hwr : wr.heap.size ≥ w.heap.size := hbw.size
      by_cases c46 : l[k] = 46
      · have c10 : ¬ l[k] = 10 := by rw [c46]; decide
        have hv : Hid (S2 = false) := by unfold Hid; rw [hst]; simp [c10]
        rw [decide_eq_true c46] at h46 hsn
        rw [decide_eq_false c10] at h10
        clear hst hpv c46 c10 hpk
        cases S
        · have hsn' : Hid (A2 = A ++ [l[k]]) := by unfold Hid; rw [hsn]; rfl
          clear hsn
          go_wp2_with (at_builtin; refine wpList_append_own _ rfl _ _ 22 rfl w.heap.size 5 i0 (.int .u8 0) 1 1 Try.underlying22 hi hz0 hz1 hz2 rfl (by decide) _ _ _ rfl (hown.alloc _) _ 1 1 [.int .u8 ((l[k]).toNat : Int)] rfl rfl ?c1 ?c2 ?c3 ?c4 ?c5 ?_; (case c1 => exact one_new _ _ (by first | rfl | (simp; done)) _ _); (case c2 => (intro u hu; simp at hu; subst hu; rfl)); (case c3 => (unfold maxLen; omega)); (case c4 => omega); (case c5 => (have := hbw.size; simp; omega)); intro v1 w1 hown1 hg0 _; have hbw1 := (hbw.alloc hbw.size _).grown hg0 (by have := hbw.size; simp; omega) (fun k hk => (hown.lt k hk).1); clear hg0)
          go_roundw
          case rel => first | exact ⟨k + 1, by omega, by go_num, own_cast hown1 (by rw [hA2'.out, hsn'.out]; simp; try omega) (by rw [hA2'.out, hsn'.out]; simp [Lib.byteCells]), by rw [hS2'.out, hv.out], hbw1⟩ | ((repeat apply Exists.intro); refine ⟨?rl, ?fr⟩; case fr => ((repeat' apply And.intro) <;> exact rfl); case rl => exact ⟨k + 1, by omega, by go_num, own_cast hown1 (by rw [hA2'.out, hsn'.out]; simp; try omega) (by rw [hA2'.out, hsn'.out]; simp [Lib.byteCells]), by rw [hS2'.out, hv.out], hbw1⟩)
          case measure => first | (simp [intOf]; done) | (simp [intOf]; omega)
        · have hsn' : Hid (A2 = A ++ [46, l[k]]) := by unfold Hid; rw [hsn]; rfl
          clear hsn
          go_wp2_with first
            | (at_builtin; refine wpList_append_own _ rfl _ _ 22 rfl w.heap.size 5 i0 (.int .u8 0) 1 1 Try.underlying22 hi hz0 hz1 hz2 rfl (by decide) _ _ _ rfl (hown1.alloc _) _ 1 1 [.int .u8 ((l[k]).toNat : Int)] rfl rfl ?c1 ?c2 ?c3 ?c4 ?c5 ?_; (case c1 => exact one_new _ _ (by first | rfl | (simp; done)) _ _); (case c2 => (intro u hu; simp at hu; subst hu; rfl)); (case c3 => (unfold maxLen; omega)); (case c4 => omega); (case c5 => (have := hbw1.size; simp; omega)); intro v2 w2 hown2 hg0 _; have hbw2 := (hbw1.alloc hbw1.size _).grown hg0 (by have := hbw1.size; simp; omega) (fun k hk => (hown1.lt k hk).1); clear hg0)
            | (at_builtin; refine wpList_append_own _ rfl _ _ 22 rfl w.heap.size 5 i0 (.int .u8 0) 1 1 Try.underlying22 hi hz0 hz1 hz2 rfl (by decide) _ _ _ rfl (hown.alloc _) _ 1 1 [.int .u8 46] rfl rfl ?c1 ?c2 ?c3 ?c4 ?c5 ?_; (case c1 => exact one_new _ _ (by first | rfl | (simp; done)) _ _); (case c2 => (intro u hu; simp at hu; subst hu; rfl)); (case c3 => (unfold maxLen; omega)); (case c4 => omega); (case c5 => (have := hbw.size; simp; omega)); intro v1 w1 hown1 hg0 _; have hbw1 := (hbw.alloc hbw.size _).grown hg0 (by have := hbw.size; simp; omega) (fun k hk => (hown.lt k hk).1); clear hg0)
          go_roundw
          case rel => first | exact ⟨k + 1, by omega, by go_num, own_cast hown2 (by rw [hA2'.out, hsn'.out]; simp; try omega) (by rw [hA2'.out, hsn'.out]; simp [Lib.byteCells]), by rw [hS2'.out, hv.out], hbw2⟩ | ((repeat apply Exists.intro); refine ⟨?rl, ?fr⟩; case fr => ((repeat' apply And.intro) <;> exact rfl); case rl => exact ⟨k + 1, by omega, by go_num, own_cast hown2 (by rw [hA2'.out, hsn'.out]; simp; try omega) (by rw [hA2'.out, hsn'.out]; simp [Lib.byteCells]), by rw [hS2'.out, hv.out], hbw2⟩)
          case measure => first | (simp [intOf]; done) | (simp [intOf]; omega)
      · rw [decide_eq_false c46] at h46 hsn
        have hsn' : Hid (A2 = A ++ [l[k]]) := by unfold Hid; rw [hsn]; simp
        clear hsn c46
        by_cases c10 : l[k] = 10
        · rw [decide_eq_true c10] at h10 hst
          by_cases h0 : k = 0
          · subst h0
            rw [Nat.add_zero] at hck
            have hv : Hid (S2 = false) := by unfold Hid; rw [hst]; rfl
            clear hst hpv c10 hpk
            cases S
            all_goals
              go_wp2_with (at_builtin; refine wpList_append_own _ rfl _ _ 22 rfl w.heap.size 5 i0 (.int .u8 0) 1 1 Try.underlying22 hi hz0 hz1 hz2 rfl (by decide) _ _ _ rfl (hown.alloc _) _ 1 1 [.int .u8 ((l[0]).toNat : Int)] rfl rfl ?c1 ?c2 ?c3 ?c4 ?c5 ?_; (case c1 => exact one_new _ _ (by first | rfl | (simp; done)) _ _); (case c2 => (intro u hu; simp at hu; subst hu; rfl)); (case c3 => (unfold maxLen; omega)); (case c4 => omega); (case c5 => (have := hbw.size; simp; omega)); intro v1 w1 hown1 hg0 _; have hbw1 := (hbw.alloc hbw.size _).grown hg0 (by have := hbw.size; simp; omega) (fun k hk => (hown.lt k hk).1); clear hg0)
              go_roundw
              case rel => first | exact ⟨0 + 1, by omega, by go_num, own_cast hown1 (by rw [hA2'.out, hsn'.out]; simp; try omega) (by rw [hA2'.out, hsn'.out]; simp [Lib.byteCells]), by rw [hS2'.out, hv.out], hbw1⟩ | ((repeat apply Exists.intro); refine ⟨?rl, ?fr⟩; case fr => ((repeat' apply And.intro) <;> exact rfl); case rl => exact ⟨0 + 1, by omega, by go_num, own_cast hown1 (by rw [hA2'.out, hsn'.out]; simp; try omega) (by rw [hA2'.out, hsn'.out]; simp [Lib.byteCells]), by rw [hS2'.out, hv.out], hbw1⟩)
              case measure => first | (simp [intOf]; done) | (simp [intOf]; omega)
          · have hk0 : 0 < k := by omega
            have hk1 : 0 < (k : Int) := by omega
            have hpk1 := hpk hk0
            rw [hpv hk0] at hst
            by_cases h13 : l[k - 1]'(by omega) = 13
            · have hv : Hid (S2 = true) := by unfold Hid; rw [hst]; simp [h13]
              have h13' : (((l[k - 1]'(by omega)).toNat : Int) == 13) = true := by rw [h13]; rfl
              clear hst hpv c10 hpk h13
              cases S
              all_goals
                go_wp2_with ((at_builtin; refine wpList_append_own _ rfl _ _ 22 rfl w.heap.size 5 i0 (.int .u8 0) 1 1 Try.underlying22 hi hz0 hz1 hz2 rfl (by decide) _ _ _ rfl (hown.alloc _) _ 1 1 [.int .u8 ((l[k]).toNat : Int)] rfl rfl ?c1 ?c2 ?c3 ?c4 ?c5 ?_; (case c1 => exact one_new _ _ (by first | rfl | (simp; done)) _ _); (case c2 => (intro u hu; simp at hu; subst hu; rfl)); (case c3 => (unfold maxLen; omega)); (case c4 => omega); (case c5 => (have := hbw.size; simp; omega)); intro v1 w1 hown1 hg0 _; have hbw1 := (hbw.alloc hbw.size _).grown hg0 (by have := hbw.size; simp; omega) (fun k hk => (hown.lt k hk).1); clear hg0); have hpk2 := hfar.out hk0 _ hbw1)
                go_roundw
                case rel => first | exact ⟨k + 1, by omega, by go_num, own_cast hown1 (by rw [hA2'.out, hsn'.out]; simp; try omega) (by rw [hA2'.out, hsn'.out]; simp [Lib.byteCells]), by rw [hS2'.out, hv.out], hbw1⟩ | ((repeat apply Exists.intro); refine ⟨?rl, ?fr⟩; case fr => ((repeat' apply And.intro) <;> exact rfl); case rl => exact ⟨k + 1, by omega, by go_num, own_cast hown1 (by rw [hA2'.out, hsn'.out]; simp; try omega) (by rw [hA2'.out, hsn'.out]; simp [Lib.byteCells]), by rw [hS2'.out, hv.out], hbw1⟩)
                case measure => first | (simp [intOf]; done) | (simp [intOf]; omega)
            · have hv : Hid (S2 = false) := by unfold Hid; rw [hst]; simp [h13]
              have h13' : (((l[k - 1]'(by omega)).toNat : Int) == 13) = false := by
                have : ¬ (l[k - 1]'(by omega)).toNat = 13 := fun e => h13 (by rw [← UInt8.toNat_inj]; exact e)
                simp; omega
              clear hst hpv c10 hpk h13
              cases S
              all_goals
                go_wp2_with ((at_builtin; refine wpList_append_own _ rfl _ _ 22 rfl w.heap.size 5 i0 (.int .u8 0) 1 1 Try.underlying22 hi hz0 hz1 hz2 rfl (by decide) _ _ _ rfl (hown.alloc _) _ 1 1 [.int .u8 ((l[k]).toNat : Int)] rfl rfl ?c1 ?c2 ?c3 ?c4 ?c5 ?_; (case c1 => exact one_new _ _ (by first | rfl | (simp; done)) _ _); (case c2 => (intro u hu; simp at hu; subst hu; rfl)); (case c3 => (unfold maxLen; omega)); (case c4 => omega); (case c5 => (have := hbw.size; simp; omega)); intro v1 w1 hown1 hg0 _; have hbw1 := (hbw.alloc hbw.size _).grown hg0 (by have := hbw.size; simp; omega) (fun k hk => (hown.lt k hk).1); clear hg0); have hpk2 := hfar.out hk0 _ hbw1)
                go_roundw
                case rel => first | exact ⟨k + 1, by omega, by go_num, own_cast hown1 (by rw [hA2'.out, hsn'.out]; simp; try omega) (by rw [hA2'.out, hsn'.out]; simp [Lib.byteCells]), by rw [hS2'.out, hv.out], hbw1⟩ | ((repeat apply Exists.intro); refine ⟨?rl, ?fr⟩; case fr => ((repeat' apply And.intro) <;> exact rfl); case rl => exact ⟨k + 1, by omega, by go_num, own_cast hown1 (by rw [hA2'.out, hsn'.out]; simp; try omega) (by rw [hA2'.out, hsn'.out]; simp [Lib.byteCells]), by rw [hS2'.out, hv.out], hbw1⟩)
                case measure => first | (simp [intOf]; done) | (simp [intOf]; omega)
        · have hv : Hid (S2 = false) := by unfold Hid; rw [hst]; simp [c10]
          rw [decide_eq_false c10] at h10
          clear hst hpv c10 hpk
          cases S
          all_goals
            go_wp2_with (at_builtin; refine wpList_append_own _ rfl _ _ 22 rfl w.heap.size 5 i0 (.int .u8 0) 1 1 Try.underlying22 hi hz0 hz1 hz2 rfl (by decide) _ _ _ rfl (hown.alloc _) _ 1 1 [.int .u8 ((l[k]).toNat : Int)] rfl rfl ?c1 ?c2 ?c3 ?c4 ?c5 ?_; (case c1 => exact one_new _ _ (by first | rfl | (simp; done)) _ _); (case c2 => (intro u hu; simp at hu; subst hu; rfl)); (case c3 => (unfold maxLen; omega)); (case c4 => omega); (case c5 => (have := hbw.size; simp; omega)); intro v1 w1 hown1 hg0 _; have hbw1 := (hbw.alloc hbw.size _).grown hg0 (by have := hbw.size; simp; omega) (fun k hk => (hown.lt k hk).1); clear hg0)
            go_roundw
            case rel => first | exact ⟨k + 1, by omega, by go_num, own_cast hown1 (by rw [hA2'.out, hsn'.out]; simp; try omega) (by rw [hA2'.out, hsn'.out]; simp [Lib.byteCells]), by rw [hS2'.out, hv.out], hbw1⟩ | ((repeat apply Exists.intro); refine ⟨?rl, ?fr⟩; case fr => ((repeat' apply And.intro) <;> exact rfl); case rl => exact ⟨k + 1, by omega, by go_num, own_cast hown1 (by rw [hA2'.out, hsn'.out]; simp; try omega) (by rw [hA2'.out, hsn'.out]; simp [Lib.byteCells]), by rw [hS2'.out, hv.out], hbw1⟩)
            case measure => first | (simp [intOf]; done) | (simp [intOf]; omega)
    · have hke : k = l.length := by omega
      subst hke
      rw [List.take_of_length_le (Nat.le_refl _)] at hown hle2 ⊢
      have hsp : Hid (sendP l = sendR true false l ++ ((if l ≠ [] ∧ startR true false l = false then [13, 10] else []) ++ [46, 13, 10])) := rfl
      generalize sendR true false l = A at *
      generalize startR true false l = S at *
      by_cases h0 : l = []
      · have hsp' : Hid (sendP l = A ++ [46, 13, 10]) := by unfold Hid; rw [hsp.out]; simp [h0]
        have hz : ¬ 0 < (l.length : Int) := by rw [h0]; simp
        clear hsp hlt h0
        go_wp2_with (at_builtin; refine wpList_append_own _ rfl _ _ 22 rfl w.heap.size 5 i0 (.int .u8 0) 1 1 Try.underlying22 hi hz0 hz1 hz2 rfl (by decide) _ _ _ rfl (hown.alloc _) _ 3 3 [.int .u8 46, .int .u8 13, .int .u8 10] rfl rfl ?c1 ?c2 ?c3 ?c4 ?c5 ?_; (case c1 => exact two_new _ _ (by first | rfl | (simp; done)) #[.int .u8 46, .int .u8 13, .int .u8 10] _); (case c2 => (intro u hu; simp at hu; (repeat' (first | (subst hu; rfl) | (rcases hu with hu | hu))))); (case c3 => (unfold maxLen; omega)); (case c4 => omega); (case c5 => (have := hbw.size; simp; omega)); intro v1 w1 hown1 hg0 _; have hbw1 := (hbw.alloc hbw.size _).grown hg0 (by have := hbw.size; simp; omega) (fun k hk => (hown.lt k hk).1); clear hg0)
        go_returns
        exact hpost.out _ _ ⟨_, rfl, own_cast hown1 (by rw [hsp'.out]; simp) (by rw [hsp'.out]; simp [Lib.byteCells]), hbw1⟩
      · have hz : 0 < (l.length : Int) := by
          cases l with
          | nil => exact absurd rfl h0
          | cons a r => simp
        cases S
        · have hsp' : Hid (sendP l = (A ++ [13, 10]) ++ [46, 13, 10]) := by unfold Hid; rw [hsp.out]; simp [h0]
          clear hsp hlt h0
          go_wp2_with first
            | (at_builtin; refine wpList_append_own _ rfl _ _ 22 rfl w.heap.size 5 i0 (.int .u8 0) 1 1 Try.underlying22 hi hz0 hz1 hz2 rfl (by decide) _ _ _ rfl (hown1.alloc _) _ 3 3 [.int .u8 46, .int .u8 13, .int .u8 10] rfl rfl ?c1 ?c2 ?c3 ?c4 ?c5 ?_; (case c1 => exact two_new _ _ (by first | rfl | (simp; done)) #[.int .u8 46, .int .u8 13, .int .u8 10] _); (case c2 => (intro u hu; simp at hu; (repeat' (first | (subst hu; rfl) | (rcases hu with hu | hu))))); (case c3 => (unfold maxLen; omega)); (case c4 => omega); (case c5 => (have := hbw1.size; simp; omega)); intro v2 w2 hown2 hg0 _; have hbw2 := (hbw1.alloc hbw1.size _).grown hg0 (by have := hbw1.size; simp; omega) (fun k hk => (hown1.lt k hk).1); clear hg0)
            | (at_builtin; refine wpList_append_own _ rfl _ _ 22 rfl w.heap.size 5 i0 (.int .u8 0) 1 1 Try.underlying22 hi hz0 hz1 hz2 rfl (by decide) _ _ _ rfl (hown.alloc _) _ 2 2 [.int .u8 13, .int .u8 10] rfl rfl ?c1 ?c2 ?c3 ?c4 ?c5 ?_; (case c1 => exact two_new _ _ (by first | rfl | (simp; done)) #[.int .u8 13, .int .u8 10] _); (case c2 => (intro u hu; simp at hu; (repeat' (first | (subst hu; rfl) | (rcases hu with hu | hu))))); (case c3 => (unfold maxLen; omega)); (case c4 => omega); (case c5 => (have := hbw.size; simp; omega)); intro v1 w1 hown1 hg0 _; have hbw1 := (hbw.alloc hbw.size _).grown hg0 (by have := hbw.size; simp; omega) (fun k hk => (hown.lt k hk).1); clear hg0)
            | (go_at_call 21; ((refine (crlf_calls _).mono ?_); rintro r w0 ⟨rfl, rfl⟩))
          go_returns
          exact hpost.out _ _ ⟨_, rfl, own_cast hown2 (by rw [hsp'.out]; simp) (by rw [hsp'.out]; simp [Lib.byteCells]), hbw2⟩
        · have hsp' : Hid (sendP l = A ++ [46, 13, 10]) := by unfold Hid; rw [hsp.out]; simp
          clear hsp hlt h0
          go_wp2_with (at_builtin; refine wpList_append_own _ rfl _ _ 22 rfl w.heap.size 5 i0 (.int .u8 0) 1 1 Try.underlying22 hi hz0 hz1 hz2 rfl (by decide) _ _ _ rfl (hown.alloc _) _ 3 3 [.int .u8 46, .int .u8 13, .int .u8 10] rfl rfl ?c1 ?c2 ?c3 ?c4 ?c5 ?_; (case c1 => exact two_new _ _ (by first | rfl | (simp; done)) #[.int .u8 46, .int .u8 13, .int .u8 10] _); (case c2 => (intro u hu; simp at hu; (repeat' (first | (subst hu; rfl) | (rcases hu with hu | hu))))); (case c3 => (unfold maxLen; omega)); (case c4 => omega); (case c5 => (have := hbw.size; simp; omega)); intro v1 w1 hown1 hg0 _; have hbw1 := (hbw.alloc hbw.size _).grown hg0 (by have := hbw.size; simp; omega) (fun k hk => (hown.lt k hk).1); clear hg0)
          go_returns
          exact hpost.out _ _ ⟨_, rfl, own_cast hown1 (by rw [hsp'.out]; simp) (by rw [hsp'.out]; simp [Lib.byteCells]), hbw1⟩
end Go.Proofs.Ytnoiaeajpjhldaa
