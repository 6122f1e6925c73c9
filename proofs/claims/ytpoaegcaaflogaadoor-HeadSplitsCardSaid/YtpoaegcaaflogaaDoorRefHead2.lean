/-
  ref10.Written, Few: what they give.
-/
import Derived.Test.YtpoaegcaaflogaaDoorRefHead1
namespace Go.Proofs.YtpoaegcaaflogaaDoor
open Go.ChangeShapes Go.WideShapes Go.ChangeAt Go.RowKit

def RelRw (l0 : List UInt8) (f0 : Nat) (s f o : Value) : Prop := ∃ (l : List UInt8) (k : Nat) (out : List UInt8),
  s = .string ⟨l.toArray⟩ ∧ f = .int .i64 k ∧ o = .string ⟨out.toArray⟩ ∧ k ≤ 100000000 ∧ l.length ≤ l0.length ∧ out.length ≤ 2 * (l0.length - l.length) ∧ Hid (writtenL l0 f0 = out ++ writtenL l k)
set_option maxRecDepth 20000 in
set_option maxHeartbeats 8000000 in
theorem rwritten_calls (n v : ByteArray) (hn : n.size ≤ 10000000) (hv : v.size ≤ 10000000) (w : World) : Calls Tryd.prog 29 #[.agg #[.string n, .string v]] w fun r w' => r = .returned (.string ⟨(writtenL (n.data.toList ++ ([58, 32] ++ v.data.toList)) (n.size + 2)).toArray⟩) ∧ Below w.heap.size w w' := by
  have hl0 : (n.data.toList ++ ([58, 32] ++ v.data.toList)).length ≤ 30000000 := by simp; omega
  have hs0 : n ++ ⟨#[58, 32]⟩ ++ v = ⟨(n.data.toList ++ ([58, 32] ++ v.data.toList)).toArray⟩ := by apply ByteArray.ext; simp
  have hsz : ∀ l : List UInt8, (⟨l.toArray⟩ : ByteArray).size = l.length := fun l => by show l.toArray.size = _; simp
  generalize hL : n.data.toList ++ ([58, 32] ++ v.data.toList) = l0 at *
  clear hL
  have hf0 : ((n.size + 2 : Nat) : Int) = (n.size : Int) + 2 := by omega
  have hf1 : n.size + 2 ≤ 100000000 := by omega
  generalize n.size + 2 = f0 at *
  replace hf0 := Lib.hid hf0
  replace hsz := Lib.hid hsz
  go_enter Tryd.func29, Tryd.ntmps29
  go_wp2
  go_loop [3, 4, 5] (fun s f o => RelRw l0 f0 s f o) (fun s _ _ => match s with | .string s => s.size | _ => 0)
  case atStart => exact ⟨l0, f0, [], rfl, by rw [hf0.out], rfl, hf1, Nat.le_refl _, by simp, by unfold Hid; rfl⟩
  case round =>
    obtain ⟨l, k, out, rfl, rfl, rfl, hk, hll, hol, hr⟩ := hrel
    clear hs0
    have hszl := hsz.out l
    by_cases h78 : 78 < l.length
    · have h78i : 78 < (l.length : Int) := by omega
      have hmay := fun i (hi : i < l.length) => rmay_calls ⟨l.toArray⟩ i k (by rw [hszl]; omega) (by rw [hszl]; exact hi)
      rw [show (⟨l.toArray⟩ : ByteArray).data.toList = l from rfl] at hmay
      have hend := scanA_end (l := l) (f := k) h78
      have hs2 := scanA_two (mayB l k)
      have hbd := @foldN_bd l k
      generalize mayB l k = p at *
      replace hmay := Lib.hid hmay
      replace hend := Lib.hid hend
      replace hs2 := Lib.hid hs2
      go_wp2
      go_loop [6, 7] (fun a i => ∃ j t : Nat, 2 ≤ j ∧ j ≤ l.length ∧ t ≤ l.length ∧ i = .int .i64 j ∧ a = .int .i64 t ∧ Hid (scanA p j = t)) (fun _ i => l.length - (intOf i).toNat)
      case atStart => exact ⟨2, 0, by omega, by omega, by omega, rfl, rfl, hs2⟩
      case round =>
        obtain ⟨j, t, hj1, hj2, htl, rfl, rfl, hq⟩ := hrel
        clear hs2
        by_cases h3 : j < l.length
        · have h3i : (j : Int) < l.length := by omega
          have hc := hmay.out j h3
          have hyes := @scanA_yes p j hj1
          have hno := @scanA_no p j hj1
          rw [hq.out] at hyes hno
          cases hp : p j
          · have hR : Hid (scanA p (j + 1) = t) := hno (.inl hp)
            rw [hp] at hc
            replace hc := Lib.hid hc
            clear hyes hno hp hq hend hr
            go_wp2_with (go_at_call 42; ((refine (hc.out _).mono ?_); rintro _ _ ⟨rfl, rfl⟩))
            go_round
            case rel => exact ⟨j + 1, t, by omega, by omega, by omega, by go_num, rfl, hR⟩
            case measure => first | (simp [intOf]; done) | (simp [intOf]; omega)
          · rw [hp] at hc
            replace hc := Lib.hid hc
            by_cases h4 : (j : Int) ≤ 78
            · have hR : Hid (scanA p (j + 1) = j) := hyes hp (.inl (by omega))
              clear hyes hno hp hq hend hr
              go_wp2_with (go_at_call 42; ((refine (hc.out _).mono ?_); rintro _ _ ⟨rfl, rfl⟩))
              go_round
              case rel => exact ⟨j + 1, j, by omega, by omega, by omega, by go_num, rfl, hR⟩
              case measure => first | (simp [intOf]; done) | (simp [intOf]; omega)
            · by_cases h5 : t = 0
              · subst h5
                have hR : Hid (scanA p (j + 1) = j) := hyes hp (.inr rfl)
                clear hyes hno hp hq hend hr
                go_wp2_with (go_at_call 42; ((refine (hc.out _).mono ?_); rintro _ _ ⟨rfl, rfl⟩))
                go_round
                case rel => exact ⟨j + 1, j, by omega, by omega, by omega, by go_num, rfl, hR⟩
                case measure => first | (simp [intOf]; done) | (simp [intOf]; omega)
              · have hR : Hid (scanA p (j + 1) = t) := hno (.inr ⟨by omega, h5⟩)
                have h5i : ((t : Int) == 0) = false := by rw [beq_eq_false_iff_ne]; omega
                clear hyes hno hp hq hend hr h5
                go_wp2_with (go_at_call 42; ((refine (hc.out _).mono ?_); rintro _ _ ⟨rfl, rfl⟩))
                go_round
                case rel => exact ⟨j + 1, t, by omega, by omega, by omega, by go_num, rfl, hR⟩
                case measure => first | (simp [intOf]; done) | (simp [intOf]; omega)
        · have h3i : ¬ (j : Int) < l.length := by omega
          have hje : j = l.length := by omega
          subst hje
          have hF : foldN l k = t := by rw [← hend.out, hq.out]
          by_cases h5 : t = 0
          · subst h5
            have hR : Hid (writtenL l0 f0 = out ++ (l ++ [13, 10])) := by unfold Hid; rw [hr.out, writtenL_no hF]
            clear hr hend hq hF hbd
            go_wp2
            go_returns
            exact ⟨rs (by rw [hR.out]; apply ByteArray.ext; simp), by (repeat' (first | (with_reducible exact Below.refl _ _) | (with_reducible refine Below.app ?_ ?_ _ _) | (with_reducible refine Below.alloc ?_ ?_ _) | (with_reducible refine Below.drew ?_) | (with_reducible refine Below.setCell ?_ ?_ _) | (with_reducible assumption) | omega | (simp; omega) | (simp; done)))⟩
          · have hbd := hbd (by rw [hF]; exact h5)
            have hR : Hid (writtenL l0 f0 = (out ++ (l.take t ++ [13, 10])) ++ writtenL (l.drop t) 0) := by
              unfold Hid; rw [hr.out, writtenL_yes (by rw [hF]; exact h5), hF]; simp only [List.append_assoc]
            rw [hF] at hbd
            have hte := take_ext l t
            have hde := drop_ext l t
            have h5i : ((t : Int) == 0) = false := by rw [beq_eq_false_iff_ne]; omega
            have hcat : Hid ((⟨out.toArray⟩ : ByteArray) ++ (⟨(l.take t).toArray⟩ : ByteArray) ++ ⟨#[13, 10]⟩ = ⟨(out ++ (l.take t ++ [13, 10])).toArray⟩) := by unfold Hid; apply ByteArray.ext; simp
            clear hr hend hq hF h5
            go_wp2
            go_round
            case rel => exact ⟨l.drop t, 0, out ++ (l.take t ++ [13, 10]), rfl, rfl, by rw [hcat.out], by omega, by simp; omega, by simp; omega, hR⟩
            case measure => (have h1 := hsz.out l; have h2 := hsz.out (l.drop t); simp only [h1, h2, List.length_drop]; omega)
    · have h78i : ¬ 78 < (l.length : Int) := by omega
      have hF : foldN l k = 0 := by unfold foldN; rw [if_pos (by omega)]
      have hR : Hid (writtenL l0 f0 = out ++ (l ++ [13, 10])) := by unfold Hid; rw [hr.out, writtenL_no hF]
      clear hr hF
      go_wp2
      go_returns
      exact ⟨rs (by rw [hR.out]; apply ByteArray.ext; simp), by (repeat' (first | (with_reducible exact Below.refl _ _) | (with_reducible refine Below.app ?_ ?_ _ _) | (with_reducible refine Below.alloc ?_ ?_ _) | (with_reducible refine Below.drew ?_) | (with_reducible refine Below.setCell ?_ ?_ _) | (with_reducible assumption) | omega | (simp; omega) | (simp; done)))⟩
/-- Are fields few and short? -/
def fewB (fs : List Fld) : Bool := decide (fs.length ≤ 20) && fs.all fun f => decide (f.1.size ≤ 1000 ∧ f.2.size ≤ 1000)
theorem all_at {α : Type} {p : α → Bool} {l : List α} {k : Nat} (h : k < l.length) : (l.drop k).all p = (p l[k] && (l.drop (k + 1)).all p) := by
  rw [List.drop_eq_getElem_cons h, List.all_cons]
set_option maxHeartbeats 4000000 in
theorem few_calls {w : World} {q : Option Addr} {cap : Nat} {fs : List Fld} (hf : FieldsAt w q fs) (hz : ∀ f ∈ fs, f.1.size ≤ maxLen ∧ f.2.size ≤ maxLen) (hn : fs.length ≤ maxLen) : Calls Tryd.prog 8 #[.slice q fs.length cap] w fun r w' => r = .returned (.bool (fewB fs)) ∧ w = w' := by
  unfold maxLen at hz hn
  have hcell := fun i (hi : i < fs.length) => hf.cell hi
  by_cases h20 : 20 < (fs.length : Int)
  · have hR : Hid (fewB fs = false) := by unfold Hid fewB; rw [decide_eq_false (by omega)]; rfl
    clear hf hcell
    go_enter Tryd.func8, Tryd.ntmps8
    go_wp2
    go_returns
    exact ⟨rb hR.out.symm, rfl⟩
  · have hR0 : Hid (fewB fs = (fs.drop 0).all fun f => decide (f.1.size ≤ 1000 ∧ f.2.size ≤ 1000)) := by unfold Hid fewB; rw [decide_eq_true (by omega)]; rfl
    generalize fewB fs = R at *
    go_enter Tryd.func8, Tryd.ntmps8
    go_wp2
    go_loop [3] (fun i => ∃ k : Nat, k ≤ fs.length ∧ i = .int .i64 k ∧ Hid (R = (fs.drop k).all fun f => decide (f.1.size ≤ 1000 ∧ f.2.size ≤ 1000))) (fun i => fs.length - (intOf i).toNat)
    case atStart => exact ⟨0, by omega, rfl, hR0⟩
    case round =>
      obtain ⟨k, hk, rfl, hr⟩ := hrel
      clear hR0
      by_cases hlt : k < fs.length
      · have hlti : (k : Int) < fs.length := by omega
        obtain ⟨cb, co, rfl, hcb, hc1, hc2⟩ := hcell k hlt
        have hall := @all_at _ (fun f : Fld => decide (f.1.size ≤ 1000 ∧ f.2.size ≤ 1000)) fs k hlt
        have hzz := hz _ (List.getElem_mem hlt)
        clear hcell hf
        generalize fs[k].1 = f1 at *
        generalize fs[k].2 = f2 at *
        by_cases h1 : 1000 < (f1.size : Int)
        · have hR : Hid (R = false) := by unfold Hid; rw [hr.out, hall, decide_eq_false (by omega)]; rfl
          clear hr hall hz
          go_wp2
          go_returns
          exact ⟨rb hR.out.symm, rfl⟩
        · by_cases h2 : 1000 < (f2.size : Int)
          · have hR : Hid (R = false) := by unfold Hid; rw [hr.out, hall, decide_eq_false (by omega)]; rfl
            clear hr hall hz
            go_wp2
            go_returns
            exact ⟨rb hR.out.symm, rfl⟩
          · have hR : Hid (R = (fs.drop (k + 1)).all fun f => decide (f.1.size ≤ 1000 ∧ f.2.size ≤ 1000)) := by unfold Hid; rw [hr.out, hall, decide_eq_true (by omega)]; rfl
            clear hr hall hz
            go_wp2
            go_round
            case rel => exact ⟨k + 1, by omega, by go_num, hR⟩
            case measure => first | (simp [intOf]; done) | (simp [intOf]; omega)
      · have hlti : ¬ (k : Int) < fs.length := by omega
        have hR : Hid (R = true) := by unfold Hid; rw [hr.out, List.drop_of_length_le (by omega)]; rfl
        clear hr hcell hf
        go_wp2
        go_returns
        exact ⟨rb hR.out.symm, rfl⟩
end Go.Proofs.YtpoaegcaaflogaaDoor
