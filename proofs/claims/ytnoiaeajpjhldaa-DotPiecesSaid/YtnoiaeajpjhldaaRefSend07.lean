/-
  ref07.Send: what it gives.
-/
import Derived.Test.YtnoiaeajpjhldaaSendLaw
import Derived.Test.YtnoiaeajpjhldaaRefSame07
import Derived.Test.YtnoiaeajpjhldaaRefEnd07
namespace Go.Proofs.Ytnoiaeajpjhldaa
open Go.ChangeShapes Go.WideShapes Go.ChangeAt Go.RowKit

theorem rsendQ_len : ∀ (l : List UInt8), (rsendQ l).length ≤ 2 * l.length := fun l => by rw [send_law _ _ (Nat.le_refl _)]; exact sendR_len l true false
theorem bytes_row (w : World) (s : ByteArray) : ∃ W cap, (convert 9 22 (.string s)).run Try.prog w = .ok (.slice (some ⟨w.heap.size, 0, none⟩) s.size cap) W ∧ BytesAt W (some ⟨w.heap.size, 0, none⟩) cap s.data.toList ∧ Below w.heap.size w W := by
  refine ⟨_, _, run_bytes_of_string (P := Try.prog) w 9 22 5 s rfl rfl rfl, ⟨(by intro h; cases h), ?_, fun _ => ⟨w.heap.size, 0, rfl, by simp, fun i hi => ?_⟩⟩, by (repeat' (first | (with_reducible exact Below.refl _ _) | (with_reducible refine Below.app ?_ ?_ _ _) | (with_reducible refine Below.alloc ?_ ?_ _) | (with_reducible refine Below.drew ?_) | (with_reducible refine Below.setCell ?_ ?_ _) | (with_reducible assumption) | omega | (simp; omega) | (simp; done)))⟩
  · have := grownCap_ge w s.size 0 5
    simpa using this
  · have hj : i < s.data.size := by simpa using hi
    rw [Nat.zero_add]
    exact (World.cell?_alloc_mark w.drew _ _ _ i).trans (bytesRow_at s _ i hj)
theorem cat_dot (O : List UInt8) : (⟨O.toArray⟩ : ByteArray) ++ ⟨#[46]⟩ = ⟨(O ++ [46]).toArray⟩ := by apply ByteArray.ext; simp
theorem ret_short (g : Nat) (cap : Nat) (O : List UInt8) : Ending.returned (.slice (some ⟨g, 0, none⟩) (O.length + 3) cap) = .returned (.slice (some ⟨g, 0, none⟩) ((⟨O.toArray⟩ : ByteArray) ++ ⟨#[46, 13, 10]⟩).size cap) := by
  have : ((⟨O.toArray⟩ : ByteArray) ++ ⟨#[46, 13, 10]⟩).size = O.length + 3 := by rw [ByteArray.size_append]; rfl
  rw [this]
theorem ret_long (g : Nat) (cap : Nat) (O : List UInt8) : Ending.returned (.slice (some ⟨g, 0, none⟩) (O.length + 2 + 3) cap) = .returned (.slice (some ⟨g, 0, none⟩) ((⟨O.toArray⟩ : ByteArray) ++ ⟨#[13, 10]⟩ ++ ⟨#[46, 13, 10]⟩).size cap) := by
  have : ((⟨O.toArray⟩ : ByteArray) ++ ⟨#[13, 10]⟩ ++ ⟨#[46, 13, 10]⟩).size = O.length + 2 + 3 := by rw [ByteArray.size_append, ByteArray.size_append]; rfl
  rw [this]
theorem extract_list (s : ByteArray) (n k : Nat) : s.extract n (n + k) = ⟨((s.data.toList.drop n).take k).toArray⟩ := by
  apply ByteArray.ext
  simp only [ByteArray.data_extract]
  apply Array.ext'
  rw [Array.toList_extract]
  simp [List.extract_eq_take_drop]
theorem cat_part (O l : List UInt8) (k n : Nat) : (⟨O.toArray⟩ : ByteArray) ++ (⟨l.toArray⟩ : ByteArray).extract k (k + n) = ⟨(O ++ (l.drop k).take n).toArray⟩ := by
  rw [extract_list]
  apply ByteArray.ext; simp
theorem rsendQ_step {l : List UInt8} {k : Nat} (h : k < l.length) : rsendQ (l.drop k) = (if l[k] = 46 then [46] else []) ++ ((l.drop k).take (lineN (l.drop k)) ++ rsendQ (l.drop (k + lineN (l.drop k)))) := by
  rw [rsendQ, dif_neg (by intro e; have := congrArg List.length e; simp at this; omega), List.drop_drop]
  have hh : (l.drop k).head? = some l[k] := by rw [List.drop_eq_getElem_cons h]; rfl
  rw [hh]
  simp only [Option.some.injEq]
theorem endN_line (l : List UInt8) (k : Nat) : (endQ false (l.drop k) = none ∧ endN l k = -1 ∧ lineN (l.drop k) = l.length - k) ∨ (∃ n, endQ false (l.drop k) = some n ∧ endN l k = ((k + n : Nat) : Int) ∧ lineN (l.drop k) = n) := by
  unfold endN lineN
  cases endQ false (l.drop k) with
  | none => exact .inl ⟨rfl, rfl, by simp⟩
  | some n => exact .inr ⟨n, rfl, rfl, rfl⟩
def RelRS (l : List UInt8) (o a : Value) : Prop := ∃ (k : Nat) (O : List UInt8), k ≤ l.length ∧ O.length ≤ 2 * k ∧ a = .int .i64 k ∧ o = .string ⟨O.toArray⟩ ∧ Hid (rsendQ l = O ++ rsendQ (l.drop k))
def RSendPost (l : List UInt8) (w : World) (r : Ending) (w' : World) : Prop := ∃ g cap, r = .returned (.slice (some ⟨g, 0, none⟩) (sendP l).length cap) ∧ w.heap.size ≤ g ∧ BytesAt w' (some ⟨g, 0, none⟩) cap (sendP l) ∧ Below w.heap.size w w'
set_option maxHeartbeats 8000000 in
theorem rsend_calls {q : Option Addr} {cap : Nat} {l : List UInt8} {w : World} (h : TextOf w (.slice q l.length cap) l) (hlen : l.length ≤ 100000000) :
    Calls Try.prog 10 #[.slice q l.length cap] w (RSendPost l w) := by
  have ht := h w (Below.refl _ _)
  have hsz : (⟨l.toArray⟩ : ByteArray).size = l.length := by show l.toArray.size = _; simp
  have hgt : ∀ k (h : k < l.length) (h' : k < (⟨l.toArray⟩ : ByteArray).size), (⟨l.toArray⟩ : ByteArray)[k] = l[k] := fun k h h' => rfl
  clear h
  go_enter Try.func10, Try.ntmps10
  go_wp2
  go_loop [4, 5] (fun o a => RelRS l o a) (fun _ a => l.length - (intOf a).toNat)
  case atStart => exact ⟨0, [], by omega, by simp, rfl, rfl, by unfold Hid; simp⟩
  case round =>
    obtain ⟨k, O, hk, hO, rfl, rfl, hr⟩ := hrel
    by_cases hlt : k < l.length
    · have he := end_calls ⟨l.toArray⟩ k (by rw [hsz]; omega) (by rw [hsz]; omega)
      rw [show (⟨l.toArray⟩ : ByteArray).data.toList = l from rfl] at he
      have hdot := Lib.hid (cat_dot O)
      have hstep := rsendQ_step hlt
      rcases endN_line l k with ⟨e1, e2, e3⟩ | ⟨n, e1, e2, e3⟩
      · rw [e2] at he
        rw [e3] at hstep
        have hkl : k + (l.length - k) = l.length := by omega
        rw [hkl] at hstep
        replace he := Lib.hid he
        clear e1 e2 e3
        by_cases h46 : l[k] = 46
        · have hcp := Lib.hid (cat_part (O ++ [46]) l k (l.length - k))
          have hR : Hid (rsendQ l = (O ++ [46] ++ (l.drop k).take (l.length - k)) ++ rsendQ (l.drop (l.length))) := by unfold Hid; rw [hr.out, hstep, if_pos h46]; simp
          clear hr hstep
          rw [show k + (l.length - k) = l.length by omega] at hcp
          clear hkl
          go_wp2_with (go_at_call 22; ((refine (he.out _).mono ?_); rintro _ _ ⟨rfl, rfl⟩))
          go_round
          case rel => exact ⟨l.length, O ++ [46] ++ (l.drop k).take (l.length - k), by omega, by simp; omega, by go_num, by rw [hdot.out]; rw [hcp.out], hR⟩
          case measure => first | (simp [intOf]; done) | (simp [intOf]; omega)
        · have hcp := Lib.hid (cat_part O l k (l.length - k))
          have hR : Hid (rsendQ l = (O ++ (l.drop k).take (l.length - k)) ++ rsendQ (l.drop (l.length))) := by unfold Hid; rw [hr.out, hstep, if_neg h46]; simp
          have hb : ((l[k].toNat : Int) == 46) = false := by
            have : ¬ l[k].toNat = 46 := fun e => h46 (by rw [← UInt8.toNat_inj]; exact e)
            simp; omega
          clear hr hstep
          rw [show k + (l.length - k) = l.length by omega] at hcp
          clear hkl
          go_wp2_with (go_at_call 22; ((refine (he.out _).mono ?_); rintro _ _ ⟨rfl, rfl⟩))
          go_round
          case rel => exact ⟨l.length, O ++ (l.drop k).take (l.length - k), by omega, by simp; omega, by go_num, by rw [hcp.out], hR⟩
          case measure => first | (simp [intOf]; done) | (simp [intOf]; omega)
      · rw [e2] at he
        rw [e3] at hstep
        have hn := endQ_le _ _ _ e1
        rw [List.length_drop] at hn
        replace he := Lib.hid he
        clear e1 e2 e3
        by_cases h46 : l[k] = 46
        · have hcp := Lib.hid (cat_part (O ++ [46]) l k (n))
          have hR : Hid (rsendQ l = (O ++ [46] ++ (l.drop k).take (n)) ++ rsendQ (l.drop (k + n))) := by unfold Hid; rw [hr.out, hstep, if_pos h46]; simp
          clear hr hstep
          go_wp2_with (go_at_call 22; ((refine (he.out _).mono ?_); rintro _ _ ⟨rfl, rfl⟩))
          go_round
          case rel => exact ⟨k + n, O ++ [46] ++ (l.drop k).take (n), by omega, by simp; omega, by go_num, by rw [hdot.out]; rw [hcp.out], hR⟩
          case measure => first | (simp [intOf]; done) | (simp [intOf]; omega)
        · have hcp := Lib.hid (cat_part O l k (n))
          have hR : Hid (rsendQ l = (O ++ (l.drop k).take (n)) ++ rsendQ (l.drop (k + n))) := by unfold Hid; rw [hr.out, hstep, if_neg h46]; simp
          have hb : ((l[k].toNat : Int) == 46) = false := by
            have : ¬ l[k].toNat = 46 := fun e => h46 (by rw [← UInt8.toNat_inj]; exact e)
            simp; omega
          clear hr hstep
          go_wp2_with (go_at_call 22; ((refine (he.out _).mono ?_); rintro _ _ ⟨rfl, rfl⟩))
          go_round
          case rel => exact ⟨k + n, O ++ (l.drop k).take (n), by omega, by simp; omega, by go_num, by rw [hcp.out], hR⟩
          case measure => first | (simp [intOf]; done) | (simp [intOf]; omega)
    · have hke : k = l.length := by omega
      subst hke
      have hO2 : Hid (rsendQ l = O) := by unfold Hid; rw [hr.out, List.drop_of_length_le (Nat.le_refl _), rsendQ]; simp
      have hsl := send_law _ l (Nat.le_refl _)
      rw [hO2.out] at hsl
      have hsp : Hid (sendP l = O ++ ((if l ≠ [] ∧ startR true false l = false then [13, 10] else []) ++ [46, 13, 10])) := by unfold Hid; rw [hsl]; rfl
      clear hr hsl hO2
      have short : ∀ r w', sendP l = O ++ [46, 13, 10] → (∃ cap2, r = Ending.returned (.slice (some ⟨w.heap.size, 0, none⟩) ((⟨O.toArray⟩ : ByteArray) ++ ⟨#[46, 13, 10]⟩).size cap2) ∧ BytesAt w' (some ⟨w.heap.size, 0, none⟩) cap2 ((⟨O.toArray⟩ : ByteArray) ++ ⟨#[46, 13, 10]⟩).data.toList ∧ Below w.heap.size w w') → RSendPost l w r w' := by
        rintro r w' e ⟨cap2, rfl, h2, h3⟩
        have e1 : ((⟨O.toArray⟩ : ByteArray) ++ ⟨#[46, 13, 10]⟩).data.toList = sendP l := by rw [e]; simp
        have e2 : ((⟨O.toArray⟩ : ByteArray) ++ ⟨#[46, 13, 10]⟩).size = (sendP l).length := by rw [← e1, Array.length_toList]; rfl
        exact ⟨w.heap.size, cap2, by rw [e2], Nat.le_refl _, by rw [← e1]; exact h2, h3⟩
      have long : ∀ r w', sendP l = O ++ ([13, 10] ++ [46, 13, 10]) → (∃ cap2, r = Ending.returned (.slice (some ⟨w.heap.size, 0, none⟩) ((⟨O.toArray⟩ : ByteArray) ++ ⟨#[13, 10]⟩ ++ ⟨#[46, 13, 10]⟩).size cap2) ∧ BytesAt w' (some ⟨w.heap.size, 0, none⟩) cap2 ((⟨O.toArray⟩ : ByteArray) ++ ⟨#[13, 10]⟩ ++ ⟨#[46, 13, 10]⟩).data.toList ∧ Below w.heap.size w w') → RSendPost l w r w' := by
        rintro r w' e ⟨cap2, rfl, h2, h3⟩
        have e1 : ((⟨O.toArray⟩ : ByteArray) ++ ⟨#[13, 10]⟩ ++ ⟨#[46, 13, 10]⟩).data.toList = sendP l := by rw [e]; simp
        have e2 : ((⟨O.toArray⟩ : ByteArray) ++ ⟨#[13, 10]⟩ ++ ⟨#[46, 13, 10]⟩).size = (sendP l).length := by rw [← e1, Array.length_toList]; rfl
        exact ⟨w.heap.size, cap2, by rw [e2], Nat.le_refl _, by rw [← e1]; exact h2, h3⟩
      by_cases h0 : l = []
      · have hst : True := trivial
        have hz : ¬ 0 < (l.length : Int) := by rw [h0]; simp
        have hq : Hid (sendP l = O ++ [46, 13, 10]) := by unfold Hid; rw [hsp.out]; simp [h0]
        obtain ⟨W, cap2, hconv, hB, hbel⟩ := bytes_row w ((⟨O.toArray⟩ : ByteArray) ++ ⟨#[46, 13, 10]⟩)
        have hfin := Lib.hid (fun r => short r W hq.out)
        replace hB := Lib.hid hB
        clear short long hsp h0 hst hlt hgt
        go_wp2
        go_returns
        exact hfin.out _ ⟨cap2, (by first | exact ret_short _ _ _ | exact ret_long _ _ _), hB.out, hbel⟩
      · have hel := ends_law l h0
        have hz : 0 < (l.length : Int) := by
          cases l with
          | nil => exact absurd rfl h0
          | cons a r => simp
        unfold endsB at hel
        by_cases h2 : 2 ≤ l.length
        · have hz2 : 2 ≤ (l.length : Int) := by omega
          have i1 : l.length - 2 < l.length := by omega
          have i2 : l.length - 1 < l.length := by omega
          have g1 : l.getD (l.length - 2) 0 = l[l.length - 2] := by simp [List.getD, i1]
          have g2 : l.getD (l.length - 1) 0 = l[l.length - 1] := by simp [List.getD, i2]
          rw [decide_eq_true h2, g1, g2] at hel
          have gg1 := hgt (l.length - 2) i1 (by rw [hsz]; exact i1)
          have gg2 := hgt (l.length - 1) i2 (by rw [hsz]; exact i2)
          have j1 : (l.length : Int) - 2 < l.length := by omega
          have j2 : (l.length : Int) - 1 < l.length := by omega
          have j3 : 1 ≤ (l.length : Int) := by omega
          have hbs : ∀ x y : UInt8, ((x.toNat : Int) == (y.toNat : Int)) = decide (x = y) := fun x y => by
            rw [Bool.eq_iff_iff]; simp [← UInt8.toNat_inj]; omega
          have h13 : ((l[l.length - 2].toNat : Int) == 13) = decide (l[l.length - 2] = 13) := hbs _ 13
          have h10 : ((l[l.length - 1].toNat : Int) == 10) = decide (l[l.length - 1] = 10) := hbs _ 10
          clear hbs g1 g2
          have hlong := Lib.hid long
          have hshort := Lib.hid short
          clear long short
          generalize hA : decide (l[l.length - 2] = 13) = A at hel h13
          generalize hB : decide (l[l.length - 1] = 10) = B at hel h10
          clear hA hB
          rw [Bool.true_and] at hel
          have hq : Hid (sendP l = O ++ ((if (A && B) = false then [13, 10] else []) ++ [46, 13, 10])) := by unfold Hid; rw [hsp.out]; simp [h0, hel]
          clear hsp hel h0 hlt h2
          cases A
          · obtain ⟨W, cap2, hconv, hB, hbel⟩ := bytes_row w ((⟨O.toArray⟩ : ByteArray) ++ ⟨#[13, 10]⟩ ++ ⟨#[46, 13, 10]⟩)
            have hfin := Lib.hid (fun r => hlong.out r W (by rw [hq.out]; rfl))
            replace hB := Lib.hid hB
            clear hlong hshort hq
            go_wp2
            go_returns
            exact hfin.out _ ⟨cap2, (by first | exact ret_short _ _ _ | exact ret_long _ _ _), hB.out, hbel⟩
          · cases B
            · obtain ⟨W, cap2, hconv, hB, hbel⟩ := bytes_row w ((⟨O.toArray⟩ : ByteArray) ++ ⟨#[13, 10]⟩ ++ ⟨#[46, 13, 10]⟩)
              have hfin := Lib.hid (fun r => hlong.out r W (by rw [hq.out]; rfl))
              replace hB := Lib.hid hB
              clear hlong hshort hq
              go_wp2
              go_returns
              exact hfin.out _ ⟨cap2, (by first | exact ret_short _ _ _ | exact ret_long _ _ _), hB.out, hbel⟩
            · obtain ⟨W, cap2, hconv, hB, hbel⟩ := bytes_row w ((⟨O.toArray⟩ : ByteArray) ++ ⟨#[46, 13, 10]⟩)
              have hfin := Lib.hid (fun r => hshort.out r W (by rw [hq.out]; rfl))
              replace hB := Lib.hid hB
              clear hlong hshort hq
              go_wp2
              go_returns
              exact hfin.out _ ⟨cap2, (by first | exact ret_short _ _ _ | exact ret_long _ _ _), hB.out, hbel⟩
        · have hz2 : ¬ 2 ≤ (l.length : Int) := by omega
          have hst : startR true false l = false := by rw [hel, decide_eq_false h2]; rfl
          clear hel h2
          have hq : Hid (sendP l = O ++ ([13, 10] ++ [46, 13, 10])) := by unfold Hid; rw [hsp.out]; simp [h0, hst]
          obtain ⟨W, cap2, hconv, hB, hbel⟩ := bytes_row w ((⟨O.toArray⟩ : ByteArray) ++ ⟨#[13, 10]⟩ ++ ⟨#[46, 13, 10]⟩)
          have hfin := Lib.hid (fun r => long r W hq.out)
          replace hB := Lib.hid hB
          clear short long hsp h0 hst hlt hgt
          go_wp2
          go_returns
          exact hfin.out _ ⟨cap2, (by first | exact ret_short _ _ _ | exact ret_long _ _ _), hB.out, hbel⟩
end Go.Proofs.Ytnoiaeajpjhldaa
