/-
  RefLocal2.
-/
import Derived.Test.YtfbicbgdfcbhpaaGreatDoorCt24
set_option maxRecDepth 20000
set_option linter.unusedVariables false
set_option linter.unusedSimpArgs false
set_option linter.unusedSectionVars false
namespace Go.Proofs.YtfbicbgdfcbhpaaGreatDoor
open Go.ChangeShapes Go.WideShapes Go.ChangeAt Go.RowKit
theorem str_snoc (T : List UInt8) (s : ByteArray) (i : Nat) (h : i < s.size) : (⟨T.toArray⟩ : ByteArray) ++ s.extract i (i + 1) = ⟨(T ++ [s[i]]).toArray⟩ := by
 have e := extract_list s i 1
 have e1 : (s.data.toList.drop i).take 1 = [s[i]] := by
  rw [List.drop_eq_getElem_cons (by simpa using h)]
  rfl
 rw [e1] at e
 rw [e]
 apply ByteArray.ext
 simp
def rlocQ (l : List UInt8) : List UInt8 × Nat :=
 match quotedP (l.drop 1) with
 | some (t, k) => if t = [] then ([], 0) else (t, 1 + k)
 | none => ([], 0)
def RelRQ (s : ByteArray) (i t : Value) : Prop := ∃ (j : Nat) (T : List UInt8), 1 ≤ j ∧ j ≤ s.size ∧ T.length ≤ j ∧ i = .int .i64 j ∧ t = .string ⟨T.toArray⟩ ∧ Hid (quotedP (s.data.toList.drop 1) = (quotedP (s.data.toList.drop j)).map fun x => (T ++ x.1, j - 1 + x.2))
theorem rlocal_empty (w : World) : Calls Tryz.prog 136 #[.string ⟨#[]⟩] w fun r w' => r = .returned (.tuple #[.string ⟨#[]⟩, .int .i64 0]) ∧ Below w.heap.size w w' := by
 have ha := ratoms_calls ⟨#[]⟩ (by show (0 : Nat) ≤ _; omega)
 rw [show ratomsB (⟨#[]⟩ : ByteArray).data.toList = false by decide] at ha
 replace ha := Lib.hid ha
 have hx : (⟨#[]⟩ : ByteArray).extract 0 0 = ⟨#[]⟩ := by rfl
 go_enter Tryz.func136, Tryz.ntmps136
 go_wp2
 go_loop [4] (fun i => i = .int .i64 0) (fun _ => 0)
 case atStart => exact rfl
 case round =>
  subst hrel
  go_wp2_with (go_at_call 112; ((refine (ha.out _).mono ?_); rintro _ w1 ⟨rfl, hbw⟩))
  go_returns
  exact ⟨rfl, hbw⟩
set_option maxHeartbeats 4000000 in
theorem rlocal_quoted (s : ByteArray) (hs : s.size ≤ 1000000000000) (h1 : 0 < s.size) (hq : ((s[0].toNat : Int) == 34) = true) (w : World) : Calls Tryz.prog 136 #[.string s] w fun r w' => r = .returned (.tuple #[.string ⟨(rlocQ s.data.toList).1.toArray⟩, .int .i64 ((rlocQ s.data.toList).2 : Int)]) ∧ Below w.heap.size w w' := by
 have hlen : s.data.toList.length = s.size := by simp
 have hst : Hid (quotedP (s.data.toList.drop 1) = (quotedP (s.data.toList.drop 1)).map fun x => ([] ++ x.1, 1 - 1 + x.2)) := by unfold Hid; simp
 have hval : ∀ R, Hid (quotedP (s.data.toList.drop 1) = R) → Hid (rlocQ s.data.toList = match R with | some (t, k) => if t = [] then ([], 0) else (t, 1 + k) | none => ([], 0)) := by
  intro R h; unfold Hid rlocQ; rw [h.out]
 replace hval := Lib.hid hval
 have hxl : s.toList = s.data.toList := ByteArray.toList_mk s.data.toList
 have he2 : s.toList.isEmpty = false := by
  rw [hxl]
  cases h : s.data.toList with
  | nil => rw [h] at hlen; simp at hlen; omega
  | cons a b => rfl
 clear hxl
 have hq2 : ((s[0].toNat : Int) != 34) = false := by simp [bne, hq]
 go_enter Tryz.func136, Tryz.ntmps136
 go_wp2
 go_loop [6, 5] (fun i t => RelRQ s i t) (fun i _ => s.size - (intOf i).toNat)
 case atStart => exact ⟨1, [], by omega, by omega, by simp, rfl, rfl, hst⟩
 case round =>
  obtain ⟨j, T, j1, hj, hT, rfl, rfl, hr⟩ := hrel
  clear hst
  by_cases hlt : j < s.size
  · have hqd := quotedP_drop s.data.toList j (by omega)
    rw [getD_lt hlt] at hqd
    cases h34 : ((s[j].toNat : Int) == 34)
    · have h34' : ((s[j].toNat : Int) != 34) = true := by simp [bne, h34]
      have hn34 : ¬ s[j] = 34 := by intro e; rw [e] at h34; simp at h34
      rw [if_neg hn34] at hqd
      cases h92 : ((s[j].toNat : Int) == 92)
      · have hn92 : ¬ s[j] = 92 := by intro e; rw [e] at h92; simp at h92
        rw [if_neg hn92] at hqd
        have hpc := rplain_calls s[j]
        have hne : ((j : Int) == (s.size : Int)) = false := by simp; omega
        cases hpl : plainB s[j]
        · rw [hpl] at hpc hqd
          have hv := hval.out none (by unfold Hid; rw [hr.out, hqd]; rfl)
          replace hpc := Lib.hid hpc
          clear hqd hr hpl hn34 hn92 hval
          go_wp2_with (go_at_call 143; ((with_reducible refine (hpc.out _).mono ?_); rintro _ _ ⟨rfl, rfl⟩))
          go_returns
          exact ⟨by rw [hv.out]; rfl, by (repeat' (first | (with_reducible exact Below.refl _ _) | (with_reducible refine Below.app ?_ ?_ _ _) | (with_reducible refine Below.alloc ?_ ?_ _) | (with_reducible refine Below.drew ?_) | (with_reducible refine Below.setCell ?_ ?_ _) | (with_reducible assumption) | omega | (simp; omega) | (simp; done)))⟩
        · rw [hpl] at hpc hqd
          have hR : Hid (quotedP (s.data.toList.drop 1) = (quotedP (s.data.toList.drop (j + 1))).map fun x => ((T ++ [s[j]]) ++ x.1, (j + 1) - 1 + x.2)) := by
           unfold Hid; rw [hr.out, hqd, if_pos rfl, Option.map_map]; congr 1; funext x; simp; omega
          have hsn := Lib.hid (str_snoc T s j hlt)
          replace hpc := Lib.hid hpc
          clear hqd hr hpl hn34 hn92 hval
          go_wp2_with (go_at_call 143; ((with_reducible refine (hpc.out _).mono ?_); rintro _ _ ⟨rfl, rfl⟩))
          go_round
          case rel => exact ⟨j + 1, T ++ [s[j]], by omega, by omega, by simp; omega, by go_num, by rw [← hsn.out], hR⟩
          case measure => first | (simp [intOf]; done) | (simp [intOf]; omega)
      · have he92 : s[j] = 92 := by rw [← UInt8.toNat_inj]; simp at h92 ⊢; omega
        rw [if_pos he92] at hqd
        clear hn34
        by_cases hlt2 : j + 1 < s.size
        · rw [getD_lt hlt2] at hqd
          have hpc := rplain_calls s[j + 1]
          have hne : (((j + 1 : Nat) : Int) == (s.size : Int)) = false := by simp; omega
          have hne2 : (((j : Int) + 1) == (s.size : Int)) = false := by simp; omega
          cases hpl : plainB s[j + 1]
          · rw [hpl] at hpc hqd
            have hv := hval.out none (by unfold Hid; rw [hr.out, hqd]; rfl)
            replace hpc := Lib.hid hpc
            clear hqd hr hpl he92 hval
            go_wp2_with (go_at_call 143; ((refine (hpc.out _).mono ?_); rintro _ _ ⟨rfl, rfl⟩))
            go_returns
            exact ⟨by rw [hv.out]; rfl, by (repeat' (first | (with_reducible exact Below.refl _ _) | (with_reducible refine Below.app ?_ ?_ _ _) | (with_reducible refine Below.alloc ?_ ?_ _) | (with_reducible refine Below.drew ?_) | (with_reducible refine Below.setCell ?_ ?_ _) | (with_reducible assumption) | omega | (simp; omega) | (simp; done)))⟩
          · rw [hpl] at hpc hqd
            have hR : Hid (quotedP (s.data.toList.drop 1) = (quotedP (s.data.toList.drop (j + 2))).map fun x => ((T ++ [s[j + 1]]) ++ x.1, (j + 2) - 1 + x.2)) := by
             unfold Hid; rw [hr.out, hqd, if_pos rfl, Option.map_map]; congr 1; funext x; simp; omega
            have hsn := Lib.hid (str_snoc T s (j + 1) hlt2)
            replace hpc := Lib.hid hpc
            clear hqd hr hpl he92 hval
            go_wp2_with (go_at_call 143; ((refine (hpc.out _).mono ?_); rintro _ _ ⟨rfl, rfl⟩))
            go_round
            case rel => exact ⟨j + 2, T ++ [s[j + 1]], by omega, by omega, by simp; omega, by go_num, by rw [← hsn.out], hR⟩
            case measure => first | (simp [intOf]; done) | (simp [intOf]; omega)
        · have hje : j + 1 = s.size := by omega
          have hje2 : ((j : Int) + 1 == (s.size : Int)) = true := by simp; omega
          have hje3 : ¬ (j : Int) + 1 < s.size := by omega
          rw [getD_ge (by omega)] at hqd
          rw [show plainB 0 = false by decide] at hqd
          have hv := hval.out none (by unfold Hid; rw [hr.out, hqd]; rfl)
          clear hqd hr he92 hval hje
          go_wp2
          go_returns
          exact ⟨by rw [hv.out]; rfl, by (repeat' (first | (with_reducible exact Below.refl _ _) | (with_reducible refine Below.app ?_ ?_ _ _) | (with_reducible refine Below.alloc ?_ ?_ _) | (with_reducible refine Below.drew ?_) | (with_reducible refine Below.setCell ?_ ?_ _) | (with_reducible assumption) | omega | (simp; omega) | (simp; done)))⟩
    · have h34' : ((s[j].toNat : Int) != 34) = false := by simp [bne, h34]
      have he34 : s[j] = 34 := by rw [← UInt8.toNat_inj]; simp at h34 ⊢; omega
      rw [if_pos he34] at hqd
      have hv := hval.out (some (T, j)) (by unfold Hid; rw [hr.out, hqd]; simp; omega)
      have hnge : ¬ (s.size : Int) ≤ j := by omega
      clear hqd hr he34 hval
      by_cases h0 : T = []
      · subst h0
        go_wp2
        go_returns
        exact ⟨by rw [hv.out]; rfl, by (repeat' (first | (with_reducible exact Below.refl _ _) | (with_reducible refine Below.app ?_ ?_ _ _) | (with_reducible refine Below.alloc ?_ ?_ _) | (with_reducible refine Below.drew ?_) | (with_reducible refine Below.setCell ?_ ?_ _) | (with_reducible assumption) | omega | (simp; omega) | (simp; done)))⟩
      · have hxl : (⟨T.toArray⟩ : ByteArray).toList = T := ByteArray.toList_mk T
        have he : (⟨T.toArray⟩ : ByteArray).toList.isEmpty = false := by rw [hxl]; cases T with | nil => exact absurd rfl h0 | cons a b => rfl
        have he3 : ¬ T = [] := h0
        have he4 : T.isEmpty = false := by cases T with | nil => exact absurd rfl h0 | cons a b => rfl
        clear hxl h0
        go_wp2
        go_returns
        exact ⟨by rw [hv.out]; simp [he3]; try omega, by (repeat' (first | (with_reducible exact Below.refl _ _) | (with_reducible refine Below.app ?_ ?_ _ _) | (with_reducible refine Below.alloc ?_ ?_ _) | (with_reducible refine Below.drew ?_) | (with_reducible refine Below.setCell ?_ ?_ _) | (with_reducible assumption) | omega | (simp; omega) | (simp; done)))⟩
  · have hje : j = s.size := by omega
    subst hje
    have hv := hval.out none (by unfold Hid; rw [hr.out, List.drop_of_length_le (by omega)]; rfl)
    clear hr hval
    go_wp2
    go_returns
    exact ⟨by rw [hv.out]; rfl, by (repeat' (first | (with_reducible exact Below.refl _ _) | (with_reducible refine Below.app ?_ ?_ _ _) | (with_reducible refine Below.alloc ?_ ?_ _) | (with_reducible refine Below.drew ?_) | (with_reducible refine Below.setCell ?_ ?_ _) | (with_reducible assumption) | omega | (simp; omega) | (simp; done)))⟩
theorem rlocal_calls (s : ByteArray) (hs : s.size ≤ 1000000000000) (w : World) : Calls Tryz.prog 136 #[.string s] w fun r w' =>
 r = .returned (.tuple #[.string ⟨((localP s.data.toList).getD ([], 0)).1.toArray⟩, .int .i64 (((localP s.data.toList).getD ([], 0)).2 : Int)]) ∧ Below w.heap.size w w' := by
 by_cases h0 : s.size = 0
 · have he : s = ⟨#[]⟩ := ByteArray.ext (Array.eq_empty_of_size_eq_zero h0)
   subst he
   exact rlocal_empty w
 · have h1 : 0 < s.size := by omega
   cases hq : ((s[0].toNat : Int) == 34)
   · have hne : ¬ s.data.toList.getD 0 0 = 34 := by rw [getD_lt h1]; intro e; rw [e] at hq; simp at hq
     have e : (localP s.data.toList).getD ([], 0) = (s.data.toList.take (rlocA s), rlocA s) := by
      unfold localP rlocA
      rw [if_neg hne, atoms_law _ _ (Nat.le_refl _)]
      split <;> simp
     rw [e]
     have ex := extract_list s 0 (rlocA s)
     rw [Nat.zero_add, List.drop_zero] at ex
     have := rlocal_plain s hs h1 hq w
     rw [ex] at this
     exact this
   · have hne : s.data.toList.getD 0 0 = 34 := by rw [getD_lt h1, ← UInt8.toNat_inj]; simp at hq ⊢; omega
     have e : (localP s.data.toList).getD ([], 0) = rlocQ s.data.toList := by
      unfold localP rlocQ
      rw [if_pos hne]
      cases quotedP (s.data.toList.drop 1) with
      | none => rfl
      | some x =>
       obtain ⟨t, k⟩ := x
       simp only []
       split <;> rfl
     rw [e]
     exact rlocal_quoted s hs h1 hq w
end Go.Proofs.YtfbicbgdfcbhpaaGreatDoor
