/-
  What a stamp tells, in plain words: the fields of a text of 31 bytes are a date, its marks and zone right, just if it is the stamp of that date's time.
-/
import Derived.Test.YtbnghchniboggaaParse
import Derived.Test.YtbnghchniboggaaStamp
namespace Go.Proofs.Ytbnghchniboggaa

def pW (s : ByteArray) : Int := placeOf 7 wdOf (s.extract 0 3)
def pM (s : ByteArray) : Int := placeOf 12 moOf (s.extract 8 11) + 1
def pD (s : ByteArray) : Int := numOf (s.extract 5 7)
def pY (s : ByteArray) : Int := numOf (s.extract 12 16)
def pH (s : ByteArray) : Int := numOf (s.extract 17 19)
def pI (s : ByteArray) : Int := numOf (s.extract 20 22)
def pS (s : ByteArray) : Int := numOf (s.extract 23 25)
def pDate (s : ByteArray) : Prop := isDate (pY s) (pM s) (pD s) (pH s) (pI s) (pS s) (pW s)
def pSec (s : ByteArray) : Int := secOf (pY s) (pM s) (pD s) (pH s) (pI s) (pS s)

theorem dgt_eq {v : Int} {c : UInt8} (h : 48 + v % 10 = c.toNat) : dgt v = c := by
  apply UInt8.toNat_inj.1
  have := dgt_nat v
  omega
theorem num2 (a b : UInt8) (h : 0 ≤ numGo [a, b] 0) : dgt (numGo [a, b] 0 / 10) = a ∧ dgt (numGo [a, b] 0) = b := by
  simp only [numGo] at h ⊢
  split at h
  · omega
  · rename_i h1
    split at h
    · omega
    · rename_i h2
      rw [if_neg h1, if_neg h2]
      exact ⟨dgt_eq (by omega), dgt_eq (by omega)⟩
theorem num4 (a b c d : UInt8) (h : 0 ≤ numGo [a, b, c, d] 0) : dgt (numGo [a, b, c, d] 0 / 10 / 10 / 10) = a ∧ dgt (numGo [a, b, c, d] 0 / 10 / 10) = b ∧ dgt (numGo [a, b, c, d] 0 / 10) = c ∧ dgt (numGo [a, b, c, d] 0) = d := by
  simp only [numGo] at h ⊢
  split at h
  · omega
  · rename_i h1
    split at h
    · omega
    · rename_i h2
      split at h
      · omega
      · rename_i h3
        split at h
        · omega
        · rename_i h4
          rw [if_neg h1, if_neg h2, if_neg h3, if_neg h4]
          exact ⟨dgt_eq (by omega), dgt_eq (by omega), dgt_eq (by omega), dgt_eq (by omega)⟩
theorem numGo_dig2 (v : Int) (h0 : 0 ≤ v) (h1 : v ≤ 99) : numGo [dgt (v / 10), dgt v] 0 = v := by
  have a := dgt_nat (v / 10)
  have b := dgt_nat v
  simp only [numGo]
  rw [if_neg (by omega), if_neg (by omega)]
  omega
theorem numGo_dig4 (v : Int) (h0 : 0 ≤ v) (h1 : v ≤ 9999) : numGo [dgt (v / 10 / 10 / 10), dgt (v / 10 / 10), dgt (v / 10), dgt v] 0 = v := by
  have a := dgt_nat (v / 10)
  have b := dgt_nat v
  have c := dgt_nat (v / 10 / 10)
  have d := dgt_nat (v / 10 / 10 / 10)
  simp only [numGo]
  rw [if_neg (by omega), if_neg (by omega), if_neg (by omega), if_neg (by omega)]
  omega
theorem placeGo_eq (f : Nat → ByteArray) (s : ByteArray) : ∀ m k, 0 ≤ placeGo f s m k → f (placeGo f s m k).toNat = s
  | 0, k, h => by simp [placeGo] at h
  | m + 1, k, h => by
    simp only [placeGo] at h ⊢
    split
    · rename_i e; simpa using e
    · rename_i e
      rw [if_neg e] at h
      exact placeGo_eq f s m (k + 1) h
theorem placeGo_bd' (f : Nat → ByteArray) (s : ByteArray) : ∀ m k, -1 ≤ placeGo f s m k ∧ placeGo f s m k < (k + m : Nat) + 1
  | 0, k => by simp only [placeGo]; omega
  | m + 1, k => by
    simp only [placeGo]
    split
    · omega
    · have := placeGo_bd' f s m (k + 1); omega
theorem placeGo_bd (n : Nat) (f : Nat → ByteArray) (s : ByteArray) : -1 ≤ placeOf n f s ∧ placeOf n f s ≤ n := by
  have := placeGo_bd' f s n 0
  unfold placeOf
  omega
theorem place_wd (k : Nat) (h : k < 7) : placeOf 7 wdOf (wdOf k) = k := by
  match k, h with
  | 0, _ | 1, _ | 2, _ | 3, _ | 4, _ | 5, _ | 6, _ => decide
theorem place_mo (k : Nat) (h : k < 12) : placeOf 12 moOf (moOf k) = k := by
  match k, h with
  | 0, _ | 1, _ | 2, _ | 3, _ | 4, _ | 5, _ | 6, _ | 7, _ | 8, _ | 9, _ | 10, _ | 11, _ => decide
theorem three (b : ByteArray) (h : b.size = 3) : ∃ x y z, b = ⟨#[x, y, z]⟩ := by
  obtain ⟨⟨l⟩⟩ := b
  match l, h with
  | [x, y, z], _ => exact ⟨x, y, z, rfl⟩

theorem ext_list (l : List UInt8) (a b : Nat) : ((⟨⟨l⟩⟩ : ByteArray).extract a b) = ⟨⟨(l.drop a).take (b - a)⟩⟩ := by
  apply ByteArray.ext
  apply Array.ext'
  rw [ByteArray.data_extract, Array.toList_extract, List.extract_eq_take_drop]
theorem pY_list (l : List UInt8) : pY ⟨⟨l⟩⟩ = numGo ((l.drop 12).take 4) 0 := by unfold pY; rw [ext_list]; rfl
theorem pD_list (l : List UInt8) : pD ⟨⟨l⟩⟩ = numGo ((l.drop 5).take 2) 0 := by unfold pD; rw [ext_list]; rfl
theorem pH_list (l : List UInt8) : pH ⟨⟨l⟩⟩ = numGo ((l.drop 17).take 2) 0 := by unfold pH; rw [ext_list]; rfl
theorem pI_list (l : List UInt8) : pI ⟨⟨l⟩⟩ = numGo ((l.drop 20).take 2) 0 := by unfold pI; rw [ext_list]; rfl
theorem pS_list (l : List UInt8) : pS ⟨⟨l⟩⟩ = numGo ((l.drop 23).take 2) 0 := by unfold pS; rw [ext_list]; rfl
theorem pM_list (l : List UInt8) : pM ⟨⟨l⟩⟩ = placeGo moOf ⟨⟨(l.drop 8).take 3⟩⟩ 12 0 + 1 := by unfold pM; rw [ext_list]; rfl
theorem pW_list (l : List UInt8) : pW ⟨⟨l⟩⟩ = placeGo wdOf ⟨⟨l.take 3⟩⟩ 7 0 := by unfold pW; rw [ext_list]; rfl

/-- The stamp of a date's time is that date's. -/
theorem stamp_of_date {y m d h i s w : Int} (hd : isDate y m d h i s w) : stampOf (secOf y m d h i s) = stampB y m d h i s w ∧ 0 ≤ secOf y m d h i s ∧ secOf y m d h i s ≤ 253402300799 := by
  obtain ⟨hr, a1, a2, a3, a4, a5, a6, hw⟩ := hd
  obtain ⟨b1, b2⟩ := bef_bd hr
  have hn : secOf y m d h i s / 86400 + 719468 = bef y m d := by unfold secOf; omega
  obtain ⟨c1, c2⟩ := date_of (bef y m d) (by omega) (by omega)
  obtain ⟨e1, e2, e3⟩ := right_one c1 hr c2
  refine ⟨?_, by unfold secOf; omega, by unfold secOf; omega⟩
  unfold stampOf
  rw [hn, e1, e2, e3]
  have h1 : secOf y m d h i s % 86400 / 3600 = h := by unfold secOf; omega
  have h2 : secOf y m d h i s % 86400 / 60 % 60 = i := by unfold secOf; omega
  have h3 : secOf y m d h i s % 86400 % 60 = s := by unfold secOf; omega
  have h4 : (secOf y m d h i s / 86400 + 3) % 7 = w := by rw [hw]; unfold secOf; omega
  rw [h1, h2, h3, h4]
/-- A time's date. -/
theorem date_of_time (t : Int) (h0 : 0 ≤ t) (h1 : t ≤ 253402300799) :
    isDate (dY (t / 86400 + 719468)) (dM (t / 86400 + 719468)) (dD (t / 86400 + 719468)) (t % 86400 / 3600) (t % 86400 / 60 % 60) (t % 86400 % 60) ((t / 86400 + 3) % 7) ∧
    secOf (dY (t / 86400 + 719468)) (dM (t / 86400 + 719468)) (dD (t / 86400 + 719468)) (t % 86400 / 3600) (t % 86400 / 60 % 60) (t % 86400 % 60) = t := by
  obtain ⟨c1, c2⟩ := date_of (t / 86400 + 719468) (by omega) (by omega)
  unfold isDate secOf
  rw [c2]
  refine ⟨⟨c1, by omega, by omega, by omega, by omega, by omega, by omega, by omega⟩, by omega⟩

def marksB (s : ByteArray) : Prop := s.extract 25 31 = zoneB ∧ marksOk s

theorem stampB_back (y m d h i s w : Int) (hd : isDate y m d h i s w) : (stampB y m d h i s w).size = 31 ∧ marksB (stampB y m d h i s w) ∧
    pY (stampB y m d h i s w) = y ∧ pM (stampB y m d h i s w) = m ∧ pD (stampB y m d h i s w) = d ∧ pH (stampB y m d h i s w) = h ∧ pI (stampB y m d h i s w) = i ∧ pS (stampB y m d h i s w) = s ∧ pW (stampB y m d h i s w) = w := by
  obtain ⟨⟨r1, r2, r3, r4, r5, r6⟩, a1, a2, a3, a4, a5, a6, hw⟩ := hd
  have r7 := (daysIn_bd y m).2
  have hw0 : 0 ≤ w ∧ w < 7 := by omega
  clear hw
  obtain ⟨w0, w1, w2, ew⟩ := three (wdOf w.toNat) (wdOf_size _)
  obtain ⟨m0, m1, m2, em⟩ := three (moOf (m - 1).toNat) (moOf_size _)
  have pw := place_wd w.toNat (by omega)
  have pm := place_mo (m - 1).toNat (by omega)
  rw [ew] at pw
  rw [em] at pm
  have e : stampB y m d h i s w = ⟨#[w0, w1, w2, 44, 32, dgt (d / 10), dgt d, 32, m0, m1, m2, 32, dgt (y / 10 / 10 / 10), dgt (y / 10 / 10), dgt (y / 10), dgt y, 32, dgt (h / 10), dgt h, 58, dgt (i / 10), dgt i, 58, dgt (s / 10), dgt s, 32, 43, 48, 48, 48, 48]⟩ := by
    unfold stampB dig2 dig4
    rw [ew, em]
    rfl
  rw [e]
  refine ⟨rfl, ⟨by rw [ext_list]; rfl, fun j hj => ?_⟩, ?_, ?_, ?_, ?_, ?_, ?_, ?_⟩
  · unfold markAt isMark formL
    match j, hj with
    | 0, _ | 1, _ | 2, _ | 5, _ | 6, _ | 8, _ | 9, _ | 10, _ | 12, _ | 13, _ | 14, _ | 15, _ | 17, _ | 18, _ | 20, _ | 21, _ | 23, _ | 24, _ | 26, _ | 27, _ | 28, _ | 29, _ | 30, _ => simp
    | 3, _ | 4, _ | 7, _ | 11, _ | 16, _ | 19, _ | 22, _ | 25, _ => simp
    | n + 31, h => exact absurd h (by omega)
  · rw [pY_list]; exact numGo_dig4 y (by omega) (by omega)
  · rw [pM_list]
    show placeOf 12 moOf ⟨#[m0, m1, m2]⟩ + 1 = m
    rw [pm]; omega
  · rw [pD_list]; exact numGo_dig2 d (by omega) (by omega)
  · rw [pH_list]; exact numGo_dig2 h (by omega) (by omega)
  · rw [pI_list]; exact numGo_dig2 i (by omega) (by omega)
  · rw [pS_list]; exact numGo_dig2 s (by omega) (by omega)
  · rw [pW_list]
    show placeOf 7 wdOf ⟨#[w0, w1, w2]⟩ = w
    rw [pw]; omega

theorem list31 {l : List UInt8} (h : l.length = 31) : ∃ c0 c1 c2 c3 c4 c5 c6 c7 c8 c9 c10 c11 c12 c13 c14 c15 c16 c17 c18 c19 c20 c21 c22 c23 c24 c25 c26 c27 c28 c29 c30, l = [c0, c1, c2, c3, c4, c5, c6, c7, c8, c9, c10, c11, c12, c13, c14, c15, c16, c17, c18, c19, c20, c21, c22, c23, c24, c25, c26, c27, c28, c29, c30] := by
  obtain ⟨c0, l, rfl⟩ := List.exists_cons_of_length_eq_add_one h
  replace h : l.length = 30 := Nat.succ.inj h
  obtain ⟨c1, l, rfl⟩ := List.exists_cons_of_length_eq_add_one h
  replace h : l.length = 29 := Nat.succ.inj h
  obtain ⟨c2, l, rfl⟩ := List.exists_cons_of_length_eq_add_one h
  replace h : l.length = 28 := Nat.succ.inj h
  obtain ⟨c3, l, rfl⟩ := List.exists_cons_of_length_eq_add_one h
  replace h : l.length = 27 := Nat.succ.inj h
  obtain ⟨c4, l, rfl⟩ := List.exists_cons_of_length_eq_add_one h
  replace h : l.length = 26 := Nat.succ.inj h
  obtain ⟨c5, l, rfl⟩ := List.exists_cons_of_length_eq_add_one h
  replace h : l.length = 25 := Nat.succ.inj h
  obtain ⟨c6, l, rfl⟩ := List.exists_cons_of_length_eq_add_one h
  replace h : l.length = 24 := Nat.succ.inj h
  obtain ⟨c7, l, rfl⟩ := List.exists_cons_of_length_eq_add_one h
  replace h : l.length = 23 := Nat.succ.inj h
  obtain ⟨c8, l, rfl⟩ := List.exists_cons_of_length_eq_add_one h
  replace h : l.length = 22 := Nat.succ.inj h
  obtain ⟨c9, l, rfl⟩ := List.exists_cons_of_length_eq_add_one h
  replace h : l.length = 21 := Nat.succ.inj h
  obtain ⟨c10, l, rfl⟩ := List.exists_cons_of_length_eq_add_one h
  replace h : l.length = 20 := Nat.succ.inj h
  obtain ⟨c11, l, rfl⟩ := List.exists_cons_of_length_eq_add_one h
  replace h : l.length = 19 := Nat.succ.inj h
  obtain ⟨c12, l, rfl⟩ := List.exists_cons_of_length_eq_add_one h
  replace h : l.length = 18 := Nat.succ.inj h
  obtain ⟨c13, l, rfl⟩ := List.exists_cons_of_length_eq_add_one h
  replace h : l.length = 17 := Nat.succ.inj h
  obtain ⟨c14, l, rfl⟩ := List.exists_cons_of_length_eq_add_one h
  replace h : l.length = 16 := Nat.succ.inj h
  obtain ⟨c15, l, rfl⟩ := List.exists_cons_of_length_eq_add_one h
  replace h : l.length = 15 := Nat.succ.inj h
  obtain ⟨c16, l, rfl⟩ := List.exists_cons_of_length_eq_add_one h
  replace h : l.length = 14 := Nat.succ.inj h
  obtain ⟨c17, l, rfl⟩ := List.exists_cons_of_length_eq_add_one h
  replace h : l.length = 13 := Nat.succ.inj h
  obtain ⟨c18, l, rfl⟩ := List.exists_cons_of_length_eq_add_one h
  replace h : l.length = 12 := Nat.succ.inj h
  obtain ⟨c19, l, rfl⟩ := List.exists_cons_of_length_eq_add_one h
  replace h : l.length = 11 := Nat.succ.inj h
  obtain ⟨c20, l, rfl⟩ := List.exists_cons_of_length_eq_add_one h
  replace h : l.length = 10 := Nat.succ.inj h
  obtain ⟨c21, l, rfl⟩ := List.exists_cons_of_length_eq_add_one h
  replace h : l.length = 9 := Nat.succ.inj h
  obtain ⟨c22, l, rfl⟩ := List.exists_cons_of_length_eq_add_one h
  replace h : l.length = 8 := Nat.succ.inj h
  obtain ⟨c23, l, rfl⟩ := List.exists_cons_of_length_eq_add_one h
  replace h : l.length = 7 := Nat.succ.inj h
  obtain ⟨c24, l, rfl⟩ := List.exists_cons_of_length_eq_add_one h
  replace h : l.length = 6 := Nat.succ.inj h
  obtain ⟨c25, l, rfl⟩ := List.exists_cons_of_length_eq_add_one h
  replace h : l.length = 5 := Nat.succ.inj h
  obtain ⟨c26, l, rfl⟩ := List.exists_cons_of_length_eq_add_one h
  replace h : l.length = 4 := Nat.succ.inj h
  obtain ⟨c27, l, rfl⟩ := List.exists_cons_of_length_eq_add_one h
  replace h : l.length = 3 := Nat.succ.inj h
  obtain ⟨c28, l, rfl⟩ := List.exists_cons_of_length_eq_add_one h
  replace h : l.length = 2 := Nat.succ.inj h
  obtain ⟨c29, l, rfl⟩ := List.exists_cons_of_length_eq_add_one h
  replace h : l.length = 1 := Nat.succ.inj h
  obtain ⟨c30, l, rfl⟩ := List.exists_cons_of_length_eq_add_one h
  replace h : l.length = 0 := Nat.succ.inj h
  obtain rfl := List.eq_nil_of_length_eq_zero h
  exact ⟨c0, c1, c2, c3, c4, c5, c6, c7, c8, c9, c10, c11, c12, c13, c14, c15, c16, c17, c18, c19, c20, c21, c22, c23, c24, c25, c26, c27, c28, c29, c30, rfl⟩
set_option maxHeartbeats 1000000 in
theorem stampB_of (s : ByteArray) (hs : s.size = 31) (hm : marksB s) (hd : pDate s) : stampB (pY s) (pM s) (pD s) (pH s) (pI s) (pS s) (pW s) = s := by
  obtain ⟨⟨r1, r2, r3, r4, r5, r6⟩, a1, a2, a3, a4, a5, a6, hw⟩ := hd
  have hw0 : 0 ≤ pW s := by omega
  clear hw
  obtain ⟨hz, hmk⟩ := hm
  obtain ⟨⟨l⟩⟩ := s
  obtain ⟨c0, c1, c2, c3, c4, c5, c6, c7, c8, c9, c10, c11, c12, c13, c14, c15, c16, c17, c18, c19, c20, c21, c22, c23, c24, c25, c26, c27, c28, c29, c30, rfl⟩ := list31 hs
  have hY : pY ⟨#[c0, c1, c2, c3, c4, c5, c6, c7, c8, c9, c10, c11, c12, c13, c14, c15, c16, c17, c18, c19, c20, c21, c22, c23, c24, c25, c26, c27, c28, c29, c30]⟩ = numGo [c12, c13, c14, c15] 0 := pY_list _
  have hD : pD ⟨#[c0, c1, c2, c3, c4, c5, c6, c7, c8, c9, c10, c11, c12, c13, c14, c15, c16, c17, c18, c19, c20, c21, c22, c23, c24, c25, c26, c27, c28, c29, c30]⟩ = numGo [c5, c6] 0 := pD_list _
  have hH : pH ⟨#[c0, c1, c2, c3, c4, c5, c6, c7, c8, c9, c10, c11, c12, c13, c14, c15, c16, c17, c18, c19, c20, c21, c22, c23, c24, c25, c26, c27, c28, c29, c30]⟩ = numGo [c17, c18] 0 := pH_list _
  have hI : pI ⟨#[c0, c1, c2, c3, c4, c5, c6, c7, c8, c9, c10, c11, c12, c13, c14, c15, c16, c17, c18, c19, c20, c21, c22, c23, c24, c25, c26, c27, c28, c29, c30]⟩ = numGo [c20, c21] 0 := pI_list _
  have hS : pS ⟨#[c0, c1, c2, c3, c4, c5, c6, c7, c8, c9, c10, c11, c12, c13, c14, c15, c16, c17, c18, c19, c20, c21, c22, c23, c24, c25, c26, c27, c28, c29, c30]⟩ = numGo [c23, c24] 0 := pS_list _
  have hM : pM ⟨#[c0, c1, c2, c3, c4, c5, c6, c7, c8, c9, c10, c11, c12, c13, c14, c15, c16, c17, c18, c19, c20, c21, c22, c23, c24, c25, c26, c27, c28, c29, c30]⟩ = placeGo moOf ⟨#[c8, c9, c10]⟩ 12 0 + 1 := pM_list _
  have hW : pW ⟨#[c0, c1, c2, c3, c4, c5, c6, c7, c8, c9, c10, c11, c12, c13, c14, c15, c16, c17, c18, c19, c20, c21, c22, c23, c24, c25, c26, c27, c28, c29, c30]⟩ = placeGo wdOf ⟨#[c0, c1, c2]⟩ 7 0 := pW_list _
  rw [ext_list] at hz
  have hz' : (⟨#[c25, c26, c27, c28, c29, c30]⟩ : ByteArray) = zoneB := hz
  have k3 := hmk 3 (by omega)
  have k4 := hmk 4 (by omega)
  have k7 := hmk 7 (by omega)
  have k11 := hmk 11 (by omega)
  have k16 := hmk 16 (by omega)
  have k19 := hmk 19 (by omega)
  have k22 := hmk 22 (by omega)
  clear hz hmk
  rw [hY] at r1 r2 r6
  rw [hD] at r5 r6
  rw [hM] at r3 r4 r6
  rw [hH] at a1 a2
  rw [hI] at a3 a4
  rw [hS] at a5 a6
  rw [hW] at hw0
  rw [hY, hD, hH, hI, hS, hM, hW]
  clear hY hD hH hI hS hM hW
  obtain ⟨y0, y1, y2, y3⟩ := num4 c12 c13 c14 c15 (by omega)
  obtain ⟨d0, d1⟩ := num2 c5 c6 (by omega)
  obtain ⟨h0, h1⟩ := num2 c17 c18 (by omega)
  obtain ⟨i0, i1⟩ := num2 c20 c21 (by omega)
  obtain ⟨s0, s1⟩ := num2 c23 c24 (by omega)
  have hm := placeGo_eq moOf ⟨#[c8, c9, c10]⟩ 12 0 (by omega)
  have hw := placeGo_eq wdOf ⟨#[c0, c1, c2]⟩ 7 0 (by omega)
  generalize numGo [c12, c13, c14, c15] 0 = y at *
  generalize numGo [c5, c6] 0 = d at *
  generalize numGo [c17, c18] 0 = h at *
  generalize numGo [c20, c21] 0 = i at *
  generalize numGo [c23, c24] 0 = s at *
  generalize placeGo moOf ⟨#[c8, c9, c10]⟩ 12 0 = m at *
  generalize placeGo wdOf ⟨#[c0, c1, c2]⟩ 7 0 = w at *
  have f3 : c3 = 44 := UInt8.toNat_inj.1 (by have h : (c3.toNat : Int) = 44 := (by simpa [markAt, isMark, formL] using k3); show c3.toNat = 44; omega)
  have f4 : c4 = 32 := UInt8.toNat_inj.1 (by have h : (c4.toNat : Int) = 32 := (by simpa [markAt, isMark, formL] using k4); show c4.toNat = 32; omega)
  have f7 : c7 = 32 := UInt8.toNat_inj.1 (by have h : (c7.toNat : Int) = 32 := (by simpa [markAt, isMark, formL] using k7); show c7.toNat = 32; omega)
  have f11 : c11 = 32 := UInt8.toNat_inj.1 (by have h : (c11.toNat : Int) = 32 := (by simpa [markAt, isMark, formL] using k11); show c11.toNat = 32; omega)
  have f16 : c16 = 32 := UInt8.toNat_inj.1 (by have h : (c16.toNat : Int) = 32 := (by simpa [markAt, isMark, formL] using k16); show c16.toNat = 32; omega)
  have f19 : c19 = 58 := UInt8.toNat_inj.1 (by have h : (c19.toNat : Int) = 58 := (by simpa [markAt, isMark, formL] using k19); show c19.toNat = 58; omega)
  have f22 : c22 = 58 := UInt8.toNat_inj.1 (by have h : (c22.toNat : Int) = 58 := (by simpa [markAt, isMark, formL] using k22); show c22.toNat = 58; omega)
  have fz : c25 = 32 ∧ c26 = 43 ∧ c27 = 48 ∧ c28 = 48 ∧ c29 = 48 ∧ c30 = 48 := by
    simpa [zoneB] using hz'
  obtain ⟨z0, z1, z2, z3, z4, z5⟩ := fz
  clear hz' k3 k4 k7 k11 k16 k19 k22
  subst f3 f4 f7 f11 f16 f19 f22 z0 z1 z2 z3 z4 z5
  unfold stampB dig2 dig4
  rw [show m + 1 - 1 = m by omega, hm, hw, y0, y1, y2, y3, d0, d1, h0, h1, i0, i1, s0, s1]
  rfl

/-- Which texts are stamps. -/
theorem parse_iff (s : ByteArray) (hs : s.size = 31) (hd : pDate s) : marksB s ↔ stampOf (pSec s) = s := by
  have h1 := (stamp_of_date hd).1
  constructor
  · intro hm
    show stampOf (secOf _ _ _ _ _ _) = s
    rw [h1]
    exact stampB_of s hs hm hd
  · intro he
    have h2 := (stampB_back _ _ _ _ _ _ _ hd).2.1
    rw [← h1] at h2
    have he' : stampOf (secOf (pY s) (pM s) (pD s) (pH s) (pI s) (pS s)) = s := he
    rw [he'] at h2
    exact h2
/-- A stamp tells its time. -/
theorem stamp_tells (t : Int) (h0 : 0 ≤ t) (h1 : t ≤ 253402300799) : (stampOf t).size = 31 ∧ marksB (stampOf t) ∧ pDate (stampOf t) ∧ pSec (stampOf t) = t := by
  obtain ⟨hd, hs⟩ := date_of_time t h0 h1
  obtain ⟨k1, k2, k3, k4, k5, k6, k7, k8, k9⟩ := stampB_back _ _ _ _ _ _ _ hd
  refine ⟨k1, k2, ?_, ?_⟩
  · show isDate (pY (stampB _ _ _ _ _ _ _)) (pM (stampB _ _ _ _ _ _ _)) (pD (stampB _ _ _ _ _ _ _)) (pH (stampB _ _ _ _ _ _ _)) (pI (stampB _ _ _ _ _ _ _)) (pS (stampB _ _ _ _ _ _ _)) (pW (stampB _ _ _ _ _ _ _))
    rw [k3, k4, k5, k6, k7, k8, k9]; exact hd
  · show secOf (pY (stampB _ _ _ _ _ _ _)) (pM (stampB _ _ _ _ _ _ _)) (pD (stampB _ _ _ _ _ _ _)) (pH (stampB _ _ _ _ _ _ _)) (pI (stampB _ _ _ _ _ _ _)) (pS (stampB _ _ _ _ _ _ _)) = t
    rw [k3, k4, k5, k6, k7, k8]; exact hs
end Go.Proofs.Ytbnghchniboggaa
