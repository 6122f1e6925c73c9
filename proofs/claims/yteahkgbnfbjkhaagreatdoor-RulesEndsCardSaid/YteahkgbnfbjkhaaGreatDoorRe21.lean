/-
  Stamp, AddrPlain, AddrBytes.
-/
import Derived.Test.YteahkgbnfbjkhaaGreatDoorRe20
import Derived.Test.YteahkgbnfbjkhaaGreatDoorRe00
import Derived.Test.YteahkgbnfbjkhaaGreatDoorProg
import Derived.Test.YteahkgbnfbjkhaaGreatDoorRe15
import Derived.Lib.IndexAny
set_option maxRecDepth 20000
set_option linter.unusedVariables false
set_option linter.unusedSimpArgs false
set_option linter.unusedSectionVars false
namespace Go.Proofs.YteahkgbnfbjkhaaGreatDoor
open Go.ChangeShapes Go.WideShapes Go.ChangeAt Go.RowKit
def stampB (y m d h i s wk : Int) : ByteArray :=
 wdOf wk.toNat ++ ⟨#[44, 32]⟩ ++ dig2 d ++ ⟨#[32]⟩ ++ moOf (m - 1).toNat ++ ⟨#[32]⟩ ++ dig4 y ++ ⟨#[32]⟩ ++ dig2 h ++ ⟨#[58]⟩ ++ dig2 i ++ ⟨#[58]⟩ ++ dig2 s ++ ⟨#[32, 43, 48, 48, 48, 48]⟩
def stampOf (t : Int) : ByteArray :=
 stampB (dY (t / 86400 + 719468)) (dM (t / 86400 + 719468)) (dD (t / 86400 + 719468)) (t % 86400 / 3600) (t % 86400 / 60 % 60) (t % 86400 % 60) ((t / 86400 + 3) % 7)
set_option maxHeartbeats 8000000 in
theorem stamp_calls (t : Int) (h0 : 0 ≤ t) (h1 : t ≤ 253402300799) (w : World) : Calls Tryz.prog 64 #[.int .i64 t] w fun r w' => r = .returned (.tuple #[.string (stampOf t), .bool true]) ∧ Below w.heap.size w w' := by
 have hciv := civil_calls t h0 h1
 obtain ⟨⟨r1, r2, r3, r4, r5, r6⟩, -⟩ := date_of (t / 86400 + 719468) (by omega) (by omega)
 have r7 : daysIn (dY (t / 86400 + 719468)) (dM (t / 86400 + 719468)) ≤ 31 := by unfold daysIn; repeat' split <;> omega
 unfold civV at hciv
 unfold stampOf
 generalize dY (t / 86400 + 719468) = y at *
 generalize dM (t / 86400 + 719468) = m at *
 generalize dD (t / 86400 + 719468) = d at *
 have a1 : 0 ≤ t % 86400 / 3600 ∧ t % 86400 / 3600 < 24 := by omega
 have a2 : 0 ≤ t % 86400 / 60 % 60 ∧ t % 86400 / 60 % 60 < 60 := by omega
 have a3 : 0 ≤ t % 86400 % 60 ∧ t % 86400 % 60 < 60 := by omega
 have a4 : 0 ≤ (t / 86400 + 3) % 7 ∧ (t / 86400 + 3) % 7 < 7 := by omega
 generalize t % 86400 / 3600 = h at *
 generalize t % 86400 / 60 % 60 = i at *
 generalize t % 86400 % 60 = s at *
 generalize (t / 86400 + 3) % 7 = wk at *
 obtain ⟨k, rfl⟩ := Int.eq_ofNat_of_zero_le a4.1
 obtain ⟨j, rfl⟩ : ∃ j : Nat, m = (j : Int) + 1 := ⟨(m - 1).toNat, by omega⟩
 replace hciv := Lib.hid hciv
 go_enter Tryz.func64, Tryz.ntmps64
 go_wp2_with (go_at_call 131; ((refine (hciv.out _).mono ?_); rintro r w1 ⟨rfl, hb⟩; obtain ⟨b1, b1d, rfl⟩ := of_below hb; clear hb))
 (apply wp_region_text 23; kernel_rfl; kernel_rfl; intro Fin hFin; (repeat (first | (apply text_run; exact rfl; (focus (intro bs d hF K hK; (repeat rw [app_app] at hK); (repeat rw [app_app]); (repeat rw [Array.append_assoc] at hK); (repeat rw [Array.append_assoc]); go_step; first  | (go_at_call 132; ((with_reducible refine (digits2_calls _ (by omega) (by omega) _).mono ?_); rintro r w1 ⟨rfl, hb⟩; simp only []; exact hK _ hb)) | (go_at_call 132; ((with_reducible refine (digits4_calls _ (by omega) (by omega) _).mono ?_); rintro r w1 ⟨rfl, hb⟩; simp only []; exact hK _ hb))  | (refine hK _ ?_; (repeat' (first | (with_reducible exact Below.refl _ _) | (with_reducible refine Below.app ?_ ?_ _ _) | (with_reducible refine Below.alloc ?_ ?_ _) | (with_reducible refine Below.drew ?_) | (with_reducible refine Below.setCell ?_ ?_ _) | (with_reducible assumption) | omega | (simp; omega) | (simp; done)))))); (try simp only [Act.put, List.setIfInBounds_toArray, List.set_cons_zero, List.set_cons_succ]))  | (apply text_has (WordsAt 7 wdOf); exact rfl; exact WordsAt.mono; exact rfl; (focus (intro bs d hF K hK; (repeat rw [app_app] at hK); (repeat rw [app_app]); (repeat rw [Array.append_assoc] at hK); (repeat rw [Array.append_assoc]); go_step; (go_at_call 107; ((refine (weekdays_calls _).mono ?_); rintro r w1 ⟨⟨v, rfl, hv⟩, hb⟩; simp only []; exact hK _ _ hb hv)))); intro v; (try simp only [Act.put, factOf, List.setIfInBounds_toArray, List.set_cons_zero, List.set_cons_succ])) | (apply text_has (WordsAt 12 moOf); exact rfl; exact WordsAt.mono; exact rfl; (focus (intro bs d hF K hK; (repeat rw [app_app] at hK); (repeat rw [app_app]); (repeat rw [Array.append_assoc] at hK); (repeat rw [Array.append_assoc]); go_step; (go_at_call 109; ((refine (months_calls _).mono ?_); rintro r w1 ⟨⟨v, rfl, hv⟩, hb⟩; simp only []; exact hK _ _ hb hv)))); intro v; (try simp only [Act.put, factOf, List.setIfInBounds_toArray, List.set_cons_zero, List.set_cons_succ])) | (apply text_has (WordAt (wdOf k)); exact rfl; exact WordAt.mono; exact rfl; (focus (intro bs d hF K hK; (repeat rw [app_app] at hK); (repeat rw [app_app]); (repeat rw [Array.append_assoc] at hK); (repeat rw [Array.append_assoc]); obtain ⟨b, rfl, hb, hc⟩ := hF.1 rfl; go_step; exact hK _ _ (Below.refl _ _) ⟨b, k, rfl, hb, hc k (by omega)⟩)); intro v; (try simp only [Act.put, factOf, List.setIfInBounds_toArray, List.set_cons_zero, List.set_cons_succ])) | (apply text_has (WordAt (moOf j)); exact rfl; exact WordAt.mono; exact rfl; (focus (intro bs d hF K hK; (repeat rw [app_app] at hK); (repeat rw [app_app]); (repeat rw [Array.append_assoc] at hK); (repeat rw [Array.append_assoc]); obtain ⟨b, rfl, hb, hc⟩ := hF.1 rfl; go_step; exact hK _ _ (Below.refl _ _) ⟨b, j, rfl, hb, hc j (by omega)⟩)); intro v; (try simp only [Act.put, factOf, List.setIfInBounds_toArray, List.set_cons_zero, List.set_cons_succ])) | (apply text_run; exact rfl; (focus (intro bs d hF K hK; (repeat rw [app_app] at hK); (repeat rw [app_app]); (repeat rw [Array.append_assoc] at hK); (repeat rw [Array.append_assoc]); obtain ⟨b, q, rfl, hb, hc⟩ := hF.1 rfl; go_step; refine hK _ ?_; (repeat' (first | (with_reducible exact Below.refl _ _) | (with_reducible refine Below.app ?_ ?_ _ _) | (with_reducible refine Below.alloc ?_ ?_ _) | (with_reducible refine Below.drew ?_) | (with_reducible refine Below.setCell ?_ ?_ _) | (with_reducible assumption) | omega | (simp; omega) | (simp; done))))); (try simp only [Act.put, List.setIfInBounds_toArray, List.set_cons_zero, List.set_cons_succ]))  | (apply text_skip; exact rfl; (try simp only [Act.put, List.setIfInBounds_toArray, List.set_cons_zero, List.set_cons_succ])))); apply text_end; apply hFin; clear hFin Fin; intro bs d hfa)
 clear hfa
 go_wp2
 (apply wp_region_text 17; kernel_rfl; kernel_rfl; intro Fin hFin; (repeat (first | (apply text_run; exact rfl; (focus (intro bs d hF K hK; (repeat rw [app_app] at hK); (repeat rw [app_app]); (repeat rw [Array.append_assoc] at hK); (repeat rw [Array.append_assoc]); go_step; first  | (go_at_call 132; ((with_reducible refine (digits2_calls _ (by omega) (by omega) _).mono ?_); rintro r w1 ⟨rfl, hb⟩; simp only []; exact hK _ hb))  | (refine hK _ ?_; (repeat' (first | (with_reducible exact Below.refl _ _) | (with_reducible refine Below.app ?_ ?_ _ _) | (with_reducible refine Below.alloc ?_ ?_ _) | (with_reducible refine Below.drew ?_) | (with_reducible refine Below.setCell ?_ ?_ _) | (with_reducible assumption) | omega | (simp; omega) | (simp; done)))))); (try simp only [Act.put, List.setIfInBounds_toArray, List.set_cons_zero, List.set_cons_succ])) | (apply text_skip; exact rfl; (try simp only [Act.put, List.setIfInBounds_toArray, List.set_cons_zero, List.set_cons_succ])))); apply text_end; apply hFin; clear hFin Fin; intro bs d hfa)
 go_wp2
 go_returns
 refine ⟨?_, by (repeat' (first | (with_reducible exact Below.refl _ _) | (with_reducible refine Below.app ?_ ?_ _ _) | (with_reducible refine Below.alloc ?_ ?_ _) | (with_reducible refine Below.drew ?_) | (with_reducible refine Below.setCell ?_ ?_ _) | (with_reducible assumption) | omega | (simp; omega) | (simp; done)))⟩
 simp only [stampB, Int.toNat_natCast, Int.add_sub_cancel]
 rfl
theorem stamp_none (t : Int) (h : t < 0 ∨ 253402300799 < t) (w : World) : Calls Tryz.prog 64 #[.int .i64 t] w fun r w' => r = .returned (.tuple #[.string ⟨#[]⟩, .bool false]) ∧ Below w.heap.size w w' := by
 have hciv := Lib.hid (civil_none t h)
 go_enter Tryz.func64, Tryz.ntmps64
 go_wp2_with (go_at_call 131; ((refine (hciv.out _).mono ?_); rintro r w1 ⟨rfl, hb⟩; obtain ⟨b1, b1d, rfl⟩ := of_below hb; clear hb))
 go_returns; exact ⟨rfl, by (repeat' (first | (with_reducible exact Below.refl _ _) | (with_reducible refine Below.app ?_ ?_ _ _) | (with_reducible refine Below.alloc ?_ ?_ _) | (with_reducible refine Below.drew ?_) | (with_reducible refine Below.setCell ?_ ?_ _) | (with_reducible assumption) | omega | (simp; omega) | (simp; done)))⟩
end Go.Proofs.YteahkgbnfbjkhaaGreatDoor
set_option maxRecDepth 20000
set_option linter.unusedVariables false
set_option linter.unusedSimpArgs false
set_option linter.unusedSectionVars false
namespace Go.Proofs.YteahkgbnfbjkhaaGreatDoor
def letterB (c : UInt8) : Bool := decide ((97 ≤ c.toNat ∧ c.toNat ≤ 122) ∨ (65 ≤ c.toNat ∧ c.toNat ≤ 90))
def digitB (c : UInt8) : Bool := decide (48 ≤ c.toNat ∧ c.toNat ≤ 57)
def alnumB (c : UInt8) : Bool := letterB c || digitB c
def othersL : List UInt8 := [33, 35, 36, 37, 38, 39, 42, 43, 45, 47, 61, 63, 94, 95, 96, 123, 124, 125, 126]
def atomB (c : UInt8) : Bool := alnumB c || othersL.contains c
def plainB (c : UInt8) : Bool := decide (32 ≤ c.toNat ∧ c.toNat ≤ 126)
def labelB (c : UInt8) : Bool := alnumB c || c == 45
def spanLen (f : UInt8 → Bool) : List UInt8 → Nat
 | [] => 0
 | c :: r => if f c = true then spanLen f r + 1 else 0
theorem spanLen_le (f : UInt8 → Bool) : ∀ l, spanLen f l ≤ l.length
 | [] => by simp [spanLen]
 | c :: r => by
  have := spanLen_le f r
  simp only [spanLen, List.length_cons]; split <;> omega
theorem spanLen_at (f : UInt8 → Bool) (l : List UInt8) (n : Nat) (h : n < l.length) : spanLen f (l.drop n) = if f l[n] = true then spanLen f (l.drop (n + 1)) + 1 else 0 := by
 rw [List.drop_eq_getElem_cons h, spanLen]
theorem spanLen_end (f : UInt8 → Bool) (l : List UInt8) (n : Nat) (h : l.length ≤ n) : spanLen f (l.drop n) = 0 := by
 rw [List.drop_of_length_le h, spanLen]
def labelOk (l : List UInt8) : Bool := !l.isEmpty && l.head? != some 45 && l.getLast? != some 45
def domT : List UInt8 → Option Nat
 | [] => some 0
 | c :: r => if c = 46 then (if labelOk (r.take (spanLen labelB r)) = true then (domT (r.drop (spanLen labelB r))).map (spanLen labelB r + 1 + ·) else none) else some 0
termination_by l => l.length
decreasing_by simp; omega
def domP (l : List UInt8) : Option Nat := if labelOk (l.take (spanLen labelB l)) = true then (domT (l.drop (spanLen labelB l))).map (spanLen labelB l + ·) else none
def atomsT : List UInt8 → Option Nat
 | [] => some 0
 | c :: r => if c = 46 then (if spanLen atomB r = 0 then none else (atomsT (r.drop (spanLen atomB r))).map (spanLen atomB r + 1 + ·)) else some 0
termination_by l => l.length
decreasing_by simp; omega
def atomsP (l : List UInt8) : Option Nat := if spanLen atomB l = 0 then none else (atomsT (l.drop (spanLen atomB l))).map (spanLen atomB l + ·)
def quotedP : List UInt8 → Option (List UInt8 × Nat)
 | [] => none
 | [c] => if c = 34 then some ([], 1) else none
 | c :: d :: r =>
  if c = 34 then some ([], 1)
  else if c = 92 then (if plainB d = true then (quotedP r).map fun x => (d :: x.1, x.2 + 2) else none)
  else if plainB c = true then (quotedP (d :: r)).map fun x => (c :: x.1, x.2 + 1) else none
theorem quotedP_le : ∀ (m : Nat) (l : List UInt8), l.length ≤ m → ∀ t k, quotedP l = some (t, k) → k ≤ l.length ∧ t.length < k
 | 0, l, hl, t, k, h => by obtain rfl : l = [] := List.eq_nil_of_length_eq_zero (by omega); rw [quotedP] at h; cases h
 | m + 1, [], _, t, k, h => by rw [quotedP] at h; cases h
 | m + 1, [c], _, t, k, h => by
  rw [quotedP] at h
  split at h
  · cases h; simp
  · cases h
 | m + 1, c :: d :: r, hl, t, k, h => by
  rw [quotedP] at h
  split at h
  · cases h; simp
  · split at h
    · split at h
      · cases hx : quotedP r with
        | none => rw [hx] at h; cases h
        | some y =>
         have := quotedP_le m r (by simp at hl; omega) y.1 y.2 hx
         rw [hx] at h
         simp only [Option.map_some, Option.some.injEq, Prod.mk.injEq] at h
         obtain ⟨rfl, rfl⟩ := h
         simp; omega
      · cases h
    · split at h
      · cases hx : quotedP (d :: r) with
        | none => rw [hx] at h; cases h
        | some y =>
         have := quotedP_le m (d :: r) (by simp at hl ⊢; omega) y.1 y.2 hx
         rw [hx] at h
         simp only [Option.map_some, Option.some.injEq, Prod.mk.injEq] at h
         obtain ⟨rfl, rfl⟩ := h
         simp at this ⊢; omega
      · cases h
theorem atomsP_pos {l : List UInt8} {k : Nat} (h : atomsP l = some k) : 0 < k ∧ k ≤ l.length := by
 have hT : ∀ m (l : List UInt8), l.length ≤ m → ∀ k, atomsT l = some k → k ≤ l.length := by
  intro m
  induction m with
  | zero => intro l hl k h; obtain rfl : l = [] := List.eq_nil_of_length_eq_zero (by omega); rw [atomsT] at h; cases h; simp
  | succ m ih =>
   intro l hl k h
   match l, h with
   | [], h => rw [atomsT] at h; cases h; simp
   | c :: r, h =>
    rw [atomsT] at h
    split at h
    · split at h
      · cases h
      · have hs := spanLen_le atomB r
        cases hx : atomsT (r.drop (spanLen atomB r)) with
        | none => rw [hx] at h; cases h
        | some y =>
         rw [hx] at h
         have := ih (r.drop (spanLen atomB r)) (by simp at hl ⊢; omega) y hx
         simp at h this ⊢
         omega
    · cases h; simp
 unfold atomsP at h
 split at h
 · cases h
 · have hs := spanLen_le atomB l
   cases hx : atomsT (l.drop (spanLen atomB l)) with
   | none => rw [hx] at h; cases h
   | some y =>
    rw [hx] at h
    have := hT _ _ (Nat.le_refl _) y hx
    simp at h this
    omega
end Go.Proofs.YteahkgbnfbjkhaaGreatDoor
set_option maxRecDepth 20000
set_option linter.unusedVariables false
set_option linter.unusedSimpArgs false
set_option linter.unusedSectionVars false
namespace Go.Proofs.YteahkgbnfbjkhaaGreatDoor
open Go.ChangeShapes Go.WideShapes Go.ChangeAt Go.RowKit
theorem digit_calls (c : UInt8) (w : World) : Calls Tryz.prog 218 #[.int .u8 (c.toNat : Int)] w fun r w' => r = .returned (.bool (digitB c)) ∧ w = w' := by
 go_enter Tryz.func218, Tryz.ntmps218
 go_wp2
 all_goals (go_returns; refine ⟨rb ?_, rfl⟩; go_light; unfold digitB; first | (simp; done) | (rw [Bool.eq_iff_iff]; simp; omega))
theorem plain_calls (c : UInt8) (w : World) : Calls Tryz.prog 134 #[.int .u8 (c.toNat : Int)] w fun r w' => r = .returned (.bool (plainB c)) ∧ w = w' := by
 go_enter Tryz.func134, Tryz.ntmps134
 go_wp2
 all_goals (go_returns; refine ⟨rb ?_, rfl⟩; go_light; unfold plainB; first | (simp; done) | (rw [Bool.eq_iff_iff]; simp; omega))
theorem rplain_calls (c : UInt8) (w : World) : Calls Tryz.prog 143 #[.int .u8 (c.toNat : Int)] w fun r w' => r = .returned (.bool (plainB c)) ∧ w = w' := by
 go_enter Tryz.func143, Tryz.ntmps143
 go_wp2
 all_goals (go_returns; refine ⟨rb ?_, rfl⟩; go_light; unfold plainB; first | (simp; done) | (rw [Bool.eq_iff_iff]; simp; omega))
theorem alnum_calls (c : UInt8) (w : World) : Calls Tryz.prog 201 #[.int .u8 (c.toNat : Int)] w fun r w' => r = .returned (.bool (alnumB c)) ∧ w = w' := by
 go_enter Tryz.func201, Tryz.ntmps201
 go_wp2
 all_goals (go_returns; refine ⟨rb ?_, rfl⟩; go_light; unfold alnumB letterB digitB; first | (simp; done) | (rw [Bool.eq_iff_iff]; simp; omega))
theorem letter_bits (c : UInt8) : decide (97 ≤ bits .or .u8 (c.toNat : Int) 32 ∧ bits .or .u8 (c.toNat : Int) 32 ≤ 122) = letterB c := by
 have h : ∀ n : Fin 256, decide (97 ≤ bits .or .u8 (n.val : Int) 32 ∧ bits .or .u8 (n.val : Int) 32 ≤ 122) = decide ((97 ≤ n.val ∧ n.val ≤ 122) ∨ (65 ≤ n.val ∧ n.val ≤ 90)) := by decide +kernel
 exact h ⟨c.toNat, c.toNat_lt⟩
theorem letter_calls (c : UInt8) (w : World) : Calls Tryz.prog 217 #[.int .u8 (c.toNat : Int)] w fun r w' => r = .returned (.bool (letterB c)) ∧ w = w' := by
 go_enter Tryz.func217, Tryz.ntmps217
 go_wp2
 all_goals (go_returns; refine ⟨rb ?_, rfl⟩; go_light; rw [← letter_bits]; first | (simp; done) | (rw [Bool.eq_iff_iff]; simp; omega))
theorem others_calls (c : UInt8) (w : World) : Calls Tryz.prog 259 #[.string ⟨#[33, 35, 36, 37, 38, 39, 42, 43, 45, 47, 61, 63, 94, 95, 96, 123, 124, 125, 126]⟩, .int .u8 (c.toNat : Int)] w fun r w' => r = .returned (.int .i64 (Lib.indexByte othersL c)) ∧ w = w' :=
 (Tryz.strings_IndexByte ⟨#[33, 35, 36, 37, 38, 39, 42, 43, 45, 47, 61, 63, 94, 95, 96, 123, 124, 125, 126]⟩ (c.toNat : Int) w).mono fun e w' ⟨h1, h2⟩ => ⟨by
  rw [h1]
  have : ((c.toNat : Int)).toNat.toUInt8 = c := by simp
  rw [this]; rfl, h2.symm⟩
theorem atext_calls (c : UInt8) (w : World) : Calls Tryz.prog 239 #[.int .u8 (c.toNat : Int)] w fun r w' => r = .returned (.bool (atomB c)) ∧ w = w' := by
 have hk := Lib.hid (Lib.contains_iff_indexByte othersL c)
 go_enter Tryz.func239, Tryz.ntmps239
 go_wp2_with first
  | (go_at_call 217; ((with_reducible refine (letter_calls _ _).mono ?_); rintro _ _ ⟨rfl, rfl⟩))
  | (go_at_call 218; ((with_reducible refine (digit_calls _ _).mono ?_); rintro _ _ ⟨rfl, rfl⟩))
  | (go_at_call 259; ((with_reducible refine (others_calls _ _).mono ?_); rintro _ _ ⟨rfl, rfl⟩))
 all_goals (go_returns; refine ⟨rb ?_, rfl⟩; go_light; unfold atomB alnumB; first | (rw [hk.out]; simp_all; done) | (simp_all; done))
end Go.Proofs.YteahkgbnfbjkhaaGreatDoor
