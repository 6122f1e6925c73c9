/-
  LpNum, LpSplit, AddrPlain, AddrBytes.
-/
import Derived.Test.YtfbicbgdfcbhpaaGreatDoorCt09
import Derived.Test.YtfbicbgdfcbhpaaGreatDoorCt10
import Derived.Lib.AtoiAll
import Derived.Lib.AtoiTie
import Derived.Lib.ItoaMem
import Derived.Lib.Split
import Derived.Test.YtfbicbgdfcbhpaaGreatDoorCt00
import Derived.Test.YtfbicbgdfcbhpaaGreatDoorProg
import Derived.Lib.IndexAny
set_option maxRecDepth 20000
set_option linter.unusedVariables false
set_option linter.unusedSimpArgs false
set_option linter.unusedSectionVars false
namespace Go.Proofs.YtfbicbgdfcbhpaaGreatDoor
open Go.ChangeShapes Go.WideShapes Go.ChangeAt Go.RowKit
namespace AX
def atoiV (l : List UInt8) : Int × Bool :=
 match Lib.atoiAll l with
 | .ok v => (v, false)
 | .range => (Lib.atoiSat l, true)
 | _ => (0, true)
def pAtoi : List AV → Option AV
 | [.one (.str l)] => bif decide (l.length ≤ 100000000) then some (.tup [.one (.int .i64 (atoiV l).1), .one (.err (atoiV l).2)]) else none
 | _ => none
def pItoa : List AV → Option AV
 | [.one (.int .i64 n)] => bif decide (-9223372036854775808 ≤ n) && decide (n ≤ 9223372036854775807) then some (.one (.str (Lib.itoa n))) else none
 | _ => none
theorem lp_itoa_below {w w' : World} (h : ∃ k os, w' = Go.Sort.grow (w.drewN k) os) : Below w.heap.size w w' := by
 obtain ⟨k, os, rfl⟩ := h
 exact Lib.below_grow _ w (Nat.le_refl _) k os
theorem pItoa_ok : PrimOk Tryz.prog 47 pItoa := by
 refine ⟨fun args v h M w vals hI hl hA => ?_, ⟨Tryz.f47, by kernel_rfl, by kernel_rfl, of_decide_eq_true (by kernel_rfl)⟩⟩
 unfold pItoa at h
 split at h
 · rename_i n
   obtain ⟨hd, rfl⟩ := bif_some h
   rw [Bool.and_eq_true, decide_eq_true_eq, decide_eq_true_eq] at hd
   obtain ⟨u, rfl, hu⟩ := hA.one
   obtain rfl := Rc.int_inv hu
   have hW : LibAt w := hI
   exact (Tryz.strconv_Itoa n hd.1 hd.2 w hW.pow).mono fun _ w' ⟨h2, h3⟩ => ⟨_, M, h2, same_grow hl (lp_itoa_below h3), .data (.str _)⟩
 · cases h
end AX
end Go.Proofs.YtfbicbgdfcbhpaaGreatDoor
set_option maxRecDepth 20000
set_option linter.unusedVariables false
set_option linter.unusedSimpArgs false
set_option linter.unusedSectionVars false
namespace Go.Proofs.YtfbicbgdfcbhpaaGreatDoor
open Go.ChangeShapes Go.WideShapes Go.ChangeAt Go.RowKit
namespace AX
theorem lp_splitB (s sep : ByteArray) : Lib.splitB sep 0 (Lib.countB s sep) s = (Lib.split s.data.toList sep.data.toList).map fun x => ⟨x.toArray⟩ := by
 have h := Lib.splitB_data sep 0 (Lib.countB s sep) s
 have h2 : Lib.split s.data.toList sep.data.toList = (Lib.splitB sep 0 (Lib.countB s sep) s).map (·.data.toList) := h.symm
 rw [h2, List.map_map]
 conv => lhs; rw [← List.map_id (Lib.splitB sep 0 (Lib.countB s sep) s)]
 exact List.map_congr_left fun _ _ => rfl
def pSplit : List AV → Option AV
 | [.one (.str l), .one (.str [c])] => bif decide (l.length ≤ 100000000) then some (.one (.sl none 1 ((Lib.split l [c]).map .str))) else none
 | _ => none
theorem pSplit_ok : PrimOk Tryz.prog 50 pSplit := by
 refine ⟨fun args v h M w vals hI hl hA => ?_, ⟨Tryz.f50, by kernel_rfl, by kernel_rfl, of_decide_eq_true (by kernel_rfl)⟩⟩
 unfold pSplit at h
 split at h
 · rename_i l c
   obtain ⟨hd, rfl⟩ := bif_some h
   have hd := of_decide_eq_true hd
   obtain ⟨x, y, rfl, hx, hy⟩ := hA.two
   obtain rfl := Rc.str_inv hx
   obtain rfl := Rc.str_inv hy
   have hW : LibAt w := hI
   obtain ⟨m, hm⟩ := hW.max
   have hs := lp_splitB ⟨l.toArray⟩ ⟨#[c]⟩
   have hlen := Lib.splitB_all ⟨#[c]⟩ (Nat.le_refl 1) 0 _ (⟨l.toArray⟩ : ByteArray) rfl
   rw [hs, List.length_map] at hlen
   have hsp : Lib.split (⟨l.toArray⟩ : ByteArray).data.toList (⟨#[c]⟩ : ByteArray).data.toList = Lib.split l [c] := by simp
   rw [hsp] at hs hlen
   obtain ⟨M', hG, hR⟩ := alloc_strs (t := 9) hl (Lib.split l [c])
   refine (Tryz.strings_Split ⟨l.toArray⟩ ⟨#[c]⟩ m w (by show l.toArray.size < _; rw [List.size_toArray]; omega) hm (Nat.le_refl 1)).mono fun e w' ⟨h1, h2⟩ => ?_
   rw [hs, List.map_map] at h2
   rw [← hlen] at h1
   subst h2
   exact ⟨_, M', h1, hG, .data hR⟩
 · cases h
theorem lp_drewN (n : Nat) (X : World) : Below X.heap.size X (X.drewN n) := by
 induction n with
 | zero => exact Below.refl _ _
 | succ n ih => exact ih.drew
def pCut : List AV → Option AV
 | [.one (.str l), .one (.str sep)] => bif decide (l.length ≤ 100000000) then some (.tup [.one (.str (Lib.cut l sep).1), .one (.str (Lib.cut l sep).2.1), .one (.bool (Lib.cut l sep).2.2)]) else none
 | _ => none
theorem pCut_ok : PrimOk Tryz.prog 29 pCut := by
 refine ⟨fun args v h M w vals hI hl hA => ?_, ⟨Tryz.f29, by kernel_rfl, by kernel_rfl, of_decide_eq_true (by kernel_rfl)⟩⟩
 unfold pCut at h
 split at h
 · rename_i l sep
   obtain ⟨hd, rfl⟩ := bif_some h
   have hd := of_decide_eq_true hd
   obtain ⟨x, y, rfl, hx, hy⟩ := hA.two
   obtain rfl := Rc.str_inv hx
   obtain rfl := Rc.str_inv hy
   have hW : LibAt w := hI
   obtain ⟨m, hm⟩ := hW.max
   refine (Tryz.strings_Cut ⟨l.toArray⟩ ⟨sep.toArray⟩ m w (by show l.toArray.size < _; rw [List.size_toArray]; omega) hm).mono fun e w' ⟨h1, n, h2⟩ => ⟨_, M, h1, same_grow hl ?_, three_rv (.data (.str _)) (.data (.str _)) (.data (.bool _))⟩
   subst h2
   exact lp_drewN _ _
 · cases h
end AX
end Go.Proofs.YtfbicbgdfcbhpaaGreatDoor
set_option maxRecDepth 20000
set_option linter.unusedVariables false
set_option linter.unusedSimpArgs false
set_option linter.unusedSectionVars false
namespace Go.Proofs.YtfbicbgdfcbhpaaGreatDoor
def letterB (c : UInt8) : Bool := decide ((97 ≤ c.toNat ∧ c.toNat ≤ 122) ∨ (65 ≤ c.toNat ∧ c.toNat ≤ 90))
def digitB (c : UInt8) : Bool := decide (48 ≤ c.toNat ∧ c.toNat ≤ 57)
def alnumB (c : UInt8) : Bool := letterB c || digitB c
def othersL : List UInt8 := [33, 35, 36, 37, 38, 39, 42, 43, 45, 47, 61, 63, 94, 95, 96, 123, 124, 125, 126]
def atomB (c : UInt8) : Bool := alnumB c || othersL.contains c
def plainB (c : UInt8) : Bool := decide (32 ≤ c.toNat ∧ c.toNat ≤ 126)
def labelB (c : UInt8) : Bool := alnumB c || c == 45
def spanLen (f : UInt8 → Bool) : List UInt8 → Nat
 | [] => 0
 | c :: r => if f c = true then spanLen f r + 1 else 0
theorem spanLen_le (f : UInt8 → Bool) : ∀ l, spanLen f l ≤ l.length
 | [] => by simp [spanLen]
 | c :: r => by
  have := spanLen_le f r
  simp only [spanLen, List.length_cons]; split <;> omega
theorem spanLen_at (f : UInt8 → Bool) (l : List UInt8) (n : Nat) (h : n < l.length) : spanLen f (l.drop n) = if f l[n] = true then spanLen f (l.drop (n + 1)) + 1 else 0 := by
 rw [List.drop_eq_getElem_cons h, spanLen]
theorem spanLen_end (f : UInt8 → Bool) (l : List UInt8) (n : Nat) (h : l.length ≤ n) : spanLen f (l.drop n) = 0 := by
 rw [List.drop_of_length_le h, spanLen]
def labelOk (l : List UInt8) : Bool := !l.isEmpty && l.head? != some 45 && l.getLast? != some 45
def domT : List UInt8 → Option Nat
 | [] => some 0
 | c :: r => if c = 46 then (if labelOk (r.take (spanLen labelB r)) = true then (domT (r.drop (spanLen labelB r))).map (spanLen labelB r + 1 + ·) else none) else some 0
termination_by l => l.length
decreasing_by simp; omega
def domP (l : List UInt8) : Option Nat := if labelOk (l.take (spanLen labelB l)) = true then (domT (l.drop (spanLen labelB l))).map (spanLen labelB l + ·) else none
def atomsT : List UInt8 → Option Nat
 | [] => some 0
 | c :: r => if c = 46 then (if spanLen atomB r = 0 then none else (atomsT (r.drop (spanLen atomB r))).map (spanLen atomB r + 1 + ·)) else some 0
termination_by l => l.length
decreasing_by simp; omega
def atomsP (l : List UInt8) : Option Nat := if spanLen atomB l = 0 then none else (atomsT (l.drop (spanLen atomB l))).map (spanLen atomB l + ·)
def quotedP : List UInt8 → Option (List UInt8 × Nat)
 | [] => none
 | [c] => if c = 34 then some ([], 1) else none
 | c :: d :: r =>
  if c = 34 then some ([], 1)
  else if c = 92 then (if plainB d = true then (quotedP r).map fun x => (d :: x.1, x.2 + 2) else none)
  else if plainB c = true then (quotedP (d :: r)).map fun x => (c :: x.1, x.2 + 1) else none
theorem quotedP_drop (l : List UInt8) (j : Nat) (h : j < l.length) : quotedP (l.drop j) =
 if l.getD j 0 = 34 then some ([], 1)
 else if l.getD j 0 = 92 then (if plainB (l.getD (j + 1) 0) = true then (quotedP (l.drop (j + 2))).map fun x => (l.getD (j + 1) 0 :: x.1, x.2 + 2) else none)
 else if plainB (l.getD j 0) = true then (quotedP (l.drop (j + 1))).map fun x => (l.getD j 0 :: x.1, x.2 + 1) else none := by
 have e0 : l.getD j 0 = l[j] := by simp [List.getD, h]
 rw [e0]
 rcases Nat.lt_or_ge (j + 1) l.length with h1 | h1
 · have e1 : l.getD (j + 1) 0 = l[j + 1] := by simp [List.getD, h1]
   rw [e1, List.drop_eq_getElem_cons h, List.drop_eq_getElem_cons h1, quotedP]
 · have e1 : l.getD (j + 1) 0 = 0 := by simp [List.getD, List.getElem?_eq_none h1]
   rw [e1, List.drop_eq_getElem_cons h, List.drop_of_length_le h1, List.drop_of_length_le (show l.length ≤ j + 2 by omega), quotedP, quotedP]
   have h0 : plainB 0 = false := rfl
   simp [h0]
theorem quotedP_le : ∀ (m : Nat) (l : List UInt8), l.length ≤ m → ∀ t k, quotedP l = some (t, k) → k ≤ l.length ∧ t.length < k
 | 0, l, hl, t, k, h => by obtain rfl : l = [] := List.eq_nil_of_length_eq_zero (by omega); rw [quotedP] at h; cases h
 | m + 1, [], _, t, k, h => by rw [quotedP] at h; cases h
 | m + 1, [c], _, t, k, h => by
  rw [quotedP] at h
  split at h
  · cases h; simp
  · cases h
 | m + 1, c :: d :: r, hl, t, k, h => by
  rw [quotedP] at h
  split at h
  · cases h; simp
  · split at h
    · split at h
      · cases hx : quotedP r with
        | none => rw [hx] at h; cases h
        | some y =>
         have := quotedP_le m r (by simp at hl; omega) y.1 y.2 hx
         rw [hx] at h
         simp only [Option.map_some, Option.some.injEq, Prod.mk.injEq] at h
         obtain ⟨rfl, rfl⟩ := h
         simp; omega
      · cases h
    · split at h
      · cases hx : quotedP (d :: r) with
        | none => rw [hx] at h; cases h
        | some y =>
         have := quotedP_le m (d :: r) (by simp at hl ⊢; omega) y.1 y.2 hx
         rw [hx] at h
         simp only [Option.map_some, Option.some.injEq, Prod.mk.injEq] at h
         obtain ⟨rfl, rfl⟩ := h
         simp at this ⊢; omega
      · cases h
def localP (l : List UInt8) : Option (List UInt8 × Nat) :=
 if l.getD 0 0 = 34 then (match quotedP (l.drop 1) with
  | some (t, k) => if t = [] then none else some (t, 1 + k)
  | none => none)
 else (atomsP l).map fun k => (l.take k, k)
def mailboxP (l : List UInt8) : Option (List UInt8 × Nat × Nat) :=
 match localP l with
 | none => none
 | some (t, k) => if l.getD k 0 = 64 then (domP (l.drop (k + 1))).map fun d => (t, d, k + 1 + d) else none
theorem atomsP_pos {l : List UInt8} {k : Nat} (h : atomsP l = some k) : 0 < k ∧ k ≤ l.length := by
 have hT : ∀ m (l : List UInt8), l.length ≤ m → ∀ k, atomsT l = some k → k ≤ l.length := by
  intro m
  induction m with
  | zero => intro l hl k h; obtain rfl : l = [] := List.eq_nil_of_length_eq_zero (by omega); rw [atomsT] at h; cases h; simp
  | succ m ih =>
   intro l hl k h
   match l, h with
   | [], h => rw [atomsT] at h; cases h; simp
   | c :: r, h =>
    rw [atomsT] at h
    split at h
    · split at h
      · cases h
      · have hs := spanLen_le atomB r
        cases hx : atomsT (r.drop (spanLen atomB r)) with
        | none => rw [hx] at h; cases h
        | some y =>
         rw [hx] at h
         have := ih (r.drop (spanLen atomB r)) (by simp at hl ⊢; omega) y hx
         simp at h this ⊢
         omega
    · cases h; simp
 unfold atomsP at h
 split at h
 · cases h
 · have hs := spanLen_le atomB l
   cases hx : atomsT (l.drop (spanLen atomB l)) with
   | none => rw [hx] at h; cases h
   | some y =>
    rw [hx] at h
    have := hT _ _ (Nat.le_refl _) y hx
    simp at h this
    omega
end Go.Proofs.YtfbicbgdfcbhpaaGreatDoor
set_option maxRecDepth 20000
set_option linter.unusedVariables false
set_option linter.unusedSimpArgs false
set_option linter.unusedSectionVars false
namespace Go.Proofs.YtfbicbgdfcbhpaaGreatDoor
open Go.ChangeShapes Go.WideShapes Go.ChangeAt Go.RowKit
theorem digit_calls (c : UInt8) (w : World) : Calls Tryz.prog 127 #[.int .u8 (c.toNat : Int)] w fun r w' => r = .returned (.bool (digitB c)) ∧ w = w' := by
 go_enter Tryz.func127, Tryz.ntmps127
 go_wp2
 all_goals (go_returns; refine ⟨rb ?_, rfl⟩; go_light; unfold digitB; first | (simp; done) | (rw [Bool.eq_iff_iff]; simp; omega))
theorem plain_calls (c : UInt8) (w : World) : Calls Tryz.prog 137 #[.int .u8 (c.toNat : Int)] w fun r w' => r = .returned (.bool (plainB c)) ∧ w = w' := by
 go_enter Tryz.func137, Tryz.ntmps137
 go_wp2
 all_goals (go_returns; refine ⟨rb ?_, rfl⟩; go_light; unfold plainB; first | (simp; done) | (rw [Bool.eq_iff_iff]; simp; omega))
theorem rplain_calls (c : UInt8) (w : World) : Calls Tryz.prog 143 #[.int .u8 (c.toNat : Int)] w fun r w' => r = .returned (.bool (plainB c)) ∧ w = w' := by
 go_enter Tryz.func143, Tryz.ntmps143
 go_wp2
 all_goals (go_returns; refine ⟨rb ?_, rfl⟩; go_light; unfold plainB; first | (simp; done) | (rw [Bool.eq_iff_iff]; simp; omega))
theorem alnum_calls (c : UInt8) (w : World) : Calls Tryz.prog 135 #[.int .u8 (c.toNat : Int)] w fun r w' => r = .returned (.bool (alnumB c)) ∧ w = w' := by
 go_enter Tryz.func135, Tryz.ntmps135
 go_wp2
 all_goals (go_returns; refine ⟨rb ?_, rfl⟩; go_light; unfold alnumB letterB digitB; first | (simp; done) | (rw [Bool.eq_iff_iff]; simp; omega))
theorem letter_bits (c : UInt8) : decide (97 ≤ bits .or .u8 (c.toNat : Int) 32 ∧ bits .or .u8 (c.toNat : Int) 32 ≤ 122) = letterB c := by
 have h : ∀ n : Fin 256, decide (97 ≤ bits .or .u8 (n.val : Int) 32 ∧ bits .or .u8 (n.val : Int) 32 ≤ 122) = decide ((97 ≤ n.val ∧ n.val ≤ 122) ∨ (65 ≤ n.val ∧ n.val ≤ 90)) := by decide +kernel
 exact h ⟨c.toNat, c.toNat_lt⟩
theorem letter_calls (c : UInt8) (w : World) : Calls Tryz.prog 126 #[.int .u8 (c.toNat : Int)] w fun r w' => r = .returned (.bool (letterB c)) ∧ w = w' := by
 go_enter Tryz.func126, Tryz.ntmps126
 go_wp2
 all_goals (go_returns; refine ⟨rb ?_, rfl⟩; go_light; rw [← letter_bits]; first | (simp; done) | (rw [Bool.eq_iff_iff]; simp; omega))
theorem others_calls (c : UInt8) (w : World) : Calls Tryz.prog 88 #[.string ⟨#[33, 35, 36, 37, 38, 39, 42, 43, 45, 47, 61, 63, 94, 95, 96, 123, 124, 125, 126]⟩, .int .u8 (c.toNat : Int)] w fun r w' => r = .returned (.int .i64 (Lib.indexByte othersL c)) ∧ w = w' :=
 (Tryz.strings_IndexByte ⟨#[33, 35, 36, 37, 38, 39, 42, 43, 45, 47, 61, 63, 94, 95, 96, 123, 124, 125, 126]⟩ (c.toNat : Int) w).mono fun e w' ⟨h1, h2⟩ => ⟨by
  rw [h1]
  have : ((c.toNat : Int)).toNat.toUInt8 = c := by simp
  rw [this]; rfl, h2.symm⟩
theorem atext_calls (c : UInt8) (w : World) : Calls Tryz.prog 157 #[.int .u8 (c.toNat : Int)] w fun r w' => r = .returned (.bool (atomB c)) ∧ w = w' := by
 have hk := Lib.hid (Lib.contains_iff_indexByte othersL c)
 go_enter Tryz.func157, Tryz.ntmps157
 go_wp2_with first
  | (go_at_call 126; ((with_reducible refine (letter_calls _ _).mono ?_); rintro _ _ ⟨rfl, rfl⟩))
  | (go_at_call 127; ((with_reducible refine (digit_calls _ _).mono ?_); rintro _ _ ⟨rfl, rfl⟩))
  | (go_at_call 88; ((with_reducible refine (others_calls _ _).mono ?_); rintro _ _ ⟨rfl, rfl⟩))
 all_goals (go_returns; refine ⟨rb ?_, rfl⟩; go_light; unfold atomB alnumB; first | (rw [hk.out]; simp_all; done) | (simp_all; done))
end Go.Proofs.YtfbicbgdfcbhpaaGreatDoor
