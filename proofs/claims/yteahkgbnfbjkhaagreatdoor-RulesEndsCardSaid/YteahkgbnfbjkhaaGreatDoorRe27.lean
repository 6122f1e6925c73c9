/-
  AddrText, ReplyNum, ReplyEnh, ReplyAtoi.
-/
import Derived.Test.YteahkgbnfbjkhaaGreatDoorRe26
import Derived.Lib.SlicesS
import Derived.Test.YteahkgbnfbjkhaaGreatDoorRe00
import Derived.Lib.AtoiAll
import Derived.Lib.AtoiTie
import Derived.Lib.ItoaMem
import Derived.Lib.Split
import Derived.Test.YteahkgbnfbjkhaaGreatDoorRe03
import Derived.Test.YteahkgbnfbjkhaaGreatDoorRe15
set_option maxRecDepth 20000
set_option linter.unusedVariables false
set_option linter.unusedSimpArgs false
set_option linter.unusedSectionVars false
namespace Go.Proofs.YteahkgbnfbjkhaaGreatDoor
open Go.ChangeShapes Go.WideShapes Go.ChangeAt Go.RowKit
theorem writtenS_size (x : ByteArray) : (writtenS x).size ≤ 2 * x.size + 2 := by
 unfold writtenS
 split
 · omega
 · rw [size_bytes]
   have := escL_len x.data.toList
   simp at this ⊢
   omega
def textS (x y : ByteArray) : ByteArray := if goodB x y = true then writtenS x ++ ⟨#[64]⟩ ++ y else ⟨#[]⟩
def textE (x y : ByteArray) : Int := if goodB x y = true then 0 else 3
set_option maxHeartbeats 2000000 in
theorem text_calls (x y : ByteArray) (hx : x.size ≤ 40000000000000) (hy : y.size ≤ 40000000000000) (w : World) : Calls Tryz.prog 126 #[.agg #[.string x, .string y]] w fun r w' => r = .returned (.tuple #[.string (textS x y), .int .i64 (textE x y)]) ∧ Below w.heap.size w w' := by
 have hg := good_calls x y (by omega) (by omega)
 have hw := Lib.hid (written_calls x hx)
 have hws := writtenS_size x
 have hws2 : (writtenS x).size ≤ 100000000000000 := by omega
 clear hws
 unfold textS textE
 generalize writtenS x = u at *
 cases hb : goodB x y
 · rw [hb] at hg
   replace hg := Lib.hid hg
   clear hb
   go_enter Tryz.func126, Tryz.ntmps126
   go_wp2_with (go_at_call 66; ((refine (hg.out _).mono ?_); rintro r w1 ⟨rfl, hb⟩; obtain ⟨b1, b1d, rfl⟩ := of_below hb; clear hb))
   go_returns
   exact ⟨rfl, by (repeat' (first | (with_reducible exact Below.refl _ _) | (with_reducible refine Below.app ?_ ?_ _ _) | (with_reducible refine Below.alloc ?_ ?_ _) | (with_reducible refine Below.drew ?_) | (with_reducible refine Below.setCell ?_ ?_ _) | (with_reducible assumption) | omega | (simp; omega) | (simp; done)))⟩
 · rw [hb] at hg
   replace hg := Lib.hid hg
   clear hb
   go_enter Tryz.func126, Tryz.ntmps126
   go_wp2_with (go_at_call 66; ((refine (hg.out _).mono ?_); rintro r w1 ⟨rfl, hb⟩; obtain ⟨b1, b1d, rfl⟩ := of_below hb; clear hb))
   (apply wp_region_text 9; kernel_rfl; kernel_rfl; intro Fin hFin; (repeat (first | (apply text_run; exact rfl; (focus (intro bs d hF K hK; (repeat rw [app_app] at hK); (repeat rw [app_app]); (repeat rw [Array.append_assoc] at hK); (repeat rw [Array.append_assoc]); go_step; first  | (go_at_call 177; ((with_reducible refine (hw.out _).mono ?_); rintro r w1 ⟨rfl, hb⟩; simp only []; exact hK _ hb))  | (refine hK _ ?_; (repeat' (first | (with_reducible exact Below.refl _ _) | (with_reducible refine Below.app ?_ ?_ _ _) | (with_reducible refine Below.alloc ?_ ?_ _) | (with_reducible refine Below.drew ?_) | (with_reducible refine Below.setCell ?_ ?_ _) | (with_reducible assumption) | omega | (simp; omega) | (simp; done)))))); (try simp only [Act.put, List.setIfInBounds_toArray, List.set_cons_zero, List.set_cons_succ])) | (apply text_skip; exact rfl; (try simp only [Act.put, List.setIfInBounds_toArray, List.set_cons_zero, List.set_cons_succ])))); apply text_end; apply hFin; clear hFin Fin; intro bs d hfa)
   go_wp2
   go_returns
   exact ⟨rfl, by (repeat' (first | (with_reducible exact Below.refl _ _) | (with_reducible refine Below.app ?_ ?_ _ _) | (with_reducible refine Below.alloc ?_ ?_ _) | (with_reducible refine Below.drew ?_) | (with_reducible refine Below.setCell ?_ ?_ _) | (with_reducible assumption) | omega | (simp; omega) | (simp; done)))⟩
theorem textS_size (x y : ByteArray) : (textS x y).size ≤ 2 * x.size + 3 + y.size := by
 have := writtenS_size x
 unfold textS
 split
 · have h1 : (⟨#[64]⟩ : ByteArray).size = 1 := rfl
   rw [ByteArray.size_append, ByteArray.size_append, h1]; omega
 · exact Nat.zero_le _
end Go.Proofs.YteahkgbnfbjkhaaGreatDoor
set_option maxRecDepth 20000
set_option linter.unusedVariables false
set_option linter.unusedSimpArgs false
set_option linter.unusedSectionVars false
namespace Go.Proofs.YteahkgbnfbjkhaaGreatDoor
def digC (c : UInt8) : Bool := decide (48 ≤ c.toNat ∧ c.toNat ≤ 57)
theorem dig_ok {c : UInt8} (h : digC c = true) : 48 ≤ c.toNat ∧ c.toNat ≤ 57 := of_decide_eq_true h
def valN (acc : Nat) : List UInt8 → Nat
 | [] => acc
 | c :: r => valN (acc * 10 + (c.toNat - 48)) r
def canonB (p : List UInt8) : Bool := p.all digC && (decide (1 ≤ p.length ∧ p.length ≤ 3) && (decide (p.length = 1) || !decide (p.head? = some 48)))
theorem valN_lt : ∀ (p : List UInt8) (acc k : Nat), p.all digC = true → acc < 10 ^ k → valN acc p < 10 ^ (k + p.length)
 | [], acc, k, _, h => h
 | c :: r, acc, k, ha, h => by
  rw [List.all_cons, Bool.and_eq_true] at ha
  have hc := dig_ok ha.1
  have := valN_lt r (acc * 10 + (c.toNat - 48)) (k + 1) ha.2 (by rw [Nat.pow_succ]; omega)
  rw [List.length_cons, show k + (r.length + 1) = k + 1 + r.length by omega]
  show valN (acc * 10 + (c.toNat - 48)) r < _
  exact this
theorem parse_val : ∀ (p : List UInt8) (acc k : Nat), p.all digC = true → acc < 10 ^ k → p.length + k ≤ 18 → Lib.parseUint10 acc p = .ok (valN acc p)
 | [], acc, k, _, _, _ => rfl
 | c :: r, acc, k, ha, h, hl => by
  rw [List.all_cons, Bool.and_eq_true] at ha
  have hc := dig_ok ha.1
  have h17 : (10 : Nat) ^ k ≤ 10 ^ 17 := Nat.pow_le_pow_right (by omega) (by simp at hl; omega)
  have h1 : acc * 10 + (c.toNat - 48) < 10 ^ (k + 1) := by rw [Nat.pow_succ]; omega
  rw [Lib.parseUint10, if_pos hc, if_neg (by omega), if_neg (by omega)]
  exact parse_val r _ (k + 1) ha.2 h1 (by simp at hl; omega)
theorem canon_parts {p : List UInt8} (h : canonB p = true) : p.all digC = true ∧ 1 ≤ p.length ∧ p.length ≤ 3 ∧ (p.length = 1 ∨ p.head? ≠ some 48) := by
 unfold canonB at h
 simp only [Bool.and_eq_true, Bool.or_eq_true, decide_eq_true_eq, Bool.not_eq_true', decide_eq_false_iff_not] at h
 exact ⟨h.1, h.2.1.1, h.2.1.2, h.2.2⟩
theorem canon_atoi {p : List UInt8} (h : canonB p = true) : Lib.atoiAll p = .ok (valN 0 p : Int) ∧ valN 0 p < 1000 := by
 obtain ⟨ha, h1, h3, _⟩ := canon_parts h
 have hv := valN_lt p 0 0 ha (by decide)
 have hv2 : valN 0 p < 1000 := Nat.lt_of_lt_of_le hv (Nat.pow_le_pow_right (by omega) (by omega) : (10 : Nat) ^ (0 + p.length) ≤ 10 ^ 3)
 refine ⟨?_, hv2⟩
 have hp := parse_val p 0 0 ha (by decide) (by omega)
 cases p with
 | nil => simp at h1
 | cons c r =>
  rw [List.all_cons, Bool.and_eq_true] at ha
  have hc := dig_ok ha.1
  unfold Lib.atoiAll
  simp only
  rw [if_neg (by omega), show Lib.parseMag (c :: r) = .ok (valN 0 (c :: r)) by unfold Lib.parseMag; rw [if_neg (by simp)]; exact hp]
  simp only
  rw [if_neg (by omega), if_neg (by omega), if_neg (by omega)]
theorem digit_back {c : UInt8} (h : digC c = true) {n : Nat} (hn : n = c.toNat - 48) : UInt8.ofNat (48 + n) = c := by
 have := dig_ok h
 subst hn
 rw [← UInt8.toNat_inj, UInt8.toNat_ofNat']
 omega
theorem canon_itoa {p : List UInt8} (h : canonB p = true) : Lib.itoa (valN 0 p : Int) = p := by
 rw [Lib.itoa_nonneg]
 obtain ⟨ha, h1, h3, h4⟩ := canon_parts h
 match p, h1, h3 with
 | [a], _, _ =>
  simp only [List.all_cons, List.all_nil, Bool.and_true] at ha
  have := dig_ok ha
  show Lib.decDigits (0 * 10 + (a.toNat - 48)) = _
  rw [Lib.decDigits_one (by omega), digit_back ha (by omega)]
 | [a, b], _, _ =>
  simp only [List.all_cons, List.all_nil, Bool.and_true, Bool.and_eq_true] at ha
  have ha1 := dig_ok ha.1
  have hb1 := dig_ok ha.2
  have hz : a.toNat ≠ 48 := by
   rcases h4 with h4 | h4
   · simp at h4
   · intro e; apply h4; simp; rw [← UInt8.toNat_inj]; exact e
  show Lib.decDigits ((0 * 10 + (a.toNat - 48)) * 10 + (b.toNat - 48)) = _
  rw [Lib.decDigits_two (by omega) (by omega), digit_back ha.1 (by omega), digit_back ha.2 (by omega)]
 | [a, b, c], _, _ =>
  simp only [List.all_cons, List.all_nil, Bool.and_true, Bool.and_eq_true] at ha
  have ha1 := dig_ok ha.1
  have hb1 := dig_ok ha.2.1
  have hc1 := dig_ok ha.2.2
  have hz : a.toNat ≠ 48 := by
   rcases h4 with h4 | h4
   · simp at h4
   · intro e; apply h4; simp; rw [← UInt8.toNat_inj]; exact e
  show Lib.decDigits (((0 * 10 + (a.toNat - 48)) * 10 + (b.toNat - 48)) * 10 + (c.toNat - 48)) = _
  rw [Lib.decDigits, dif_neg (by omega), Lib.decDigits_two (by omega) (by omega), digit_back ha.1 (by omega), digit_back ha.2.1 (by omega), digit_back ha.2.2 (by omega)]
  rfl
theorem dig_of {n : Nat} (h : n < 10) : digC (UInt8.ofNat (48 + n)) = true := by
 unfold digC
 rw [UInt8.toNat_ofNat', decide_eq_true_eq]; omega
theorem head_of {n : Nat} (h : n < 10) (h0 : n ≠ 0) : UInt8.ofNat (48 + n) ≠ 48 := by
 intro e
 have := congrArg UInt8.toNat e
 rw [UInt8.toNat_ofNat'] at this
 simp at this; omega
theorem dec_canon {v : Nat} (h : (Lib.decDigits v).length ≤ 3) : canonB (Lib.decDigits v) = true := by
 have hnn := Lib.decDigits_length v
 by_cases h1 : v < 10
 · rw [Lib.decDigits_one h1]
   have e1 := dig_of h1
   generalize UInt8.ofNat (48 + v) = a at *
   simp [canonB, e1]
 · by_cases h2 : v < 100
   · rw [Lib.decDigits_two h1 h2]
     have e0 := head_of (n := v / 10) (by omega) (by omega)
     have e1 := dig_of (show v / 10 < 10 by omega)
     have e2 := dig_of (show v % 10 < 10 by omega)
     generalize UInt8.ofNat (48 + v / 10) = a at *
     generalize UInt8.ofNat (48 + v % 10) = b at *
     simp [canonB, e0, e1, e2]
   · by_cases h3 : v < 1000
     · rw [Lib.decDigits, dif_neg h1, Lib.decDigits_two (by omega) (by omega)]
       have e0 := head_of (n := v / 10 / 10) (by omega) (by omega)
       have e1 := dig_of (show v / 10 / 10 < 10 by omega)
       have e2 := dig_of (show v / 10 % 10 < 10 by omega)
       have e3 := dig_of (show v % 10 < 10 by omega)
       generalize UInt8.ofNat (48 + v / 10 / 10) = a at *
       generalize UInt8.ofNat (48 + v / 10 % 10) = b at *
       generalize UInt8.ofNat (48 + v % 10) = c at *
       simp [canonB, e0, e1, e2, e3]
     · exfalso
       rw [Lib.nDigits_big h1, Lib.nDigits_big (by omega), Lib.nDigits_big (by omega)] at hnn
       have : 1 ≤ Lib.nDigits (v / 10 / 10 / 10) := by unfold Lib.nDigits; split <;> omega
       omega
theorem canon_of {p : List UInt8} {v : Int} (h3 : p.length ≤ 3) (h0 : 0 ≤ v) (hi : Lib.itoa v = p) : canonB p = true := by
 obtain ⟨n, rfl⟩ : ∃ n : Nat, v = n := ⟨v.toNat, by omega⟩
 rw [Lib.itoa_nonneg] at hi
 subst hi
 exact dec_canon h3
end Go.Proofs.YteahkgbnfbjkhaaGreatDoor
set_option maxRecDepth 20000
set_option linter.unusedVariables false
set_option linter.unusedSimpArgs false
set_option linter.unusedSectionVars false
namespace Go.Proofs.YteahkgbnfbjkhaaGreatDoor
theorem splitK_le : ∀ (k : Nat) (t x : List UInt8), x ∈ Lib.splitK [46] 0 k t → x.length ≤ t.length
 | 0, t, x, h => by
  rw [Lib.splitK, List.mem_singleton] at h; subst h; exact Nat.le_refl _
 | k + 1, t, x, h => by
  rw [Lib.splitK] at h
  split at h
  · rw [List.mem_singleton] at h; subst h; exact Nat.le_refl _
  · rcases List.mem_cons.1 h with rfl | h2
    · rw [List.length_take]; omega
    · have := splitK_le k _ x h2
      rw [List.length_drop] at this; omega
theorem split_le (t x : List UInt8) (h : x ∈ Lib.split t [46]) : x.length ≤ t.length := splitK_le _ _ _ h
def enhQ (l : List UInt8) : Option (Nat × Nat × Nat) := match Lib.split l [46] with
 | [p, q, r] => if (canonB p && (canonB q && (canonB r && decide (valN 0 p = 2 ∨ valN 0 p = 4 ∨ valN 0 p = 5)))) = true then some (valN 0 p, valN 0 q, valN 0 r) else none
 | _ => none
theorem enhQ_three {l p q r : List UInt8} (h : Lib.split l [46] = [p, q, r]) : enhQ l = if (canonB p && (canonB q && (canonB r && decide (valN 0 p = 2 ∨ valN 0 p = 4 ∨ valN 0 p = 5)))) = true then some (valN 0 p, valN 0 q, valN 0 r) else none := by
 unfold enhQ; rw [h]
theorem enhQ_other {l : List UInt8} (h : (Lib.split l [46]).length ≠ 3) : enhQ l = none := by
 unfold enhQ
 split
 · next p q r e => rw [e] at h; simp at h
 · rfl
end Go.Proofs.YteahkgbnfbjkhaaGreatDoor
set_option maxRecDepth 20000
set_option linter.unusedVariables false
set_option linter.unusedSimpArgs false
set_option linter.unusedSectionVars false
namespace Go.Proofs.YteahkgbnfbjkhaaGreatDoor
open Go.ChangeShapes Go.WideShapes Go.ChangeAt Go.RowKit
theorem bytesWorld_or {w w' : World} {e : TypeId} (h : w' = w ∨ ∃ t, w' = Lib.bytesWorld w e t) : Below w.heap.size w w' := by
 rcases h with rfl | ⟨t, rfl⟩
 · exact Below.refl _ _
 · exact Lib.bytesWorld_below _ _ _
theorem atoi_ok {l : List UInt8} {v : Int} (h : Lib.atoiAll l = .ok v) (hl : l.length ≤ 100000000) (w : World) :
 Calls Tryz.prog 130 #[.string ⟨l.toArray⟩] w fun e w' => e = .returned (.tuple #[.int .i64 v, .nilIface]) ∧ Below w.heap.size w w' :=
 (Tryz.strconv_Atoi_ok ⟨l.toArray⟩ (by show l.toArray.size ≤ _; rw [List.size_toArray]; omega) v h w).mono fun _ _ ⟨h1, h2⟩ => ⟨h1, bytesWorld_or h2⟩
theorem atoi_no {l : List UInt8} (h : ∀ v, Lib.atoiAll l ≠ .ok v) (hl : l.length ≤ 100000000) {w : World} (hw : LibAt w) :
 Calls Tryz.prog 130 #[.string ⟨l.toArray⟩] w fun e w' => ∃ v t p, e = .returned (.tuple #[.int .i64 v, .iface t p]) ∧ Below w.heap.size w w' := by
 have hlim : (⟨l.toArray⟩ : ByteArray).size ≤ 281474976710656 := by show l.toArray.size ≤ _; rw [List.size_toArray]; omega
 rcases hx : Lib.atoiAll l with v | _ | _
 · exact absurd hx (h v)
 · obtain ⟨ev, h1, h2⟩ := hw.syn
   exact (Any.strconv_Atoi_syntax Tryz.laysC172 ⟨l.toArray⟩ hlim hx ev w h1 h2).mono fun _ _ ⟨N, h3, _, _, h4⟩ => ⟨_, _, _, h3, h4⟩
 · obtain ⟨ev, h1, h2⟩ := hw.rng
   exact (Tryz.strconv_Atoi_range ⟨l.toArray⟩ hlim hx ev w h1 h2).mono fun _ _ ⟨N, h3, _, _, h4⟩ => ⟨_, _, _, h3, h4⟩
theorem itoa_below {w w' : World} (h : ∃ k os, w' = Go.Sort.grow (w.drewN k) os) : Below w.heap.size w w' := by
 obtain ⟨k, os, rfl⟩ := h
 exact Lib.below_grow _ w (Nat.le_refl _) k os
theorem itoa_calls (n : Int) (h0 : -9223372036854775808 ≤ n) (h1 : n ≤ 9223372036854775807) {w : World} (hw : LibAt w) :
 Calls Tryz.prog 90 #[.int .i64 n] w fun e w' => e = .returned (.string ⟨(Lib.itoa n).toArray⟩) ∧ Below w.heap.size w w' :=
 (Tryz.strconv_Itoa n h0 h1 w hw.pow).mono fun _ _ ⟨h2, h3⟩ => ⟨h2, itoa_below h3⟩
theorem splitB_list (s sep : ByteArray) : Lib.splitB sep 0 (Lib.countB s sep) s = (Lib.split s.data.toList sep.data.toList).map fun x => ⟨x.toArray⟩ := by
 have h := Lib.splitB_data sep 0 (Lib.countB s sep) s
 have h2 : Lib.split s.data.toList sep.data.toList = (Lib.splitB sep 0 (Lib.countB s sep) s).map (·.data.toList) := h.symm
 rw [h2, List.map_map]
 conv => lhs; rw [← List.map_id (Lib.splitB sep 0 (Lib.countB s sep) s)]
 exact List.map_congr_left fun _ _ => rfl
theorem splitPt_calls (l : List UInt8) (c : UInt8) (hl : l.length ≤ 100000000) {w : World} (hw : LibAt w) :
 Calls Tryz.prog 129 #[.string ⟨l.toArray⟩, .string ⟨#[c]⟩] w fun e w' =>
  e = .returned (.slice (some ⟨w.heap.size, 0, none⟩) (Lib.split l [c]).length (Lib.split l [c]).length) ∧
  w' = w.alloc (.cells ((Lib.split l [c]).map fun x => Value.string ⟨x.toArray⟩).toArray 9) := by
 obtain ⟨m, hm⟩ := hw.max
 have hs := splitB_list ⟨l.toArray⟩ ⟨#[c]⟩
 have hlen := Lib.splitB_all ⟨#[c]⟩ (Nat.le_refl 1) 0 _ (⟨l.toArray⟩ : ByteArray) rfl
 rw [hs, List.length_map] at hlen
 refine (Tryz.strings_Split ⟨l.toArray⟩ ⟨#[c]⟩ m w (by show l.toArray.size < _; rw [List.size_toArray]; omega) hm (Nat.le_refl 1)).mono fun e w' ⟨h1, h2⟩ => ⟨?_, ?_⟩
 · rw [h1, ← hlen]
 · rw [h2, hs, List.map_map]; rfl
end Go.Proofs.YteahkgbnfbjkhaaGreatDoor
