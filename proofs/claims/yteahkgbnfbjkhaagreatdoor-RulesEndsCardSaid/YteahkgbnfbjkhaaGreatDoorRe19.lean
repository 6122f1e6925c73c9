/-
  DsnHead, ClockDig.
-/
import Derived.Test.YteahkgbnfbjkhaaGreatDoorRe18
import Derived.Test.YteahkgbnfbjkhaaGreatDoorProg
import Derived.Test.YteahkgbnfbjkhaaGreatDoorRe00
import Derived.Laws.IdiomStrings
import Derived.Laws.Concat
set_option maxRecDepth 20000
set_option linter.unusedVariables false
set_option linter.unusedSimpArgs false
set_option linter.unusedSectionVars false
namespace Go.Proofs.YteahkgbnfbjkhaaGreatDoor
open Go.ChangeShapes Go.WideShapes Go.ChangeAt Go.RowKit
def dheadB (l : List UInt8) : Bool := decide (l.length ≤ 32768) && (!anyC (stripC l) && (decide (l.length = 0) || Lib.hasSuffix l [13, 10]))
theorem suffix_calls {w : World} {q : Option Addr} {cap g : Nat} {l : List UInt8} (hb : BytesAt w q cap l) (hl : l.length ≤ 100000000) (h0 : l ≠ []) (hs : BytesAt w (some ⟨g, 0, none⟩) 2 [13, 10]) :
 Calls Tryz.prog 138 #[.slice q l.length cap, .slice (some ⟨g, 0, none⟩) 2 2] w fun e w' => e = .returned (.bool (Lib.hasSuffix l [13, 10])) ∧ w' = w := by
 obtain ⟨bb, off, rfl, h2, h3⟩ := hb.cell h0
 have h3 := bytes_atD hb rfl
 have h4 := bytes_atD hs rfl
 refine (Tryz.bytes_HasSuffix bb off l.length cap g 0 2 2 (l.map fun c => (c.toNat : Int)) (([13, 10] : List UInt8).map fun c => (c.toNat : Int)) w (by simp) (by simp) hb.cap (by omega) (fun i hi => ?_) (fun i hi => ?_)).mono fun e w' ⟨h1, h2⟩ => ⟨?_, h2⟩
 · have := h3 i hi; rwa [Addr.add_lit] at this
 · have := h4 i hi; rwa [Addr.add_lit] at this
 · rw [h1, bytesOf_natD, bytesOf_natD]
set_option maxHeartbeats 2000000 in
theorem isHead_calls {w : World} {q : Option Addr} {cap : Nat} {l : List UInt8} (hb : BytesAt w q cap l) (hl : l.length ≤ 100000000) (hw : LibAt w) (ha : (stripC l).length ≤ 8 → ∀ c ∈ stripC l, c.toNat < 128) :
 Calls Tryz.prog 69 #[.slice q l.length cap] w fun r w' => r = .returned (.bool (dheadB l)) ∧ Below w.heap.size w w' := by
 have hbg : ∀ W : World, Below w.heap.size w W → Below w.heap.size w (W.alloc (.cells #[.int .u8 13, .int .u8 10] 5 (2, 3))) := fun W h => h.alloc h.size _
 have hsl : (stripC l).length ≤ l.length := by
  have := cutAll_len (Lib.count l [13, 10]) l _ (Nat.lt_succ_self _) rfl
  rw [cut_strip (Lib.count l [13, 10]) l _ (Nat.lt_succ_self _) rfl] at this
  omega
 have hrep := Lib.hid (replaceAll_calls (hb.below (hbg w (Below.refl _ _))) hl (bytes_new w [13, 10] _ _ _ rfl) (hw.below (hbg w (Below.refl _ _))))
 have hany := Lib.hid (fun (W : World) p c (h : BytesAt W p c (stripC l)) => containsAny_calls h (by omega) ha)
 have hsuf := Lib.hid (fun (W : World) (hW : Below w.heap.size w W) (h0 : l ≠ []) => suffix_calls (hb.below (hbg W hW)) hl h0 (bytes_new W [13, 10] _ _ _ rfl))
 have hl0 : ∀ x : Nat, (x : Int) = (l.length : Int) → x = l.length := fun x h => by omega
 clear hb ha hw
 have kc := fun (w : World) (C : Array Value) (n c g : Nat) (hg : g = w.heap.size) => Joins.run_convert_bytes_const_at (P := Tryz.prog) w 29 5 C n c g hg rfl rfl
 go_enter Tryz.func69, Tryz.ntmps69
 go_wp2_with first
  | (go_at_call 136; ((refine hrep.out.mono ?_); rintro r w1 ⟨p, c, rfl, h1, h2⟩; have h2' : Below w.heap.size w w1 := (hbg w (Below.refl _ _)).trans (h2.mono (by simp))))
  | (go_at_call 137; ((refine (hany.out _ _ _ h1).mono ?_); rintro r w2 ⟨rfl, h3⟩; have h4 : Below w.heap.size w w2 := h2'.trans (h3.mono h2'.size)))
  | (go_at_call 138; ((refine (hsuf.out _ h4 ?h0).mono ?_); rotate_left; rintro r w3 ⟨rfl, hw3⟩; subst hw3))
 all_goals first
  | assumption
  | (go_returns; refine ⟨rb ?_, by first | assumption | exact hbg _ h4⟩)
 all_goals unfold dheadB
 all_goals clear hrep hany hsuf hbg kc hl0
 · simp_all
 · simp_all [anyC, stripC]
 · rename_i h1 h2 h3
   have h4 : l.length ≠ 0 := fun e => h3 (List.eq_nil_of_length_eq_zero e)
   rw [decide_eq_true (by omega), Bool.not_eq_true] at *
   rw [h2, decide_eq_false h4, show ((l.length : Int) == 0) = false by rw [beq_eq_false_iff_ne]; omega]; rfl
 · rw [decide_eq_false (by omega)]; rfl
end Go.Proofs.YteahkgbnfbjkhaaGreatDoor
set_option maxRecDepth 20000
set_option linter.unusedVariables false
set_option linter.unusedSimpArgs false
set_option linter.unusedSectionVars false
namespace Go.Proofs.YteahkgbnfbjkhaaGreatDoor
open Go.ChangeShapes Go.WideShapes Go.ChangeAt Go.RowKit
def dgt (v : Int) : UInt8 := UInt8.ofNat (48 + v % 10).toNat
theorem dgt_nat (v : Int) : ((dgt v).toNat : Int) = 48 + v % 10 := by
 unfold dgt
 have : (48 + v % 10).toNat < 256 := by omega
 simp [UInt8.toNat_ofNat', Nat.mod_eq_of_lt this]; omega
def dig2 (v : Int) : ByteArray := ⟨#[dgt (v / 10), dgt v]⟩
def dig4 (v : Int) : ByteArray := ⟨#[dgt (v / 10 / 10 / 10), dgt (v / 10 / 10), dgt (v / 10), dgt v]⟩
theorem make2 (w : World) : (Instr.makeSlice 29 (.int .i64 2) (.int .i64 2)).run Tryz.prog w = .ok (.slice (some ⟨w.heap.size, 0, none⟩) 2 2) (w.alloc (.cells #[.int .u8 0, .int .u8 0] 5)) :=
 (run_make (P := Tryz.prog) w 29 5 _ _ rfl rfl rfl .i64 .i64 2 2 (by decide) (by decide) (by decide) (by decide)).trans (congrArg (fun c => Result.ok (Value.slice (some ⟨w.heap.size, 0, none⟩) 2 2) (w.alloc (.cells c 5))) (show _ = (#[.int .u8 0, .int .u8 0] : Array Value) from by kernel_rfl))
theorem make4 (w : World) : (Instr.makeSlice 29 (.int .i64 4) (.int .i64 4)).run Tryz.prog w = .ok (.slice (some ⟨w.heap.size, 0, none⟩) 4 4) (w.alloc (.cells #[.int .u8 0, .int .u8 0, .int .u8 0, .int .u8 0] 5)) :=
 (run_make (P := Tryz.prog) w 29 5 _ _ rfl rfl rfl .i64 .i64 4 4 (by decide) (by decide) (by decide) (by decide)).trans (congrArg (fun c => Result.ok (Value.slice (some ⟨w.heap.size, 0, none⟩) 4 4) (w.alloc (.cells c 5))) (show _ = (#[.int .u8 0, .int .u8 0, .int .u8 0, .int .u8 0] : Array Value) from by kernel_rfl))
theorem back2 (w : World) (b a : Int) : (convert 29 9 (.slice (some ⟨w.heap.size, 0, none⟩) 2 2)).run Tryz.prog (w.alloc (.cells #[.int .u8 (48 + b % 10), .int .u8 (48 + a % 10)] 5)) = .ok (.string ⟨#[dgt b, dgt a]⟩) (w.alloc (.cells #[.int .u8 (48 + b % 10), .int .u8 (48 + a % 10)] 5)) := by
 have h := run_convert_bytes_back (P := Tryz.prog) (w.alloc (.cells #[.int .u8 (48 + b % 10), .int .u8 (48 + a % 10)] 5)) 29 9 5 ⟨w.heap.size, 0, none⟩ 2 [dgt b, dgt a] rfl rfl rfl (fun j hj => by
  rw [show (⟨w.heap.size, 0, none⟩ : Addr).add j = ⟨w.heap.size, j, none⟩ by simp [Addr.add]; exact fun h => h.symm, World.cell?_alloc_mark]
  match j, hj with
  | 0, _ => simp [dgt_nat]
  | 1, _ => simp [dgt_nat])
 simpa using h
theorem back4 (w : World) (d c b a : Int) : (convert 29 9 (.slice (some ⟨w.heap.size, 0, none⟩) 4 4)).run Tryz.prog (w.alloc (.cells #[.int .u8 (48 + d % 10), .int .u8 (48 + c % 10), .int .u8 (48 + b % 10), .int .u8 (48 + a % 10)] 5)) = .ok (.string ⟨#[dgt d, dgt c, dgt b, dgt a]⟩) (w.alloc (.cells #[.int .u8 (48 + d % 10), .int .u8 (48 + c % 10), .int .u8 (48 + b % 10), .int .u8 (48 + a % 10)] 5)) := by
 have h := run_convert_bytes_back (P := Tryz.prog) (w.alloc (.cells #[.int .u8 (48 + d % 10), .int .u8 (48 + c % 10), .int .u8 (48 + b % 10), .int .u8 (48 + a % 10)] 5)) 29 9 5 ⟨w.heap.size, 0, none⟩ 4 [dgt d, dgt c, dgt b, dgt a] rfl rfl rfl (fun j hj => by
  rw [show (⟨w.heap.size, 0, none⟩ : Addr).add j = ⟨w.heap.size, j, none⟩ by simp [Addr.add]; exact fun h => h.symm, World.cell?_alloc_mark]
  match j, hj with
  | 0, _ => simp [dgt_nat]
  | 1, _ => simp [dgt_nat]
  | 2, _ => simp [dgt_nat]
  | 3, _ => simp [dgt_nat])
 simpa using h
set_option maxHeartbeats 2000000 in
theorem digits2_calls (v : Int) (h0 : 0 ≤ v) (h1 : v ≤ 9999) (w : World) : Calls Tryz.prog 132 #[.int .i64 v, .int .i64 2] w
 fun r w' => r = .returned (.string (dig2 v)) ∧ Below w.heap.size w w' := by
 have hmk := make2
 have hbk := back2 w (v / 10) v
 go_enter Tryz.func132, Tryz.ntmps132
 go_wp2
 refine wp_loop_rounds 3 ?_
 rw [rounds_succ]
 go_wp2
 rw [rounds_succ]
 go_wp2
 rw [rounds_succ]
 go_wp2
 go_returns; exact ⟨rfl, by (repeat' (first | (with_reducible exact Below.refl _ _) | (with_reducible refine Below.app ?_ ?_ _ _) | (with_reducible refine Below.alloc ?_ ?_ _) | (with_reducible refine Below.drew ?_) | (with_reducible refine Below.setCell ?_ ?_ _) | (with_reducible assumption) | omega | (simp; omega) | (simp; done)))⟩
set_option maxHeartbeats 2000000 in
theorem digits4_calls (v : Int) (h0 : 0 ≤ v) (h1 : v ≤ 9999) (w : World) : Calls Tryz.prog 132 #[.int .i64 v, .int .i64 4] w
 fun r w' => r = .returned (.string (dig4 v)) ∧ Below w.heap.size w w' := by
 have hmk := make4
 have hbk := back4 w (v / 10 / 10 / 10) (v / 10 / 10) (v / 10) v
 go_enter Tryz.func132, Tryz.ntmps132
 go_wp2
 refine wp_loop_rounds 5 ?_
 rw [rounds_succ]
 go_wp2
 rw [rounds_succ]
 go_wp2
 rw [rounds_succ]
 go_wp2
 rw [rounds_succ]
 go_wp2
 rw [rounds_succ]
 go_wp2
 go_returns; exact ⟨rfl, by (repeat' (first | (with_reducible exact Below.refl _ _) | (with_reducible refine Below.app ?_ ?_ _ _) | (with_reducible refine Below.alloc ?_ ?_ _) | (with_reducible refine Below.drew ?_) | (with_reducible refine Below.setCell ?_ ?_ _) | (with_reducible assumption) | omega | (simp; omega) | (simp; done)))⟩
end Go.Proofs.YteahkgbnfbjkhaaGreatDoor
