/-
  strconv.Atoi, strconv.Itoa, for the reckoning.
-/
import Derived.Test.YtfbicbgdfcbhpaaDoorLpBase
import Derived.Test.YtfbicbgdfcbhpaaDoorShelf
import Derived.Lib.AtoiAll
import Derived.Lib.AtoiTie
import Derived.Lib.ItoaMem
set_option maxRecDepth 20000
set_option linter.unusedVariables false
set_option linter.unusedSimpArgs false
set_option linter.unusedSectionVars false
namespace Go.Proofs.YtfbicbgdfcbhpaaDoor
open Go.ChangeShapes Go.WideShapes Go.ChangeAt Go.RowKit
namespace AX
theorem lp_bytesWorld {w w' : World} {e : TypeId} (h : w' = w ∨ ∃ t, w' = Lib.bytesWorld w e t) : Below w.heap.size w w' := by
  rcases h with rfl | ⟨t, rfl⟩
  · exact Below.refl _ _
  · exact Lib.bytesWorld_below _ _ _
def atoiV (l : List UInt8) : Int × Bool :=
  match Lib.atoiAll l with
  | .ok v => (v, false)
  | .range => (Lib.atoiSat l, true)
  | _ => (0, true)
def pAtoi : List AV → Option AV
  | [.one (.str l)] => bif decide (l.length ≤ 100000000) then some (.tup [.one (.int .i64 (atoiV l).1), .one (.err (atoiV l).2)]) else none
  | _ => none
theorem pAtoi_ok : PrimOk Tryd.prog 96 pAtoi := by
  refine ⟨fun args v h M w vals hI hl hA => ?_, ⟨Tryd.f96, by kernel_rfl, by kernel_rfl, of_decide_eq_true (by kernel_rfl)⟩⟩
  unfold pAtoi at h
  split at h
  · rename_i l
    obtain ⟨hd, rfl⟩ := bif_some h
    have hd := of_decide_eq_true hd
    obtain ⟨u, rfl, hu⟩ := hA.one
    obtain rfl := Rc.str_inv hu
    have hsz := baOf_size l
    have hlim : (baOf l).size ≤ 281474976710656 := by omega
    have hW : LibAt w := hI
    rcases hx : Lib.atoiAll l with v | _ | _
    · have e : atoiV l = (v, false) := by unfold atoiV; rw [hx]
      rw [e]
      exact (Tryd.strconv_Atoi_ok (baOf l) (by omega) v (by rw [baOf_list]; exact hx) w).mono fun _ w' ⟨h1, h2⟩ => ⟨_, M, h1, same_grow hl (lp_bytesWorld h2), two_rv (.data (.int _ _)) (.data .errN)⟩
    · have e : atoiV l = (0, true) := by unfold atoiV; rw [hx]
      rw [e]
      obtain ⟨ev, h1, h2⟩ := hW.syn
      exact (Any.strconv_Atoi_syntax Tryd.laysC172 (baOf l) hlim (by rw [baOf_list]; exact hx) ev w h1 h2).mono fun _ w' ⟨N, h3, _, _, h4⟩ => ⟨_, M, h3, same_grow hl h4, two_rv (.data (.int _ _)) (.data (.errS _ _))⟩
    · have e : atoiV l = (Lib.atoiSat l, true) := by unfold atoiV; rw [hx]
      rw [e]
      obtain ⟨ev, h1, h2⟩ := hW.rng
      exact (Tryd.strconv_Atoi_range (baOf l) hlim (by rw [baOf_list]; exact hx) ev w h1 h2).mono fun _ w' ⟨N, h3, _, _, h4⟩ => ⟨_, M, h3, same_grow hl h4, two_rv (by rw [baOf_list]; exact .data (.int _ _)) (.data (.errS _ _))⟩
  · cases h
def pItoa : List AV → Option AV
  | [.one (.int .i64 n)] => bif decide (-9223372036854775808 ≤ n) && decide (n ≤ 9223372036854775807) then some (.one (.str (Lib.itoa n))) else none
  | _ => none
theorem lp_itoa_below {w w' : World} (h : ∃ k os, w' = Go.Sort.grow (w.drewN k) os) : Below w.heap.size w w' := by
  obtain ⟨k, os, rfl⟩ := h
  exact Lib.below_grow _ w (Nat.le_refl _) k os
theorem pItoa_ok : PrimOk Tryd.prog 52 pItoa := by
  refine ⟨fun args v h M w vals hI hl hA => ?_, ⟨Tryd.f52, by kernel_rfl, by kernel_rfl, of_decide_eq_true (by kernel_rfl)⟩⟩
  unfold pItoa at h
  split at h
  · rename_i n
    obtain ⟨hd, rfl⟩ := bif_some h
    rw [Bool.and_eq_true, decide_eq_true_eq, decide_eq_true_eq] at hd
    obtain ⟨u, rfl, hu⟩ := hA.one
    obtain rfl := Rc.int_inv hu
    have hW : LibAt w := hI
    exact (Tryd.strconv_Itoa n hd.1 hd.2 w hW.pow).mono fun _ w' ⟨h2, h3⟩ => ⟨_, M, h2, same_grow hl (lp_itoa_below h3), .data (.str _)⟩
  · cases h
end AX
end Go.Proofs.YtfbicbgdfcbhpaaDoor
