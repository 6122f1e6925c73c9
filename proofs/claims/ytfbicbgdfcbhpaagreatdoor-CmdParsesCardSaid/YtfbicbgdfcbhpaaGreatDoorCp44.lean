/-
  CmAwake, CmParses, CxOk, FitG.
-/
import Derived.Test.YtfbicbgdfcbhpaaGreatDoorCp40
import Derived.Test.YtfbicbgdfcbhpaaGreatDoorCp43
import Derived.Test.YtfbicbgdfcbhpaaGreatDoorCp36
import Derived.Test.YtfbicbgdfcbhpaaGreatDoorCp07
import Derived.Test.YtfbicbgdfcbhpaaGreatDoorCp08
set_option maxRecDepth 20000
set_option linter.unusedVariables false
set_option linter.unusedSimpArgs false
set_option linter.unusedSectionVars false
namespace Go.Proofs.YtfbicbgdfcbhpaaGreatDoor
open SC CM
namespace AX
theorem aw1 : (parseQ [109, 97, 105, 108, 32, 102, 114, 111, 109, 58, 60, 97, 64, 120, 62, 32, 115, 105, 122, 101, 61, 53]) = (⟨4, [], [97], [120], false, 5, 0⟩, 0) := by kernel_rfl
theorem aw2 : (parseQ [77, 65, 73, 76, 32, 70, 82, 79, 77, 58, 32, 60, 97, 64, 120, 62]).2 = 501 := by kernel_rfl
theorem aw3 : (parseQ [82, 67, 80, 84, 32, 84, 79, 58, 60, 97, 64, 120, 62, 32, 88]).2 = 555 := by kernel_rfl
theorem aw4 : (parseQ [70, 79, 79]).2 = 500 := by kernel_rfl
theorem awake_at (n : Nat) (hn : 6000 ≤ n) : acall AXE AXF (n + 1) 13 [] [] = some (.one (.bool true), []) := by
  rw [f13_eq]
  obtain ⟨k, rfl⟩ : ∃ k, n = k + 1 := ⟨n - 1, by omega⟩
  have h := fun l => Parse_at k l (by omega)
  have a1 := h [109, 97, 105, 108, 32, 102, 114, 111, 109, 58, 60, 97, 64, 120, 62, 32, 115, 105, 122, 101, 61, 53]
  have a2 := h [77, 65, 73, 76, 32, 70, 82, 79, 77, 58, 32, 60, 97, 64, 120, 62]
  have a3 := h [82, 67, 80, 84, 32, 84, 79, 58, 60, 97, 64, 120, 62, 32, 88]
  have a4 := h [70, 79, 79]
  unfold lineV at a1 a2 a3 a4
  rw [aw1] at a1
  rw [aw2] at a2
  rw [aw3] at a3
  rw [aw4] at a4
  rw [f13_L, f13_T]
  rw [callK_some a1, castTup_tup, consK_cons, aggV_agg, takeS_api_Cmd_cells_nil, nilK_nil, zI_cons, nilK_nil,
    callK_some a2, castTup_tup, consK_cons, aggV_agg, takeS_api_Cmd_cells_nil, nilK_nil, zI_cons, nilK_nil,
    callK_some a3, castTup_tup, consK_cons, aggV_agg, takeS_api_Cmd_cells_nil, nilK_nil, zI_cons, nilK_nil,
    callK_some a4, castTup_tup, consK_cons, aggV_agg, takeS_api_Cmd_cells_nil, nilK_nil, zI_cons, nilK_nil]
  rfl
end AX
end Go.Proofs.YtfbicbgdfcbhpaaGreatDoor
set_option maxRecDepth 20000
set_option linter.unusedVariables false
set_option linter.unusedSimpArgs false
set_option linter.unusedSectionVars false
namespace Go.Proofs.YtfbicbgdfcbhpaaGreatDoor
open SC CM
namespace AX
theorem same_cmd (x : S_api_Cmd) : ((x.fVerb == x.fVerb) && ((x.fArg == x.fArg) && (((x.fPath_Local == x.fPath_Local) && ((x.fPath_Domain == x.fPath_Domain) && true)) && ((x.fNull == x.fNull) && ((x.fSize == x.fSize) && ((x.fBody == x.fBody) && true)))))) = true := by simp
structure ParsesCalls (call : CallF) : Prop where
  awake : call 13 [] [] = some (.one (.bool true), [])
  parse : ∀ l : List UInt8, call 14 [.one (.str l)] [] = lineV (parseQ l)
  rparse : ∀ l : List UInt8, call 15 [.one (.str l)] [] = lineG (parseQ l)
  verb : ∀ l : List UInt8, l.length ≤ 1000 → call 16 [.one (.str l)] [] = some (.one (.int .i64 (verbQ l : Nat)), [])
  rverb : ∀ l : List UInt8, l.length ≤ 1000 → call 17 [.one (.str l)] [] = some (.one (.int .i64 (verbQ l : Nat)), [])
theorem parses_core {call : CallF} {n : Nat} (hC : ParsesCalls call) (l : List UInt8) : f4_L call n l = some (.one (.bool true), []) := by
  rw [f4_L, f4_T, callK_some hC.awake, oB_one, Bool.not_true, cond_false]
  by_cases h : 700 < l.length
  · rw [decide_eq_true (by omega), cond_true]
  · rw [decide_eq_false (by omega), cond_false]
    have h1 := hC.parse l
    have h2 := hC.rparse l
    generalize parseQ l = x at h1 h2
    obtain ⟨x, k⟩ := x
    unfold lineV at h1
    unfold lineG gotV at h2
    rw [callK_some h1, castTup_tup, consK_cons, aggV_agg, takeS_api_Cmd_cells_nil, nilK_nil, zI_cons, nilK_nil, callK_some h2, castAgg_agg, takeS_ref06_Got_cells_nil, nilK_nil, same_cmd, cond_true, beq_self_eq_true, cond_true,
      callK_some (hC.verb l (by omega)), oI_one, callK_some (hC.rverb l (by omega)), oI_one, beq_self_eq_true]
    rfl
theorem parses_law (l : List UInt8) : acall AXE AXF 10001 4 [.one (.str l)] [] = some (.one (.bool true), []) := by
  rw [show (10001 : Nat) = 10000 + 1 from rfl, f4_eq]
  exact parses_core ⟨awake_at 9999 (by omega), fun l => Parse_at 9999 l (by omega), fun l => rParse_at 9999 l (by omega), fun l hl => Verb_at 9999 l (by omega) (by omega), fun l hl => rVerb_at 9999 l (by omega) (by omega)⟩ l
end AX
end Go.Proofs.YtfbicbgdfcbhpaaGreatDoor
set_option maxRecDepth 20000
set_option linter.unusedVariables false
set_option linter.unusedSimpArgs false
set_option linter.unusedSectionVars false
namespace Go.Proofs.YtfbicbgdfcbhpaaGreatDoor
namespace AX
theorem f4_ok [Inv] : FunOk Tryz.prog 4 ⟨⟨f4_b, f4_r, f4_h⟩, f4_d, 35, f4_bx⟩ :=
  ⟨⟨Tryz.f4, by kernel_rfl, by kernel_rfl, by kernel_rfl, by kernel_rfl, by kernel_rfl, of_decide_eq_true (by kernel_rfl)⟩⟩
theorem f5_ok [Inv] : FunOk Tryz.prog 5 ⟨⟨f5_b, f5_r, f5_h⟩, f5_d, 61, f5_bx⟩ :=
  ⟨⟨Tryz.f5, by kernel_rfl, by kernel_rfl, by kernel_rfl, by kernel_rfl, by kernel_rfl, of_decide_eq_true (by kernel_rfl)⟩⟩
theorem f13_ok [Inv] : FunOk Tryz.prog 13 ⟨⟨f13_b, f13_r, f13_h⟩, f13_d, 60, f13_bx⟩ :=
  ⟨⟨Tryz.f13, by kernel_rfl, by kernel_rfl, by kernel_rfl, by kernel_rfl, by kernel_rfl, of_decide_eq_true (by kernel_rfl)⟩⟩
theorem f14_ok [Inv] : FunOk Tryz.prog 14 ⟨⟨f14_b, f14_r, f14_h⟩, f14_d, 73, f14_bx⟩ :=
  ⟨⟨Tryz.f14, by kernel_rfl, by kernel_rfl, by kernel_rfl, by kernel_rfl, by kernel_rfl, of_decide_eq_true (by kernel_rfl)⟩⟩
theorem f15_ok [Inv] : FunOk Tryz.prog 15 ⟨⟨f15_b, f15_r, f15_h⟩, f15_d, 93, f15_bx⟩ :=
  ⟨⟨Tryz.f15, by kernel_rfl, by kernel_rfl, by kernel_rfl, by kernel_rfl, by kernel_rfl, of_decide_eq_true (by kernel_rfl)⟩⟩
theorem f16_ok [Inv] : FunOk Tryz.prog 16 ⟨⟨f16_b, f16_r, f16_h⟩, f16_d, 24, f16_bx⟩ :=
  ⟨⟨Tryz.f16, by kernel_rfl, by kernel_rfl, by kernel_rfl, by kernel_rfl, by kernel_rfl, of_decide_eq_true (by kernel_rfl)⟩⟩
theorem f17_ok [Inv] : FunOk Tryz.prog 17 ⟨⟨f17_b, f17_r, f17_h⟩, f17_d, 14, f17_bx⟩ :=
  ⟨⟨Tryz.f17, by kernel_rfl, by kernel_rfl, by kernel_rfl, by kernel_rfl, by kernel_rfl, of_decide_eq_true (by kernel_rfl)⟩⟩
theorem f18_ok [Inv] : FunOk Tryz.prog 18 ⟨⟨f18_b, f18_r, f18_h⟩, f18_d, 89, f18_bx⟩ :=
  ⟨⟨Tryz.f18, by kernel_rfl, by kernel_rfl, by kernel_rfl, by kernel_rfl, by kernel_rfl, of_decide_eq_true (by kernel_rfl)⟩⟩
theorem f19_ok [Inv] : FunOk Tryz.prog 19 ⟨⟨f19_b, f19_r, f19_h⟩, f19_d, 85, f19_bx⟩ :=
  ⟨⟨Tryz.f19, by kernel_rfl, by kernel_rfl, by kernel_rfl, by kernel_rfl, by kernel_rfl, of_decide_eq_true (by kernel_rfl)⟩⟩
theorem f33_ok [Inv] : FunOk Tryz.prog 33 ⟨⟨f33_b, f33_r, f33_h⟩, f33_d, 19, f33_bx⟩ :=
  ⟨⟨Tryz.f33, by kernel_rfl, by kernel_rfl, by kernel_rfl, by kernel_rfl, by kernel_rfl, of_decide_eq_true (by kernel_rfl)⟩⟩
theorem f34_ok [Inv] : FunOk Tryz.prog 34 ⟨⟨f34_b, f34_r, f34_h⟩, f34_d, 4, f34_bx⟩ :=
  ⟨⟨Tryz.f34, by kernel_rfl, by kernel_rfl, by kernel_rfl, by kernel_rfl, by kernel_rfl, of_decide_eq_true (by kernel_rfl)⟩⟩
theorem f36_ok [Inv] : FunOk Tryz.prog 36 ⟨⟨f36_b, f36_r, f36_h⟩, f36_d, 26, f36_bx⟩ :=
  ⟨⟨Tryz.f36, by kernel_rfl, by kernel_rfl, by kernel_rfl, by kernel_rfl, by kernel_rfl, of_decide_eq_true (by kernel_rfl)⟩⟩
theorem f37_ok [Inv] : FunOk Tryz.prog 37 ⟨⟨f37_b, f37_r, f37_h⟩, f37_d, 62, f37_bx⟩ :=
  ⟨⟨Tryz.f37, by kernel_rfl, by kernel_rfl, by kernel_rfl, by kernel_rfl, by kernel_rfl, of_decide_eq_true (by kernel_rfl)⟩⟩
theorem f38_ok [Inv] : FunOk Tryz.prog 38 ⟨⟨f38_b, f38_r, f38_h⟩, f38_d, 21, f38_bx⟩ :=
  ⟨⟨Tryz.f38, by kernel_rfl, by kernel_rfl, by kernel_rfl, by kernel_rfl, by kernel_rfl, of_decide_eq_true (by kernel_rfl)⟩⟩
theorem f40_ok [Inv] : FunOk Tryz.prog 40 ⟨⟨f40_b, f40_r, f40_h⟩, f40_d, 49, f40_bx⟩ :=
  ⟨⟨Tryz.f40, by kernel_rfl, by kernel_rfl, by kernel_rfl, by kernel_rfl, by kernel_rfl, of_decide_eq_true (by kernel_rfl)⟩⟩
theorem f41_ok [Inv] : FunOk Tryz.prog 41 ⟨⟨f41_b, f41_r, f41_h⟩, f41_d, 57, f41_bx⟩ :=
  ⟨⟨Tryz.f41, by kernel_rfl, by kernel_rfl, by kernel_rfl, by kernel_rfl, by kernel_rfl, of_decide_eq_true (by kernel_rfl)⟩⟩
theorem f42_ok [Inv] : FunOk Tryz.prog 42 ⟨⟨f42_b, f42_r, f42_h⟩, f42_d, 29, f42_bx⟩ :=
  ⟨⟨Tryz.f42, by kernel_rfl, by kernel_rfl, by kernel_rfl, by kernel_rfl, by kernel_rfl, of_decide_eq_true (by kernel_rfl)⟩⟩
theorem f43_ok [Inv] : FunOk Tryz.prog 43 ⟨⟨f43_b, f43_r, f43_h⟩, f43_d, 2, f43_bx⟩ :=
  ⟨⟨Tryz.f43, by kernel_rfl, by kernel_rfl, by kernel_rfl, by kernel_rfl, by kernel_rfl, of_decide_eq_true (by kernel_rfl)⟩⟩
theorem f44_ok [Inv] : FunOk Tryz.prog 44 ⟨⟨f44_b, f44_r, f44_h⟩, f44_d, 9, f44_bx⟩ :=
  ⟨⟨Tryz.f44, by kernel_rfl, by kernel_rfl, by kernel_rfl, by kernel_rfl, by kernel_rfl, of_decide_eq_true (by kernel_rfl)⟩⟩
theorem f45_ok [Inv] : FunOk Tryz.prog 45 ⟨⟨f45_b, f45_r, f45_h⟩, f45_d, 29, f45_bx⟩ :=
  ⟨⟨Tryz.f45, by kernel_rfl, by kernel_rfl, by kernel_rfl, by kernel_rfl, by kernel_rfl, of_decide_eq_true (by kernel_rfl)⟩⟩
theorem f49_ok [Inv] : FunOk Tryz.prog 49 ⟨⟨f49_b, f49_r, f49_h⟩, f49_d, 25, f49_bx⟩ :=
  ⟨⟨Tryz.f49, by kernel_rfl, by kernel_rfl, by kernel_rfl, by kernel_rfl, by kernel_rfl, of_decide_eq_true (by kernel_rfl)⟩⟩
theorem f72_ok [Inv] : FunOk Tryz.prog 72 ⟨⟨f72_b, f72_r, f72_h⟩, f72_d, 61, f72_bx⟩ :=
  ⟨⟨Tryz.f72, by kernel_rfl, by kernel_rfl, by kernel_rfl, by kernel_rfl, by kernel_rfl, of_decide_eq_true (by kernel_rfl)⟩⟩
theorem f75_ok [Inv] : FunOk Tryz.prog 75 ⟨⟨f75_b, f75_r, f75_h⟩, f75_d, 109, f75_bx⟩ :=
  ⟨⟨Tryz.f75, by kernel_rfl, by kernel_rfl, by kernel_rfl, by kernel_rfl, by kernel_rfl, of_decide_eq_true (by kernel_rfl)⟩⟩
theorem f99_ok [Inv] : FunOk Tryz.prog 99 ⟨⟨f99_b, f99_r, f99_h⟩, f99_d, 33, f99_bx⟩ :=
  ⟨⟨Tryz.f99, by kernel_rfl, by kernel_rfl, by kernel_rfl, by kernel_rfl, by kernel_rfl, of_decide_eq_true (by kernel_rfl)⟩⟩
theorem f100_ok [Inv] : FunOk Tryz.prog 100 ⟨⟨f100_b, f100_r, f100_h⟩, f100_d, 10, f100_bx⟩ :=
  ⟨⟨Tryz.f100, by kernel_rfl, by kernel_rfl, by kernel_rfl, by kernel_rfl, by kernel_rfl, of_decide_eq_true (by kernel_rfl)⟩⟩
theorem f101_ok [Inv] : FunOk Tryz.prog 101 ⟨⟨f101_b, f101_r, f101_h⟩, f101_d, 49, f101_bx⟩ :=
  ⟨⟨Tryz.f101, by kernel_rfl, by kernel_rfl, by kernel_rfl, by kernel_rfl, by kernel_rfl, of_decide_eq_true (by kernel_rfl)⟩⟩
theorem f106_ok [Inv] : FunOk Tryz.prog 106 ⟨⟨f106_b, f106_r, f106_h⟩, f106_d, 37, f106_bx⟩ :=
  ⟨⟨Tryz.f106, by kernel_rfl, by kernel_rfl, by kernel_rfl, by kernel_rfl, by kernel_rfl, of_decide_eq_true (by kernel_rfl)⟩⟩
theorem f107_ok [Inv] : FunOk Tryz.prog 107 ⟨⟨f107_b, f107_r, f107_h⟩, f107_d, 40, f107_bx⟩ :=
  ⟨⟨Tryz.f107, by kernel_rfl, by kernel_rfl, by kernel_rfl, by kernel_rfl, by kernel_rfl, of_decide_eq_true (by kernel_rfl)⟩⟩
theorem AXF_ok [Inv] : ∀ f x, AXF f = some x → FunOk Tryz.prog f x := by
  unfold AXF
  exact funOk_cons f4_ok (funOk_cons f5_ok (funOk_cons f13_ok (funOk_cons f14_ok (funOk_cons f15_ok (funOk_cons f16_ok (funOk_cons f17_ok (funOk_cons f18_ok (funOk_cons f19_ok (funOk_cons f33_ok (funOk_cons f34_ok (funOk_cons f36_ok (funOk_cons f37_ok (funOk_cons f38_ok (funOk_cons f40_ok (funOk_cons f41_ok (funOk_cons f42_ok (funOk_cons f43_ok (funOk_cons f44_ok (funOk_cons f45_ok (funOk_cons f49_ok (funOk_cons f72_ok (funOk_cons f75_ok (funOk_cons f99_ok (funOk_cons f100_ok (funOk_cons f101_ok (funOk_cons f106_ok (funOk_cons f107_ok (funOk_nil))))))))))))))))))))))))))))
theorem AXE_T : tysOk Tryz.prog AXE.T = true := by kernel_rfl
theorem AXE_eqs : ∀ t ∈ AXE.eqs, (Tryz.prog).stoodInHeld t = false ∧ (Tryz.prog).eqGuardType (Tryz.prog).depth t = false ∧ ∀ f ∈ ((Tryz.prog).fieldsOf t).toList, f.name ≠ "_" := by
  intro t ht
  have ht : t ∈ ([38, 40] : List Nat) := ht
  simp only [List.mem_cons, List.not_mem_nil, or_false] at ht
  rcases ht with rfl | rfl <;> exact ⟨by kernel_rfl, by kernel_rfl, of_decide_eq_true (by kernel_rfl)⟩
theorem AXE_ok : EnvOk Tryz.prog AXE := ⟨AXE_T, AXE_eqs, primOk_cons pCut_ok (primOk_cons pADomain_ok (primOk_cons pRDomain_ok (primOk_cons pAPath_ok (primOk_cons pItoa_ok (primOk_cons pRPath_ok (primOk_cons pSplit_ok (primOk_cons pContains_ok (primOk_cons pARead_ok (primOk_cons pRRead_ok (primOk_cons pParseU_ok (primOk_nil))))))))))), primHOk_nil, primSOk_nil⟩
end AX
end Go.Proofs.YtfbicbgdfcbhpaaGreatDoor
set_option maxRecDepth 20000
set_option linter.unusedVariables false
set_option linter.unusedSimpArgs false
set_option linter.unusedSectionVars false
namespace Go.Proofs.YtfbicbgdfcbhpaaGreatDoor
open Go.ChangeMaps Go.ChangeShapes Go.WideShapes Go.ChangeAt Go.RowKit
namespace AX
theorem fit_str {T : List (Nat × TI)} {t : Nat} {x : AV} (ht : tyN T t = some .str) (h : FitT T t x) : ∃ l : List UInt8, x = .one (.str l) ∧ l.length ≤ maxLen := by
  obtain ⟨ti, h1, h2⟩ := h
  rw [ht] at h1
  cases h1
  obtain ⟨c, rfl, h3⟩ := h2
  cases h3
  exact ⟨_, rfl, ‹_›⟩
end AX
end Go.Proofs.YtfbicbgdfcbhpaaGreatDoor
