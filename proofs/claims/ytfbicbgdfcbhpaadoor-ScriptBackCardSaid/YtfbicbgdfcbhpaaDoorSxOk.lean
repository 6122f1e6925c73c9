/-
  The tables are the program, and the functions of the library are what is said of them.
-/
import Derived.Test.YtfbicbgdfcbhpaaDoorSxFun
import Derived.Test.YtfbicbgdfcbhpaaDoorAV24
set_option maxRecDepth 20000
set_option linter.unusedVariables false
set_option linter.unusedSimpArgs false
set_option linter.unusedSectionVars false
namespace Go.Proofs.YtfbicbgdfcbhpaaDoor
namespace AX
theorem f4_ok [Inv] : FunOk Tryd.prog 4 ⟨⟨f4_b, f4_r, f4_h⟩, f4_d, 142, f4_bx⟩ :=
  ⟨⟨Tryd.f4, by kernel_rfl, by kernel_rfl, by kernel_rfl, by kernel_rfl, by kernel_rfl, of_decide_eq_true (by kernel_rfl)⟩⟩
theorem f7_ok [Inv] : FunOk Tryd.prog 7 ⟨⟨f7_b, f7_r, f7_h⟩, f7_d, 83, f7_bx⟩ :=
  ⟨⟨Tryd.f7, by kernel_rfl, by kernel_rfl, by kernel_rfl, by kernel_rfl, by kernel_rfl, of_decide_eq_true (by kernel_rfl)⟩⟩
theorem f10_ok [Inv] : FunOk Tryd.prog 10 ⟨⟨f10_b, f10_r, f10_h⟩, f10_d, 101, f10_bx⟩ :=
  ⟨⟨Tryd.f10, by kernel_rfl, by kernel_rfl, by kernel_rfl, by kernel_rfl, by kernel_rfl, of_decide_eq_true (by kernel_rfl)⟩⟩
theorem f12_ok [Inv] : FunOk Tryd.prog 12 ⟨⟨f12_b, f12_r, f12_h⟩, f12_d, 47, f12_bx⟩ :=
  ⟨⟨Tryd.f12, by kernel_rfl, by kernel_rfl, by kernel_rfl, by kernel_rfl, by kernel_rfl, of_decide_eq_true (by kernel_rfl)⟩⟩
theorem f14_ok [Inv] : FunOk Tryd.prog 14 ⟨⟨f14_b, f14_r, f14_h⟩, f14_d, 40, f14_bx⟩ :=
  ⟨⟨Tryd.f14, by kernel_rfl, by kernel_rfl, by kernel_rfl, by kernel_rfl, by kernel_rfl, of_decide_eq_true (by kernel_rfl)⟩⟩
theorem f15_ok [Inv] : FunOk Tryd.prog 15 ⟨⟨f15_b, f15_r, f15_h⟩, f15_d, 11, f15_bx⟩ :=
  ⟨⟨Tryd.f15, by kernel_rfl, by kernel_rfl, by kernel_rfl, by kernel_rfl, by kernel_rfl, of_decide_eq_true (by kernel_rfl)⟩⟩
theorem f16_ok [Inv] : FunOk Tryd.prog 16 ⟨⟨f16_b, f16_r, f16_h⟩, f16_d, 30, f16_bx⟩ :=
  ⟨⟨Tryd.f16, by kernel_rfl, by kernel_rfl, by kernel_rfl, by kernel_rfl, by kernel_rfl, of_decide_eq_true (by kernel_rfl)⟩⟩
theorem f8_ok [Inv] : FunOk Tryd.prog 8 ⟨⟨f8_b, f8_r, f8_h⟩, f8_d, 43, f8_bx⟩ :=
  ⟨⟨Tryd.f8, by kernel_rfl, by kernel_rfl, by kernel_rfl, by kernel_rfl, by kernel_rfl, of_decide_eq_true (by kernel_rfl)⟩⟩
theorem f11_ok [Inv] : FunOk Tryd.prog 11 ⟨⟨f11_b, f11_r, f11_h⟩, f11_d, 31, f11_bx⟩ :=
  ⟨⟨Tryd.f11, by kernel_rfl, by kernel_rfl, by kernel_rfl, by kernel_rfl, by kernel_rfl, of_decide_eq_true (by kernel_rfl)⟩⟩
theorem f30_ok [Inv] : FunOk Tryd.prog 30 ⟨⟨f30_b, f30_r, f30_h⟩, f30_d, 26, f30_bx⟩ :=
  ⟨⟨Tryd.f30, by kernel_rfl, by kernel_rfl, by kernel_rfl, by kernel_rfl, by kernel_rfl, of_decide_eq_true (by kernel_rfl)⟩⟩
theorem f21_ok [Inv] : FunOk Tryd.prog 21 ⟨⟨f21_b, f21_r, f21_h⟩, f21_d, 2, f21_bx⟩ :=
  ⟨⟨Tryd.f21, by kernel_rfl, by kernel_rfl, by kernel_rfl, by kernel_rfl, by kernel_rfl, of_decide_eq_true (by kernel_rfl)⟩⟩
theorem f22_ok [Inv] : FunOk Tryd.prog 22 ⟨⟨f22_b, f22_r, f22_h⟩, f22_d, 97, f22_bx⟩ :=
  ⟨⟨Tryd.f22, by kernel_rfl, by kernel_rfl, by kernel_rfl, by kernel_rfl, by kernel_rfl, of_decide_eq_true (by kernel_rfl)⟩⟩
theorem f31_ok [Inv] : FunOk Tryd.prog 31 ⟨⟨f31_b, f31_r, f31_h⟩, f31_d, 125, f31_bx⟩ :=
  ⟨⟨Tryd.f31, by kernel_rfl, by kernel_rfl, by kernel_rfl, by kernel_rfl, by kernel_rfl, of_decide_eq_true (by kernel_rfl)⟩⟩
theorem f32_ok [Inv] : FunOk Tryd.prog 32 ⟨⟨f32_b, f32_r, f32_h⟩, f32_d, 80, f32_bx⟩ :=
  ⟨⟨Tryd.f32, by kernel_rfl, by kernel_rfl, by kernel_rfl, by kernel_rfl, by kernel_rfl, of_decide_eq_true (by kernel_rfl)⟩⟩
theorem f43_ok [Inv] : FunOk Tryd.prog 43 ⟨⟨f43_b, f43_r, f43_h⟩, f43_d, 2, f43_bx⟩ :=
  ⟨⟨Tryd.f43, by kernel_rfl, by kernel_rfl, by kernel_rfl, by kernel_rfl, by kernel_rfl, of_decide_eq_true (by kernel_rfl)⟩⟩
theorem f44_ok [Inv] : FunOk Tryd.prog 44 ⟨⟨f44_b, f44_r, f44_h⟩, f44_d, 77, f44_bx⟩ :=
  ⟨⟨Tryd.f44, by kernel_rfl, by kernel_rfl, by kernel_rfl, by kernel_rfl, by kernel_rfl, of_decide_eq_true (by kernel_rfl)⟩⟩
theorem f45_ok [Inv] : FunOk Tryd.prog 45 ⟨⟨f45_b, f45_r, f45_h⟩, f45_d, 103, f45_bx⟩ :=
  ⟨⟨Tryd.f45, by kernel_rfl, by kernel_rfl, by kernel_rfl, by kernel_rfl, by kernel_rfl, of_decide_eq_true (by kernel_rfl)⟩⟩
theorem f46_ok [Inv] : FunOk Tryd.prog 46 ⟨⟨f46_b, f46_r, f46_h⟩, f46_d, 15, f46_bx⟩ :=
  ⟨⟨Tryd.f46, by kernel_rfl, by kernel_rfl, by kernel_rfl, by kernel_rfl, by kernel_rfl, of_decide_eq_true (by kernel_rfl)⟩⟩
theorem f47_ok [Inv] : FunOk Tryd.prog 47 ⟨⟨f47_b, f47_r, f47_h⟩, f47_d, 33, f47_bx⟩ :=
  ⟨⟨Tryd.f47, by kernel_rfl, by kernel_rfl, by kernel_rfl, by kernel_rfl, by kernel_rfl, of_decide_eq_true (by kernel_rfl)⟩⟩
theorem f53_ok [Inv] : FunOk Tryd.prog 53 ⟨⟨f53_b, f53_r, f53_h⟩, f53_d, 4, f53_bx⟩ :=
  ⟨⟨Tryd.f53, by kernel_rfl, by kernel_rfl, by kernel_rfl, by kernel_rfl, by kernel_rfl, of_decide_eq_true (by kernel_rfl)⟩⟩
theorem f54_ok [Inv] : FunOk Tryd.prog 54 ⟨⟨f54_b, f54_r, f54_h⟩, f54_d, 61, f54_bx⟩ :=
  ⟨⟨Tryd.f54, by kernel_rfl, by kernel_rfl, by kernel_rfl, by kernel_rfl, by kernel_rfl, of_decide_eq_true (by kernel_rfl)⟩⟩
theorem f55_ok [Inv] : FunOk Tryd.prog 55 ⟨⟨f55_b, f55_r, f55_h⟩, f55_d, 6, f55_bx⟩ :=
  ⟨⟨Tryd.f55, by kernel_rfl, by kernel_rfl, by kernel_rfl, by kernel_rfl, by kernel_rfl, of_decide_eq_true (by kernel_rfl)⟩⟩
theorem f57_ok [Inv] : FunOk Tryd.prog 57 ⟨⟨f57_b, f57_r, f57_h⟩, f57_d, 26, f57_bx⟩ :=
  ⟨⟨Tryd.f57, by kernel_rfl, by kernel_rfl, by kernel_rfl, by kernel_rfl, by kernel_rfl, of_decide_eq_true (by kernel_rfl)⟩⟩
theorem f58_ok [Inv] : FunOk Tryd.prog 58 ⟨⟨f58_b, f58_r, f58_h⟩, f58_d, 26, f58_bx⟩ :=
  ⟨⟨Tryd.f58, by kernel_rfl, by kernel_rfl, by kernel_rfl, by kernel_rfl, by kernel_rfl, of_decide_eq_true (by kernel_rfl)⟩⟩
theorem f69_ok [Inv] : FunOk Tryd.prog 69 ⟨⟨f69_b, f69_r, f69_h⟩, f69_d, 28, f69_bx⟩ :=
  ⟨⟨Tryd.f69, by kernel_rfl, by kernel_rfl, by kernel_rfl, by kernel_rfl, by kernel_rfl, of_decide_eq_true (by kernel_rfl)⟩⟩
theorem f70_ok [Inv] : FunOk Tryd.prog 70 ⟨⟨f70_b, f70_r, f70_h⟩, f70_d, 39, f70_bx⟩ :=
  ⟨⟨Tryd.f70, by kernel_rfl, by kernel_rfl, by kernel_rfl, by kernel_rfl, by kernel_rfl, of_decide_eq_true (by kernel_rfl)⟩⟩
theorem AXF_ok [Inv] : ∀ f x, AXF f = some x → FunOk Tryd.prog f x := by
  unfold AXF
  exact funOk_cons f4_ok (funOk_cons f7_ok (funOk_cons f10_ok (funOk_cons f12_ok (funOk_cons f14_ok (funOk_cons f15_ok (funOk_cons f16_ok (funOk_cons f8_ok (funOk_cons f11_ok (funOk_cons f30_ok (funOk_cons f21_ok (funOk_cons f22_ok (funOk_cons f31_ok (funOk_cons f32_ok (funOk_cons f43_ok (funOk_cons f44_ok (funOk_cons f45_ok (funOk_cons f46_ok (funOk_cons f47_ok (funOk_cons f53_ok (funOk_cons f54_ok (funOk_cons f55_ok (funOk_cons f57_ok (funOk_cons f58_ok (funOk_cons f69_ok (funOk_cons f70_ok (funOk_nil))))))))))))))))))))))))))
theorem AXE_T : tysOk Tryd.prog AXE.T = true := by kernel_rfl
theorem AXE_eqs : ∀ t ∈ AXE.eqs, (Tryd.prog).stoodInHeld t = false ∧ (Tryd.prog).eqGuardType (Tryd.prog).depth t = false ∧ ∀ f ∈ ((Tryd.prog).fieldsOf t).toList, f.name ≠ "_" := by
  intro t ht
  have ht : t ∈ ([24] : List Nat) := ht
  simp only [List.mem_cons, List.not_mem_nil, or_false] at ht
  rcases ht with rfl <;> exact ⟨by kernel_rfl, by kernel_rfl, of_decide_eq_true (by kernel_rfl)⟩
theorem AXE_ok : EnvOk Tryd.prog AXE := ⟨AXE_T, AXE_eqs, primOk_cons pCut_ok (primOk_cons pSplit_ok (primOk_cons pItoa_ok (primOk_cons pJoin_ok (primOk_cons pIndexByte_ok (primOk_cons pAtoi_ok (primOk_nil)))))), primHOk_cons pBW_ok (primHOk_nil), primSOk_cons pBS_ok (primSOk_nil)⟩
end AX
end Go.Proofs.YtfbicbgdfcbhpaaDoor
