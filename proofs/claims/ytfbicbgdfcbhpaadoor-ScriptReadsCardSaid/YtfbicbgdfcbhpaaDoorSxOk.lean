/-
  The tables are the program, and the functions of the library are what is said of them.
-/
import Derived.Test.YtfbicbgdfcbhpaaDoorSxFun
import Derived.Test.YtfbicbgdfcbhpaaDoorAV24
set_option maxRecDepth 20000
set_option linter.unusedVariables false
set_option linter.unusedSimpArgs false
set_option linter.unusedSectionVars false
namespace Go.Proofs.YtfbicbgdfcbhpaaDoor
namespace AX
theorem f3_ok [Inv] : FunOk Tryd.prog 3 ⟨⟨f3_b, f3_r, f3_h⟩, f3_d, 100⟩ :=
  ⟨⟨Tryd.f3, by kernel_rfl, by kernel_rfl, by kernel_rfl, by kernel_rfl, by kernel_rfl, of_decide_eq_true (by kernel_rfl)⟩⟩
theorem f15_ok [Inv] : FunOk Tryd.prog 15 ⟨⟨f15_b, f15_r, f15_h⟩, f15_d, 11⟩ :=
  ⟨⟨Tryd.f15, by kernel_rfl, by kernel_rfl, by kernel_rfl, by kernel_rfl, by kernel_rfl, of_decide_eq_true (by kernel_rfl)⟩⟩
theorem f14_ok [Inv] : FunOk Tryd.prog 14 ⟨⟨f14_b, f14_r, f14_h⟩, f14_d, 40⟩ :=
  ⟨⟨Tryd.f14, by kernel_rfl, by kernel_rfl, by kernel_rfl, by kernel_rfl, by kernel_rfl, of_decide_eq_true (by kernel_rfl)⟩⟩
theorem f7_ok [Inv] : FunOk Tryd.prog 7 ⟨⟨f7_b, f7_r, f7_h⟩, f7_d, 83⟩ :=
  ⟨⟨Tryd.f7, by kernel_rfl, by kernel_rfl, by kernel_rfl, by kernel_rfl, by kernel_rfl, of_decide_eq_true (by kernel_rfl)⟩⟩
theorem f8_ok [Inv] : FunOk Tryd.prog 8 ⟨⟨f8_b, f8_r, f8_h⟩, f8_d, 43⟩ :=
  ⟨⟨Tryd.f8, by kernel_rfl, by kernel_rfl, by kernel_rfl, by kernel_rfl, by kernel_rfl, of_decide_eq_true (by kernel_rfl)⟩⟩
theorem f9_ok [Inv] : FunOk Tryd.prog 9 ⟨⟨f9_b, f9_r, f9_h⟩, f9_d, 177⟩ :=
  ⟨⟨Tryd.f9, by kernel_rfl, by kernel_rfl, by kernel_rfl, by kernel_rfl, by kernel_rfl, of_decide_eq_true (by kernel_rfl)⟩⟩
theorem f10_ok [Inv] : FunOk Tryd.prog 10 ⟨⟨f10_b, f10_r, f10_h⟩, f10_d, 101⟩ :=
  ⟨⟨Tryd.f10, by kernel_rfl, by kernel_rfl, by kernel_rfl, by kernel_rfl, by kernel_rfl, of_decide_eq_true (by kernel_rfl)⟩⟩
theorem f11_ok [Inv] : FunOk Tryd.prog 11 ⟨⟨f11_b, f11_r, f11_h⟩, f11_d, 31⟩ :=
  ⟨⟨Tryd.f11, by kernel_rfl, by kernel_rfl, by kernel_rfl, by kernel_rfl, by kernel_rfl, of_decide_eq_true (by kernel_rfl)⟩⟩
theorem f12_ok [Inv] : FunOk Tryd.prog 12 ⟨⟨f12_b, f12_r, f12_h⟩, f12_d, 47⟩ :=
  ⟨⟨Tryd.f12, by kernel_rfl, by kernel_rfl, by kernel_rfl, by kernel_rfl, by kernel_rfl, of_decide_eq_true (by kernel_rfl)⟩⟩
theorem f13_ok [Inv] : FunOk Tryd.prog 13 ⟨⟨f13_b, f13_r, f13_h⟩, f13_d, 68⟩ :=
  ⟨⟨Tryd.f13, by kernel_rfl, by kernel_rfl, by kernel_rfl, by kernel_rfl, by kernel_rfl, of_decide_eq_true (by kernel_rfl)⟩⟩
theorem f21_ok [Inv] : FunOk Tryd.prog 21 ⟨⟨f21_b, f21_r, f21_h⟩, f21_d, 2⟩ :=
  ⟨⟨Tryd.f21, by kernel_rfl, by kernel_rfl, by kernel_rfl, by kernel_rfl, by kernel_rfl, of_decide_eq_true (by kernel_rfl)⟩⟩
theorem f22_ok [Inv] : FunOk Tryd.prog 22 ⟨⟨f22_b, f22_r, f22_h⟩, f22_d, 97⟩ :=
  ⟨⟨Tryd.f22, by kernel_rfl, by kernel_rfl, by kernel_rfl, by kernel_rfl, by kernel_rfl, of_decide_eq_true (by kernel_rfl)⟩⟩
theorem f23_ok [Inv] : FunOk Tryd.prog 23 ⟨⟨f23_b, f23_r, f23_h⟩, f23_d, 32⟩ :=
  ⟨⟨Tryd.f23, by kernel_rfl, by kernel_rfl, by kernel_rfl, by kernel_rfl, by kernel_rfl, of_decide_eq_true (by kernel_rfl)⟩⟩
theorem f24_ok [Inv] : FunOk Tryd.prog 24 ⟨⟨f24_b, f24_r, f24_h⟩, f24_d, 9⟩ :=
  ⟨⟨Tryd.f24, by kernel_rfl, by kernel_rfl, by kernel_rfl, by kernel_rfl, by kernel_rfl, of_decide_eq_true (by kernel_rfl)⟩⟩
theorem f25_ok [Inv] : FunOk Tryd.prog 25 ⟨⟨f25_b, f25_r, f25_h⟩, f25_d, 106⟩ :=
  ⟨⟨Tryd.f25, by kernel_rfl, by kernel_rfl, by kernel_rfl, by kernel_rfl, by kernel_rfl, of_decide_eq_true (by kernel_rfl)⟩⟩
theorem f26_ok [Inv] : FunOk Tryd.prog 26 ⟨⟨f26_b, f26_r, f26_h⟩, f26_d, 2⟩ :=
  ⟨⟨Tryd.f26, by kernel_rfl, by kernel_rfl, by kernel_rfl, by kernel_rfl, by kernel_rfl, of_decide_eq_true (by kernel_rfl)⟩⟩
theorem f27_ok [Inv] : FunOk Tryd.prog 27 ⟨⟨f27_b, f27_r, f27_h⟩, f27_d, 14⟩ :=
  ⟨⟨Tryd.f27, by kernel_rfl, by kernel_rfl, by kernel_rfl, by kernel_rfl, by kernel_rfl, of_decide_eq_true (by kernel_rfl)⟩⟩
theorem f28_ok [Inv] : FunOk Tryd.prog 28 ⟨⟨f28_b, f28_r, f28_h⟩, f28_d, 19⟩ :=
  ⟨⟨Tryd.f28, by kernel_rfl, by kernel_rfl, by kernel_rfl, by kernel_rfl, by kernel_rfl, of_decide_eq_true (by kernel_rfl)⟩⟩
theorem f29_ok [Inv] : FunOk Tryd.prog 29 ⟨⟨f29_b, f29_r, f29_h⟩, f29_d, 29⟩ :=
  ⟨⟨Tryd.f29, by kernel_rfl, by kernel_rfl, by kernel_rfl, by kernel_rfl, by kernel_rfl, of_decide_eq_true (by kernel_rfl)⟩⟩
theorem f30_ok [Inv] : FunOk Tryd.prog 30 ⟨⟨f30_b, f30_r, f30_h⟩, f30_d, 26⟩ :=
  ⟨⟨Tryd.f30, by kernel_rfl, by kernel_rfl, by kernel_rfl, by kernel_rfl, by kernel_rfl, of_decide_eq_true (by kernel_rfl)⟩⟩
theorem f31_ok [Inv] : FunOk Tryd.prog 31 ⟨⟨f31_b, f31_r, f31_h⟩, f31_d, 125⟩ :=
  ⟨⟨Tryd.f31, by kernel_rfl, by kernel_rfl, by kernel_rfl, by kernel_rfl, by kernel_rfl, of_decide_eq_true (by kernel_rfl)⟩⟩
theorem f32_ok [Inv] : FunOk Tryd.prog 32 ⟨⟨f32_b, f32_r, f32_h⟩, f32_d, 80⟩ :=
  ⟨⟨Tryd.f32, by kernel_rfl, by kernel_rfl, by kernel_rfl, by kernel_rfl, by kernel_rfl, of_decide_eq_true (by kernel_rfl)⟩⟩
theorem f43_ok [Inv] : FunOk Tryd.prog 43 ⟨⟨f43_b, f43_r, f43_h⟩, f43_d, 2⟩ :=
  ⟨⟨Tryd.f43, by kernel_rfl, by kernel_rfl, by kernel_rfl, by kernel_rfl, by kernel_rfl, of_decide_eq_true (by kernel_rfl)⟩⟩
theorem f44_ok [Inv] : FunOk Tryd.prog 44 ⟨⟨f44_b, f44_r, f44_h⟩, f44_d, 77⟩ :=
  ⟨⟨Tryd.f44, by kernel_rfl, by kernel_rfl, by kernel_rfl, by kernel_rfl, by kernel_rfl, of_decide_eq_true (by kernel_rfl)⟩⟩
theorem f45_ok [Inv] : FunOk Tryd.prog 45 ⟨⟨f45_b, f45_r, f45_h⟩, f45_d, 103⟩ :=
  ⟨⟨Tryd.f45, by kernel_rfl, by kernel_rfl, by kernel_rfl, by kernel_rfl, by kernel_rfl, of_decide_eq_true (by kernel_rfl)⟩⟩
theorem f46_ok [Inv] : FunOk Tryd.prog 46 ⟨⟨f46_b, f46_r, f46_h⟩, f46_d, 15⟩ :=
  ⟨⟨Tryd.f46, by kernel_rfl, by kernel_rfl, by kernel_rfl, by kernel_rfl, by kernel_rfl, of_decide_eq_true (by kernel_rfl)⟩⟩
theorem f47_ok [Inv] : FunOk Tryd.prog 47 ⟨⟨f47_b, f47_r, f47_h⟩, f47_d, 33⟩ :=
  ⟨⟨Tryd.f47, by kernel_rfl, by kernel_rfl, by kernel_rfl, by kernel_rfl, by kernel_rfl, of_decide_eq_true (by kernel_rfl)⟩⟩
theorem f48_ok [Inv] : FunOk Tryd.prog 48 ⟨⟨f48_b, f48_r, f48_h⟩, f48_d, 21⟩ :=
  ⟨⟨Tryd.f48, by kernel_rfl, by kernel_rfl, by kernel_rfl, by kernel_rfl, by kernel_rfl, of_decide_eq_true (by kernel_rfl)⟩⟩
theorem f49_ok [Inv] : FunOk Tryd.prog 49 ⟨⟨f49_b, f49_r, f49_h⟩, f49_d, 98⟩ :=
  ⟨⟨Tryd.f49, by kernel_rfl, by kernel_rfl, by kernel_rfl, by kernel_rfl, by kernel_rfl, of_decide_eq_true (by kernel_rfl)⟩⟩
theorem f50_ok [Inv] : FunOk Tryd.prog 50 ⟨⟨f50_b, f50_r, f50_h⟩, f50_d, 50⟩ :=
  ⟨⟨Tryd.f50, by kernel_rfl, by kernel_rfl, by kernel_rfl, by kernel_rfl, by kernel_rfl, of_decide_eq_true (by kernel_rfl)⟩⟩
theorem f51_ok [Inv] : FunOk Tryd.prog 51 ⟨⟨f51_b, f51_r, f51_h⟩, f51_d, 61⟩ :=
  ⟨⟨Tryd.f51, by kernel_rfl, by kernel_rfl, by kernel_rfl, by kernel_rfl, by kernel_rfl, of_decide_eq_true (by kernel_rfl)⟩⟩
theorem f53_ok [Inv] : FunOk Tryd.prog 53 ⟨⟨f53_b, f53_r, f53_h⟩, f53_d, 4⟩ :=
  ⟨⟨Tryd.f53, by kernel_rfl, by kernel_rfl, by kernel_rfl, by kernel_rfl, by kernel_rfl, of_decide_eq_true (by kernel_rfl)⟩⟩
theorem f54_ok [Inv] : FunOk Tryd.prog 54 ⟨⟨f54_b, f54_r, f54_h⟩, f54_d, 61⟩ :=
  ⟨⟨Tryd.f54, by kernel_rfl, by kernel_rfl, by kernel_rfl, by kernel_rfl, by kernel_rfl, of_decide_eq_true (by kernel_rfl)⟩⟩
theorem f55_ok [Inv] : FunOk Tryd.prog 55 ⟨⟨f55_b, f55_r, f55_h⟩, f55_d, 6⟩ :=
  ⟨⟨Tryd.f55, by kernel_rfl, by kernel_rfl, by kernel_rfl, by kernel_rfl, by kernel_rfl, of_decide_eq_true (by kernel_rfl)⟩⟩
theorem f57_ok [Inv] : FunOk Tryd.prog 57 ⟨⟨f57_b, f57_r, f57_h⟩, f57_d, 26⟩ :=
  ⟨⟨Tryd.f57, by kernel_rfl, by kernel_rfl, by kernel_rfl, by kernel_rfl, by kernel_rfl, of_decide_eq_true (by kernel_rfl)⟩⟩
theorem f58_ok [Inv] : FunOk Tryd.prog 58 ⟨⟨f58_b, f58_r, f58_h⟩, f58_d, 26⟩ :=
  ⟨⟨Tryd.f58, by kernel_rfl, by kernel_rfl, by kernel_rfl, by kernel_rfl, by kernel_rfl, of_decide_eq_true (by kernel_rfl)⟩⟩
theorem f69_ok [Inv] : FunOk Tryd.prog 69 ⟨⟨f69_b, f69_r, f69_h⟩, f69_d, 28⟩ :=
  ⟨⟨Tryd.f69, by kernel_rfl, by kernel_rfl, by kernel_rfl, by kernel_rfl, by kernel_rfl, of_decide_eq_true (by kernel_rfl)⟩⟩
theorem f70_ok [Inv] : FunOk Tryd.prog 70 ⟨⟨f70_b, f70_r, f70_h⟩, f70_d, 39⟩ :=
  ⟨⟨Tryd.f70, by kernel_rfl, by kernel_rfl, by kernel_rfl, by kernel_rfl, by kernel_rfl, of_decide_eq_true (by kernel_rfl)⟩⟩
theorem f71_ok [Inv] : FunOk Tryd.prog 71 ⟨⟨f71_b, f71_r, f71_h⟩, f71_d, 21⟩ :=
  ⟨⟨Tryd.f71, by kernel_rfl, by kernel_rfl, by kernel_rfl, by kernel_rfl, by kernel_rfl, of_decide_eq_true (by kernel_rfl)⟩⟩
theorem f72_ok [Inv] : FunOk Tryd.prog 72 ⟨⟨f72_b, f72_r, f72_h⟩, f72_d, 68⟩ :=
  ⟨⟨Tryd.f72, by kernel_rfl, by kernel_rfl, by kernel_rfl, by kernel_rfl, by kernel_rfl, of_decide_eq_true (by kernel_rfl)⟩⟩
theorem f73_ok [Inv] : FunOk Tryd.prog 73 ⟨⟨f73_b, f73_r, f73_h⟩, f73_d, 9⟩ :=
  ⟨⟨Tryd.f73, by kernel_rfl, by kernel_rfl, by kernel_rfl, by kernel_rfl, by kernel_rfl, of_decide_eq_true (by kernel_rfl)⟩⟩
theorem f74_ok [Inv] : FunOk Tryd.prog 74 ⟨⟨f74_b, f74_r, f74_h⟩, f74_d, 29⟩ :=
  ⟨⟨Tryd.f74, by kernel_rfl, by kernel_rfl, by kernel_rfl, by kernel_rfl, by kernel_rfl, of_decide_eq_true (by kernel_rfl)⟩⟩
theorem AXF_ok [Inv] : ∀ f x, AXF f = some x → FunOk Tryd.prog f x := by
  unfold AXF
  exact funOk_cons f3_ok (funOk_cons f15_ok (funOk_cons f14_ok (funOk_cons f7_ok (funOk_cons f8_ok (funOk_cons f9_ok (funOk_cons f10_ok (funOk_cons f11_ok (funOk_cons f12_ok (funOk_cons f13_ok (funOk_cons f21_ok (funOk_cons f22_ok (funOk_cons f23_ok (funOk_cons f24_ok (funOk_cons f25_ok (funOk_cons f26_ok (funOk_cons f27_ok (funOk_cons f28_ok (funOk_cons f29_ok (funOk_cons f30_ok (funOk_cons f31_ok (funOk_cons f32_ok (funOk_cons f43_ok (funOk_cons f44_ok (funOk_cons f45_ok (funOk_cons f46_ok (funOk_cons f47_ok (funOk_cons f48_ok (funOk_cons f49_ok (funOk_cons f50_ok (funOk_cons f51_ok (funOk_cons f53_ok (funOk_cons f54_ok (funOk_cons f55_ok (funOk_cons f57_ok (funOk_cons f58_ok (funOk_cons f69_ok (funOk_cons f70_ok (funOk_cons f71_ok (funOk_cons f72_ok (funOk_cons f73_ok (funOk_cons f74_ok (funOk_nil))))))))))))))))))))))))))))))))))))))))))
theorem AXE_T : tysOk Tryd.prog AXE.T = true := by kernel_rfl
theorem AXE_eqs : ∀ t ∈ AXE.eqs, (Tryd.prog).stoodInHeld t = false ∧ (Tryd.prog).eqGuardType (Tryd.prog).depth t = false ∧ ∀ f ∈ ((Tryd.prog).fieldsOf t).toList, f.name ≠ "_" := by
  intro t ht
  have ht : t ∈ ([24] : List Nat) := ht
  simp only [List.mem_cons, List.not_mem_nil, or_false] at ht
  rcases ht with rfl <;> exact ⟨by kernel_rfl, by kernel_rfl, of_decide_eq_true (by kernel_rfl)⟩
theorem AXE_ok : EnvOk Tryd.prog AXE := ⟨AXE_T, AXE_eqs, primOk_cons pCut_ok (primOk_cons pSplit_ok (primOk_cons pItoa_ok (primOk_cons pJoin_ok (primOk_cons pIndexByte_ok (primOk_cons pAtoi_ok (primOk_nil)))))), fun f p h => by cases h⟩
end AX
end Go.Proofs.YtfbicbgdfcbhpaaDoor
