/-
  The tables are the program, and the functions of the library are what is said of them.
-/
import Derived.Test.YtfbicbgdfcbhpaaGreatDoorSxFun
import Derived.Test.YtfbicbgdfcbhpaaGreatDoorAV24
set_option maxRecDepth 20000
set_option linter.unusedVariables false
set_option linter.unusedSimpArgs false
set_option linter.unusedSectionVars false
namespace Go.Proofs.YtfbicbgdfcbhpaaGreatDoor
namespace AX
theorem f3_ok [Inv] : FunOk Tryz.prog 3 ⟨⟨f3_b, f3_r, f3_h⟩, f3_d, 52⟩ :=
  ⟨⟨Tryz.f3, by kernel_rfl, by kernel_rfl, by kernel_rfl, by kernel_rfl, by kernel_rfl, of_decide_eq_true (by kernel_rfl)⟩⟩
theorem f6_ok [Inv] : FunOk Tryz.prog 6 ⟨⟨f6_b, f6_r, f6_h⟩, f6_d, 83⟩ :=
  ⟨⟨Tryz.f6, by kernel_rfl, by kernel_rfl, by kernel_rfl, by kernel_rfl, by kernel_rfl, of_decide_eq_true (by kernel_rfl)⟩⟩
theorem f7_ok [Inv] : FunOk Tryz.prog 7 ⟨⟨f7_b, f7_r, f7_h⟩, f7_d, 40⟩ :=
  ⟨⟨Tryz.f7, by kernel_rfl, by kernel_rfl, by kernel_rfl, by kernel_rfl, by kernel_rfl, of_decide_eq_true (by kernel_rfl)⟩⟩
theorem f8_ok [Inv] : FunOk Tryz.prog 8 ⟨⟨f8_b, f8_r, f8_h⟩, f8_d, 31⟩ :=
  ⟨⟨Tryz.f8, by kernel_rfl, by kernel_rfl, by kernel_rfl, by kernel_rfl, by kernel_rfl, of_decide_eq_true (by kernel_rfl)⟩⟩
theorem f9_ok [Inv] : FunOk Tryz.prog 9 ⟨⟨f9_b, f9_r, f9_h⟩, f9_d, 256⟩ :=
  ⟨⟨Tryz.f9, by kernel_rfl, by kernel_rfl, by kernel_rfl, by kernel_rfl, by kernel_rfl, of_decide_eq_true (by kernel_rfl)⟩⟩
theorem f10_ok [Inv] : FunOk Tryz.prog 10 ⟨⟨f10_b, f10_r, f10_h⟩, f10_d, 11⟩ :=
  ⟨⟨Tryz.f10, by kernel_rfl, by kernel_rfl, by kernel_rfl, by kernel_rfl, by kernel_rfl, of_decide_eq_true (by kernel_rfl)⟩⟩
theorem f11_ok [Inv] : FunOk Tryz.prog 11 ⟨⟨f11_b, f11_r, f11_h⟩, f11_d, 43⟩ :=
  ⟨⟨Tryz.f11, by kernel_rfl, by kernel_rfl, by kernel_rfl, by kernel_rfl, by kernel_rfl, of_decide_eq_true (by kernel_rfl)⟩⟩
theorem f12_ok [Inv] : FunOk Tryz.prog 12 ⟨⟨f12_b, f12_r, f12_h⟩, f12_d, 101⟩ :=
  ⟨⟨Tryz.f12, by kernel_rfl, by kernel_rfl, by kernel_rfl, by kernel_rfl, by kernel_rfl, of_decide_eq_true (by kernel_rfl)⟩⟩
theorem f20_ok [Inv] : FunOk Tryz.prog 20 ⟨⟨f20_b, f20_r, f20_h⟩, f20_d, 47⟩ :=
  ⟨⟨Tryz.f20, by kernel_rfl, by kernel_rfl, by kernel_rfl, by kernel_rfl, by kernel_rfl, of_decide_eq_true (by kernel_rfl)⟩⟩
theorem f21_ok [Inv] : FunOk Tryz.prog 21 ⟨⟨f21_b, f21_r, f21_h⟩, f21_d, 125⟩ :=
  ⟨⟨Tryz.f21, by kernel_rfl, by kernel_rfl, by kernel_rfl, by kernel_rfl, by kernel_rfl, of_decide_eq_true (by kernel_rfl)⟩⟩
theorem f22_ok [Inv] : FunOk Tryz.prog 22 ⟨⟨f22_b, f22_r, f22_h⟩, f22_d, 80⟩ :=
  ⟨⟨Tryz.f22, by kernel_rfl, by kernel_rfl, by kernel_rfl, by kernel_rfl, by kernel_rfl, of_decide_eq_true (by kernel_rfl)⟩⟩
theorem f23_ok [Inv] : FunOk Tryz.prog 23 ⟨⟨f23_b, f23_r, f23_h⟩, f23_d, 9⟩ :=
  ⟨⟨Tryz.f23, by kernel_rfl, by kernel_rfl, by kernel_rfl, by kernel_rfl, by kernel_rfl, of_decide_eq_true (by kernel_rfl)⟩⟩
theorem f24_ok [Inv] : FunOk Tryz.prog 24 ⟨⟨f24_b, f24_r, f24_h⟩, f24_d, 9⟩ :=
  ⟨⟨Tryz.f24, by kernel_rfl, by kernel_rfl, by kernel_rfl, by kernel_rfl, by kernel_rfl, of_decide_eq_true (by kernel_rfl)⟩⟩
theorem f25_ok [Inv] : FunOk Tryz.prog 25 ⟨⟨f25_b, f25_r, f25_h⟩, f25_d, 29⟩ :=
  ⟨⟨Tryz.f25, by kernel_rfl, by kernel_rfl, by kernel_rfl, by kernel_rfl, by kernel_rfl, of_decide_eq_true (by kernel_rfl)⟩⟩
theorem f26_ok [Inv] : FunOk Tryz.prog 26 ⟨⟨f26_b, f26_r, f26_h⟩, f26_d, 68⟩ :=
  ⟨⟨Tryz.f26, by kernel_rfl, by kernel_rfl, by kernel_rfl, by kernel_rfl, by kernel_rfl, of_decide_eq_true (by kernel_rfl)⟩⟩
theorem f27_ok [Inv] : FunOk Tryz.prog 27 ⟨⟨f27_b, f27_r, f27_h⟩, f27_d, 6⟩ :=
  ⟨⟨Tryz.f27, by kernel_rfl, by kernel_rfl, by kernel_rfl, by kernel_rfl, by kernel_rfl, of_decide_eq_true (by kernel_rfl)⟩⟩
theorem f28_ok [Inv] : FunOk Tryz.prog 28 ⟨⟨f28_b, f28_r, f28_h⟩, f28_d, 177⟩ :=
  ⟨⟨Tryz.f28, by kernel_rfl, by kernel_rfl, by kernel_rfl, by kernel_rfl, by kernel_rfl, of_decide_eq_true (by kernel_rfl)⟩⟩
theorem f30_ok [Inv] : FunOk Tryz.prog 30 ⟨⟨f30_b, f30_r, f30_h⟩, f30_d, 2⟩ :=
  ⟨⟨Tryz.f30, by kernel_rfl, by kernel_rfl, by kernel_rfl, by kernel_rfl, by kernel_rfl, of_decide_eq_true (by kernel_rfl)⟩⟩
theorem f31_ok [Inv] : FunOk Tryz.prog 31 ⟨⟨f31_b, f31_r, f31_h⟩, f31_d, 97⟩ :=
  ⟨⟨Tryz.f31, by kernel_rfl, by kernel_rfl, by kernel_rfl, by kernel_rfl, by kernel_rfl, of_decide_eq_true (by kernel_rfl)⟩⟩
theorem f32_ok [Inv] : FunOk Tryz.prog 32 ⟨⟨f32_b, f32_r, f32_h⟩, f32_d, 26⟩ :=
  ⟨⟨Tryz.f32, by kernel_rfl, by kernel_rfl, by kernel_rfl, by kernel_rfl, by kernel_rfl, of_decide_eq_true (by kernel_rfl)⟩⟩
theorem f51_ok [Inv] : FunOk Tryz.prog 51 ⟨⟨f51_b, f51_r, f51_h⟩, f51_d, 2⟩ :=
  ⟨⟨Tryz.f51, by kernel_rfl, by kernel_rfl, by kernel_rfl, by kernel_rfl, by kernel_rfl, of_decide_eq_true (by kernel_rfl)⟩⟩
theorem f52_ok [Inv] : FunOk Tryz.prog 52 ⟨⟨f52_b, f52_r, f52_h⟩, f52_d, 4⟩ :=
  ⟨⟨Tryz.f52, by kernel_rfl, by kernel_rfl, by kernel_rfl, by kernel_rfl, by kernel_rfl, of_decide_eq_true (by kernel_rfl)⟩⟩
theorem f53_ok [Inv] : FunOk Tryz.prog 53 ⟨⟨f53_b, f53_r, f53_h⟩, f53_d, 61⟩ :=
  ⟨⟨Tryz.f53, by kernel_rfl, by kernel_rfl, by kernel_rfl, by kernel_rfl, by kernel_rfl, of_decide_eq_true (by kernel_rfl)⟩⟩
theorem f54_ok [Inv] : FunOk Tryz.prog 54 ⟨⟨f54_b, f54_r, f54_h⟩, f54_d, 6⟩ :=
  ⟨⟨Tryz.f54, by kernel_rfl, by kernel_rfl, by kernel_rfl, by kernel_rfl, by kernel_rfl, of_decide_eq_true (by kernel_rfl)⟩⟩
theorem f56_ok [Inv] : FunOk Tryz.prog 56 ⟨⟨f56_b, f56_r, f56_h⟩, f56_d, 26⟩ :=
  ⟨⟨Tryz.f56, by kernel_rfl, by kernel_rfl, by kernel_rfl, by kernel_rfl, by kernel_rfl, of_decide_eq_true (by kernel_rfl)⟩⟩
theorem f57_ok [Inv] : FunOk Tryz.prog 57 ⟨⟨f57_b, f57_r, f57_h⟩, f57_d, 26⟩ :=
  ⟨⟨Tryz.f57, by kernel_rfl, by kernel_rfl, by kernel_rfl, by kernel_rfl, by kernel_rfl, of_decide_eq_true (by kernel_rfl)⟩⟩
theorem f58_ok [Inv] : FunOk Tryz.prog 58 ⟨⟨f58_b, f58_r, f58_h⟩, f58_d, 32⟩ :=
  ⟨⟨Tryz.f58, by kernel_rfl, by kernel_rfl, by kernel_rfl, by kernel_rfl, by kernel_rfl, of_decide_eq_true (by kernel_rfl)⟩⟩
theorem f59_ok [Inv] : FunOk Tryz.prog 59 ⟨⟨f59_b, f59_r, f59_h⟩, f59_d, 106⟩ :=
  ⟨⟨Tryz.f59, by kernel_rfl, by kernel_rfl, by kernel_rfl, by kernel_rfl, by kernel_rfl, of_decide_eq_true (by kernel_rfl)⟩⟩
theorem f60_ok [Inv] : FunOk Tryz.prog 60 ⟨⟨f60_b, f60_r, f60_h⟩, f60_d, 2⟩ :=
  ⟨⟨Tryz.f60, by kernel_rfl, by kernel_rfl, by kernel_rfl, by kernel_rfl, by kernel_rfl, of_decide_eq_true (by kernel_rfl)⟩⟩
theorem f61_ok [Inv] : FunOk Tryz.prog 61 ⟨⟨f61_b, f61_r, f61_h⟩, f61_d, 14⟩ :=
  ⟨⟨Tryz.f61, by kernel_rfl, by kernel_rfl, by kernel_rfl, by kernel_rfl, by kernel_rfl, of_decide_eq_true (by kernel_rfl)⟩⟩
theorem f62_ok [Inv] : FunOk Tryz.prog 62 ⟨⟨f62_b, f62_r, f62_h⟩, f62_d, 19⟩ :=
  ⟨⟨Tryz.f62, by kernel_rfl, by kernel_rfl, by kernel_rfl, by kernel_rfl, by kernel_rfl, of_decide_eq_true (by kernel_rfl)⟩⟩
theorem f63_ok [Inv] : FunOk Tryz.prog 63 ⟨⟨f63_b, f63_r, f63_h⟩, f63_d, 29⟩ :=
  ⟨⟨Tryz.f63, by kernel_rfl, by kernel_rfl, by kernel_rfl, by kernel_rfl, by kernel_rfl, of_decide_eq_true (by kernel_rfl)⟩⟩
theorem f65_ok [Inv] : FunOk Tryz.prog 65 ⟨⟨f65_b, f65_r, f65_h⟩, f65_d, 77⟩ :=
  ⟨⟨Tryz.f65, by kernel_rfl, by kernel_rfl, by kernel_rfl, by kernel_rfl, by kernel_rfl, of_decide_eq_true (by kernel_rfl)⟩⟩
theorem f66_ok [Inv] : FunOk Tryz.prog 66 ⟨⟨f66_b, f66_r, f66_h⟩, f66_d, 103⟩ :=
  ⟨⟨Tryz.f66, by kernel_rfl, by kernel_rfl, by kernel_rfl, by kernel_rfl, by kernel_rfl, of_decide_eq_true (by kernel_rfl)⟩⟩
theorem f67_ok [Inv] : FunOk Tryz.prog 67 ⟨⟨f67_b, f67_r, f67_h⟩, f67_d, 15⟩ :=
  ⟨⟨Tryz.f67, by kernel_rfl, by kernel_rfl, by kernel_rfl, by kernel_rfl, by kernel_rfl, of_decide_eq_true (by kernel_rfl)⟩⟩
theorem f68_ok [Inv] : FunOk Tryz.prog 68 ⟨⟨f68_b, f68_r, f68_h⟩, f68_d, 33⟩ :=
  ⟨⟨Tryz.f68, by kernel_rfl, by kernel_rfl, by kernel_rfl, by kernel_rfl, by kernel_rfl, of_decide_eq_true (by kernel_rfl)⟩⟩
theorem f83_ok [Inv] : FunOk Tryz.prog 83 ⟨⟨f83_b, f83_r, f83_h⟩, f83_d, 21⟩ :=
  ⟨⟨Tryz.f83, by kernel_rfl, by kernel_rfl, by kernel_rfl, by kernel_rfl, by kernel_rfl, of_decide_eq_true (by kernel_rfl)⟩⟩
theorem f84_ok [Inv] : FunOk Tryz.prog 84 ⟨⟨f84_b, f84_r, f84_h⟩, f84_d, 98⟩ :=
  ⟨⟨Tryz.f84, by kernel_rfl, by kernel_rfl, by kernel_rfl, by kernel_rfl, by kernel_rfl, of_decide_eq_true (by kernel_rfl)⟩⟩
theorem f85_ok [Inv] : FunOk Tryz.prog 85 ⟨⟨f85_b, f85_r, f85_h⟩, f85_d, 50⟩ :=
  ⟨⟨Tryz.f85, by kernel_rfl, by kernel_rfl, by kernel_rfl, by kernel_rfl, by kernel_rfl, of_decide_eq_true (by kernel_rfl)⟩⟩
theorem f86_ok [Inv] : FunOk Tryz.prog 86 ⟨⟨f86_b, f86_r, f86_h⟩, f86_d, 61⟩ :=
  ⟨⟨Tryz.f86, by kernel_rfl, by kernel_rfl, by kernel_rfl, by kernel_rfl, by kernel_rfl, of_decide_eq_true (by kernel_rfl)⟩⟩
theorem f89_ok [Inv] : FunOk Tryz.prog 89 ⟨⟨f89_b, f89_r, f89_h⟩, f89_d, 28⟩ :=
  ⟨⟨Tryz.f89, by kernel_rfl, by kernel_rfl, by kernel_rfl, by kernel_rfl, by kernel_rfl, of_decide_eq_true (by kernel_rfl)⟩⟩
theorem f90_ok [Inv] : FunOk Tryz.prog 90 ⟨⟨f90_b, f90_r, f90_h⟩, f90_d, 39⟩ :=
  ⟨⟨Tryz.f90, by kernel_rfl, by kernel_rfl, by kernel_rfl, by kernel_rfl, by kernel_rfl, of_decide_eq_true (by kernel_rfl)⟩⟩
theorem f118_ok [Inv] : FunOk Tryz.prog 118 ⟨⟨f118_b, f118_r, f118_h⟩, f118_d, 21⟩ :=
  ⟨⟨Tryz.f118, by kernel_rfl, by kernel_rfl, by kernel_rfl, by kernel_rfl, by kernel_rfl, of_decide_eq_true (by kernel_rfl)⟩⟩
theorem AXF_ok [Inv] : ∀ f x, AXF f = some x → FunOk Tryz.prog f x := by
  unfold AXF
  exact funOk_cons f3_ok (funOk_cons f6_ok (funOk_cons f7_ok (funOk_cons f8_ok (funOk_cons f9_ok (funOk_cons f10_ok (funOk_cons f11_ok (funOk_cons f12_ok (funOk_cons f20_ok (funOk_cons f21_ok (funOk_cons f22_ok (funOk_cons f23_ok (funOk_cons f24_ok (funOk_cons f25_ok (funOk_cons f26_ok (funOk_cons f27_ok (funOk_cons f28_ok (funOk_cons f30_ok (funOk_cons f31_ok (funOk_cons f32_ok (funOk_cons f51_ok (funOk_cons f52_ok (funOk_cons f53_ok (funOk_cons f54_ok (funOk_cons f56_ok (funOk_cons f57_ok (funOk_cons f58_ok (funOk_cons f59_ok (funOk_cons f60_ok (funOk_cons f61_ok (funOk_cons f62_ok (funOk_cons f63_ok (funOk_cons f65_ok (funOk_cons f66_ok (funOk_cons f67_ok (funOk_cons f68_ok (funOk_cons f83_ok (funOk_cons f84_ok (funOk_cons f85_ok (funOk_cons f86_ok (funOk_cons f89_ok (funOk_cons f90_ok (funOk_cons f118_ok (funOk_nil)))))))))))))))))))))))))))))))))))))))))))
theorem AXE_T : tysOk Tryz.prog AXE.T = true := by kernel_rfl
theorem AXE_eqs : ∀ t ∈ AXE.eqs, (Tryz.prog).stoodInHeld t = false ∧ (Tryz.prog).eqGuardType (Tryz.prog).depth t = false ∧ ∀ f ∈ ((Tryz.prog).fieldsOf t).toList, f.name ≠ "_" := by
  intro t ht
  have ht : t ∈ ([23] : List Nat) := ht
  simp only [List.mem_cons, List.not_mem_nil, or_false] at ht
  rcases ht with rfl <;> exact ⟨by kernel_rfl, by kernel_rfl, of_decide_eq_true (by kernel_rfl)⟩
theorem AXE_ok : EnvOk Tryz.prog AXE := ⟨AXE_T, AXE_eqs, primOk_cons pCut_ok (primOk_cons pItoa_ok (primOk_cons pSplit_ok (primOk_cons pJoin_ok (primOk_cons pIndexByte_ok (primOk_cons pAtoi_ok (primOk_nil)))))), fun f p h => by cases h⟩
end AX
end Go.Proofs.YtfbicbgdfcbhpaaGreatDoor
