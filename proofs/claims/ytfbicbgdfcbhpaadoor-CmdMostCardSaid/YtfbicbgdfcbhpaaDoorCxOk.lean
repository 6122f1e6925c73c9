/-
  The tables are the program, and the functions of the library are what is said of them.
-/
import Derived.Test.YtfbicbgdfcbhpaaDoorCxFun
import Derived.Test.YtfbicbgdfcbhpaaDoorAV24
set_option maxRecDepth 20000
set_option linter.unusedVariables false
set_option linter.unusedSimpArgs false
set_option linter.unusedSectionVars false
namespace Go.Proofs.YtfbicbgdfcbhpaaDoor
namespace AX
theorem f5_ok [Inv] : FunOk Tryd.prog 5 ⟨⟨f5_b, f5_r, f5_h⟩, f5_d, 96, f5_bx⟩ :=
  ⟨⟨Tryd.f5, by kernel_rfl, by kernel_rfl, by kernel_rfl, by kernel_rfl, by kernel_rfl, of_decide_eq_true (by kernel_rfl)⟩⟩
theorem f6_ok [Inv] : FunOk Tryd.prog 6 ⟨⟨f6_b, f6_r, f6_h⟩, f6_d, 88, f6_bx⟩ :=
  ⟨⟨Tryd.f6, by kernel_rfl, by kernel_rfl, by kernel_rfl, by kernel_rfl, by kernel_rfl, of_decide_eq_true (by kernel_rfl)⟩⟩
theorem f17_ok [Inv] : FunOk Tryd.prog 17 ⟨⟨f17_b, f17_r, f17_h⟩, f17_d, 60, f17_bx⟩ :=
  ⟨⟨Tryd.f17, by kernel_rfl, by kernel_rfl, by kernel_rfl, by kernel_rfl, by kernel_rfl, of_decide_eq_true (by kernel_rfl)⟩⟩
theorem f18_ok [Inv] : FunOk Tryd.prog 18 ⟨⟨f18_b, f18_r, f18_h⟩, f18_d, 26, f18_bx⟩ :=
  ⟨⟨Tryd.f18, by kernel_rfl, by kernel_rfl, by kernel_rfl, by kernel_rfl, by kernel_rfl, of_decide_eq_true (by kernel_rfl)⟩⟩
theorem f19_ok [Inv] : FunOk Tryd.prog 19 ⟨⟨f19_b, f19_r, f19_h⟩, f19_d, 73, f19_bx⟩ :=
  ⟨⟨Tryd.f19, by kernel_rfl, by kernel_rfl, by kernel_rfl, by kernel_rfl, by kernel_rfl, of_decide_eq_true (by kernel_rfl)⟩⟩
theorem f36_ok [Inv] : FunOk Tryd.prog 36 ⟨⟨f36_b, f36_r, f36_h⟩, f36_d, 24, f36_bx⟩ :=
  ⟨⟨Tryd.f36, by kernel_rfl, by kernel_rfl, by kernel_rfl, by kernel_rfl, by kernel_rfl, of_decide_eq_true (by kernel_rfl)⟩⟩
theorem f37_ok [Inv] : FunOk Tryd.prog 37 ⟨⟨f37_b, f37_r, f37_h⟩, f37_d, 19, f37_bx⟩ :=
  ⟨⟨Tryd.f37, by kernel_rfl, by kernel_rfl, by kernel_rfl, by kernel_rfl, by kernel_rfl, of_decide_eq_true (by kernel_rfl)⟩⟩
theorem f38_ok [Inv] : FunOk Tryd.prog 38 ⟨⟨f38_b, f38_r, f38_h⟩, f38_d, 4, f38_bx⟩ :=
  ⟨⟨Tryd.f38, by kernel_rfl, by kernel_rfl, by kernel_rfl, by kernel_rfl, by kernel_rfl, of_decide_eq_true (by kernel_rfl)⟩⟩
theorem f40_ok [Inv] : FunOk Tryd.prog 40 ⟨⟨f40_b, f40_r, f40_h⟩, f40_d, 26, f40_bx⟩ :=
  ⟨⟨Tryd.f40, by kernel_rfl, by kernel_rfl, by kernel_rfl, by kernel_rfl, by kernel_rfl, of_decide_eq_true (by kernel_rfl)⟩⟩
theorem f41_ok [Inv] : FunOk Tryd.prog 41 ⟨⟨f41_b, f41_r, f41_h⟩, f41_d, 62, f41_bx⟩ :=
  ⟨⟨Tryd.f41, by kernel_rfl, by kernel_rfl, by kernel_rfl, by kernel_rfl, by kernel_rfl, of_decide_eq_true (by kernel_rfl)⟩⟩
theorem f61_ok [Inv] : FunOk Tryd.prog 61 ⟨⟨f61_b, f61_r, f61_h⟩, f61_d, 29, f61_bx⟩ :=
  ⟨⟨Tryd.f61, by kernel_rfl, by kernel_rfl, by kernel_rfl, by kernel_rfl, by kernel_rfl, of_decide_eq_true (by kernel_rfl)⟩⟩
theorem f62_ok [Inv] : FunOk Tryd.prog 62 ⟨⟨f62_b, f62_r, f62_h⟩, f62_d, 2, f62_bx⟩ :=
  ⟨⟨Tryd.f62, by kernel_rfl, by kernel_rfl, by kernel_rfl, by kernel_rfl, by kernel_rfl, of_decide_eq_true (by kernel_rfl)⟩⟩
theorem f66_ok [Inv] : FunOk Tryd.prog 66 ⟨⟨f66_b, f66_r, f66_h⟩, f66_d, 61, f66_bx⟩ :=
  ⟨⟨Tryd.f66, by kernel_rfl, by kernel_rfl, by kernel_rfl, by kernel_rfl, by kernel_rfl, of_decide_eq_true (by kernel_rfl)⟩⟩
theorem f89_ok [Inv] : FunOk Tryd.prog 89 ⟨⟨f89_b, f89_r, f89_h⟩, f89_d, 33, f89_bx⟩ :=
  ⟨⟨Tryd.f89, by kernel_rfl, by kernel_rfl, by kernel_rfl, by kernel_rfl, by kernel_rfl, of_decide_eq_true (by kernel_rfl)⟩⟩
theorem f90_ok [Inv] : FunOk Tryd.prog 90 ⟨⟨f90_b, f90_r, f90_h⟩, f90_d, 10, f90_bx⟩ :=
  ⟨⟨Tryd.f90, by kernel_rfl, by kernel_rfl, by kernel_rfl, by kernel_rfl, by kernel_rfl, of_decide_eq_true (by kernel_rfl)⟩⟩
theorem f91_ok [Inv] : FunOk Tryd.prog 91 ⟨⟨f91_b, f91_r, f91_h⟩, f91_d, 49, f91_bx⟩ :=
  ⟨⟨Tryd.f91, by kernel_rfl, by kernel_rfl, by kernel_rfl, by kernel_rfl, by kernel_rfl, of_decide_eq_true (by kernel_rfl)⟩⟩
theorem AXF_ok [Inv] : ∀ f x, AXF f = some x → FunOk Tryd.prog f x := by
  unfold AXF
  exact funOk_cons f5_ok (funOk_cons f6_ok (funOk_cons f17_ok (funOk_cons f18_ok (funOk_cons f19_ok (funOk_cons f36_ok (funOk_cons f37_ok (funOk_cons f38_ok (funOk_cons f40_ok (funOk_cons f41_ok (funOk_cons f61_ok (funOk_cons f62_ok (funOk_cons f66_ok (funOk_cons f89_ok (funOk_cons f90_ok (funOk_cons f91_ok (funOk_nil))))))))))))))))
theorem AXE_T : tysOk Tryd.prog AXE.T = true := by kernel_rfl
theorem AXE_eqs : ∀ t ∈ AXE.eqs, (Tryd.prog).stoodInHeld t = false ∧ (Tryd.prog).eqGuardType (Tryd.prog).depth t = false ∧ ∀ f ∈ ((Tryd.prog).fieldsOf t).toList, f.name ≠ "_" := by
  intro t ht
  have ht : t ∈ ([53, 55] : List Nat) := ht
  simp only [List.mem_cons, List.not_mem_nil, or_false] at ht
  rcases ht with rfl | rfl <;> exact ⟨by kernel_rfl, by kernel_rfl, of_decide_eq_true (by kernel_rfl)⟩
theorem AXE_ok : EnvOk Tryd.prog AXE := ⟨AXE_T, AXE_eqs, primOk_cons pCut_ok (primOk_cons pSplit_ok (primOk_cons pADomain_ok (primOk_cons pContains_ok (primOk_cons pARead_ok (primOk_cons pParseU_ok (primOk_nil)))))), primHOk_nil, primSOk_nil⟩
end AX
end Go.Proofs.YtfbicbgdfcbhpaaDoor
