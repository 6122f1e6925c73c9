/-
  The tables are the program, and the functions of the library are what is said of them.
-/
import Derived.Test.YtalkglheaadigaaDoorRxFun
import Derived.Test.YtalkglheaadigaaDoorAX24
set_option maxRecDepth 20000
set_option linter.unusedVariables false
set_option linter.unusedSimpArgs false
set_option linter.unusedSectionVars false
namespace Go.Proofs.YtalkglheaadigaaDoor
namespace AX
theorem f4_ok [Inv] : FunOk Tryd.prog 4 ⟨⟨f4_b, f4_r, f4_h⟩, f4_d, 86⟩ :=
  ⟨⟨Tryd.f4, by kernel_rfl, by kernel_rfl, by kernel_rfl, by kernel_rfl, by kernel_rfl, of_decide_eq_true (by kernel_rfl)⟩⟩
theorem f5_ok [Inv] : FunOk Tryd.prog 5 ⟨⟨f5_b, f5_r, f5_h⟩, f5_d, 99⟩ :=
  ⟨⟨Tryd.f5, by kernel_rfl, by kernel_rfl, by kernel_rfl, by kernel_rfl, by kernel_rfl, of_decide_eq_true (by kernel_rfl)⟩⟩
theorem f6_ok [Inv] : FunOk Tryd.prog 6 ⟨⟨f6_b, f6_r, f6_h⟩, f6_d, 116⟩ :=
  ⟨⟨Tryd.f6, by kernel_rfl, by kernel_rfl, by kernel_rfl, by kernel_rfl, by kernel_rfl, of_decide_eq_true (by kernel_rfl)⟩⟩
theorem f16_ok [Inv] : FunOk Tryd.prog 16 ⟨⟨f16_b, f16_r, f16_h⟩, f16_d, 64⟩ :=
  ⟨⟨Tryd.f16, by kernel_rfl, by kernel_rfl, by kernel_rfl, by kernel_rfl, by kernel_rfl, of_decide_eq_true (by kernel_rfl)⟩⟩
theorem f18_ok [Inv] : FunOk Tryd.prog 18 ⟨⟨f18_b, f18_r, f18_h⟩, f18_d, 172⟩ :=
  ⟨⟨Tryd.f18, by kernel_rfl, by kernel_rfl, by kernel_rfl, by kernel_rfl, by kernel_rfl, of_decide_eq_true (by kernel_rfl)⟩⟩
theorem f19_ok [Inv] : FunOk Tryd.prog 19 ⟨⟨f19_b, f19_r, f19_h⟩, f19_d, 45⟩ :=
  ⟨⟨Tryd.f19, by kernel_rfl, by kernel_rfl, by kernel_rfl, by kernel_rfl, by kernel_rfl, of_decide_eq_true (by kernel_rfl)⟩⟩
theorem f20_ok [Inv] : FunOk Tryd.prog 20 ⟨⟨f20_b, f20_r, f20_h⟩, f20_d, 31⟩ :=
  ⟨⟨Tryd.f20, by kernel_rfl, by kernel_rfl, by kernel_rfl, by kernel_rfl, by kernel_rfl, of_decide_eq_true (by kernel_rfl)⟩⟩
theorem f21_ok [Inv] : FunOk Tryd.prog 21 ⟨⟨f21_b, f21_r, f21_h⟩, f21_d, 32⟩ :=
  ⟨⟨Tryd.f21, by kernel_rfl, by kernel_rfl, by kernel_rfl, by kernel_rfl, by kernel_rfl, of_decide_eq_true (by kernel_rfl)⟩⟩
theorem f27_ok [Inv] : FunOk Tryd.prog 27 ⟨⟨f27_b, f27_r, f27_h⟩, f27_d, 19⟩ :=
  ⟨⟨Tryd.f27, by kernel_rfl, by kernel_rfl, by kernel_rfl, by kernel_rfl, by kernel_rfl, of_decide_eq_true (by kernel_rfl)⟩⟩
theorem f29_ok [Inv] : FunOk Tryd.prog 29 ⟨⟨f29_b, f29_r, f29_h⟩, f29_d, 9⟩ :=
  ⟨⟨Tryd.f29, by kernel_rfl, by kernel_rfl, by kernel_rfl, by kernel_rfl, by kernel_rfl, of_decide_eq_true (by kernel_rfl)⟩⟩
theorem f44_ok [Inv] : FunOk Tryd.prog 44 ⟨⟨f44_b, f44_r, f44_h⟩, f44_d, 17⟩ :=
  ⟨⟨Tryd.f44, by kernel_rfl, by kernel_rfl, by kernel_rfl, by kernel_rfl, by kernel_rfl, of_decide_eq_true (by kernel_rfl)⟩⟩
theorem f45_ok [Inv] : FunOk Tryd.prog 45 ⟨⟨f45_b, f45_r, f45_h⟩, f45_d, 23⟩ :=
  ⟨⟨Tryd.f45, by kernel_rfl, by kernel_rfl, by kernel_rfl, by kernel_rfl, by kernel_rfl, of_decide_eq_true (by kernel_rfl)⟩⟩
theorem AXF_ok [Inv] : ∀ f x, AXF f = some x → FunOk Tryd.prog f x := by
  unfold AXF
  exact funOk_cons f4_ok (funOk_cons f5_ok (funOk_cons f6_ok (funOk_cons f16_ok (funOk_cons f18_ok (funOk_cons f19_ok (funOk_cons f20_ok (funOk_cons f21_ok (funOk_cons f27_ok (funOk_cons f29_ok (funOk_cons f44_ok (funOk_cons f45_ok (funOk_nil))))))))))))
theorem AXE_T : tysOk Tryd.prog AXE.T = true := by kernel_rfl
theorem AXE_ok : EnvOk Tryd.prog AXE := ⟨AXE_T, primOk_cons pGood_ok (primOk_cons pRead_ok (primOk_cons pFew_ok (primOk_cons pBytes_ok (primOk_cons pRBytes_ok (primOk_cons pEnh_ok (primOk_cons pREnh_ok (primOk_cons pRGood_ok (primOk_nil)))))))), fun f p h => by cases h⟩
end AX
end Go.Proofs.YtalkglheaadigaaDoor
