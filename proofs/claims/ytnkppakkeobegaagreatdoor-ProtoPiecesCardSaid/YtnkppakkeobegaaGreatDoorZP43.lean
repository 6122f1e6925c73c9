/-
  PqOk.
-/
import Derived.Test.YtnkppakkeobegaaGreatDoorZP15
import Derived.Test.YtnkppakkeobegaaGreatDoorZP09
import Derived.Test.YtnkppakkeobegaaGreatDoorZP37
import Derived.Test.YtnkppakkeobegaaGreatDoorZP40
import Derived.Test.YtnkppakkeobegaaGreatDoorZP41
import Derived.Test.YtnkppakkeobegaaGreatDoorZP42
set_option maxRecDepth 20000
set_option linter.unusedVariables false
set_option linter.unusedSimpArgs false
set_option linter.unusedSectionVars false
namespace Go.Proofs.YtnkppakkeobegaaGreatDoor
namespace AX
theorem f4_ok [Inv] : FunOk Tryz.prog 4 ⟨⟨f4_b, f4_r, f4_h⟩, f4_d, 71, f4_bx, [], [], f4_s⟩ :=
 ⟨⟨Tryz.f4, by kernel_rfl, by kernel_rfl, by kernel_rfl, by kernel_rfl, by kernel_rfl, of_decide_eq_true (by kernel_rfl)⟩⟩
theorem f7_ok [Inv] : FunOk Tryz.prog 7 ⟨⟨f7_b, f7_r, f7_h⟩, f7_d, 101, f7_bx, [], [], f7_s⟩ :=
 ⟨⟨Tryz.f7, by kernel_rfl, by kernel_rfl, by kernel_rfl, by kernel_rfl, by kernel_rfl, of_decide_eq_true (by kernel_rfl)⟩⟩
theorem f8_ok [Inv] : FunOk Tryz.prog 8 ⟨⟨f8_b, f8_r, f8_h⟩, f8_d, 12, f8_bx, [11], [], f8_s⟩ :=
 ⟨⟨Tryz.f8, by kernel_rfl, by kernel_rfl, by kernel_rfl, by kernel_rfl, by kernel_rfl, of_decide_eq_true (by kernel_rfl)⟩⟩
theorem f13_ok [Inv] : FunOk Tryz.prog 13 ⟨⟨f13_b, f13_r, f13_h⟩, f13_d, 103, f13_bx, [], [], f13_s⟩ :=
 ⟨⟨Tryz.f13, by kernel_rfl, by kernel_rfl, by kernel_rfl, by kernel_rfl, by kernel_rfl, of_decide_eq_true (by kernel_rfl)⟩⟩
theorem f14_ok [Inv] : FunOk Tryz.prog 14 ⟨⟨f14_b, f14_r, f14_h⟩, f14_d, 7, f14_bx, [], [], f14_s⟩ :=
 ⟨⟨Tryz.f14, by kernel_rfl, by kernel_rfl, by kernel_rfl, by kernel_rfl, by kernel_rfl, of_decide_eq_true (by kernel_rfl)⟩⟩
theorem f9_ok [Inv] : FunOk Tryz.prog 9 ⟨⟨f9_b, f9_r, f9_h⟩, f9_d, 13, f9_bx, [], [8], f9_s⟩ :=
 ⟨⟨Tryz.f9, by kernel_rfl, by kernel_rfl, by kernel_rfl, by kernel_rfl, by kernel_rfl, of_decide_eq_true (by kernel_rfl)⟩⟩
theorem f10_ok [Inv] : FunOk Tryz.prog 10 ⟨⟨f10_b, f10_r, f10_h⟩, f10_d, 37, f10_bx, [], [], f10_s⟩ :=
 ⟨⟨Tryz.f10, by kernel_rfl, by kernel_rfl, by kernel_rfl, by kernel_rfl, by kernel_rfl, of_decide_eq_true (by kernel_rfl)⟩⟩
theorem f11_ok [Inv] : FunOk Tryz.prog 11 ⟨⟨f11_b, f11_r, f11_h⟩, f11_d, 14, f11_bx, [], [], f11_s⟩ :=
 ⟨⟨Tryz.f11, by kernel_rfl, by kernel_rfl, by kernel_rfl, by kernel_rfl, by kernel_rfl, of_decide_eq_true (by kernel_rfl)⟩⟩
theorem f12_ok [Inv] : FunOk Tryz.prog 12 ⟨⟨f12_b, f12_r, f12_h⟩, f12_d, 56, f12_bx, [], [40], f12_s⟩ :=
 ⟨⟨Tryz.f12, by kernel_rfl, by kernel_rfl, by kernel_rfl, by kernel_rfl, by kernel_rfl, of_decide_eq_true (by kernel_rfl)⟩⟩
theorem f18_ok [Inv] : FunOk Tryz.prog 18 ⟨⟨f18_b, f18_r, f18_h⟩, f18_d, 17, f18_bx, [], [], f18_s⟩ :=
 ⟨⟨Tryz.f18, by kernel_rfl, by kernel_rfl, by kernel_rfl, by kernel_rfl, by kernel_rfl, of_decide_eq_true (by kernel_rfl)⟩⟩
theorem f26_ok [Inv] : FunOk Tryz.prog 26 ⟨⟨f26_b, f26_r, f26_h⟩, f26_d, 31, f26_bx, [], [], f26_s⟩ :=
 ⟨⟨Tryz.f26, by kernel_rfl, by kernel_rfl, by kernel_rfl, by kernel_rfl, by kernel_rfl, of_decide_eq_true (by kernel_rfl)⟩⟩
theorem f27_ok [Inv] : FunOk Tryz.prog 27 ⟨⟨f27_b, f27_r, f27_h⟩, f27_d, 75, f27_bx, [], [36, 39], f27_s⟩ :=
 ⟨⟨Tryz.f27, by kernel_rfl, by kernel_rfl, by kernel_rfl, by kernel_rfl, by kernel_rfl, of_decide_eq_true (by kernel_rfl)⟩⟩
theorem f28_ok [Inv] : FunOk Tryz.prog 28 ⟨⟨f28_b, f28_r, f28_h⟩, f28_d, 24, f28_bx, [], [], f28_s⟩ :=
 ⟨⟨Tryz.f28, by kernel_rfl, by kernel_rfl, by kernel_rfl, by kernel_rfl, by kernel_rfl, of_decide_eq_true (by kernel_rfl)⟩⟩
theorem f29_ok [Inv] : FunOk Tryz.prog 29 ⟨⟨f29_b, f29_r, f29_h⟩, f29_d, 12, f29_bx, [], [], f29_s⟩ :=
 ⟨⟨Tryz.f29, by kernel_rfl, by kernel_rfl, by kernel_rfl, by kernel_rfl, by kernel_rfl, of_decide_eq_true (by kernel_rfl)⟩⟩
theorem f31_ok [Inv] : FunOk Tryz.prog 31 ⟨⟨f31_b, f31_r, f31_h⟩, f31_d, 9, f31_bx, [], [], f31_s⟩ :=
 ⟨⟨Tryz.f31, by kernel_rfl, by kernel_rfl, by kernel_rfl, by kernel_rfl, by kernel_rfl, of_decide_eq_true (by kernel_rfl)⟩⟩
theorem f34_ok [Inv] : FunOk Tryz.prog 34 ⟨⟨f34_b, f34_r, f34_h⟩, f34_d, 8, f34_bx, [], [], f34_s⟩ :=
 ⟨⟨Tryz.f34, by kernel_rfl, by kernel_rfl, by kernel_rfl, by kernel_rfl, by kernel_rfl, of_decide_eq_true (by kernel_rfl)⟩⟩
theorem f38_ok [Inv] : FunOk Tryz.prog 38 ⟨⟨f38_b, f38_r, f38_h⟩, f38_d, 12, f38_bx, [], [], f38_s⟩ :=
 ⟨⟨Tryz.f38, by kernel_rfl, by kernel_rfl, by kernel_rfl, by kernel_rfl, by kernel_rfl, of_decide_eq_true (by kernel_rfl)⟩⟩
theorem f45_ok [Inv] : FunOk Tryz.prog 45 ⟨⟨f45_b, f45_r, f45_h⟩, f45_d, 51, f45_bx, [], [], f45_s⟩ :=
 ⟨⟨Tryz.f45, by kernel_rfl, by kernel_rfl, by kernel_rfl, by kernel_rfl, by kernel_rfl, of_decide_eq_true (by kernel_rfl)⟩⟩
theorem f46_ok [Inv] : FunOk Tryz.prog 46 ⟨⟨f46_b, f46_r, f46_h⟩, f46_d, 84, f46_bx, [], [25, 27], f46_s⟩ :=
 ⟨⟨Tryz.f46, by kernel_rfl, by kernel_rfl, by kernel_rfl, by kernel_rfl, by kernel_rfl, of_decide_eq_true (by kernel_rfl)⟩⟩
theorem f48_ok [Inv] : FunOk Tryz.prog 48 ⟨⟨f48_b, f48_r, f48_h⟩, f48_d, 79, f48_bx, [], [], f48_s⟩ :=
 ⟨⟨Tryz.f48, by kernel_rfl, by kernel_rfl, by kernel_rfl, by kernel_rfl, by kernel_rfl, of_decide_eq_true (by kernel_rfl)⟩⟩
theorem f49_ok [Inv] : FunOk Tryz.prog 49 ⟨⟨f49_b, f49_r, f49_h⟩, f49_d, 17, f49_bx, [], [], f49_s⟩ :=
 ⟨⟨Tryz.f49, by kernel_rfl, by kernel_rfl, by kernel_rfl, by kernel_rfl, by kernel_rfl, of_decide_eq_true (by kernel_rfl)⟩⟩
theorem f53_ok [Inv] : FunOk Tryz.prog 53 ⟨⟨f53_b, f53_r, f53_h⟩, f53_d, 19, f53_bx, [], [], f53_s⟩ :=
 ⟨⟨Tryz.f53, by kernel_rfl, by kernel_rfl, by kernel_rfl, by kernel_rfl, by kernel_rfl, of_decide_eq_true (by kernel_rfl)⟩⟩
theorem f64_ok [Inv] : FunOk Tryz.prog 64 ⟨⟨f64_b, f64_r, f64_h⟩, f64_d, 21, f64_bx, [], [], f64_s⟩ :=
 ⟨⟨Tryz.f64, by kernel_rfl, by kernel_rfl, by kernel_rfl, by kernel_rfl, by kernel_rfl, of_decide_eq_true (by kernel_rfl)⟩⟩
theorem f65_ok [Inv] : FunOk Tryz.prog 65 ⟨⟨f65_b, f65_r, f65_h⟩, f65_d, 22, f65_bx, [], [], f65_s⟩ :=
 ⟨⟨Tryz.f65, by kernel_rfl, by kernel_rfl, by kernel_rfl, by kernel_rfl, by kernel_rfl, of_decide_eq_true (by kernel_rfl)⟩⟩
theorem f66_ok [Inv] : FunOk Tryz.prog 66 ⟨⟨f66_b, f66_r, f66_h⟩, f66_d, 28, f66_bx, [], [], f66_s⟩ :=
 ⟨⟨Tryz.f66, by kernel_rfl, by kernel_rfl, by kernel_rfl, by kernel_rfl, by kernel_rfl, of_decide_eq_true (by kernel_rfl)⟩⟩
theorem f67_ok [Inv] : FunOk Tryz.prog 67 ⟨⟨f67_b, f67_r, f67_h⟩, f67_d, 13, f67_bx, [], [], f67_s⟩ :=
 ⟨⟨Tryz.f67, by kernel_rfl, by kernel_rfl, by kernel_rfl, by kernel_rfl, by kernel_rfl, of_decide_eq_true (by kernel_rfl)⟩⟩
theorem f74_ok [Inv] : FunOk Tryz.prog 74 ⟨⟨f74_b, f74_r, f74_h⟩, f74_d, 73, f74_bx, [], [], f74_s⟩ :=
 ⟨⟨Tryz.f74, by kernel_rfl, by kernel_rfl, by kernel_rfl, by kernel_rfl, by kernel_rfl, of_decide_eq_true (by kernel_rfl)⟩⟩
theorem f75_ok [Inv] : FunOk Tryz.prog 75 ⟨⟨f75_b, f75_r, f75_h⟩, f75_d, 25, f75_bx, [], [19], f75_s⟩ :=
 ⟨⟨Tryz.f75, by kernel_rfl, by kernel_rfl, by kernel_rfl, by kernel_rfl, by kernel_rfl, of_decide_eq_true (by kernel_rfl)⟩⟩
theorem f76_ok [Inv] : FunOk Tryz.prog 76 ⟨⟨f76_b, f76_r, f76_h⟩, f76_d, 36, f76_bx, [31], [], f76_s⟩ :=
 ⟨⟨Tryz.f76, by kernel_rfl, by kernel_rfl, by kernel_rfl, by kernel_rfl, by kernel_rfl, of_decide_eq_true (by kernel_rfl)⟩⟩
theorem f77_ok [Inv] : FunOk Tryz.prog 77 ⟨⟨f77_b, f77_r, f77_h⟩, f77_d, 41, f77_bx, [], [], f77_s⟩ :=
 ⟨⟨Tryz.f77, by kernel_rfl, by kernel_rfl, by kernel_rfl, by kernel_rfl, by kernel_rfl, of_decide_eq_true (by kernel_rfl)⟩⟩
theorem f78_ok [Inv] : FunOk Tryz.prog 78 ⟨⟨f78_b, f78_r, f78_h⟩, f78_d, 25, f78_bx, [], [], f78_s⟩ :=
 ⟨⟨Tryz.f78, by kernel_rfl, by kernel_rfl, by kernel_rfl, by kernel_rfl, by kernel_rfl, of_decide_eq_true (by kernel_rfl)⟩⟩
theorem f79_ok [Inv] : FunOk Tryz.prog 79 ⟨⟨f79_b, f79_r, f79_h⟩, f79_d, 27, f79_bx, [], [], f79_s⟩ :=
 ⟨⟨Tryz.f79, by kernel_rfl, by kernel_rfl, by kernel_rfl, by kernel_rfl, by kernel_rfl, of_decide_eq_true (by kernel_rfl)⟩⟩
theorem f32_ok [Inv] : FunOk Tryz.prog 32 ⟨⟨f32_b, f32_r, f32_h⟩, f32_d, 6, f32_bx, [], [], f32_s⟩ :=
 ⟨⟨Tryz.f32, by kernel_rfl, by kernel_rfl, by kernel_rfl, by kernel_rfl, by kernel_rfl, of_decide_eq_true (by kernel_rfl)⟩⟩
theorem f92_ok [Inv] : FunOk Tryz.prog 92 ⟨⟨f92_b, f92_r, f92_h⟩, f92_d, 50, f92_bx, [], [], f92_s⟩ :=
 ⟨⟨Tryz.f92, by kernel_rfl, by kernel_rfl, by kernel_rfl, by kernel_rfl, by kernel_rfl, of_decide_eq_true (by kernel_rfl)⟩⟩
theorem f96_ok [Inv] : FunOk Tryz.prog 96 ⟨⟨f96_b, f96_r, f96_h⟩, f96_d, 67, f96_bx, [], [], f96_s⟩ :=
 ⟨⟨Tryz.f96, by kernel_rfl, by kernel_rfl, by kernel_rfl, by kernel_rfl, by kernel_rfl, of_decide_eq_true (by kernel_rfl)⟩⟩
theorem f97_ok [Inv] : FunOk Tryz.prog 97 ⟨⟨f97_b, f97_r, f97_h⟩, f97_d, 8, f97_bx, [], [], f97_s⟩ :=
 ⟨⟨Tryz.f97, by kernel_rfl, by kernel_rfl, by kernel_rfl, by kernel_rfl, by kernel_rfl, of_decide_eq_true (by kernel_rfl)⟩⟩
theorem f101_ok [Inv] : FunOk Tryz.prog 101 ⟨⟨f101_b, f101_r, f101_h⟩, f101_d, 19, f101_bx, [], [], f101_s⟩ :=
 ⟨⟨Tryz.f101, by kernel_rfl, by kernel_rfl, by kernel_rfl, by kernel_rfl, by kernel_rfl, of_decide_eq_true (by kernel_rfl)⟩⟩
theorem f103_ok [Inv] : FunOk Tryz.prog 103 ⟨⟨f103_b, f103_r, f103_h⟩, f103_d, 24, f103_bx, [], [], f103_s⟩ :=
 ⟨⟨Tryz.f103, by kernel_rfl, by kernel_rfl, by kernel_rfl, by kernel_rfl, by kernel_rfl, of_decide_eq_true (by kernel_rfl)⟩⟩
theorem f104_ok [Inv] : FunOk Tryz.prog 104 ⟨⟨f104_b, f104_r, f104_h⟩, f104_d, 4, f104_bx, [], [], f104_s⟩ :=
 ⟨⟨Tryz.f104, by kernel_rfl, by kernel_rfl, by kernel_rfl, by kernel_rfl, by kernel_rfl, of_decide_eq_true (by kernel_rfl)⟩⟩
theorem f105_ok [Inv] : FunOk Tryz.prog 105 ⟨⟨f105_b, f105_r, f105_h⟩, f105_d, 26, f105_bx, [], [], f105_s⟩ :=
 ⟨⟨Tryz.f105, by kernel_rfl, by kernel_rfl, by kernel_rfl, by kernel_rfl, by kernel_rfl, of_decide_eq_true (by kernel_rfl)⟩⟩
theorem f106_ok [Inv] : FunOk Tryz.prog 106 ⟨⟨f106_b, f106_r, f106_h⟩, f106_d, 62, f106_bx, [], [], f106_s⟩ :=
 ⟨⟨Tryz.f106, by kernel_rfl, by kernel_rfl, by kernel_rfl, by kernel_rfl, by kernel_rfl, of_decide_eq_true (by kernel_rfl)⟩⟩
theorem f107_ok [Inv] : FunOk Tryz.prog 107 ⟨⟨f107_b, f107_r, f107_h⟩, f107_d, 3, f107_bx, [], [], f107_s⟩ :=
 ⟨⟨Tryz.f107, by kernel_rfl, by kernel_rfl, by kernel_rfl, by kernel_rfl, by kernel_rfl, of_decide_eq_true (by kernel_rfl)⟩⟩
theorem f108_ok [Inv] : FunOk Tryz.prog 108 ⟨⟨f108_b, f108_r, f108_h⟩, f108_d, 7, f108_bx, [6], [], f108_s⟩ :=
 ⟨⟨Tryz.f108, by kernel_rfl, by kernel_rfl, by kernel_rfl, by kernel_rfl, by kernel_rfl, of_decide_eq_true (by kernel_rfl)⟩⟩
theorem f93_ok [Inv] : FunOk Tryz.prog 93 ⟨⟨f93_b, f93_r, f93_h⟩, f93_d, 13, f93_bx, [], [], f93_s⟩ :=
 ⟨⟨Tryz.f93, by kernel_rfl, by kernel_rfl, by kernel_rfl, by kernel_rfl, by kernel_rfl, of_decide_eq_true (by kernel_rfl)⟩⟩
theorem f121_ok [Inv] : FunOk Tryz.prog 121 ⟨⟨f121_b, f121_r, f121_h⟩, f121_d, 23, f121_bx, [], [], f121_s⟩ :=
 ⟨⟨Tryz.f121, by kernel_rfl, by kernel_rfl, by kernel_rfl, by kernel_rfl, by kernel_rfl, of_decide_eq_true (by kernel_rfl)⟩⟩
theorem f122_ok [Inv] : FunOk Tryz.prog 122 ⟨⟨f122_b, f122_r, f122_h⟩, f122_d, 56, f122_bx, [], [48], f122_s⟩ :=
 ⟨⟨Tryz.f122, by kernel_rfl, by kernel_rfl, by kernel_rfl, by kernel_rfl, by kernel_rfl, of_decide_eq_true (by kernel_rfl)⟩⟩
theorem f126_ok [Inv] : FunOk Tryz.prog 126 ⟨⟨f126_b, f126_r, f126_h⟩, f126_d, 29, f126_bx, [], [], f126_s⟩ :=
 ⟨⟨Tryz.f126, by kernel_rfl, by kernel_rfl, by kernel_rfl, by kernel_rfl, by kernel_rfl, of_decide_eq_true (by kernel_rfl)⟩⟩
theorem f127_ok [Inv] : FunOk Tryz.prog 127 ⟨⟨f127_b, f127_r, f127_h⟩, f127_d, 2, f127_bx, [], [], f127_s⟩ :=
 ⟨⟨Tryz.f127, by kernel_rfl, by kernel_rfl, by kernel_rfl, by kernel_rfl, by kernel_rfl, of_decide_eq_true (by kernel_rfl)⟩⟩
theorem f129_ok [Inv] : FunOk Tryz.prog 129 ⟨⟨f129_b, f129_r, f129_h⟩, f129_d, 50, f129_bx, [], [], f129_s⟩ :=
 ⟨⟨Tryz.f129, by kernel_rfl, by kernel_rfl, by kernel_rfl, by kernel_rfl, by kernel_rfl, of_decide_eq_true (by kernel_rfl)⟩⟩
theorem f130_ok [Inv] : FunOk Tryz.prog 130 ⟨⟨f130_b, f130_r, f130_h⟩, f130_d, 61, f130_bx, [], [], f130_s⟩ :=
 ⟨⟨Tryz.f130, by kernel_rfl, by kernel_rfl, by kernel_rfl, by kernel_rfl, by kernel_rfl, of_decide_eq_true (by kernel_rfl)⟩⟩
theorem f94_ok [Inv] : FunOk Tryz.prog 94 ⟨⟨f94_b, f94_r, f94_h⟩, f94_d, 11, f94_bx, [], [], f94_s⟩ :=
 ⟨⟨Tryz.f94, by kernel_rfl, by kernel_rfl, by kernel_rfl, by kernel_rfl, by kernel_rfl, of_decide_eq_true (by kernel_rfl)⟩⟩
theorem f95_ok [Inv] : FunOk Tryz.prog 95 ⟨⟨f95_b, f95_r, f95_h⟩, f95_d, 9, f95_bx, [], [], f95_s⟩ :=
 ⟨⟨Tryz.f95, by kernel_rfl, by kernel_rfl, by kernel_rfl, by kernel_rfl, by kernel_rfl, of_decide_eq_true (by kernel_rfl)⟩⟩
theorem f145_ok [Inv] : FunOk Tryz.prog 145 ⟨⟨f145_b, f145_r, f145_h⟩, f145_d, 35, f145_bx, [], [], f145_s⟩ :=
 ⟨⟨Tryz.f145, by kernel_rfl, by kernel_rfl, by kernel_rfl, by kernel_rfl, by kernel_rfl, of_decide_eq_true (by kernel_rfl)⟩⟩
theorem f146_ok [Inv] : FunOk Tryz.prog 146 ⟨⟨f146_b, f146_r, f146_h⟩, f146_d, 23, f146_bx, [], [], f146_s⟩ :=
 ⟨⟨Tryz.f146, by kernel_rfl, by kernel_rfl, by kernel_rfl, by kernel_rfl, by kernel_rfl, of_decide_eq_true (by kernel_rfl)⟩⟩
theorem f147_ok [Inv] : FunOk Tryz.prog 147 ⟨⟨f147_b, f147_r, f147_h⟩, f147_d, 26, f147_bx, [], [], f147_s⟩ :=
 ⟨⟨Tryz.f147, by kernel_rfl, by kernel_rfl, by kernel_rfl, by kernel_rfl, by kernel_rfl, of_decide_eq_true (by kernel_rfl)⟩⟩
theorem f148_ok [Inv] : FunOk Tryz.prog 148 ⟨⟨f148_b, f148_r, f148_h⟩, f148_d, 19, f148_bx, [], [], f148_s⟩ :=
 ⟨⟨Tryz.f148, by kernel_rfl, by kernel_rfl, by kernel_rfl, by kernel_rfl, by kernel_rfl, of_decide_eq_true (by kernel_rfl)⟩⟩
theorem f149_ok [Inv] : FunOk Tryz.prog 149 ⟨⟨f149_b, f149_r, f149_h⟩, f149_d, 33, f149_bx, [], [], f149_s⟩ :=
 ⟨⟨Tryz.f149, by kernel_rfl, by kernel_rfl, by kernel_rfl, by kernel_rfl, by kernel_rfl, of_decide_eq_true (by kernel_rfl)⟩⟩
theorem f150_ok [Inv] : FunOk Tryz.prog 150 ⟨⟨f150_b, f150_r, f150_h⟩, f150_d, 10, f150_bx, [], [], f150_s⟩ :=
 ⟨⟨Tryz.f150, by kernel_rfl, by kernel_rfl, by kernel_rfl, by kernel_rfl, by kernel_rfl, of_decide_eq_true (by kernel_rfl)⟩⟩
theorem f151_ok [Inv] : FunOk Tryz.prog 151 ⟨⟨f151_b, f151_r, f151_h⟩, f151_d, 49, f151_bx, [], [], f151_s⟩ :=
 ⟨⟨Tryz.f151, by kernel_rfl, by kernel_rfl, by kernel_rfl, by kernel_rfl, by kernel_rfl, of_decide_eq_true (by kernel_rfl)⟩⟩
theorem f177_ok [Inv] : FunOk Tryz.prog 177 ⟨⟨f177_b, f177_r, f177_h⟩, f177_d, 34, f177_bx, [], [], f177_s⟩ :=
 ⟨⟨Tryz.f177, by kernel_rfl, by kernel_rfl, by kernel_rfl, by kernel_rfl, by kernel_rfl, of_decide_eq_true (by kernel_rfl)⟩⟩
theorem f196_ok [Inv] : FunOk Tryz.prog 196 ⟨⟨f196_b, f196_r, f196_h⟩, f196_d, 27, f196_bx, [], [], f196_s⟩ :=
 ⟨⟨Tryz.f196, by kernel_rfl, by kernel_rfl, by kernel_rfl, by kernel_rfl, by kernel_rfl, of_decide_eq_true (by kernel_rfl)⟩⟩
theorem f208_ok [Inv] : FunOk Tryz.prog 208 ⟨⟨f208_b, f208_r, f208_h⟩, f208_d, 14, f208_bx, [], [], f208_s⟩ :=
 ⟨⟨Tryz.f208, by kernel_rfl, by kernel_rfl, by kernel_rfl, by kernel_rfl, by kernel_rfl, of_decide_eq_true (by kernel_rfl)⟩⟩
theorem AXF_ok [Inv] : ∀ f x, AXF f = some x → FunOk Tryz.prog f x := by
 unfold AXF
 exact funOk_cons f4_ok (funOk_cons f7_ok (funOk_cons f8_ok (funOk_cons f13_ok (funOk_cons f14_ok (funOk_cons f9_ok (funOk_cons f10_ok (funOk_cons f11_ok (funOk_cons f12_ok (funOk_cons f18_ok (funOk_cons f26_ok (funOk_cons f27_ok (funOk_cons f28_ok (funOk_cons f29_ok (funOk_cons f31_ok (funOk_cons f34_ok (funOk_cons f38_ok (funOk_cons f45_ok (funOk_cons f46_ok (funOk_cons f48_ok (funOk_cons f49_ok (funOk_cons f53_ok (funOk_cons f64_ok (funOk_cons f65_ok (funOk_cons f66_ok (funOk_cons f67_ok (funOk_cons f74_ok (funOk_cons f75_ok (funOk_cons f76_ok (funOk_cons f77_ok (funOk_cons f78_ok (funOk_cons f79_ok (funOk_cons f32_ok (funOk_cons f92_ok (funOk_cons f96_ok (funOk_cons f97_ok (funOk_cons f101_ok (funOk_cons f103_ok (funOk_cons f104_ok (funOk_cons f105_ok (funOk_cons f106_ok (funOk_cons f107_ok (funOk_cons f108_ok (funOk_cons f93_ok (funOk_cons f121_ok (funOk_cons f122_ok (funOk_cons f126_ok (funOk_cons f127_ok (funOk_cons f129_ok (funOk_cons f130_ok (funOk_cons f94_ok (funOk_cons f95_ok (funOk_cons f145_ok (funOk_cons f146_ok (funOk_cons f147_ok (funOk_cons f148_ok (funOk_cons f149_ok (funOk_cons f150_ok (funOk_cons f151_ok (funOk_cons f177_ok (funOk_cons f196_ok (funOk_cons f208_ok (funOk_nil))))))))))))))))))))))))))))))))))))))))))))))))))))))))))))))
theorem AXE_T : tysOk Tryz.prog AXE.T = true := by kernel_rfl
theorem AXE_eqs : ∀ t ∈ AXE.eqs, (Tryz.prog).stoodInHeld t = false ∧ (Tryz.prog).eqGuardType (Tryz.prog).depth t = false ∧ ∀ f ∈ ((Tryz.prog).fieldsOf t).toList, f.name ≠ "_" := by
 intro t ht
 have ht : t ∈ ([28] : List Nat) := ht
 simp only [List.mem_cons, List.not_mem_nil, or_false] at ht
 rcases ht with rfl <;> exact ⟨by kernel_rfl, by kernel_rfl, of_decide_eq_true (by kernel_rfl)⟩
theorem AXE_ok : EnvOk Tryz.prog AXE := ⟨AXE_T, AXE_eqs, primOk_cons pGood_ok (primOk_cons pBIndex_ok (primOk_cons pBytes_ok (primOk_cons pSClone_ok (primOk_cons pBClone_ok (primOk_cons pRepeat_ok (primOk_cons pCut_ok (primOk_cons pSplit_ok (primOk_cons pContains_ok (primOk_cons pHasPrefix_ok (primOk_cons pParseU_ok (primOk_cons pIndexByte_ok (primOk_nil)))))))))))), primHOk_cons pQuoted_ok (primHOk_nil), primSOk_nil, primGOk_cons pMany_ok (primGOk_nil)⟩
end AX
end Go.Proofs.YtnkppakkeobegaaGreatDoor
