/-
  The functions of this seat, for the reckoning: tables. Printed.
-/
import Derived.Test.YtfbicbgdfcbhpaaDoorAV26
import Derived.Test.YtfbicbgdfcbhpaaDoorProg
import Derived.Test.YtfbicbgdfcbhpaaDoorLpNum
import Derived.Test.YtfbicbgdfcbhpaaDoorLpSplit
import Derived.Test.YtfbicbgdfcbhpaaDoorLpJoin
import Derived.Test.YtfbicbgdfcbhpaaDoorLpIdx
import Derived.Test.YtfbicbgdfcbhpaaDoorLpBuild
set_option maxRecDepth 20000
set_option linter.unusedVariables false
set_option linter.unusedSimpArgs false
set_option linter.unusedSectionVars false
namespace Go.Proofs.YtfbicbgdfcbhpaaDoor
namespace AX
structure S_api_Event where
  fKind : Int
  fSlot : Int
  fN : Int
  fK : Int
  fLmtp : Bool
  fName : List UInt8
  fLimit_Bytes : Int
  fLimit_Count : Int
  fTo : List Cell
  fData : List Cell
  fCode : Int
  fKeep : List Cell
@[reducible] def S_api_Event.cells (x : S_api_Event) : List Cell := [.int .i64 x.fKind, .int .i64 x.fSlot, .int .i64 x.fN, .int .i64 x.fK, .bool x.fLmtp, .str x.fName, .int .i64 x.fLimit_Bytes, .int .i64 x.fLimit_Count, .sl none 1 x.fTo, .sl none 1 x.fData, .int .i64 x.fCode, .sl none 1 x.fKeep]
def takeS_api_Event {R : Type} (l : List Cell) (k : S_api_Event → List Cell → Option R) : Option R :=
  consK l fun c0 r0 => castI .i64 c0 fun v0 =>
  consK r0 fun c1 r1 => castI .i64 c1 fun v1 =>
  consK r1 fun c2 r2 => castI .i64 c2 fun v2 =>
  consK r2 fun c3 r3 => castI .i64 c3 fun v3 =>
  consK r3 fun c4 r4 => castB c4 fun v4 =>
  consK r4 fun c5 r5 => castS c5 fun v5 =>
  consK r5 fun c6 r6 => castI .i64 c6 fun v6 =>
  consK r6 fun c7 r7 => castI .i64 c7 fun v7 =>
  consK r7 fun c8 r8 => castL 1 c8 fun _ v8 =>
  consK r8 fun c9 r9 => castL 1 c9 fun _ v9 =>
  consK r9 fun c10 r10 => castI .i64 c10 fun v10 =>
  consK r10 fun c11 r11 => castL 1 c11 fun _ v11 =>
  k (⟨v0, v1, v2, v3, v4, v5, v6, v7, v8, v9, v10, v11⟩ : S_api_Event) r11
theorem takeS_api_Event_cells {R : Type} (x : S_api_Event) (r : List Cell) (k : S_api_Event → List Cell → Option R) : takeS_api_Event (x.cells ++ r) k = k x r := by
  cases x; rfl
theorem takeS_api_Event_cells_nil {R : Type} (x : S_api_Event) (k : S_api_Event → List Cell → Option R) : takeS_api_Event x.cells k = k x [] := by
  cases x; rfl
def AXT0 : List (Nat × TI) := [(3, .int .i64), (4, .bool), (5, .int .u8), (9, .str), (24, .struct [.int .i64, .int .i64] [(0, 1, 3), (1, 1, 3)]), (25, .slice 9 1), (26, .slice 5 1), (27, .int .i64), (28, .slice 3 1), (30, .struct [.int .i64, .int .i64, .int .i64, .int .i64, .bool, .str, .int .i64, .int .i64, .slice 9 1, .slice 5 1, .int .i64, .slice 3 1] [(0, 1, 3), (1, 1, 3), (2, 1, 3), (3, 1, 3), (4, 1, 4), (5, 1, 9), (6, 2, 24), (8, 1, 25), (9, 1, 26), (10, 1, 27), (11, 1, 28)]), (31, .tup [(.struct [.int .i64, .int .i64, .int .i64, .int .i64, .bool, .str, .int .i64, .int .i64, .slice 9 1, .slice 5 1, .int .i64, .slice 3 1] [(0, 1, 3), (1, 1, 3), (2, 1, 3), (3, 1, 3), (4, 1, 4), (5, 1, 9), (6, 2, 24), (8, 1, 25), (9, 1, 26), (10, 1, 27), (11, 1, 28)]), (.int .i64)]), (37, .tup [.str, .bool]), (39, .slice 30 12), (40, .tup [(.slice 30 12), (.int .i64), (.int .i64)]), (47, .tup [.str, (.int .i64)]), (60, .tup [.str, .str, .bool]), (64, .ptr), (76, .ptr), (78, .struct [.ptr, .slice 5 1] [(0, 1, 76), (1, 1, 26)]), (80, .err), (81, .tup [(.int .i64), .err]), (89, .tup [(.slice 5 1), .bool]), (93, .tup [(.int .i64), .bool])]
noncomputable def AXE : Env := ⟨AXT0, [], [78], primOf [(20, pCut), (33, pSplit), (52, pItoa), (56, pJoin), (68, pIndexByte), (96, pAtoi)], primHOf [(34, pBW)], primSOf [(35, pBS)], [], refOf [(22, [(0, 11)]), (45, [(0, 11)]), (47, [(0, 11)])], [24]⟩
noncomputable def f4_b : Code := bodyOf Tryd.f4
def f4_r : List ResultVar := [.tmp 4]
def f4_h : List (Nat × List Nat × Nat) := [(0, [0, 1], 0), (1, [0, 1, 23], 0), (2, [4], 0), (3, [0, 1, 26], 0), (4, [4], 0), (5, [0, 1, 5], 0), (6, [0, 1, 5, 6], 0), (7, [0, 1, 5, 6, 30], 0), (9, [0, 1, 5, 6, 38], 0), (10, [4], 0), (11, [0, 1, 5, 6], 0), (8, [0, 1, 5, 6], 0), (12, [0, 1, 5, 7, 8], 0), (13, [0, 1, 7, 8, 53], 0), (14, [4], 0), (15, [0, 1, 8, 9, 10, 11], 0), (16, [0, 1, 9, 82], 0), (17, [4], 0), (18, [0, 1, 9, 12], 0), (19, [0, 1, 9, 12, 86], 0), (21, [0, 1, 9, 12, 98], 0), (22, [4], 0), (20, [0, 1, 9, 12], 0), (23, [100], 0), (24, [4], 0), (25, [13], 0), (26, [13, 14], 0), (27, [13, 14, 15], 0), (28, [13, 14, 15, 102], 0), (30, [13, 14, 15], 0), (31, [13, 14, 15], 0), (29, [13, 14, 15], 0), (32, [13, 14, 17], 0), (33, [10, 13, 17, 19], 0), (34, [10, 17, 19, 21], 0), (35, [4], 0), (1000028, [13, 14, 15], 0), (1000019, [0, 1, 9, 12], 0), (1000007, [0, 1, 5, 6], 0)]
def f4_bx : List Nat := []
def f4_d : List (Nat × Nat) := [(21, 8)]
noncomputable def f7_b : Code := bodyOf Tryd.f7
def f7_r : List ResultVar := [.tmp 0]
def f7_h : List (Nat × List Nat × Nat) := [(0, [], 0), (1, [1, 2], 1), (2, [1, 2, 3, 4], 1), (3, [1, 2, 3, 4, 5, 6, 7], 1), (4, [1, 2, 3, 4, 5, 6, 7, 9, 10], 1), (5, [0], 0)]
def f7_bx : List Nat := []
def f7_d : List (Nat × Nat) := []
noncomputable def f10_b : Code := bodyOf Tryd.f10
def f10_r : List ResultVar := [.tmp 4]
def f10_h : List (Nat × List Nat × Nat) := [(0, [2, 3], 2), (1, [2, 3, 77], 2), (2, [4], 0), (3, [2, 3, 5], 2), (4, [2, 3, 5, 82], 2), (6, [2, 3, 5, 95], 2), (7, [4], 0), (5, [2, 3, 5], 2), (8, [4], 0), (1000004, [2, 3, 5], 2)]
def f10_bx : List Nat := []
def f10_d : List (Nat × Nat) := [(6, 10)]
noncomputable def f12_b : Code := bodyOf Tryd.f12
def f12_r : List ResultVar := [.tmp 2, .tmp 3, .tmp 4]
def f12_h : List (Nat × List Nat × Nat) := [(0, [0, 2], 0), (1, [2, 10, 11, 12], 0), (2, [2, 10, 11, 12, 13], 0), (3, [2, 5, 6, 10, 11, 12], 0), (4, [2, 5, 6, 10, 11, 12, 23], 0), (5, [2, 5, 7, 8, 10, 11, 12], 1), (6, [2, 5, 7, 8, 10, 11, 12, 35], 1), (7, [2, 5, 7, 8, 10, 11, 12], 1), (8, [2, 5, 7, 8, 10, 11, 12, 37], 1), (9, [2, 3, 4], 0), (10, [2, 10, 11, 12], 0), (11, [2, 10, 11, 12], 0), (12, [2, 3, 4], 0), (1000002, [2, 10, 11, 12], 0)]
def f12_bx : List Nat := []
def f12_d : List (Nat × Nat) := []
noncomputable def f14_b : Code := bodyOf Tryd.f14
def f14_r : List ResultVar := [.tmp 2]
def f14_h : List (Nat × List Nat × Nat) := [(0, [1], 1), (1, [1, 25], 1), (2, [2], 0), (3, [1, 3], 1), (4, [1, 3, 30], 1), (6, [1, 3, 39], 1), (7, [2], 0), (5, [1, 3], 1), (8, [2], 0), (1000004, [1, 3], 1)]
def f14_bx : List Nat := []
def f14_d : List (Nat × Nat) := []
noncomputable def f15_b : Code := bodyOf Tryd.f15
def f15_r : List ResultVar := [.tmp 2]
def f15_h : List (Nat × List Nat × Nat) := [(0, [1], 1), (1, [4], 0), (2, [2], 0)]
def f15_bx : List Nat := []
def f15_d : List (Nat × Nat) := []
noncomputable def f16_b : Code := bodyOf Tryd.f16
def f16_r : List ResultVar := [.tmp 2, .tmp 3]
def f16_h : List (Nat × List Nat × Nat) := [(0, [0], 0), (1, [0, 11], 0), (2, [2, 3], 0), (3, [0, 4], 1), (4, [4, 12, 13, 14], 1), (5, [4, 12, 13, 14, 15], 1), (6, [4, 6, 12, 13, 14], 2), (7, [4, 7, 8, 12, 13, 14], 1), (8, [4, 7, 12, 13, 14, 24], 1), (9, [2, 3], 0), (10, [4, 12, 13, 14], 1), (11, [4, 12, 13, 14], 1), (12, [2, 3], 0), (1000005, [4, 12, 13, 14], 1)]
def f16_bx : List Nat := []
def f16_d : List (Nat × Nat) := []
noncomputable def f8_b : Code := bodyOf Tryd.f8
def f8_r : List ResultVar := [.cell 2 30, .tmp 3]
def f8_h : List (Nat × List Nat × Nat) := [(0, [0, 2], 1), (1, [2, 4, 5, 6], 1), (2, [2, 4, 5, 6, 7], 2), (3, [2, 4, 5, 6, 7, 16, 17, 18], 2), (4, [2, 4, 5, 6, 7, 16, 17, 18, 19], 2), (5, [2, 4, 5, 6, 7, 8, 9, 16, 17, 18], 2), (6, [2, 4, 5, 6, 7, 8, 16, 17, 18, 29], 2), (7, [2, 4, 5, 6, 7, 16, 17, 18], 2), (8, [2, 4, 5, 6, 7, 16, 17, 18], 2), (9, [2, 5, 6, 7, 35], 2), (10, [2, 3], 1), (11, [2, 7, 40], 2), (12, [2, 3], 1), (13, [2, 3], 1), (1000004, [2, 4, 5, 6, 7, 16, 17, 18], 2)]
def f8_bx : List Nat := []
def f8_d : List (Nat × Nat) := []
noncomputable def f11_b : Code := bodyOf Tryd.f11
def f11_r : List ResultVar := [.tmp 2, .tmp 3]
def f11_h : List (Nat × List Nat × Nat) := [(0, [1], 1), (1, [1, 14], 1), (2, [2, 3], 0), (3, [1, 4], 1), (4, [1, 4, 5, 6], 2), (5, [4, 29], 0), (6, [2, 3], 0), (7, [2, 3], 0)]
def f11_bx : List Nat := []
def f11_d : List (Nat × Nat) := []
noncomputable def f30_b : Code := bodyOf Tryd.f30
def f30_r : List ResultVar := [.tmp 4]
def f30_h : List (Nat × List Nat × Nat) := [(0, [0, 1], 0), (1, [0, 1, 10], 0), (2, [4], 0), (3, [0, 1, 5], 0), (4, [0, 1, 5, 14], 0), (6, [0, 1, 5, 25], 0), (7, [4], 0), (5, [0, 1, 5], 0), (8, [4], 0), (1000004, [0, 1, 5], 0)]
def f30_bx : List Nat := []
def f30_d : List (Nat × Nat) := [(6, 8)]
noncomputable def f21_b : Code := bodyOf Tryd.f21
def f21_r : List ResultVar := [.tmp 0]
def f21_h : List (Nat × List Nat × Nat) := [(0, [], 0), (1, [0], 0)]
def f21_bx : List Nat := []
def f21_d : List (Nat × Nat) := []
noncomputable def f22_b : Code := bodyOf Tryd.f22
def f22_r : List ResultVar := [.tmp 6]
def f22_h : List (Nat × List Nat × Nat) := [(0, [0, 1, 2], 1), (1, [0, 1, 2, 7], 1), (2, [0, 1, 2, 7, 26], 1), (3, [0, 8, 9], 1), (4, [0, 8, 11, 12], 1), (5, [0, 8, 12], 1), (6, [6], 1), (7, [0, 1, 2, 7, 13], 1), (8, [0, 1, 7, 13, 48], 1), (9, [0, 7, 13], 1), (10, [0, 7, 13, 52, 53], 1), (11, [0, 7, 13, 52, 53, 54], 1), (12, [0, 7, 13, 14, 52, 53], 1), (13, [0, 7, 13, 14, 52, 53, 58], 1), (14, [0, 7, 13, 14, 52, 53, 58, 59], 1), (15, [13], 1), (16, [6], 1), (17, [0, 7, 13, 14, 52, 53, 72], 1), (18, [6], 1), (19, [0, 7, 13, 52, 53, 90], 1), (20, [6], 1), (21, [0, 7, 13, 52, 53], 1), (22, [0, 7, 13, 52, 53], 1), (23, [6], 1), (1000011, [0, 7, 52, 53, 10000013], 1)]
def f22_bx : List Nat := []
def f22_d : List (Nat × Nat) := [(1, 5), (19, 11)]
noncomputable def f31_b : Code := bodyOf Tryd.f31
def f31_r : List ResultVar := [.tmp 2]
def f31_h : List (Nat × List Nat × Nat) := [(0, [1], 1), (1, [1, 3], 1), (2, [1, 3, 19, 20, 21], 1), (3, [1, 3, 19, 20, 21, 22], 1), (4, [1, 3, 5, 19, 20, 21], 1), (5, [1, 3, 19, 20, 21, 25], 1), (6, [1, 3, 19, 20, 21, 25, 26], 1), (7, [1, 3, 19, 20, 21], 1), (8, [1, 3, 19, 20, 21, 25, 34], 1), (9, [1, 3, 19, 20, 21], 1), (10, [1, 3, 19, 20, 21, 25, 42], 1), (11, [1, 3, 19, 20, 21], 1), (12, [1, 3, 19, 20, 21, 25, 50], 1), (13, [1, 3, 19, 20, 21], 1), (14, [1, 3, 19, 20, 21, 25, 58], 1), (15, [1, 3, 19, 20, 21], 1), (16, [1, 3, 19, 20, 21, 25, 66], 1), (17, [1, 3, 19, 20, 21], 1), (18, [1, 3, 19, 20, 21, 25, 75], 1), (19, [1, 3, 19, 20, 21], 1), (20, [1, 3, 19, 20, 21, 25, 84], 1), (21, [1, 3, 19, 20, 21], 1), (22, [1, 3, 19, 20, 21, 25, 92], 1), (23, [1, 3, 19, 20, 21, 25, 92], 1), (24, [1, 3, 19, 20, 21], 1), (25, [1, 3, 19, 20, 21, 25, 101], 1), (26, [1, 3, 19, 20, 21], 1), (27, [1, 3, 19, 20, 21, 107], 1), (28, [1, 3, 19, 20, 21, 110, 111, 112], 1), (29, [1, 3, 19, 20, 21, 110, 111, 112, 113], 1), (30, [1, 3, 7, 19, 20, 21, 110, 111, 112], 1), (31, [1, 3, 19, 20, 21, 110, 111, 112], 1), (32, [1, 3, 19, 20, 21, 110, 111, 112], 1), (33, [1, 3, 19, 20, 21], 1), (34, [2], 0), (1000029, [1, 3, 19, 20, 21, 110, 111, 112], 1), (1000003, [1, 3, 19, 20, 21], 1), (3000092, [], 1000)]
def f31_bx : List Nat := []
def f31_d : List (Nat × Nat) := [(1, 3), (2, 8)]
noncomputable def f32_b : Code := bodyOf Tryd.f32
def f32_r : List ResultVar := [.tmp 4]
def f32_h : List (Nat × List Nat × Nat) := [(0, [2, 3], 2), (1, [2, 3, 58], 2), (2, [4], 0), (3, [4], 0)]
def f32_bx : List Nat := []
def f32_d : List (Nat × Nat) := []
noncomputable def f43_b : Code := bodyOf Tryd.f43
def f43_r : List ResultVar := [.tmp 0]
def f43_h : List (Nat × List Nat × Nat) := [(0, [], 0), (1, [0], 0)]
def f43_bx : List Nat := []
def f43_d : List (Nat × Nat) := []
noncomputable def f44_b : Code := bodyOf Tryd.f44
def f44_r : List ResultVar := [.tmp 2, .tmp 3]
def f44_h : List (Nat × List Nat × Nat) := [(0, [0], 0), (1, [0, 23], 0), (2, [2, 3], 0), (3, [0, 4], 0), (4, [0, 4, 5], 0), (5, [0, 4, 5, 30], 0), (6, [0, 4, 5, 6, 7], 0), (7, [0, 4, 5, 6, 7, 34], 0), (8, [0, 4, 5, 37], 0), (9, [2, 3], 0), (10, [0, 4, 5, 7], 0), (11, [0, 4, 5, 6, 7], 0), (12, [0, 4, 5, 6, 7, 40], 0), (13, [0, 4, 5, 6, 7, 40, 41], 0), (14, [0, 4, 5, 6, 7], 0), (15, [0, 4, 5, 6, 7, 40, 43], 0), (16, [0, 4, 5, 6, 7], 0), (17, [0, 4, 5, 6, 7, 45], 0), (18, [0, 4, 5, 49], 0), (19, [2, 3], 0), (20, [0, 4, 5, 6, 7], 0), (21, [0, 4, 5, 7], 0), (22, [0, 4, 5], 0), (23, [2, 3], 0), (1000005, [0, 4, 5], 0)]
def f44_bx : List Nat := []
def f44_d : List (Nat × Nat) := [(20, 8)]
noncomputable def f45_b : Code := bodyOf Tryd.f45
def f45_r : List ResultVar := [.tmp 6]
def f45_h : List (Nat × List Nat × Nat) := [(0, [0, 1, 2], 1), (1, [0, 1, 2, 7, 8], 1), (2, [0, 1, 2, 7, 8, 14], 1), (3, [0, 1, 2, 7, 8, 14, 15], 1), (4, [7, 8], 1), (5, [6], 1), (6, [0, 1, 2, 7, 8, 14, 30], 1), (7, [2], 1), (8, [6], 1), (9, [0, 1, 2, 7, 8, 14, 43], 1), (10, [8], 1), (11, [0, 1, 2, 7, 8, 14, 49], 1), (12, [8], 1), (13, [0, 1, 2, 7, 8, 14, 55], 1), (14, [8], 1), (15, [0, 1, 2, 7, 8, 14, 62], 1), (16, [8], 1), (17, [0, 1, 2, 7, 8, 14, 69], 1), (18, [7, 8], 1), (19, [6], 1), (20, [0, 1, 2, 8, 14, 84], 1), (21, [0, 1, 2, 8, 84], 1), (22, [0, 1, 2], 1), (23, [0, 2, 96], 1), (24, [], 1), (25, [6], 1), (26, [6], 1), (27, [6], 1), (3000084, [], 1000)]
def f45_bx : List Nat := []
def f45_d : List (Nat × Nat) := []
noncomputable def f46_b : Code := bodyOf Tryd.f46
def f46_r : List ResultVar := [.tmp 2]
def f46_h : List (Nat × List Nat × Nat) := [(0, [0], 0), (1, [5, 6, 7], 0), (2, [5, 6, 7, 8], 0), (3, [4, 5, 6, 7], 0), (4, [5, 6, 7, 13], 0), (5, [2], 0), (6, [5, 6, 7], 0), (7, [2], 0), (1000002, [5, 6, 7], 0)]
def f46_bx : List Nat := []
def f46_d : List (Nat × Nat) := []
noncomputable def f47_b : Code := bodyOf Tryd.f47
def f47_r : List ResultVar := [.tmp 4]
def f47_h : List (Nat × List Nat × Nat) := [(0, [0, 1], 1), (1, [0, 9, 10, 11], 1), (2, [0, 9, 10, 11, 12], 1), (3, [0, 6, 9, 10, 11], 1), (4, [0, 7, 8, 9, 10, 11], 1), (5, [0, 7, 9, 10, 11, 21], 1), (6, [4], 1), (7, [0, 9, 10, 11], 1), (8, [0, 9, 10, 11], 1), (9, [4], 1), (1000002, [0, 9, 10, 11], 1)]
def f47_bx : List Nat := []
def f47_d : List (Nat × Nat) := []
noncomputable def f53_b : Code := bodyOf Tryd.f53
def f53_r : List ResultVar := [.tmp 2]
def f53_h : List (Nat × List Nat × Nat) := [(0, [0], 0), (1, [3], 0), (2, [2], 0), (3, [2], 0)]
def f53_bx : List Nat := []
def f53_d : List (Nat × Nat) := []
noncomputable def f54_b : Code := bodyOf Tryd.f54
def f54_r : List ResultVar := [.tmp 2]
def f54_h : List (Nat × List Nat × Nat) := [(0, [0], 0), (1, [0, 3], 0), (2, [3, 7, 8, 9], 0), (3, [3, 7, 8, 9, 10], 0), (4, [3, 5, 7, 8, 9], 0), (6, [3, 5, 7, 8, 9, 22], 0), (7, [3, 7, 8, 9], 0), (8, [3, 5, 7, 8, 9, 33], 0), (9, [3, 7, 8, 9], 0), (10, [3, 5, 7, 8, 9, 44], 0), (11, [3, 7, 8, 9], 0), (12, [3, 5, 7, 8, 9, 50], 0), (13, [3, 7, 8, 9], 0), (5, [3, 7, 8, 9], 0), (14, [3, 7, 8, 9], 0), (15, [2], 0), (1000003, [3, 7, 8, 9], 0)]
def f54_bx : List Nat := []
def f54_d : List (Nat × Nat) := [(5, 8)]
noncomputable def f55_b : Code := bodyOf Tryd.f55
def f55_r : List ResultVar := [.tmp 2]
def f55_h : List (Nat × List Nat × Nat) := [(0, [0], 0), (1, [0, 4], 0), (2, [2], 0), (3, [2], 0)]
def f55_bx : List Nat := []
def f55_d : List (Nat × Nat) := []
noncomputable def f57_b : Code := bodyOf Tryd.f57
def f57_r : List ResultVar := [.tmp 4]
def f57_h : List (Nat × List Nat × Nat) := [(0, [0, 1], 0), (1, [0, 1, 10], 0), (2, [4], 0), (3, [0, 1, 12, 13], 0), (4, [0, 1, 12, 13, 14], 0), (5, [0, 1, 5, 12, 13], 0), (6, [0, 1, 12, 13, 24], 0), (7, [4], 0), (8, [0, 1, 12, 13], 0), (9, [4], 0), (1000004, [0, 1, 12, 13], 0)]
def f57_bx : List Nat := []
def f57_d : List (Nat × Nat) := [(6, 8)]
noncomputable def f58_b : Code := bodyOf Tryd.f58
def f58_r : List ResultVar := [.tmp 4]
def f58_h : List (Nat × List Nat × Nat) := [(0, [0, 1], 0), (1, [0, 1, 10], 0), (2, [4], 0), (3, [0, 1, 12, 13], 0), (4, [0, 1, 12, 13, 14], 0), (5, [0, 1, 5, 12, 13], 0), (6, [0, 1, 12, 13, 24], 0), (7, [4], 0), (8, [0, 1, 12, 13], 0), (9, [4], 0), (1000004, [0, 1, 12, 13], 0)]
def f58_bx : List Nat := []
def f58_d : List (Nat × Nat) := [(6, 8)]
noncomputable def f69_b : Code := bodyOf Tryd.f69
def f69_r : List ResultVar := [.tmp 2, .tmp 3]
def f69_h : List (Nat × List Nat × Nat) := [(0, [0], 0), (1, [0, 4, 5], 0), (2, [2, 3], 0)]
def f69_bx : List Nat := []
def f69_d : List (Nat × Nat) := []
noncomputable def f70_b : Code := bodyOf Tryd.f70
def f70_r : List ResultVar := [.tmp 2]
def f70_h : List (Nat × List Nat × Nat) := [(0, [0], 0), (1, [0, 6, 7, 8], 0), (2, [0, 6, 7, 8, 9], 0), (3, [0, 4, 6, 7, 8], 0), (5, [0, 4, 6, 7, 8, 12], 0), (6, [0, 4, 6, 7, 8, 12], 0), (7, [0, 4, 6, 7, 8, 12], 0), (8, [0, 4, 6, 7, 8, 12], 0), (9, [0, 6, 7, 8, 12], 0), (4, [2], 0), (10, [0, 6, 7, 8], 0), (11, [2], 0), (1000002, [0, 6, 7, 8], 0), (3000012, [], 1000)]
def f70_bx : List Nat := []
def f70_d : List (Nat × Nat) := []
noncomputable def AXF (f : FuncId) : Option FX :=
  bif Nat.beq f 4 then some ⟨⟨f4_b, f4_r, f4_h⟩, f4_d, 142, f4_bx⟩ else
  bif Nat.beq f 7 then some ⟨⟨f7_b, f7_r, f7_h⟩, f7_d, 83, f7_bx⟩ else
  bif Nat.beq f 10 then some ⟨⟨f10_b, f10_r, f10_h⟩, f10_d, 101, f10_bx⟩ else
  bif Nat.beq f 12 then some ⟨⟨f12_b, f12_r, f12_h⟩, f12_d, 47, f12_bx⟩ else
  bif Nat.beq f 14 then some ⟨⟨f14_b, f14_r, f14_h⟩, f14_d, 40, f14_bx⟩ else
  bif Nat.beq f 15 then some ⟨⟨f15_b, f15_r, f15_h⟩, f15_d, 11, f15_bx⟩ else
  bif Nat.beq f 16 then some ⟨⟨f16_b, f16_r, f16_h⟩, f16_d, 30, f16_bx⟩ else
  bif Nat.beq f 8 then some ⟨⟨f8_b, f8_r, f8_h⟩, f8_d, 43, f8_bx⟩ else
  bif Nat.beq f 11 then some ⟨⟨f11_b, f11_r, f11_h⟩, f11_d, 31, f11_bx⟩ else
  bif Nat.beq f 30 then some ⟨⟨f30_b, f30_r, f30_h⟩, f30_d, 26, f30_bx⟩ else
  bif Nat.beq f 21 then some ⟨⟨f21_b, f21_r, f21_h⟩, f21_d, 2, f21_bx⟩ else
  bif Nat.beq f 22 then some ⟨⟨f22_b, f22_r, f22_h⟩, f22_d, 97, f22_bx⟩ else
  bif Nat.beq f 31 then some ⟨⟨f31_b, f31_r, f31_h⟩, f31_d, 125, f31_bx⟩ else
  bif Nat.beq f 32 then some ⟨⟨f32_b, f32_r, f32_h⟩, f32_d, 80, f32_bx⟩ else
  bif Nat.beq f 43 then some ⟨⟨f43_b, f43_r, f43_h⟩, f43_d, 2, f43_bx⟩ else
  bif Nat.beq f 44 then some ⟨⟨f44_b, f44_r, f44_h⟩, f44_d, 77, f44_bx⟩ else
  bif Nat.beq f 45 then some ⟨⟨f45_b, f45_r, f45_h⟩, f45_d, 103, f45_bx⟩ else
  bif Nat.beq f 46 then some ⟨⟨f46_b, f46_r, f46_h⟩, f46_d, 15, f46_bx⟩ else
  bif Nat.beq f 47 then some ⟨⟨f47_b, f47_r, f47_h⟩, f47_d, 33, f47_bx⟩ else
  bif Nat.beq f 53 then some ⟨⟨f53_b, f53_r, f53_h⟩, f53_d, 4, f53_bx⟩ else
  bif Nat.beq f 54 then some ⟨⟨f54_b, f54_r, f54_h⟩, f54_d, 61, f54_bx⟩ else
  bif Nat.beq f 55 then some ⟨⟨f55_b, f55_r, f55_h⟩, f55_d, 6, f55_bx⟩ else
  bif Nat.beq f 57 then some ⟨⟨f57_b, f57_r, f57_h⟩, f57_d, 26, f57_bx⟩ else
  bif Nat.beq f 58 then some ⟨⟨f58_b, f58_r, f58_h⟩, f58_d, 26, f58_bx⟩ else
  bif Nat.beq f 69 then some ⟨⟨f69_b, f69_r, f69_h⟩, f69_d, 28, f69_bx⟩ else
  bif Nat.beq f 70 then some ⟨⟨f70_b, f70_r, f70_h⟩, f70_d, 39, f70_bx⟩ else
  none
noncomputable def f4_x (B : Code) (call : CallF) (n : Nat) (p : List Nat) : (Ex → St → Option RR) → St → Option RR := aexec (AXE.box f4_bx) call f4_h f4_d n (piece p B)
noncomputable def f7_x (B : Code) (call : CallF) (n : Nat) (p : List Nat) : (Ex → St → Option RR) → St → Option RR := aexec (AXE.box f7_bx) call f7_h f7_d n (piece p B)
noncomputable def f10_x (B : Code) (call : CallF) (n : Nat) (p : List Nat) : (Ex → St → Option RR) → St → Option RR := aexec (AXE.box f10_bx) call f10_h f10_d n (piece p B)
noncomputable def f12_x (B : Code) (call : CallF) (n : Nat) (p : List Nat) : (Ex → St → Option RR) → St → Option RR := aexec (AXE.box f12_bx) call f12_h f12_d n (piece p B)
noncomputable def f14_x (B : Code) (call : CallF) (n : Nat) (p : List Nat) : (Ex → St → Option RR) → St → Option RR := aexec (AXE.box f14_bx) call f14_h f14_d n (piece p B)
noncomputable def f15_x (B : Code) (call : CallF) (n : Nat) (p : List Nat) : (Ex → St → Option RR) → St → Option RR := aexec (AXE.box f15_bx) call f15_h f15_d n (piece p B)
noncomputable def f16_x (B : Code) (call : CallF) (n : Nat) (p : List Nat) : (Ex → St → Option RR) → St → Option RR := aexec (AXE.box f16_bx) call f16_h f16_d n (piece p B)
noncomputable def f8_x (B : Code) (call : CallF) (n : Nat) (p : List Nat) : (Ex → St → Option RR) → St → Option RR := aexec (AXE.box f8_bx) call f8_h f8_d n (piece p B)
noncomputable def f11_x (B : Code) (call : CallF) (n : Nat) (p : List Nat) : (Ex → St → Option RR) → St → Option RR := aexec (AXE.box f11_bx) call f11_h f11_d n (piece p B)
noncomputable def f30_x (B : Code) (call : CallF) (n : Nat) (p : List Nat) : (Ex → St → Option RR) → St → Option RR := aexec (AXE.box f30_bx) call f30_h f30_d n (piece p B)
noncomputable def f21_x (B : Code) (call : CallF) (n : Nat) (p : List Nat) : (Ex → St → Option RR) → St → Option RR := aexec (AXE.box f21_bx) call f21_h f21_d n (piece p B)
noncomputable def f22_x (B : Code) (call : CallF) (n : Nat) (p : List Nat) : (Ex → St → Option RR) → St → Option RR := aexec (AXE.box f22_bx) call f22_h f22_d n (piece p B)
noncomputable def f31_x (B : Code) (call : CallF) (n : Nat) (p : List Nat) : (Ex → St → Option RR) → St → Option RR := aexec (AXE.box f31_bx) call f31_h f31_d n (piece p B)
noncomputable def f32_x (B : Code) (call : CallF) (n : Nat) (p : List Nat) : (Ex → St → Option RR) → St → Option RR := aexec (AXE.box f32_bx) call f32_h f32_d n (piece p B)
noncomputable def f43_x (B : Code) (call : CallF) (n : Nat) (p : List Nat) : (Ex → St → Option RR) → St → Option RR := aexec (AXE.box f43_bx) call f43_h f43_d n (piece p B)
noncomputable def f44_x (B : Code) (call : CallF) (n : Nat) (p : List Nat) : (Ex → St → Option RR) → St → Option RR := aexec (AXE.box f44_bx) call f44_h f44_d n (piece p B)
noncomputable def f45_x (B : Code) (call : CallF) (n : Nat) (p : List Nat) : (Ex → St → Option RR) → St → Option RR := aexec (AXE.box f45_bx) call f45_h f45_d n (piece p B)
noncomputable def f46_x (B : Code) (call : CallF) (n : Nat) (p : List Nat) : (Ex → St → Option RR) → St → Option RR := aexec (AXE.box f46_bx) call f46_h f46_d n (piece p B)
noncomputable def f47_x (B : Code) (call : CallF) (n : Nat) (p : List Nat) : (Ex → St → Option RR) → St → Option RR := aexec (AXE.box f47_bx) call f47_h f47_d n (piece p B)
noncomputable def f53_x (B : Code) (call : CallF) (n : Nat) (p : List Nat) : (Ex → St → Option RR) → St → Option RR := aexec (AXE.box f53_bx) call f53_h f53_d n (piece p B)
noncomputable def f54_x (B : Code) (call : CallF) (n : Nat) (p : List Nat) : (Ex → St → Option RR) → St → Option RR := aexec (AXE.box f54_bx) call f54_h f54_d n (piece p B)
noncomputable def f55_x (B : Code) (call : CallF) (n : Nat) (p : List Nat) : (Ex → St → Option RR) → St → Option RR := aexec (AXE.box f55_bx) call f55_h f55_d n (piece p B)
noncomputable def f57_x (B : Code) (call : CallF) (n : Nat) (p : List Nat) : (Ex → St → Option RR) → St → Option RR := aexec (AXE.box f57_bx) call f57_h f57_d n (piece p B)
noncomputable def f58_x (B : Code) (call : CallF) (n : Nat) (p : List Nat) : (Ex → St → Option RR) → St → Option RR := aexec (AXE.box f58_bx) call f58_h f58_d n (piece p B)
noncomputable def f69_x (B : Code) (call : CallF) (n : Nat) (p : List Nat) : (Ex → St → Option RR) → St → Option RR := aexec (AXE.box f69_bx) call f69_h f69_d n (piece p B)
noncomputable def f70_x (B : Code) (call : CallF) (n : Nat) (p : List Nat) : (Ex → St → Option RR) → St → Option RR := aexec (AXE.box f70_bx) call f70_h f70_d n (piece p B)
end AX
end Go.Proofs.YtfbicbgdfcbhpaaDoor
