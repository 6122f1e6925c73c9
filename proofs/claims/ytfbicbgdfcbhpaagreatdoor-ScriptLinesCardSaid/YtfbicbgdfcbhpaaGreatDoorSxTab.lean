/-
  The functions of this seat, for the reckoning: tables. Printed.
-/
import Derived.Test.YtfbicbgdfcbhpaaGreatDoorAV26
import Derived.Test.YtfbicbgdfcbhpaaGreatDoorProg
import Derived.Test.YtfbicbgdfcbhpaaGreatDoorLpNum
import Derived.Test.YtfbicbgdfcbhpaaGreatDoorLpSplit
import Derived.Test.YtfbicbgdfcbhpaaGreatDoorLpJoin
import Derived.Test.YtfbicbgdfcbhpaaGreatDoorLpIdx
set_option maxRecDepth 20000
set_option linter.unusedVariables false
set_option linter.unusedSimpArgs false
set_option linter.unusedSectionVars false
namespace Go.Proofs.YtfbicbgdfcbhpaaGreatDoor
namespace AX
structure S_api_Event where
  fKind : Int
  fSlot : Int
  fN : Int
  fK : Int
  fLmtp : Bool
  fName : List UInt8
  fLimit_Bytes : Int
  fLimit_Count : Int
  fTo : List Cell
  fData : List Cell
  fCode : Int
  fKeep : List Cell
@[reducible] def S_api_Event.cells (x : S_api_Event) : List Cell := [.int .i64 x.fKind, .int .i64 x.fSlot, .int .i64 x.fN, .int .i64 x.fK, .bool x.fLmtp, .str x.fName, .int .i64 x.fLimit_Bytes, .int .i64 x.fLimit_Count, .sl none 1 x.fTo, .sl none 1 x.fData, .int .i64 x.fCode, .sl none 1 x.fKeep]
def takeS_api_Event {R : Type} (l : List Cell) (k : S_api_Event → List Cell → Option R) : Option R :=
  consK l fun c0 r0 => castI .i64 c0 fun v0 =>
  consK r0 fun c1 r1 => castI .i64 c1 fun v1 =>
  consK r1 fun c2 r2 => castI .i64 c2 fun v2 =>
  consK r2 fun c3 r3 => castI .i64 c3 fun v3 =>
  consK r3 fun c4 r4 => castB c4 fun v4 =>
  consK r4 fun c5 r5 => castS c5 fun v5 =>
  consK r5 fun c6 r6 => castI .i64 c6 fun v6 =>
  consK r6 fun c7 r7 => castI .i64 c7 fun v7 =>
  consK r7 fun c8 r8 => castL 1 c8 fun _ v8 =>
  consK r8 fun c9 r9 => castL 1 c9 fun _ v9 =>
  consK r9 fun c10 r10 => castI .i64 c10 fun v10 =>
  consK r10 fun c11 r11 => castL 1 c11 fun _ v11 =>
  k (⟨v0, v1, v2, v3, v4, v5, v6, v7, v8, v9, v10, v11⟩ : S_api_Event) r11
theorem takeS_api_Event_cells {R : Type} (x : S_api_Event) (r : List Cell) (k : S_api_Event → List Cell → Option R) : takeS_api_Event (x.cells ++ r) k = k x r := by
  cases x; rfl
theorem takeS_api_Event_cells_nil {R : Type} (x : S_api_Event) (k : S_api_Event → List Cell → Option R) : takeS_api_Event x.cells k = k x [] := by
  cases x; rfl
structure S_ref31_Got where
  fE : S_api_Event
  fErr : Int
@[reducible] def S_ref31_Got.cells (x : S_ref31_Got) : List Cell := [.int .i64 x.fE.fKind, .int .i64 x.fE.fSlot, .int .i64 x.fE.fN, .int .i64 x.fE.fK, .bool x.fE.fLmtp, .str x.fE.fName, .int .i64 x.fE.fLimit_Bytes, .int .i64 x.fE.fLimit_Count, .sl none 1 x.fE.fTo, .sl none 1 x.fE.fData, .int .i64 x.fE.fCode, .sl none 1 x.fE.fKeep, .int .i64 x.fErr]
def takeS_ref31_Got {R : Type} (l : List Cell) (k : S_ref31_Got → List Cell → Option R) : Option R :=
  consK l fun c0 r0 => castI .i64 c0 fun v0 =>
  consK r0 fun c1 r1 => castI .i64 c1 fun v1 =>
  consK r1 fun c2 r2 => castI .i64 c2 fun v2 =>
  consK r2 fun c3 r3 => castI .i64 c3 fun v3 =>
  consK r3 fun c4 r4 => castB c4 fun v4 =>
  consK r4 fun c5 r5 => castS c5 fun v5 =>
  consK r5 fun c6 r6 => castI .i64 c6 fun v6 =>
  consK r6 fun c7 r7 => castI .i64 c7 fun v7 =>
  consK r7 fun c8 r8 => castL 1 c8 fun _ v8 =>
  consK r8 fun c9 r9 => castL 1 c9 fun _ v9 =>
  consK r9 fun c10 r10 => castI .i64 c10 fun v10 =>
  consK r10 fun c11 r11 => castL 1 c11 fun _ v11 =>
  consK r11 fun c12 r12 => castI .i64 c12 fun v12 =>
  k (⟨(⟨v0, v1, v2, v3, v4, v5, v6, v7, v8, v9, v10, v11⟩ : S_api_Event), v12⟩ : S_ref31_Got) r12
theorem takeS_ref31_Got_cells {R : Type} (x : S_ref31_Got) (r : List Cell) (k : S_ref31_Got → List Cell → Option R) : takeS_ref31_Got (x.cells ++ r) k = k x r := by
  cases x; rfl
theorem takeS_ref31_Got_cells_nil {R : Type} (x : S_ref31_Got) (k : S_ref31_Got → List Cell → Option R) : takeS_ref31_Got x.cells k = k x [] := by
  cases x; rfl
def AXT0 : List (Nat × TI) := [(3, .int .i64), (4, .bool), (5, .int .u8), (9, .str), (23, .struct [.int .i64, .int .i64] [(0, 1, 3), (1, 1, 3)]), (24, .slice 9 1), (25, .slice 5 1), (26, .int .i64), (27, .slice 3 1), (29, .struct [.int .i64, .int .i64, .int .i64, .int .i64, .bool, .str, .int .i64, .int .i64, .slice 9 1, .slice 5 1, .int .i64, .slice 3 1] [(0, 1, 3), (1, 1, 3), (2, 1, 3), (3, 1, 3), (4, 1, 4), (5, 1, 9), (6, 2, 23), (8, 1, 24), (9, 1, 25), (10, 1, 26), (11, 1, 27)]), (32, .tup [.str, .bool]), (34, .tup [(.struct [.int .i64, .int .i64, .int .i64, .int .i64, .bool, .str, .int .i64, .int .i64, .slice 9 1, .slice 5 1, .int .i64, .slice 3 1] [(0, 1, 3), (1, 1, 3), (2, 1, 3), (3, 1, 3), (4, 1, 4), (5, 1, 9), (6, 2, 23), (8, 1, 24), (9, 1, 25), (10, 1, 26), (11, 1, 27)]), (.int .i64)]), (51, .slice 29 12), (52, .tup [(.slice 29 12), (.int .i64), (.int .i64)]), (60, .struct [.int .i64, .int .i64, .int .i64, .int .i64, .bool, .str, .int .i64, .int .i64, .slice 9 1, .slice 5 1, .int .i64, .slice 3 1, .int .i64] [(0, 12, 29), (12, 1, 26)]), (62, .tup [.str, .str, .bool]), (66, .ptr), (83, .tup [(.slice 3 1), .bool]), (85, .tup [(.slice 5 1), .bool]), (108, .err), (109, .tup [(.int .i64), .err]), (112, .tup [(.int .i64), .bool])]
noncomputable def AXE : Env := ⟨AXT0, primOf [(29, pCut), (47, pItoa), (50, pSplit), (55, pJoin), (88, pIndexByte), (123, pAtoi)], fun _ => none, [], refOf [(31, [(0, 11)]), (66, [(0, 11)]), (68, [(0, 11)])], [23]⟩
noncomputable def f3_b : Code := bodyOf Tryz.f3
def f3_r : List ResultVar := [.tmp 2]
def f3_h : List (Nat × List Nat × Nat) := [(0, [1], 1), (1, [1, 10], 1), (2, [2], 0), (3, [1, 13], 1), (4, [2], 0), (5, [1, 3, 4], 1), (6, [1, 3, 4, 5, 6], 1), (7, [1, 3, 4, 37], 1), (8, [2], 0), (9, [1, 3, 39], 1), (10, [2], 0), (11, [1, 7, 8], 2), (12, [2], 0)]
def f3_d : List (Nat × Nat) := []
noncomputable def f6_b : Code := bodyOf Tryz.f6
def f6_r : List ResultVar := [.tmp 0]
def f6_h : List (Nat × List Nat × Nat) := [(0, [], 0), (1, [1, 2], 1), (2, [1, 2, 3, 4], 1), (3, [1, 2, 3, 4, 5, 6, 7], 1), (4, [1, 2, 3, 4, 5, 6, 7, 9, 10], 1), (5, [0], 0)]
def f6_d : List (Nat × Nat) := []
noncomputable def f7_b : Code := bodyOf Tryz.f7
def f7_r : List ResultVar := [.tmp 2]
def f7_h : List (Nat × List Nat × Nat) := [(0, [1], 1), (1, [1, 25], 1), (2, [2], 0), (3, [1, 3], 1), (4, [1, 3, 30], 1), (6, [1, 3, 39], 1), (7, [2], 0), (5, [1, 3], 1), (8, [2], 0), (1000004, [1, 3], 1)]
def f7_d : List (Nat × Nat) := []
noncomputable def f8_b : Code := bodyOf Tryz.f8
def f8_r : List ResultVar := [.tmp 2, .tmp 3]
def f8_h : List (Nat × List Nat × Nat) := [(0, [1], 1), (1, [1, 14], 1), (2, [2, 3], 0), (3, [1, 4], 1), (4, [1, 4, 5, 6], 2), (5, [4, 29], 0), (6, [2, 3], 0), (7, [2, 3], 0)]
def f8_d : List (Nat × Nat) := []
noncomputable def f9_b : Code := bodyOf Tryz.f9
def f9_r : List ResultVar := [.tmp 2, .tmp 3]
def f9_h : List (Nat × List Nat × Nat) := [(0, [1], 1), (1, [1, 61], 1), (2, [2, 3], 0), (3, [1, 4], 1), (4, [1, 4, 66], 1), (5, [1, 4, 66, 67], 1), (6, [1, 4], 1), (7, [1, 4, 77], 1), (8, [1, 4], 1), (9, [1, 4, 66, 85], 1), (10, [1, 4], 1), (11, [1, 4, 66, 98], 1), (12, [1, 4], 1), (13, [1, 4, 66, 106], 1), (14, [1, 4, 66, 106], 1), (15, [1, 4], 1), (16, [1, 4, 66, 115], 1), (17, [1, 4, 66, 115], 1), (18, [1, 4], 1), (19, [1, 4, 66, 136], 1), (20, [1, 4], 1), (21, [1, 4, 5], 1), (22, [1, 4, 5, 148], 1), (24, [1, 4, 5], 1), (23, [1, 4, 5], 1), (25, [1, 4, 66, 159], 1), (26, [1, 4, 66, 159], 1), (27, [1, 4], 1), (28, [1, 4, 66, 168], 1), (29, [1, 4], 1), (30, [1, 4, 66, 181], 1), (31, [1, 4], 1), (32, [1, 4, 66, 199], 1), (33, [1, 4], 1), (34, [1, 4, 212], 1), (35, [1, 4], 1), (36, [1, 4, 6], 1), (37, [1, 4, 6, 224], 1), (39, [1, 4, 6, 233], 1), (40, [2, 3], 0), (41, [1, 4, 6], 1), (38, [1, 4, 6], 1), (42, [1, 4, 7], 2), (43, [4, 254], 0), (44, [2, 3], 0), (45, [2, 3], 0), (1000022, [1, 4, 5], 1), (1000037, [1, 4, 6], 1), (3000106, [], 1000), (3000115, [], 1000), (3000159, [], 1000)]
def f9_d : List (Nat × Nat) := [(8, 5), (10, 10), (18, 17), (29, 10), (31, 15), (33, 10)]
noncomputable def f10_b : Code := bodyOf Tryz.f10
def f10_r : List ResultVar := [.tmp 2]
def f10_h : List (Nat × List Nat × Nat) := [(0, [1], 1), (1, [4], 0), (2, [2], 0)]
def f10_d : List (Nat × Nat) := []
noncomputable def f11_b : Code := bodyOf Tryz.f11
def f11_r : List ResultVar := [.cell 2 29, .tmp 3]
def f11_h : List (Nat × List Nat × Nat) := [(0, [0, 2], 1), (1, [2, 4, 5, 6], 1), (2, [2, 4, 5, 6, 7], 2), (3, [2, 4, 5, 6, 7, 16, 17, 18], 2), (4, [2, 4, 5, 6, 7, 16, 17, 18, 19], 2), (5, [2, 4, 5, 6, 7, 8, 9, 16, 17, 18], 2), (6, [2, 4, 5, 6, 7, 8, 16, 17, 18, 29], 2), (7, [2, 4, 5, 6, 7, 16, 17, 18], 2), (8, [2, 4, 5, 6, 7, 16, 17, 18], 2), (9, [2, 5, 6, 7, 35], 2), (10, [2, 3], 1), (11, [2, 7, 40], 2), (12, [2, 3], 1), (13, [2, 3], 1), (1000004, [2, 4, 5, 6, 7, 16, 17, 18], 2)]
def f11_d : List (Nat × Nat) := []
noncomputable def f12_b : Code := bodyOf Tryz.f12
def f12_r : List ResultVar := [.tmp 4]
def f12_h : List (Nat × List Nat × Nat) := [(0, [2, 3], 2), (1, [2, 3, 77], 2), (2, [4], 0), (3, [2, 3, 5], 2), (4, [2, 3, 5, 82], 2), (6, [2, 3, 5, 95], 2), (7, [4], 0), (5, [2, 3, 5], 2), (8, [4], 0), (1000004, [2, 3, 5], 2)]
def f12_d : List (Nat × Nat) := [(6, 10)]
noncomputable def f20_b : Code := bodyOf Tryz.f20
def f20_r : List ResultVar := [.tmp 2, .tmp 3, .tmp 4]
def f20_h : List (Nat × List Nat × Nat) := [(0, [0, 2], 0), (1, [2, 10, 11, 12], 0), (2, [2, 10, 11, 12, 13], 0), (3, [2, 5, 6, 10, 11, 12], 0), (4, [2, 5, 6, 10, 11, 12, 23], 0), (5, [2, 5, 7, 8, 10, 11, 12], 1), (6, [2, 5, 7, 8, 10, 11, 12, 35], 1), (7, [2, 5, 7, 8, 10, 11, 12], 1), (8, [2, 5, 7, 8, 10, 11, 12, 37], 1), (9, [2, 3, 4], 0), (10, [2, 10, 11, 12], 0), (11, [2, 10, 11, 12], 0), (12, [2, 3, 4], 0), (1000002, [2, 10, 11, 12], 0)]
def f20_d : List (Nat × Nat) := []
noncomputable def f21_b : Code := bodyOf Tryz.f21
def f21_r : List ResultVar := [.tmp 2]
def f21_h : List (Nat × List Nat × Nat) := [(0, [1], 1), (1, [1, 3], 1), (2, [1, 3, 19, 20, 21], 1), (3, [1, 3, 19, 20, 21, 22], 1), (4, [1, 3, 5, 19, 20, 21], 1), (5, [1, 3, 19, 20, 21, 25], 1), (6, [1, 3, 19, 20, 21, 25, 26], 1), (7, [1, 3, 19, 20, 21], 1), (8, [1, 3, 19, 20, 21, 25, 34], 1), (9, [1, 3, 19, 20, 21], 1), (10, [1, 3, 19, 20, 21, 25, 42], 1), (11, [1, 3, 19, 20, 21], 1), (12, [1, 3, 19, 20, 21, 25, 50], 1), (13, [1, 3, 19, 20, 21], 1), (14, [1, 3, 19, 20, 21, 25, 58], 1), (15, [1, 3, 19, 20, 21], 1), (16, [1, 3, 19, 20, 21, 25, 66], 1), (17, [1, 3, 19, 20, 21], 1), (18, [1, 3, 19, 20, 21, 25, 75], 1), (19, [1, 3, 19, 20, 21], 1), (20, [1, 3, 19, 20, 21, 25, 84], 1), (21, [1, 3, 19, 20, 21], 1), (22, [1, 3, 19, 20, 21, 25, 92], 1), (23, [1, 3, 19, 20, 21, 25, 92], 1), (24, [1, 3, 19, 20, 21], 1), (25, [1, 3, 19, 20, 21, 25, 101], 1), (26, [1, 3, 19, 20, 21], 1), (27, [1, 3, 19, 20, 21, 107], 1), (28, [1, 3, 19, 20, 21, 110, 111, 112], 1), (29, [1, 3, 19, 20, 21, 110, 111, 112, 113], 1), (30, [1, 3, 7, 19, 20, 21, 110, 111, 112], 1), (31, [1, 3, 19, 20, 21, 110, 111, 112], 1), (32, [1, 3, 19, 20, 21, 110, 111, 112], 1), (33, [1, 3, 19, 20, 21], 1), (34, [2], 0), (1000029, [1, 3, 19, 20, 21, 110, 111, 112], 1), (1000003, [1, 3, 19, 20, 21], 1), (3000092, [], 1000)]
def f21_d : List (Nat × Nat) := [(1, 3), (2, 8)]
noncomputable def f22_b : Code := bodyOf Tryz.f22
def f22_r : List ResultVar := [.tmp 4]
def f22_h : List (Nat × List Nat × Nat) := [(0, [2, 3], 2), (1, [2, 3, 58], 2), (2, [4], 0), (3, [4], 0)]
def f22_d : List (Nat × Nat) := []
noncomputable def f23_b : Code := bodyOf Tryz.f23
def f23_r : List ResultVar := [.tmp 2]
def f23_h : List (Nat × List Nat × Nat) := [(0, [0], 0), (1, [2], 0)]
def f23_d : List (Nat × Nat) := []
noncomputable def f24_b : Code := bodyOf Tryz.f24
def f24_r : List ResultVar := [.tmp 2]
def f24_h : List (Nat × List Nat × Nat) := [(0, [0], 0), (1, [0, 3], 0), (2, [2], 0)]
def f24_d : List (Nat × Nat) := []
noncomputable def f25_b : Code := bodyOf Tryz.f25
def f25_r : List ResultVar := [.tmp 2]
def f25_h : List (Nat × List Nat × Nat) := [(0, [0], 0), (1, [0, 5], 0), (2, [2], 0), (3, [0, 3], 0), (4, [0, 3, 17], 0), (5, [0, 3], 0), (6, [0, 3], 0), (7, [2], 0), (1000004, [0, 3], 0)]
def f25_d : List (Nat × Nat) := []
noncomputable def f26_b : Code := bodyOf Tryz.f26
def f26_r : List ResultVar := [.tmp 2]
def f26_h : List (Nat × List Nat × Nat) := [(0, [0], 0), (1, [0, 3], 0), (2, [0, 3, 4], 0), (3, [0, 3, 4, 5], 0), (4, [0, 3, 4, 5, 10], 0), (6, [0, 3, 4, 5, 6], 0), (7, [0, 3, 4, 5, 6, 22], 0), (8, [0, 3, 4, 5], 0), (9, [0, 3, 4, 5, 6, 34], 0), (10, [0, 3, 4, 5], 0), (11, [0, 3, 4, 5, 6, 41], 0), (12, [0, 3, 4, 5], 0), (13, [0, 3, 4, 5, 6, 45], 0), (14, [0, 3, 4, 5], 0), (15, [0, 3, 4, 5], 0), (5, [0, 3, 4, 5], 0), (16, [2], 0), (1000004, [0, 3, 4, 5], 0)]
def f26_d : List (Nat × Nat) := [(15, 17)]
noncomputable def f27_b : Code := bodyOf Tryz.f27
def f27_r : List ResultVar := [.tmp 2]
def f27_h : List (Nat × List Nat × Nat) := [(0, [0], 0), (1, [0, 4], 0), (2, [2], 0), (3, [2], 0)]
def f27_d : List (Nat × Nat) := []
noncomputable def f28_b : Code := bodyOf Tryz.f28
def f28_r : List ResultVar := [.cell 2 60]
def f28_h : List (Nat × List Nat × Nat) := [(0, [0, 2], 1), (1, [0, 2, 3], 1), (2, [0, 2, 3, 4], 2), (3, [0, 2, 3, 4, 5], 2), (4, [0, 2, 3, 4, 5, 17], 2), (6, [0, 2, 3, 4, 5, 25], 2), (7, [0, 2, 3, 4, 5], 2), (5, [0, 2, 3, 4, 5], 2), (8, [0, 2, 3, 4, 30], 2), (9, [2], 1), (10, [0, 2, 4, 6], 2), (11, [0, 2, 4, 6, 7], 2), (12, [0, 2, 4, 6, 7, 37], 2), (13, [2], 1), (14, [2, 4, 6, 7, 47], 2), (15, [2, 4, 6, 7, 50], 2), (16, [2], 1), (17, [2, 4, 6, 7, 8, 9], 2), (18, [2, 4, 6, 7, 8, 66], 2), (19, [2], 1), (20, [2, 4, 6, 7], 2), (21, [2, 4, 6, 7], 2), (22, [2, 4, 6, 7, 73], 2), (23, [2, 4, 6, 76], 2), (24, [2], 1), (25, [2, 4], 2), (26, [2], 1), (27, [2, 4, 7, 10, 11], 2), (28, [2, 4, 7, 10, 88], 2), (29, [2], 1), (30, [2, 4, 7, 10, 12], 2), (31, [2, 4, 7, 10, 113], 2), (32, [2], 1), (33, [2, 4, 10, 115], 2), (34, [2, 4, 10, 115, 116], 2), (35, [2, 4, 10, 115, 116], 2), (36, [2, 4], 2), (37, [2, 4, 10, 115, 127], 2), (38, [2, 4, 10, 115, 127], 2), (39, [2, 4, 10, 115, 127], 2), (40, [2, 4], 2), (41, [2, 4, 10, 115, 135], 2), (42, [2, 4, 10], 2), (43, [2, 4], 2), (44, [2, 4, 10, 115, 145], 2), (45, [2, 4, 10, 156], 2), (46, [2], 1), (47, [2, 4, 10], 2), (48, [2, 4], 2), (49, [2, 4, 10, 166], 2), (50, [2, 4, 10], 2), (51, [2, 4], 2), (52, [2], 1), (1000004, [0, 2, 3, 4, 5], 2), (3000116, [], 1000), (3000127, [], 1000)]
def f28_d : List (Nat × Nat) := [(6, 5), (36, 6)]
noncomputable def f30_b : Code := bodyOf Tryz.f30
def f30_r : List ResultVar := [.tmp 0]
def f30_h : List (Nat × List Nat × Nat) := [(0, [], 0), (1, [0], 0)]
def f30_d : List (Nat × Nat) := []
noncomputable def f31_b : Code := bodyOf Tryz.f31
def f31_r : List ResultVar := [.tmp 6]
def f31_h : List (Nat × List Nat × Nat) := [(0, [0, 1, 2], 1), (1, [0, 1, 2, 7], 1), (2, [0, 1, 2, 7, 26], 1), (3, [0, 8, 9], 1), (4, [0, 8, 11, 12], 1), (5, [0, 8, 12], 1), (6, [6], 1), (7, [0, 1, 2, 7, 13], 1), (8, [0, 1, 7, 13, 48], 1), (9, [0, 7, 13], 1), (10, [0, 7, 13, 52, 53], 1), (11, [0, 7, 13, 52, 53, 54], 1), (12, [0, 7, 13, 14, 52, 53], 1), (13, [0, 7, 13, 14, 52, 53, 58], 1), (14, [0, 7, 13, 14, 52, 53, 58, 59], 1), (15, [13], 1), (16, [6], 1), (17, [0, 7, 13, 14, 52, 53, 72], 1), (18, [6], 1), (19, [0, 7, 13, 52, 53, 90], 1), (20, [6], 1), (21, [0, 7, 13, 52, 53], 1), (22, [0, 7, 13, 52, 53], 1), (23, [6], 1), (1000011, [0, 7, 52, 53, 10000013], 1)]
def f31_d : List (Nat × Nat) := [(1, 5), (19, 11)]
noncomputable def f32_b : Code := bodyOf Tryz.f32
def f32_r : List ResultVar := [.tmp 4]
def f32_h : List (Nat × List Nat × Nat) := [(0, [0, 1], 0), (1, [0, 1, 10], 0), (2, [4], 0), (3, [0, 1, 5], 0), (4, [0, 1, 5, 14], 0), (6, [0, 1, 5, 25], 0), (7, [4], 0), (5, [0, 1, 5], 0), (8, [4], 0), (1000004, [0, 1, 5], 0)]
def f32_d : List (Nat × Nat) := [(6, 8)]
noncomputable def f51_b : Code := bodyOf Tryz.f51
def f51_r : List ResultVar := [.tmp 0]
def f51_h : List (Nat × List Nat × Nat) := [(0, [], 0), (1, [0], 0)]
def f51_d : List (Nat × Nat) := []
noncomputable def f52_b : Code := bodyOf Tryz.f52
def f52_r : List ResultVar := [.tmp 2]
def f52_h : List (Nat × List Nat × Nat) := [(0, [0], 0), (1, [3], 0), (2, [2], 0), (3, [2], 0)]
def f52_d : List (Nat × Nat) := []
noncomputable def f53_b : Code := bodyOf Tryz.f53
def f53_r : List ResultVar := [.tmp 2]
def f53_h : List (Nat × List Nat × Nat) := [(0, [0], 0), (1, [0, 3], 0), (2, [3, 7, 8, 9], 0), (3, [3, 7, 8, 9, 10], 0), (4, [3, 5, 7, 8, 9], 0), (6, [3, 5, 7, 8, 9, 22], 0), (7, [3, 7, 8, 9], 0), (8, [3, 5, 7, 8, 9, 33], 0), (9, [3, 7, 8, 9], 0), (10, [3, 5, 7, 8, 9, 44], 0), (11, [3, 7, 8, 9], 0), (12, [3, 5, 7, 8, 9, 50], 0), (13, [3, 7, 8, 9], 0), (5, [3, 7, 8, 9], 0), (14, [3, 7, 8, 9], 0), (15, [2], 0), (1000003, [3, 7, 8, 9], 0)]
def f53_d : List (Nat × Nat) := [(5, 8)]
noncomputable def f54_b : Code := bodyOf Tryz.f54
def f54_r : List ResultVar := [.tmp 2]
def f54_h : List (Nat × List Nat × Nat) := [(0, [0], 0), (1, [0, 4], 0), (2, [2], 0), (3, [2], 0)]
def f54_d : List (Nat × Nat) := []
noncomputable def f56_b : Code := bodyOf Tryz.f56
def f56_r : List ResultVar := [.tmp 4]
def f56_h : List (Nat × List Nat × Nat) := [(0, [0, 1], 0), (1, [0, 1, 10], 0), (2, [4], 0), (3, [0, 1, 12, 13], 0), (4, [0, 1, 12, 13, 14], 0), (5, [0, 1, 5, 12, 13], 0), (6, [0, 1, 12, 13, 24], 0), (7, [4], 0), (8, [0, 1, 12, 13], 0), (9, [4], 0), (1000004, [0, 1, 12, 13], 0)]
def f56_d : List (Nat × Nat) := [(6, 8)]
noncomputable def f57_b : Code := bodyOf Tryz.f57
def f57_r : List ResultVar := [.tmp 4]
def f57_h : List (Nat × List Nat × Nat) := [(0, [0, 1], 0), (1, [0, 1, 10], 0), (2, [4], 0), (3, [0, 1, 12, 13], 0), (4, [0, 1, 12, 13, 14], 0), (5, [0, 1, 5, 12, 13], 0), (6, [0, 1, 12, 13, 24], 0), (7, [4], 0), (8, [0, 1, 12, 13], 0), (9, [4], 0), (1000004, [0, 1, 12, 13], 0)]
def f57_d : List (Nat × Nat) := [(6, 8)]
noncomputable def f58_b : Code := bodyOf Tryz.f58
def f58_r : List ResultVar := [.tmp 2]
def f58_h : List (Nat × List Nat × Nat) := [(0, [0], 0), (1, [0, 3], 0), (2, [0, 3, 4], 0), (3, [0, 3, 4, 5], 0), (4, [0, 3, 4, 5, 9], 0), (6, [0, 3, 4, 5, 21], 0), (7, [0, 3, 5], 0), (8, [0, 3, 4, 5], 0), (5, [0, 3, 4, 5], 0), (9, [2], 0), (1000004, [0, 3, 4, 5], 0)]
def f58_d : List (Nat × Nat) := []
noncomputable def f59_b : Code := bodyOf Tryz.f59
def f59_r : List ResultVar := [.cell 6 60]
def f59_h : List (Nat × List Nat × Nat) := [(0, [1, 2, 3, 6], 2), (1, [1, 2, 3, 6, 7], 2), (2, [1, 2, 3, 6, 7, 14], 2), (3, [1, 2, 3, 6, 8], 2), (4, [1, 2, 3, 6, 8, 24], 2), (5, [6], 2), (6, [2, 3, 6, 9, 10], 2), (7, [2, 3, 6, 9, 40], 2), (8, [6], 2), (9, [3, 6, 9], 2), (10, [3, 6], 2), (11, [6], 2), (12, [2, 3, 6, 52], 2), (13, [2, 3, 6, 74], 2), (14, [6], 2), (15, [2, 3, 6], 2), (16, [3, 6], 2), (17, [6], 2), (18, [2, 3, 6, 97], 2), (19, [6], 2), (20, [3, 6], 2), (21, [6], 2)]
def f59_d : List (Nat × Nat) := []
noncomputable def f60_b : Code := bodyOf Tryz.f60
def f60_r : List ResultVar := [.cell 0 60]
def f60_h : List (Nat × List Nat × Nat) := [(0, [0], 1), (1, [0], 1)]
def f60_d : List (Nat × Nat) := []
noncomputable def f61_b : Code := bodyOf Tryz.f61
def f61_r : List ResultVar := [.tmp 4, .tmp 5]
def f61_h : List (Nat × List Nat × Nat) := [(0, [0, 1], 0), (1, [0, 10], 0), (2, [4, 5], 0), (3, [4, 5], 0)]
def f61_d : List (Nat × Nat) := []
noncomputable def f62_b : Code := bodyOf Tryz.f62
def f62_r : List ResultVar := [.tmp 2]
def f62_h : List (Nat × List Nat × Nat) := [(0, [0], 0), (1, [0, 3], 0), (2, [0, 3, 7], 0), (4, [0, 3, 15], 0), (5, [2], 0), (3, [0, 3], 0), (6, [2], 0), (1000002, [0, 3], 0)]
def f62_d : List (Nat × Nat) := []
noncomputable def f63_b : Code := bodyOf Tryz.f63
def f63_r : List ResultVar := [.tmp 2, .tmp 3]
def f63_h : List (Nat × List Nat × Nat) := [(0, [0], 0), (1, [0, 4], 0), (2, [0, 4, 5], 0), (3, [0, 4, 5, 11], 0), (5, [0, 4, 5, 6, 7], 0), (6, [0, 4, 5, 6, 23], 0), (7, [2, 3], 0), (8, [0, 4, 5], 0), (4, [0, 4, 5], 0), (9, [2, 3], 0), (1000003, [0, 4, 5], 0)]
def f63_d : List (Nat × Nat) := []
noncomputable def f65_b : Code := bodyOf Tryz.f65
def f65_r : List ResultVar := [.tmp 2, .tmp 3]
def f65_h : List (Nat × List Nat × Nat) := [(0, [0], 0), (1, [0, 23], 0), (2, [2, 3], 0), (3, [0, 4], 0), (4, [0, 4, 5], 0), (5, [0, 4, 5, 30], 0), (6, [0, 4, 5, 6, 7], 0), (7, [0, 4, 5, 6, 7, 34], 0), (8, [0, 4, 5, 37], 0), (9, [2, 3], 0), (10, [0, 4, 5, 7], 0), (11, [0, 4, 5, 6, 7], 0), (12, [0, 4, 5, 6, 7, 40], 0), (13, [0, 4, 5, 6, 7, 40, 41], 0), (14, [0, 4, 5, 6, 7], 0), (15, [0, 4, 5, 6, 7, 40, 43], 0), (16, [0, 4, 5, 6, 7], 0), (17, [0, 4, 5, 6, 7, 45], 0), (18, [0, 4, 5, 49], 0), (19, [2, 3], 0), (20, [0, 4, 5, 6, 7], 0), (21, [0, 4, 5, 7], 0), (22, [0, 4, 5], 0), (23, [2, 3], 0), (1000005, [0, 4, 5], 0)]
def f65_d : List (Nat × Nat) := [(20, 8)]
noncomputable def f66_b : Code := bodyOf Tryz.f66
def f66_r : List ResultVar := [.tmp 6]
def f66_h : List (Nat × List Nat × Nat) := [(0, [0, 1, 2], 1), (1, [0, 1, 2, 7, 8], 1), (2, [0, 1, 2, 7, 8, 14], 1), (3, [0, 1, 2, 7, 8, 14, 15], 1), (4, [7, 8], 1), (5, [6], 1), (6, [0, 1, 2, 7, 8, 14, 30], 1), (7, [2], 1), (8, [6], 1), (9, [0, 1, 2, 7, 8, 14, 43], 1), (10, [8], 1), (11, [0, 1, 2, 7, 8, 14, 49], 1), (12, [8], 1), (13, [0, 1, 2, 7, 8, 14, 55], 1), (14, [8], 1), (15, [0, 1, 2, 7, 8, 14, 62], 1), (16, [8], 1), (17, [0, 1, 2, 7, 8, 14, 69], 1), (18, [7, 8], 1), (19, [6], 1), (20, [0, 1, 2, 8, 14, 84], 1), (21, [0, 1, 2, 8, 84], 1), (22, [0, 1, 2], 1), (23, [0, 2, 96], 1), (24, [], 1), (25, [6], 1), (26, [6], 1), (27, [6], 1), (3000084, [], 1000)]
def f66_d : List (Nat × Nat) := []
noncomputable def f67_b : Code := bodyOf Tryz.f67
def f67_r : List ResultVar := [.tmp 2]
def f67_h : List (Nat × List Nat × Nat) := [(0, [0], 0), (1, [5, 6, 7], 0), (2, [5, 6, 7, 8], 0), (3, [4, 5, 6, 7], 0), (4, [5, 6, 7, 13], 0), (5, [2], 0), (6, [5, 6, 7], 0), (7, [2], 0), (1000002, [5, 6, 7], 0)]
def f67_d : List (Nat × Nat) := []
noncomputable def f68_b : Code := bodyOf Tryz.f68
def f68_r : List ResultVar := [.tmp 4]
def f68_h : List (Nat × List Nat × Nat) := [(0, [0, 1], 1), (1, [0, 9, 10, 11], 1), (2, [0, 9, 10, 11, 12], 1), (3, [0, 6, 9, 10, 11], 1), (4, [0, 7, 8, 9, 10, 11], 1), (5, [0, 7, 9, 10, 11, 21], 1), (6, [4], 1), (7, [0, 9, 10, 11], 1), (8, [0, 9, 10, 11], 1), (9, [4], 1), (1000002, [0, 9, 10, 11], 1)]
def f68_d : List (Nat × Nat) := []
noncomputable def f83_b : Code := bodyOf Tryz.f83
def f83_r : List ResultVar := [.tmp 2]
def f83_h : List (Nat × List Nat × Nat) := [(0, [0], 0), (1, [3, 4], 0), (2, [3, 19], 0), (3, [2], 0), (4, [2], 0)]
def f83_d : List (Nat × Nat) := []
noncomputable def f84_b : Code := bodyOf Tryz.f84
def f84_r : List ResultVar := [.tmp 2, .tmp 3]
def f84_h : List (Nat × List Nat × Nat) := [(0, [0], 0), (1, [0, 4], 0), (2, [0, 4, 23], 0), (3, [2, 3], 0), (4, [0, 4, 5], 0), (5, [0, 4, 5, 6], 0), (6, [0, 4, 5, 6, 27], 0), (7, [0, 4, 5, 6, 7], 0), (8, [0, 4, 5, 6, 7], 0), (9, [0, 4, 5, 6, 7, 34], 0), (10, [0, 4, 5, 6, 38], 0), (11, [2, 3], 0), (12, [0, 4, 5, 6, 7], 0), (13, [0, 4, 5, 6, 7], 0), (14, [0, 4, 5, 6, 7, 45], 0), (15, [0, 4, 5, 6, 7], 0), (16, [0, 4, 5, 6, 7, 47], 0), (17, [0, 4, 5, 6, 7], 0), (18, [0, 4, 5, 6, 7, 49], 0), (19, [0, 4, 5, 6, 69], 0), (20, [2, 3], 0), (21, [0, 4, 5, 6, 7], 0), (22, [0, 4, 5, 6, 7], 0), (23, [0, 4, 5, 6], 0), (24, [5, 96], 0), (25, [2, 3], 0), (26, [2, 3], 0), (1000006, [0, 4, 5, 6], 0)]
def f84_d : List (Nat × Nat) := [(21, 10)]
noncomputable def f85_b : Code := bodyOf Tryz.f85
def f85_r : List ResultVar := [.tmp 2]
def f85_h : List (Nat × List Nat × Nat) := [(0, [0], 0), (1, [0, 3], 0), (2, [0, 3, 8], 0), (4, [0, 3, 4], 0), (5, [0, 3, 41], 0), (6, [2], 0), (3, [0, 3], 0), (7, [2], 0), (1000002, [0, 3], 0)]
def f85_d : List (Nat × Nat) := []
noncomputable def f86_b : Code := bodyOf Tryz.f86
def f86_r : List ResultVar := [.tmp 2, .tmp 3]
def f86_h : List (Nat × List Nat × Nat) := [(0, [0], 0), (1, [0, 4], 0), (2, [0, 4, 5], 0), (3, [0, 4, 5, 9], 0), (5, [0, 4, 5, 18], 0), (6, [0, 4, 5, 32], 0), (7, [2, 3], 0), (8, [0, 4, 5], 0), (4, [0, 4, 5], 0), (9, [0, 4, 48], 0), (10, [0, 4], 0), (11, [4, 59], 0), (12, [2, 3], 0), (13, [2, 3], 0), (1000003, [0, 4, 5], 0)]
def f86_d : List (Nat × Nat) := []
noncomputable def f89_b : Code := bodyOf Tryz.f89
def f89_r : List ResultVar := [.tmp 2, .tmp 3]
def f89_h : List (Nat × List Nat × Nat) := [(0, [0], 0), (1, [0, 4, 5], 0), (2, [2, 3], 0)]
def f89_d : List (Nat × Nat) := []
noncomputable def f90_b : Code := bodyOf Tryz.f90
def f90_r : List ResultVar := [.tmp 2]
def f90_h : List (Nat × List Nat × Nat) := [(0, [0], 0), (1, [0, 6, 7, 8], 0), (2, [0, 6, 7, 8, 9], 0), (3, [0, 4, 6, 7, 8], 0), (5, [0, 4, 6, 7, 8, 12], 0), (6, [0, 4, 6, 7, 8, 12], 0), (7, [0, 4, 6, 7, 8, 12], 0), (8, [0, 4, 6, 7, 8, 12], 0), (9, [0, 6, 7, 8, 12], 0), (4, [2], 0), (10, [0, 6, 7, 8], 0), (11, [2], 0), (1000002, [0, 6, 7, 8], 0), (3000012, [], 1000)]
def f90_d : List (Nat × Nat) := []
noncomputable def f118_b : Code := bodyOf Tryz.f118
def f118_r : List ResultVar := [.tmp 2]
def f118_h : List (Nat × List Nat × Nat) := [(0, [0], 0), (1, [0, 8], 0), (2, [2], 0), (3, [0, 17], 0), (4, [2], 0), (5, [2], 0)]
def f118_d : List (Nat × Nat) := []
noncomputable def AXF (f : FuncId) : Option FX :=
  bif Nat.beq f 3 then some ⟨⟨f3_b, f3_r, f3_h⟩, f3_d, 52⟩ else
  bif Nat.beq f 6 then some ⟨⟨f6_b, f6_r, f6_h⟩, f6_d, 83⟩ else
  bif Nat.beq f 7 then some ⟨⟨f7_b, f7_r, f7_h⟩, f7_d, 40⟩ else
  bif Nat.beq f 8 then some ⟨⟨f8_b, f8_r, f8_h⟩, f8_d, 31⟩ else
  bif Nat.beq f 9 then some ⟨⟨f9_b, f9_r, f9_h⟩, f9_d, 256⟩ else
  bif Nat.beq f 10 then some ⟨⟨f10_b, f10_r, f10_h⟩, f10_d, 11⟩ else
  bif Nat.beq f 11 then some ⟨⟨f11_b, f11_r, f11_h⟩, f11_d, 43⟩ else
  bif Nat.beq f 12 then some ⟨⟨f12_b, f12_r, f12_h⟩, f12_d, 101⟩ else
  bif Nat.beq f 20 then some ⟨⟨f20_b, f20_r, f20_h⟩, f20_d, 47⟩ else
  bif Nat.beq f 21 then some ⟨⟨f21_b, f21_r, f21_h⟩, f21_d, 125⟩ else
  bif Nat.beq f 22 then some ⟨⟨f22_b, f22_r, f22_h⟩, f22_d, 80⟩ else
  bif Nat.beq f 23 then some ⟨⟨f23_b, f23_r, f23_h⟩, f23_d, 9⟩ else
  bif Nat.beq f 24 then some ⟨⟨f24_b, f24_r, f24_h⟩, f24_d, 9⟩ else
  bif Nat.beq f 25 then some ⟨⟨f25_b, f25_r, f25_h⟩, f25_d, 29⟩ else
  bif Nat.beq f 26 then some ⟨⟨f26_b, f26_r, f26_h⟩, f26_d, 68⟩ else
  bif Nat.beq f 27 then some ⟨⟨f27_b, f27_r, f27_h⟩, f27_d, 6⟩ else
  bif Nat.beq f 28 then some ⟨⟨f28_b, f28_r, f28_h⟩, f28_d, 177⟩ else
  bif Nat.beq f 30 then some ⟨⟨f30_b, f30_r, f30_h⟩, f30_d, 2⟩ else
  bif Nat.beq f 31 then some ⟨⟨f31_b, f31_r, f31_h⟩, f31_d, 97⟩ else
  bif Nat.beq f 32 then some ⟨⟨f32_b, f32_r, f32_h⟩, f32_d, 26⟩ else
  bif Nat.beq f 51 then some ⟨⟨f51_b, f51_r, f51_h⟩, f51_d, 2⟩ else
  bif Nat.beq f 52 then some ⟨⟨f52_b, f52_r, f52_h⟩, f52_d, 4⟩ else
  bif Nat.beq f 53 then some ⟨⟨f53_b, f53_r, f53_h⟩, f53_d, 61⟩ else
  bif Nat.beq f 54 then some ⟨⟨f54_b, f54_r, f54_h⟩, f54_d, 6⟩ else
  bif Nat.beq f 56 then some ⟨⟨f56_b, f56_r, f56_h⟩, f56_d, 26⟩ else
  bif Nat.beq f 57 then some ⟨⟨f57_b, f57_r, f57_h⟩, f57_d, 26⟩ else
  bif Nat.beq f 58 then some ⟨⟨f58_b, f58_r, f58_h⟩, f58_d, 32⟩ else
  bif Nat.beq f 59 then some ⟨⟨f59_b, f59_r, f59_h⟩, f59_d, 106⟩ else
  bif Nat.beq f 60 then some ⟨⟨f60_b, f60_r, f60_h⟩, f60_d, 2⟩ else
  bif Nat.beq f 61 then some ⟨⟨f61_b, f61_r, f61_h⟩, f61_d, 14⟩ else
  bif Nat.beq f 62 then some ⟨⟨f62_b, f62_r, f62_h⟩, f62_d, 19⟩ else
  bif Nat.beq f 63 then some ⟨⟨f63_b, f63_r, f63_h⟩, f63_d, 29⟩ else
  bif Nat.beq f 65 then some ⟨⟨f65_b, f65_r, f65_h⟩, f65_d, 77⟩ else
  bif Nat.beq f 66 then some ⟨⟨f66_b, f66_r, f66_h⟩, f66_d, 103⟩ else
  bif Nat.beq f 67 then some ⟨⟨f67_b, f67_r, f67_h⟩, f67_d, 15⟩ else
  bif Nat.beq f 68 then some ⟨⟨f68_b, f68_r, f68_h⟩, f68_d, 33⟩ else
  bif Nat.beq f 83 then some ⟨⟨f83_b, f83_r, f83_h⟩, f83_d, 21⟩ else
  bif Nat.beq f 84 then some ⟨⟨f84_b, f84_r, f84_h⟩, f84_d, 98⟩ else
  bif Nat.beq f 85 then some ⟨⟨f85_b, f85_r, f85_h⟩, f85_d, 50⟩ else
  bif Nat.beq f 86 then some ⟨⟨f86_b, f86_r, f86_h⟩, f86_d, 61⟩ else
  bif Nat.beq f 89 then some ⟨⟨f89_b, f89_r, f89_h⟩, f89_d, 28⟩ else
  bif Nat.beq f 90 then some ⟨⟨f90_b, f90_r, f90_h⟩, f90_d, 39⟩ else
  bif Nat.beq f 118 then some ⟨⟨f118_b, f118_r, f118_h⟩, f118_d, 21⟩ else
  none
noncomputable def f3_x (B : Code) (call : CallF) (n : Nat) (p : List Nat) : (Ex → St → Option RR) → St → Option RR := aexec AXE call f3_h f3_d n (piece p B)
noncomputable def f6_x (B : Code) (call : CallF) (n : Nat) (p : List Nat) : (Ex → St → Option RR) → St → Option RR := aexec AXE call f6_h f6_d n (piece p B)
noncomputable def f7_x (B : Code) (call : CallF) (n : Nat) (p : List Nat) : (Ex → St → Option RR) → St → Option RR := aexec AXE call f7_h f7_d n (piece p B)
noncomputable def f8_x (B : Code) (call : CallF) (n : Nat) (p : List Nat) : (Ex → St → Option RR) → St → Option RR := aexec AXE call f8_h f8_d n (piece p B)
noncomputable def f9_x (B : Code) (call : CallF) (n : Nat) (p : List Nat) : (Ex → St → Option RR) → St → Option RR := aexec AXE call f9_h f9_d n (piece p B)
noncomputable def f10_x (B : Code) (call : CallF) (n : Nat) (p : List Nat) : (Ex → St → Option RR) → St → Option RR := aexec AXE call f10_h f10_d n (piece p B)
noncomputable def f11_x (B : Code) (call : CallF) (n : Nat) (p : List Nat) : (Ex → St → Option RR) → St → Option RR := aexec AXE call f11_h f11_d n (piece p B)
noncomputable def f12_x (B : Code) (call : CallF) (n : Nat) (p : List Nat) : (Ex → St → Option RR) → St → Option RR := aexec AXE call f12_h f12_d n (piece p B)
noncomputable def f20_x (B : Code) (call : CallF) (n : Nat) (p : List Nat) : (Ex → St → Option RR) → St → Option RR := aexec AXE call f20_h f20_d n (piece p B)
noncomputable def f21_x (B : Code) (call : CallF) (n : Nat) (p : List Nat) : (Ex → St → Option RR) → St → Option RR := aexec AXE call f21_h f21_d n (piece p B)
noncomputable def f22_x (B : Code) (call : CallF) (n : Nat) (p : List Nat) : (Ex → St → Option RR) → St → Option RR := aexec AXE call f22_h f22_d n (piece p B)
noncomputable def f23_x (B : Code) (call : CallF) (n : Nat) (p : List Nat) : (Ex → St → Option RR) → St → Option RR := aexec AXE call f23_h f23_d n (piece p B)
noncomputable def f24_x (B : Code) (call : CallF) (n : Nat) (p : List Nat) : (Ex → St → Option RR) → St → Option RR := aexec AXE call f24_h f24_d n (piece p B)
noncomputable def f25_x (B : Code) (call : CallF) (n : Nat) (p : List Nat) : (Ex → St → Option RR) → St → Option RR := aexec AXE call f25_h f25_d n (piece p B)
noncomputable def f26_x (B : Code) (call : CallF) (n : Nat) (p : List Nat) : (Ex → St → Option RR) → St → Option RR := aexec AXE call f26_h f26_d n (piece p B)
noncomputable def f27_x (B : Code) (call : CallF) (n : Nat) (p : List Nat) : (Ex → St → Option RR) → St → Option RR := aexec AXE call f27_h f27_d n (piece p B)
noncomputable def f28_x (B : Code) (call : CallF) (n : Nat) (p : List Nat) : (Ex → St → Option RR) → St → Option RR := aexec AXE call f28_h f28_d n (piece p B)
noncomputable def f30_x (B : Code) (call : CallF) (n : Nat) (p : List Nat) : (Ex → St → Option RR) → St → Option RR := aexec AXE call f30_h f30_d n (piece p B)
noncomputable def f31_x (B : Code) (call : CallF) (n : Nat) (p : List Nat) : (Ex → St → Option RR) → St → Option RR := aexec AXE call f31_h f31_d n (piece p B)
noncomputable def f32_x (B : Code) (call : CallF) (n : Nat) (p : List Nat) : (Ex → St → Option RR) → St → Option RR := aexec AXE call f32_h f32_d n (piece p B)
noncomputable def f51_x (B : Code) (call : CallF) (n : Nat) (p : List Nat) : (Ex → St → Option RR) → St → Option RR := aexec AXE call f51_h f51_d n (piece p B)
noncomputable def f52_x (B : Code) (call : CallF) (n : Nat) (p : List Nat) : (Ex → St → Option RR) → St → Option RR := aexec AXE call f52_h f52_d n (piece p B)
noncomputable def f53_x (B : Code) (call : CallF) (n : Nat) (p : List Nat) : (Ex → St → Option RR) → St → Option RR := aexec AXE call f53_h f53_d n (piece p B)
noncomputable def f54_x (B : Code) (call : CallF) (n : Nat) (p : List Nat) : (Ex → St → Option RR) → St → Option RR := aexec AXE call f54_h f54_d n (piece p B)
noncomputable def f56_x (B : Code) (call : CallF) (n : Nat) (p : List Nat) : (Ex → St → Option RR) → St → Option RR := aexec AXE call f56_h f56_d n (piece p B)
noncomputable def f57_x (B : Code) (call : CallF) (n : Nat) (p : List Nat) : (Ex → St → Option RR) → St → Option RR := aexec AXE call f57_h f57_d n (piece p B)
noncomputable def f58_x (B : Code) (call : CallF) (n : Nat) (p : List Nat) : (Ex → St → Option RR) → St → Option RR := aexec AXE call f58_h f58_d n (piece p B)
noncomputable def f59_x (B : Code) (call : CallF) (n : Nat) (p : List Nat) : (Ex → St → Option RR) → St → Option RR := aexec AXE call f59_h f59_d n (piece p B)
noncomputable def f60_x (B : Code) (call : CallF) (n : Nat) (p : List Nat) : (Ex → St → Option RR) → St → Option RR := aexec AXE call f60_h f60_d n (piece p B)
noncomputable def f61_x (B : Code) (call : CallF) (n : Nat) (p : List Nat) : (Ex → St → Option RR) → St → Option RR := aexec AXE call f61_h f61_d n (piece p B)
noncomputable def f62_x (B : Code) (call : CallF) (n : Nat) (p : List Nat) : (Ex → St → Option RR) → St → Option RR := aexec AXE call f62_h f62_d n (piece p B)
noncomputable def f63_x (B : Code) (call : CallF) (n : Nat) (p : List Nat) : (Ex → St → Option RR) → St → Option RR := aexec AXE call f63_h f63_d n (piece p B)
noncomputable def f65_x (B : Code) (call : CallF) (n : Nat) (p : List Nat) : (Ex → St → Option RR) → St → Option RR := aexec AXE call f65_h f65_d n (piece p B)
noncomputable def f66_x (B : Code) (call : CallF) (n : Nat) (p : List Nat) : (Ex → St → Option RR) → St → Option RR := aexec AXE call f66_h f66_d n (piece p B)
noncomputable def f67_x (B : Code) (call : CallF) (n : Nat) (p : List Nat) : (Ex → St → Option RR) → St → Option RR := aexec AXE call f67_h f67_d n (piece p B)
noncomputable def f68_x (B : Code) (call : CallF) (n : Nat) (p : List Nat) : (Ex → St → Option RR) → St → Option RR := aexec AXE call f68_h f68_d n (piece p B)
noncomputable def f83_x (B : Code) (call : CallF) (n : Nat) (p : List Nat) : (Ex → St → Option RR) → St → Option RR := aexec AXE call f83_h f83_d n (piece p B)
noncomputable def f84_x (B : Code) (call : CallF) (n : Nat) (p : List Nat) : (Ex → St → Option RR) → St → Option RR := aexec AXE call f84_h f84_d n (piece p B)
noncomputable def f85_x (B : Code) (call : CallF) (n : Nat) (p : List Nat) : (Ex → St → Option RR) → St → Option RR := aexec AXE call f85_h f85_d n (piece p B)
noncomputable def f86_x (B : Code) (call : CallF) (n : Nat) (p : List Nat) : (Ex → St → Option RR) → St → Option RR := aexec AXE call f86_h f86_d n (piece p B)
noncomputable def f89_x (B : Code) (call : CallF) (n : Nat) (p : List Nat) : (Ex → St → Option RR) → St → Option RR := aexec AXE call f89_h f89_d n (piece p B)
noncomputable def f90_x (B : Code) (call : CallF) (n : Nat) (p : List Nat) : (Ex → St → Option RR) → St → Option RR := aexec AXE call f90_h f90_d n (piece p B)
noncomputable def f118_x (B : Code) (call : CallF) (n : Nat) (p : List Nat) : (Ex → St → Option RR) → St → Option RR := aexec AXE call f118_h f118_d n (piece p B)
end AX
end Go.Proofs.YtfbicbgdfcbhpaaGreatDoor
