/-
  CxTab.
-/
import Derived.Test.YtfbicbgdfcbhpaaGreatDoorCt08
import Derived.Test.YtfbicbgdfcbhpaaGreatDoorProg
import Derived.Test.YtfbicbgdfcbhpaaGreatDoorCt31
set_option maxRecDepth 20000
set_option linter.unusedVariables false
set_option linter.unusedSimpArgs false
set_option linter.unusedSectionVars false
namespace Go.Proofs.YtfbicbgdfcbhpaaGreatDoor
namespace AX
structure S_api_Cmd where
 fVerb : Int
 fArg : List UInt8
 fPath_Local : List UInt8
 fPath_Domain : List UInt8
 fNull : Bool
 fSize : Int
 fBody : Int
@[reducible] def S_api_Cmd.cells (x : S_api_Cmd) : List Cell := [.int .i64 x.fVerb, .str x.fArg, .str x.fPath_Local, .str x.fPath_Domain, .bool x.fNull, .int .i64 x.fSize, .int .i64 x.fBody]
def takeS_api_Cmd {R : Type} (l : List Cell) (k : S_api_Cmd → List Cell → Option R) : Option R :=
 consK l fun c0 r0 => castI .i64 c0 fun v0 =>
 consK r0 fun c1 r1 => castS c1 fun v1 =>
 consK r1 fun c2 r2 => castS c2 fun v2 =>
 consK r2 fun c3 r3 => castS c3 fun v3 =>
 consK r3 fun c4 r4 => castB c4 fun v4 =>
 consK r4 fun c5 r5 => castI .i64 c5 fun v5 =>
 consK r5 fun c6 r6 => castI .i64 c6 fun v6 =>
 k (⟨v0, v1, v2, v3, v4, v5, v6⟩ : S_api_Cmd) r6
theorem takeS_api_Cmd_cells_nil {R : Type} (x : S_api_Cmd) (k : S_api_Cmd → List Cell → Option R) : takeS_api_Cmd x.cells k = k x [] := by
 cases x; rfl
structure S_ref06_Got where
 fC : S_api_Cmd
 fCode : Int
@[reducible] def S_ref06_Got.cells (x : S_ref06_Got) : List Cell := [.int .i64 x.fC.fVerb, .str x.fC.fArg, .str x.fC.fPath_Local, .str x.fC.fPath_Domain, .bool x.fC.fNull, .int .i64 x.fC.fSize, .int .i64 x.fC.fBody, .int .i64 x.fCode]
def takeS_ref06_Got {R : Type} (l : List Cell) (k : S_ref06_Got → List Cell → Option R) : Option R :=
 consK l fun c0 r0 => castI .i64 c0 fun v0 =>
 consK r0 fun c1 r1 => castS c1 fun v1 =>
 consK r1 fun c2 r2 => castS c2 fun v2 =>
 consK r2 fun c3 r3 => castS c3 fun v3 =>
 consK r3 fun c4 r4 => castB c4 fun v4 =>
 consK r4 fun c5 r5 => castI .i64 c5 fun v5 =>
 consK r5 fun c6 r6 => castI .i64 c6 fun v6 =>
 consK r6 fun c7 r7 => castI .i64 c7 fun v7 =>
 k (⟨(⟨v0, v1, v2, v3, v4, v5, v6⟩ : S_api_Cmd), v7⟩ : S_ref06_Got) r7
theorem takeS_ref06_Got_cells_nil {R : Type} (x : S_ref06_Got) (k : S_ref06_Got → List Cell → Option R) : takeS_ref06_Got x.cells k = k x [] := by
 cases x; rfl
structure S_ref05_Got where
 fA_Local : List UInt8
 fA_Domain : List UInt8
 fN : Int
 fE : Int
@[reducible] def S_ref05_Got.cells (x : S_ref05_Got) : List Cell := [.str x.fA_Local, .str x.fA_Domain, .int .i64 x.fN, .int .i64 x.fE]
def takeS_ref05_Got {R : Type} (l : List Cell) (k : S_ref05_Got → List Cell → Option R) : Option R :=
 consK l fun c0 r0 => castS c0 fun v0 =>
 consK r0 fun c1 r1 => castS c1 fun v1 =>
 consK r1 fun c2 r2 => castI .i64 c2 fun v2 =>
 consK r2 fun c3 r3 => castI .i64 c3 fun v3 =>
 k (⟨v0, v1, v2, v3⟩ : S_ref05_Got) r3
theorem takeS_ref05_Got_cells_nil {R : Type} (x : S_ref05_Got) (k : S_ref05_Got → List Cell → Option R) : takeS_ref05_Got x.cells k = k x [] := by
 cases x; rfl
def AXT0 : List (Nat × TI) := [(3, .int .i64), (4, .bool), (5, .int .u8), (9, .str), (24, .slice 9 1), (25, .slice 5 1), (26, .int .i64), (38, .struct [.str, .str] [(0, 1, 9), (1, 1, 9)]), (40, .struct [.int .i64, .str, .str, .str, .bool, .int .i64, .int .i64] [(0, 1, 3), (1, 1, 9), (2, 2, 38), (4, 1, 4), (5, 1, 3), (6, 1, 3)]), (41, .tup [(.struct [.int .i64, .str, .str, .str, .bool, .int .i64, .int .i64] [(0, 1, 3), (1, 1, 9), (2, 2, 38), (4, 1, 4), (5, 1, 3), (6, 1, 3)]), (.int .i64)]), (44, .struct [.int .i64, .str, .str, .str, .bool, .int .i64, .int .i64, .int .i64] [(0, 7, 40), (7, 1, 3)]), (48, .tup [.str, (.int .i64)]), (62, .tup [.str, .str, .bool]), (70, .ptr), (94, .tup [(.struct [.str, .str] [(0, 1, 9), (1, 1, 9)]), (.int .i64), (.int .i64)]), (98, .struct [.str, .str, .int .i64, .int .i64] [(0, 2, 38), (2, 1, 3), (3, 1, 26)]), (108, .err), (122, .map 9 3), (138, .int .u64), (139, .tup [(.int .u64), .err])]
noncomputable def AXE : Env := ⟨AXT0, [], [], primOf [(29, pCut), (35, pADomain), (39, pRDomain), (46, pAPath), (47, pItoa), (48, pRPath), (50, pSplit), (70, pContains), (71, pARead), (74, pRRead), (134, pParseU)], primHOf [], primSOf [], [], refOf [], [38, 40]⟩
noncomputable def f4_b : Code := bodyOf Tryz.f4
def f4_r : List ResultVar := [.tmp 2]
def f4_h : List (Nat × List Nat × Nat) := [(0, [0], 0), (1, [0, 7], 0), (2, [2], 0), (3, [0, 10], 0), (4, [2], 0), (5, [0, 3, 4], 1), (6, [0, 3, 4, 5], 2), (7, [2], 0)]
def f4_bx : List Nat := []
def f4_d : List (Nat × Nat) := []
noncomputable def f5_b : Code := bodyOf Tryz.f5
def f5_r : List ResultVar := [.tmp 2]
def f5_h : List (Nat × List Nat × Nat) := [(0, [1], 1), (1, [1, 10], 1), (2, [2], 0), (3, [1, 28], 1), (4, [2], 0), (5, [1, 3, 4], 1), (6, [1, 3, 4, 5, 6], 1), (7, [1, 3, 4, 46], 1), (8, [2], 0), (9, [1, 3, 48], 1), (10, [2], 0), (11, [1, 7, 8], 2), (12, [2], 0)]
def f5_bx : List Nat := []
def f5_d : List (Nat × Nat) := []
noncomputable def f13_b : Code := bodyOf Tryz.f13
def f13_r : List ResultVar := [.tmp 0]
def f13_h : List (Nat × List Nat × Nat) := [(0, [], 0), (1, [1, 2], 1), (2, [1, 2, 4], 1), (3, [1, 2, 4, 6], 1), (4, [1, 2, 4, 6, 8], 1), (5, [0], 0)]
def f13_bx : List Nat := []
def f13_d : List (Nat × Nat) := []
noncomputable def f14_b : Code := bodyOf Tryz.f14
def f14_r : List ResultVar := [.cell 2 40, .tmp 3]
def f14_h : List (Nat × List Nat × Nat) := [(0, [0, 2], 1), (1, [0, 2, 16], 1), (2, [2, 3], 1), (3, [2, 4, 5, 6], 1), (4, [2, 5, 6, 7], 2), (5, [2, 5, 6, 7, 8], 2), (6, [2, 5, 6, 7, 8, 28], 2), (8, [2, 5, 6, 7, 8, 28, 31], 2), (9, [2, 7, 8], 2), (10, [2, 5, 6, 7, 8, 28, 33], 2), (11, [2, 5, 6, 7, 8, 28, 33], 2), (12, [2, 5, 6, 7, 8, 28, 33], 2), (13, [2, 5, 7], 2), (14, [2, 7, 8], 2), (15, [2, 5, 6, 7, 8, 28, 46], 2), (16, [2, 7, 8], 2), (17, [2, 5, 6, 7, 8, 28, 50], 2), (18, [2, 7, 8], 2), (19, [2, 5, 6, 7, 8, 28, 54], 2), (20, [2, 5, 6, 7, 8, 28, 54], 2), (21, [2, 5, 6, 7, 8, 28, 54], 2), (22, [2, 7, 8], 2), (23, [2, 5, 7, 8, 61], 2), (24, [2, 5, 7], 2), (25, [2, 7, 8], 2), (7, [2, 7, 8], 2), (26, [2, 7, 8, 69], 2), (27, [2, 3], 1), (28, [2, 3], 1), (3000033, [], 1000), (3000054, [], 1000)]
def f14_bx : List Nat := []
def f14_d : List (Nat × Nat) := []
noncomputable def f15_b : Code := bodyOf Tryz.f15
def f15_r : List ResultVar := [.cell 2 44]
def f15_h : List (Nat × List Nat × Nat) := [(0, [0, 2], 1), (1, [0, 2, 9], 1), (2, [2], 1), (3, [0, 2, 3], 1), (4, [0, 2, 3, 14], 1), (6, [0, 2, 3, 26], 1), (7, [2], 1), (5, [0, 2, 3], 1), (8, [0, 2, 4], 1), (9, [0, 2, 4, 5], 1), (10, [0, 2, 4, 5, 33], 1), (11, [0, 2, 4, 5], 1), (12, [0, 2, 4, 5, 6], 2), (13, [0, 2, 4, 5, 6, 44], 2), (15, [0, 2, 4, 5, 6, 44, 47], 2), (16, [2], 1), (17, [0, 2, 4, 5, 6, 44, 50], 2), (18, [0, 2, 4, 5, 6, 44, 50], 2), (19, [0, 2, 4, 5, 6, 44, 50], 2), (20, [2, 5, 6, 61], 2), (21, [2], 1), (22, [2, 6], 2), (23, [0, 2, 4, 5, 6, 44, 65], 2), (24, [2], 1), (25, [0, 2, 4, 5, 6, 44, 70], 2), (26, [2], 1), (27, [0, 2, 4, 5, 6, 44, 75], 2), (28, [0, 2, 4, 5, 6, 44, 75], 2), (29, [0, 2, 4, 5, 6, 44, 75], 2), (30, [2, 6, 82], 2), (31, [2], 1), (32, [2, 5, 6, 84], 2), (33, [2, 5, 6, 87], 2), (34, [2], 1), (35, [2, 6], 2), (14, [2, 6], 2), (36, [2], 1), (1000004, [0, 2, 3], 1), (3000050, [], 1000), (3000075, [], 1000)]
def f15_bx : List Nat := []
def f15_d : List (Nat × Nat) := []
noncomputable def f16_b : Code := bodyOf Tryz.f16
def f16_r : List ResultVar := [.tmp 2]
def f16_h : List (Nat × List Nat × Nat) := [(0, [0], 0), (1, [3], 0), (2, [3, 8, 9, 10], 0), (3, [3, 8, 9, 10, 11], 0), (4, [3, 4, 5, 8, 9, 10], 0), (5, [3, 4, 8, 9, 10, 21], 0), (6, [2], 0), (7, [3, 8, 9, 10], 0), (8, [2], 0), (1000003, [3, 8, 9, 10], 0)]
def f16_bx : List Nat := []
def f16_d : List (Nat × Nat) := []
noncomputable def f17_b : Code := bodyOf Tryz.f17
def f17_r : List ResultVar := [.tmp 2]
def f17_h : List (Nat × List Nat × Nat) := [(0, [0], 0), (1, [0, 3], 0), (2, [0, 3, 5], 0), (4, [0, 3, 12], 0), (5, [2], 0), (3, [0, 3], 0), (6, [2], 0), (1000002, [0, 3], 0)]
def f17_bx : List Nat := []
def f17_d : List (Nat × Nat) := []
noncomputable def f18_b : Code := bodyOf Tryz.f18
def f18_r : List ResultVar := [.tmp 2, .tmp 3]
def f18_h : List (Nat × List Nat × Nat) := [(0, [1], 1), (1, [1, 17], 1), (2, [2, 3], 0), (3, [1, 4], 1), (4, [1, 4, 24], 1), (7, [1, 4, 24, 33], 1), (8, [1, 4, 33], 1), (9, [1, 4, 5, 6], 1), (10, [1, 4, 5, 43], 1), (11, [2, 3], 0), (12, [1, 4, 5, 7], 1), (13, [1, 4, 5, 7, 46], 1), (14, [1, 4, 5, 7], 1), (15, [1, 4], 1), (16, [1, 4, 54], 1), (17, [1, 4], 1), (18, [1, 4, 63], 1), (19, [1, 4], 1), (20, [1, 4, 68], 1), (21, [1, 4], 1), (5, [1, 4, 27], 1), (6, [1, 4], 1), (22, [1, 4, 8, 9], 2), (23, [4, 87], 0), (24, [2, 3], 0), (25, [2, 3], 0), (3000033, [], 1000)]
def f18_bx : List Nat := []
def f18_d : List (Nat × Nat) := [(3, 3)]
noncomputable def f19_b : Code := bodyOf Tryz.f19
def f19_r : List ResultVar := [.tmp 2, .tmp 3]
def f19_h : List (Nat × List Nat × Nat) := [(0, [1], 1), (1, [1, 15], 1), (2, [2, 3], 0), (3, [1, 4], 1), (4, [1, 4, 26], 1), (5, [1, 4, 5, 6], 1), (6, [1, 4, 5, 34], 1), (7, [2, 3], 0), (8, [1, 4, 5, 37], 1), (9, [1, 4], 1), (10, [1, 4], 1), (11, [1, 4, 48], 1), (12, [1, 4], 1), (13, [1, 4, 57], 1), (14, [1, 4], 1), (15, [1, 4, 62], 1), (16, [1, 4], 1), (17, [1, 4, 67], 1), (18, [1, 4], 1), (19, [1, 4, 7], 2), (20, [4, 83], 0), (21, [2, 3], 0), (22, [2, 3], 0)]
def f19_bx : List Nat := []
def f19_d : List (Nat × Nat) := []
noncomputable def f33_b : Code := bodyOf Tryz.f33
def f33_r : List ResultVar := [.tmp 2]
def f33_h : List (Nat × List Nat × Nat) := [(0, [0], 0), (1, [6, 7, 8], 0), (2, [6, 7, 8, 9], 0), (3, [4, 6, 7, 8], 0), (4, [6, 7, 8, 17], 0), (5, [2], 0), (6, [6, 7, 8], 0), (7, [2], 0), (1000002, [6, 7, 8], 0)]
def f33_bx : List Nat := []
def f33_d : List (Nat × Nat) := []
noncomputable def f34_b : Code := bodyOf Tryz.f34
def f34_r : List ResultVar := [.tmp 2]
def f34_h : List (Nat × List Nat × Nat) := [(0, [0], 0), (1, [3], 0), (2, [2], 0), (3, [2], 0)]
def f34_bx : List Nat := []
def f34_d : List (Nat × Nat) := []
noncomputable def f36_b : Code := bodyOf Tryz.f36
def f36_r : List ResultVar := [.tmp 2]
def f36_h : List (Nat × List Nat × Nat) := [(0, [0], 0), (1, [0, 18], 0), (2, [2], 0), (3, [2], 0)]
def f36_bx : List Nat := []
def f36_d : List (Nat × Nat) := []
noncomputable def f37_b : Code := bodyOf Tryz.f37
def f37_r : List ResultVar := [.tmp 8]
def f37_h : List (Nat × List Nat × Nat) := [(0, [0, 1, 2, 3], 1), (1, [0, 1, 2, 3, 25], 1), (2, [8], 1), (3, [0, 1, 3], 1), (4, [0, 1, 9, 10, 11], 2), (5, [0, 1, 9, 10, 38], 2), (6, [8], 1), (7, [0, 1, 10], 1), (8, [0, 1], 1), (9, [0, 1, 53], 1), (10, [8], 1), (11, [0, 1, 56], 1), (12, [8], 1), (13, [8], 1)]
def f37_bx : List Nat := []
def f37_d : List (Nat × Nat) := [(7, 1008)]
noncomputable def f38_b : Code := bodyOf Tryz.f38
def f38_r : List ResultVar := [.tmp 6]
def f38_h : List (Nat × List Nat × Nat) := [(0, [0, 1, 2], 0), (1, [0, 1, 2, 17], 0), (2, [0, 1, 2], 0), (3, [6], 0), (1000001, [0, 1, 2], 0)]
def f38_bx : List Nat := []
def f38_d : List (Nat × Nat) := []
noncomputable def f40_b : Code := bodyOf Tryz.f40
def f40_r : List ResultVar := [.tmp 2]
def f40_h : List (Nat × List Nat × Nat) := [(0, [0], 0), (1, [0, 20], 0), (2, [2], 0), (3, [0, 3], 0), (4, [0, 3, 25], 0), (6, [0, 3, 4], 0), (7, [0, 3, 48], 0), (8, [2], 0), (5, [0, 3], 0), (9, [2], 0), (1000004, [0, 3], 0)]
def f40_bx : List Nat := []
def f40_d : List (Nat × Nat) := []
noncomputable def f41_b : Code := bodyOf Tryz.f41
def f41_r : List ResultVar := [.cell 6 44]
def f41_h : List (Nat × List Nat × Nat) := [(0, [1, 2, 3, 6], 2), (1, [1, 2, 3, 6, 7], 2), (2, [1, 3, 6, 7, 22], 2), (3, [6], 2), (4, [1, 3, 6, 7, 8], 3), (5, [1, 3, 6, 7, 8, 33], 3), (6, [6], 2), (7, [1, 3, 6, 7, 8], 3), (8, [1, 3, 6, 7, 8], 3), (9, [6], 2)]
def f41_bx : List Nat := []
def f41_d : List (Nat × Nat) := [(4, 8000008), (9, 7)]
noncomputable def f42_b : Code := bodyOf Tryz.f42
def f42_r : List ResultVar := [.tmp 2]
def f42_h : List (Nat × List Nat × Nat) := [(0, [0], 0), (1, [3], 1), (2, [3, 8, 9, 10], 1), (3, [3, 8, 9, 10, 11], 1), (4, [3, 4, 5, 8, 9, 10], 1), (5, [3, 4, 5, 8, 9, 10, 20], 1), (6, [3, 8, 9, 10], 1), (7, [3, 8, 9, 10], 1), (8, [2], 0), (1000003, [3, 8, 9, 10], 1)]
def f42_bx : List Nat := [7]
def f42_d : List (Nat × Nat) := []
noncomputable def f43_b : Code := bodyOf Tryz.f43
def f43_r : List ResultVar := [.tmp 0]
def f43_h : List (Nat × List Nat × Nat) := [(0, [], 0), (1, [0], 0)]
def f43_bx : List Nat := []
def f43_d : List (Nat × Nat) := []
noncomputable def f44_b : Code := bodyOf Tryz.f44
def f44_r : List ResultVar := [.tmp 2]
def f44_h : List (Nat × List Nat × Nat) := [(0, [0], 0), (1, [0, 3], 0), (2, [2], 0)]
def f44_bx : List Nat := []
def f44_d : List (Nat × Nat) := []
noncomputable def f45_b : Code := bodyOf Tryz.f45
def f45_r : List ResultVar := [.tmp 2]
def f45_h : List (Nat × List Nat × Nat) := [(0, [0], 0), (1, [0, 3], 0), (2, [0, 3, 4], 0), (3, [0, 3, 4, 9], 0), (5, [0, 3, 4, 5], 0), (6, [0, 3, 4, 5, 20], 0), (7, [0, 3, 4, 5], 0), (8, [0, 3, 4], 0), (4, [0, 3, 4], 0), (9, [2], 0), (1000003, [0, 3, 4], 0)]
def f45_bx : List Nat := []
def f45_d : List (Nat × Nat) := []
noncomputable def f49_b : Code := bodyOf Tryz.f49
def f49_r : List ResultVar := [.tmp 2]
def f49_h : List (Nat × List Nat × Nat) := [(0, [0], 0), (1, [0, 5], 0), (2, [2], 0), (3, [0, 3], 0), (4, [0, 3, 13], 0), (5, [0, 3], 0), (6, [0, 3], 0), (7, [2], 0), (1000004, [0, 3], 0)]
def f49_bx : List Nat := []
def f49_d : List (Nat × Nat) := []
noncomputable def f72_b : Code := bodyOf Tryz.f72
def f72_r : List ResultVar := [.tmp 4]
def f72_h : List (Nat × List Nat × Nat) := [(0, [0, 1], 1), (1, [0, 1, 5], 2), (2, [0, 5, 13, 14, 15], 2), (3, [0, 5, 13, 14, 15, 16], 2), (4, [0, 5, 7, 13, 14, 15], 2), (5, [0, 5, 8, 9, 10, 13, 14, 15], 2), (6, [0, 5, 8, 9, 10, 13, 14, 15], 2), (7, [0, 5, 8, 9, 13, 14, 15, 43], 2), (8, [4], 1), (9, [0, 5, 8, 9, 13, 14, 15], 2), (10, [0, 5, 8, 9, 11, 13, 14, 15], 2), (11, [0, 5, 8, 9, 11, 13, 14, 15, 52], 2), (12, [0, 5, 11, 13, 14, 15], 2), (13, [0, 5, 11, 13, 14, 15, 58], 2), (14, [4], 1), (15, [0, 5, 13, 14, 15], 2), (16, [4], 1), (1000003, [0, 5, 13, 14, 15], 2)]
def f72_bx : List Nat := []
def f72_d : List (Nat × Nat) := []
noncomputable def f75_b : Code := bodyOf Tryz.f75
def f75_r : List ResultVar := [.cell 4 44]
def f75_h : List (Nat × List Nat × Nat) := [(0, [1, 2, 4], 2), (1, [1, 2, 4, 5], 2), (2, [1, 2, 4, 5, 6], 2), (3, [1, 2, 4, 5, 6, 16], 2), (4, [1, 2, 4, 5, 6, 20], 2), (5, [4], 2), (6, [1, 2, 4, 5, 6, 7], 2), (7, [1, 2, 4, 6, 7, 8], 2), (8, [1, 2, 4, 5, 6, 8], 2), (9, [1, 2, 4, 5, 6, 8, 9], 2), (10, [1, 2, 4, 5, 6, 8, 9, 10], 2), (11, [1, 2, 4, 5, 6, 8, 9, 10, 11], 2), (12, [1, 2, 4, 5, 6, 8, 9, 10, 11, 41], 2), (13, [1, 2, 4, 5, 6, 10, 11], 2), (14, [1, 2, 4, 5, 6, 10, 11, 54], 2), (15, [4], 2), (16, [1, 2, 4, 5, 6, 10, 11, 58], 2), (17, [4], 2), (18, [1, 2, 4, 5, 6, 10, 11, 12], 2), (19, [1, 2, 4, 5, 6, 10, 11, 12, 63], 2), (21, [1, 2, 4, 5, 6, 10, 11, 12, 71], 2), (22, [4], 2), (20, [1, 2, 4, 5, 6, 10, 11, 12], 2), (23, [1, 2, 4, 5, 6, 10, 11], 2), (24, [1, 2, 4, 5, 6, 10, 11, 87], 2), (25, [4], 2), (26, [1, 2, 4, 5, 6, 11, 90], 2), (27, [1, 2, 4, 5, 6], 2), (28, [1, 2, 4, 5, 6, 96], 2), (29, [4], 2), (30, [1, 2, 4, 5, 6, 11, 100], 2), (31, [1, 2, 4, 5, 6], 2), (32, [1, 2, 4, 5, 6, 104], 2), (33, [1, 2, 4, 5, 6], 2), (34, [4], 2), (35, [4], 2), (1000019, [1, 2, 4, 5, 6, 10, 11, 12], 2), (1000003, [1, 2, 4, 5, 6], 2)]
def f75_bx : List Nat := []
def f75_d : List (Nat × Nat) := []
noncomputable def f99_b : Code := bodyOf Tryz.f99
def f99_r : List ResultVar := [.tmp 2]
def f99_h : List (Nat × List Nat × Nat) := [(0, [0], 0), (1, [0, 6, 7, 8], 0), (2, [0, 6, 7, 8, 9], 0), (3, [0, 4, 6, 7, 8], 0), (4, [0, 6, 7, 8, 29], 0), (5, [2], 0), (6, [0, 6, 7, 8], 0), (7, [2], 0), (1000002, [0, 6, 7, 8], 0)]
def f99_bx : List Nat := []
def f99_d : List (Nat × Nat) := []
noncomputable def f100_b : Code := bodyOf Tryz.f100
def f100_r : List ResultVar := [.tmp 2]
def f100_h : List (Nat × List Nat × Nat) := [(0, [0], 0), (1, [2], 0)]
def f100_bx : List Nat := []
def f100_d : List (Nat × Nat) := []
noncomputable def f101_b : Code := bodyOf Tryz.f101
def f101_r : List ResultVar := [.tmp 6]
def f101_h : List (Nat × List Nat × Nat) := [(0, [0, 1, 2], 1), (1, [0, 2, 9], 1), (2, [0, 2, 9, 10], 1), (3, [0, 2, 7, 8], 1), (4, [0, 7, 27], 1), (5, [6], 1), (6, [], 1), (7, [6], 1), (8, [0, 2, 33], 1), (9, [0], 1), (10, [6], 1), (11, [6], 1)]
def f101_bx : List Nat := []
def f101_d : List (Nat × Nat) := []
noncomputable def f106_b : Code := bodyOf Tryz.f106
def f106_r : List ResultVar := [.tmp 2]
def f106_h : List (Nat × List Nat × Nat) := [(0, [0], 0), (1, [0, 3], 0), (2, [0, 3, 8], 0), (4, [0, 3, 4], 0), (5, [0, 3, 33], 0), (6, [2], 0), (3, [0, 3], 0), (7, [2], 0), (1000002, [0, 3], 0)]
def f106_bx : List Nat := []
def f106_d : List (Nat × Nat) := []
noncomputable def f107_b : Code := bodyOf Tryz.f107
def f107_r : List ResultVar := [.tmp 2]
def f107_h : List (Nat × List Nat × Nat) := [(0, [0], 0), (1, [0, 12], 0), (2, [2], 0), (3, [0, 3], 0), (4, [0, 3, 4], 0), (5, [0, 3, 4, 16], 0), (7, [0, 3, 4, 28], 0), (8, [2], 0), (9, [0, 3, 4], 0), (10, [0, 3, 4, 38], 0), (11, [2], 0), (6, [0, 3, 4], 0), (12, [2], 0), (1000005, [0, 3, 4], 0)]
def f107_bx : List Nat := []
def f107_d : List (Nat × Nat) := []
noncomputable def AXF (f : FuncId) : Option FX :=
 bif Nat.beq f 4 then some ⟨⟨f4_b, f4_r, f4_h⟩, f4_d, 35, f4_bx⟩ else
 bif Nat.beq f 5 then some ⟨⟨f5_b, f5_r, f5_h⟩, f5_d, 61, f5_bx⟩ else
 bif Nat.beq f 13 then some ⟨⟨f13_b, f13_r, f13_h⟩, f13_d, 60, f13_bx⟩ else
 bif Nat.beq f 14 then some ⟨⟨f14_b, f14_r, f14_h⟩, f14_d, 73, f14_bx⟩ else
 bif Nat.beq f 15 then some ⟨⟨f15_b, f15_r, f15_h⟩, f15_d, 93, f15_bx⟩ else
 bif Nat.beq f 16 then some ⟨⟨f16_b, f16_r, f16_h⟩, f16_d, 24, f16_bx⟩ else
 bif Nat.beq f 17 then some ⟨⟨f17_b, f17_r, f17_h⟩, f17_d, 14, f17_bx⟩ else
 bif Nat.beq f 18 then some ⟨⟨f18_b, f18_r, f18_h⟩, f18_d, 89, f18_bx⟩ else
 bif Nat.beq f 19 then some ⟨⟨f19_b, f19_r, f19_h⟩, f19_d, 85, f19_bx⟩ else
 bif Nat.beq f 33 then some ⟨⟨f33_b, f33_r, f33_h⟩, f33_d, 19, f33_bx⟩ else
 bif Nat.beq f 34 then some ⟨⟨f34_b, f34_r, f34_h⟩, f34_d, 4, f34_bx⟩ else
 bif Nat.beq f 36 then some ⟨⟨f36_b, f36_r, f36_h⟩, f36_d, 26, f36_bx⟩ else
 bif Nat.beq f 37 then some ⟨⟨f37_b, f37_r, f37_h⟩, f37_d, 62, f37_bx⟩ else
 bif Nat.beq f 38 then some ⟨⟨f38_b, f38_r, f38_h⟩, f38_d, 21, f38_bx⟩ else
 bif Nat.beq f 40 then some ⟨⟨f40_b, f40_r, f40_h⟩, f40_d, 49, f40_bx⟩ else
 bif Nat.beq f 41 then some ⟨⟨f41_b, f41_r, f41_h⟩, f41_d, 57, f41_bx⟩ else
 bif Nat.beq f 42 then some ⟨⟨f42_b, f42_r, f42_h⟩, f42_d, 29, f42_bx⟩ else
 bif Nat.beq f 43 then some ⟨⟨f43_b, f43_r, f43_h⟩, f43_d, 2, f43_bx⟩ else
 bif Nat.beq f 44 then some ⟨⟨f44_b, f44_r, f44_h⟩, f44_d, 9, f44_bx⟩ else
 bif Nat.beq f 45 then some ⟨⟨f45_b, f45_r, f45_h⟩, f45_d, 29, f45_bx⟩ else
 bif Nat.beq f 49 then some ⟨⟨f49_b, f49_r, f49_h⟩, f49_d, 25, f49_bx⟩ else
 bif Nat.beq f 72 then some ⟨⟨f72_b, f72_r, f72_h⟩, f72_d, 61, f72_bx⟩ else
 bif Nat.beq f 75 then some ⟨⟨f75_b, f75_r, f75_h⟩, f75_d, 109, f75_bx⟩ else
 bif Nat.beq f 99 then some ⟨⟨f99_b, f99_r, f99_h⟩, f99_d, 33, f99_bx⟩ else
 bif Nat.beq f 100 then some ⟨⟨f100_b, f100_r, f100_h⟩, f100_d, 10, f100_bx⟩ else
 bif Nat.beq f 101 then some ⟨⟨f101_b, f101_r, f101_h⟩, f101_d, 49, f101_bx⟩ else
 bif Nat.beq f 106 then some ⟨⟨f106_b, f106_r, f106_h⟩, f106_d, 37, f106_bx⟩ else
 bif Nat.beq f 107 then some ⟨⟨f107_b, f107_r, f107_h⟩, f107_d, 40, f107_bx⟩ else
 none
noncomputable def f5_x (B : Code) (call : CallF) (n : Nat) (p : List Nat) : (Ex → St → Option RR) → St → Option RR := aexec (AXE.box f5_bx) call f5_h f5_d n (piece p B)
noncomputable def f13_x (B : Code) (call : CallF) (n : Nat) (p : List Nat) : (Ex → St → Option RR) → St → Option RR := aexec (AXE.box f13_bx) call f13_h f13_d n (piece p B)
noncomputable def f14_x (B : Code) (call : CallF) (n : Nat) (p : List Nat) : (Ex → St → Option RR) → St → Option RR := aexec (AXE.box f14_bx) call f14_h f14_d n (piece p B)
noncomputable def f15_x (B : Code) (call : CallF) (n : Nat) (p : List Nat) : (Ex → St → Option RR) → St → Option RR := aexec (AXE.box f15_bx) call f15_h f15_d n (piece p B)
noncomputable def f16_x (B : Code) (call : CallF) (n : Nat) (p : List Nat) : (Ex → St → Option RR) → St → Option RR := aexec (AXE.box f16_bx) call f16_h f16_d n (piece p B)
noncomputable def f17_x (B : Code) (call : CallF) (n : Nat) (p : List Nat) : (Ex → St → Option RR) → St → Option RR := aexec (AXE.box f17_bx) call f17_h f17_d n (piece p B)
noncomputable def f18_x (B : Code) (call : CallF) (n : Nat) (p : List Nat) : (Ex → St → Option RR) → St → Option RR := aexec (AXE.box f18_bx) call f18_h f18_d n (piece p B)
noncomputable def f19_x (B : Code) (call : CallF) (n : Nat) (p : List Nat) : (Ex → St → Option RR) → St → Option RR := aexec (AXE.box f19_bx) call f19_h f19_d n (piece p B)
noncomputable def f33_x (B : Code) (call : CallF) (n : Nat) (p : List Nat) : (Ex → St → Option RR) → St → Option RR := aexec (AXE.box f33_bx) call f33_h f33_d n (piece p B)
noncomputable def f34_x (B : Code) (call : CallF) (n : Nat) (p : List Nat) : (Ex → St → Option RR) → St → Option RR := aexec (AXE.box f34_bx) call f34_h f34_d n (piece p B)
noncomputable def f36_x (B : Code) (call : CallF) (n : Nat) (p : List Nat) : (Ex → St → Option RR) → St → Option RR := aexec (AXE.box f36_bx) call f36_h f36_d n (piece p B)
noncomputable def f37_x (B : Code) (call : CallF) (n : Nat) (p : List Nat) : (Ex → St → Option RR) → St → Option RR := aexec (AXE.box f37_bx) call f37_h f37_d n (piece p B)
noncomputable def f38_x (B : Code) (call : CallF) (n : Nat) (p : List Nat) : (Ex → St → Option RR) → St → Option RR := aexec (AXE.box f38_bx) call f38_h f38_d n (piece p B)
noncomputable def f40_x (B : Code) (call : CallF) (n : Nat) (p : List Nat) : (Ex → St → Option RR) → St → Option RR := aexec (AXE.box f40_bx) call f40_h f40_d n (piece p B)
noncomputable def f41_x (B : Code) (call : CallF) (n : Nat) (p : List Nat) : (Ex → St → Option RR) → St → Option RR := aexec (AXE.box f41_bx) call f41_h f41_d n (piece p B)
noncomputable def f42_x (B : Code) (call : CallF) (n : Nat) (p : List Nat) : (Ex → St → Option RR) → St → Option RR := aexec (AXE.box f42_bx) call f42_h f42_d n (piece p B)
noncomputable def f43_x (B : Code) (call : CallF) (n : Nat) (p : List Nat) : (Ex → St → Option RR) → St → Option RR := aexec (AXE.box f43_bx) call f43_h f43_d n (piece p B)
noncomputable def f44_x (B : Code) (call : CallF) (n : Nat) (p : List Nat) : (Ex → St → Option RR) → St → Option RR := aexec (AXE.box f44_bx) call f44_h f44_d n (piece p B)
noncomputable def f45_x (B : Code) (call : CallF) (n : Nat) (p : List Nat) : (Ex → St → Option RR) → St → Option RR := aexec (AXE.box f45_bx) call f45_h f45_d n (piece p B)
noncomputable def f49_x (B : Code) (call : CallF) (n : Nat) (p : List Nat) : (Ex → St → Option RR) → St → Option RR := aexec (AXE.box f49_bx) call f49_h f49_d n (piece p B)
noncomputable def f72_x (B : Code) (call : CallF) (n : Nat) (p : List Nat) : (Ex → St → Option RR) → St → Option RR := aexec (AXE.box f72_bx) call f72_h f72_d n (piece p B)
noncomputable def f75_x (B : Code) (call : CallF) (n : Nat) (p : List Nat) : (Ex → St → Option RR) → St → Option RR := aexec (AXE.box f75_bx) call f75_h f75_d n (piece p B)
noncomputable def f99_x (B : Code) (call : CallF) (n : Nat) (p : List Nat) : (Ex → St → Option RR) → St → Option RR := aexec (AXE.box f99_bx) call f99_h f99_d n (piece p B)
noncomputable def f100_x (B : Code) (call : CallF) (n : Nat) (p : List Nat) : (Ex → St → Option RR) → St → Option RR := aexec (AXE.box f100_bx) call f100_h f100_d n (piece p B)
noncomputable def f101_x (B : Code) (call : CallF) (n : Nat) (p : List Nat) : (Ex → St → Option RR) → St → Option RR := aexec (AXE.box f101_bx) call f101_h f101_d n (piece p B)
noncomputable def f106_x (B : Code) (call : CallF) (n : Nat) (p : List Nat) : (Ex → St → Option RR) → St → Option RR := aexec (AXE.box f106_bx) call f106_h f106_d n (piece p B)
noncomputable def f107_x (B : Code) (call : CallF) (n : Nat) (p : List Nat) : (Ex → St → Option RR) → St → Option RR := aexec (AXE.box f107_bx) call f107_h f107_d n (piece p B)
end AX
end Go.Proofs.YtfbicbgdfcbhpaaGreatDoor
