/-
  The functions of this seat, for the reckoning: tables. Printed.
-/
import Derived.Test.YtfbicbgdfcbhpaaDoorAV26
import Derived.Test.YtfbicbgdfcbhpaaDoorProg
import Derived.Test.YtfbicbgdfcbhpaaDoorCmPrim
set_option maxRecDepth 20000
set_option linter.unusedVariables false
set_option linter.unusedSimpArgs false
set_option linter.unusedSectionVars false
namespace Go.Proofs.YtfbicbgdfcbhpaaDoor
namespace AX
structure S_api_Cmd where
  fVerb : Int
  fArg : List UInt8
  fPath_Local : List UInt8
  fPath_Domain : List UInt8
  fNull : Bool
  fSize : Int
  fBody : Int
@[reducible] def S_api_Cmd.cells (x : S_api_Cmd) : List Cell := [.int .i64 x.fVerb, .str x.fArg, .str x.fPath_Local, .str x.fPath_Domain, .bool x.fNull, .int .i64 x.fSize, .int .i64 x.fBody]
def takeS_api_Cmd {R : Type} (l : List Cell) (k : S_api_Cmd → List Cell → Option R) : Option R :=
  consK l fun c0 r0 => castI .i64 c0 fun v0 =>
  consK r0 fun c1 r1 => castS c1 fun v1 =>
  consK r1 fun c2 r2 => castS c2 fun v2 =>
  consK r2 fun c3 r3 => castS c3 fun v3 =>
  consK r3 fun c4 r4 => castB c4 fun v4 =>
  consK r4 fun c5 r5 => castI .i64 c5 fun v5 =>
  consK r5 fun c6 r6 => castI .i64 c6 fun v6 =>
  k (⟨v0, v1, v2, v3, v4, v5, v6⟩ : S_api_Cmd) r6
theorem takeS_api_Cmd_cells {R : Type} (x : S_api_Cmd) (r : List Cell) (k : S_api_Cmd → List Cell → Option R) : takeS_api_Cmd (x.cells ++ r) k = k x r := by
  cases x; rfl
theorem takeS_api_Cmd_cells_nil {R : Type} (x : S_api_Cmd) (k : S_api_Cmd → List Cell → Option R) : takeS_api_Cmd x.cells k = k x [] := by
  cases x; rfl
def AXT0 : List (Nat × TI) := [(3, .int .i64), (4, .bool), (5, .int .u8), (9, .str), (25, .slice 9 1), (26, .slice 5 1), (27, .int .i64), (50, .slice 4 1), (53, .struct [.str, .str] [(0, 1, 9), (1, 1, 9)]), (55, .struct [.int .i64, .str, .str, .str, .bool, .int .i64, .int .i64] [(0, 1, 3), (1, 1, 9), (2, 2, 53), (4, 1, 4), (5, 1, 3), (6, 1, 3)]), (56, .tup [(.struct [.int .i64, .str, .str, .str, .bool, .int .i64, .int .i64] [(0, 1, 3), (1, 1, 9), (2, 2, 53), (4, 1, 4), (5, 1, 3), (6, 1, 3)]), (.int .i64)]), (60, .tup [.str, .str, .bool]), (80, .err), (88, .ptr), (106, .tup [(.struct [.str, .str] [(0, 1, 9), (1, 1, 9)]), (.int .i64), (.int .i64)]), (124, .map 9 3), (136, .int .u64), (137, .tup [(.int .u64), .err])]
noncomputable def AXE : Env := ⟨AXT0, [], [], primOf [(20, pCut), (33, pSplit), (39, pADomain), (64, pContains), (65, pARead), (112, pParseU)], primHOf [], primSOf [], [], refOf [], [53, 55]⟩
noncomputable def f5_b : Code := bodyOf Tryd.f5
def f5_r : List ResultVar := [.tmp 4]
def f5_h : List (Nat × List Nat × Nat) := [(0, [0, 1], 0), (1, [0, 1, 13], 0), (2, [4], 0), (3, [0, 1, 21], 0), (4, [4], 0), (5, [0, 1, 5], 1), (6, [0, 1, 5, 6], 1), (7, [0, 1, 5, 6, 40], 1), (9, [0, 1, 5, 6, 7], 1), (10, [0, 1, 5, 6, 7, 71], 1), (11, [0, 1, 5, 6], 1), (8, [0, 1, 5, 6], 1), (12, [5, 8, 9], 2), (13, [8, 9, 10, 11], 3), (14, [4], 0), (1000007, [0, 1, 5, 6], 1)]
def f5_bx : List Nat := [23]
def f5_d : List (Nat × Nat) := []
noncomputable def f6_b : Code := bodyOf Tryd.f6
def f6_r : List ResultVar := [.tmp 6]
def f6_h : List (Nat × List Nat × Nat) := [(0, [0, 1, 2], 0), (1, [0, 1, 2, 12], 0), (2, [6], 0), (3, [0, 1, 2, 18], 0), (4, [6], 0), (5, [0, 1, 2, 7], 1), (6, [0, 1, 2, 7, 8], 1), (7, [0, 1, 2, 7, 8, 23], 1), (9, [0, 1, 2, 7, 8], 1), (8, [0, 1, 2, 7, 8], 1), (10, [0, 1, 2, 7, 35], 1), (11, [0, 1, 2, 7], 1), (12, [0, 1, 2, 7, 9, 10], 2), (13, [7, 9, 10, 66], 2), (14, [6], 0), (15, [6], 0), (1000007, [0, 1, 2, 7, 8], 1)]
def f6_bx : List Nat := []
def f6_d : List (Nat × Nat) := []
noncomputable def f17_b : Code := bodyOf Tryd.f17
def f17_r : List ResultVar := [.tmp 0]
def f17_h : List (Nat × List Nat × Nat) := [(0, [], 0), (1, [1, 2], 1), (2, [1, 2, 4], 1), (3, [1, 2, 4, 6], 1), (4, [1, 2, 4, 6, 8], 1), (5, [0], 0)]
def f17_bx : List Nat := []
def f17_d : List (Nat × Nat) := []
noncomputable def f18_b : Code := bodyOf Tryd.f18
def f18_r : List ResultVar := [.tmp 4]
def f18_h : List (Nat × List Nat × Nat) := [(0, [0, 1], 0), (1, [0, 1, 5], 0), (2, [0, 1, 5, 9], 0), (4, [0, 1, 5, 15], 0), (5, [6], 0), (6, [4], 0), (3, [0, 1, 5], 0), (7, [4], 0), (1000002, [0, 1, 5], 0)]
def f18_bx : List Nat := []
def f18_d : List (Nat × Nat) := []
noncomputable def f19_b : Code := bodyOf Tryd.f19
def f19_r : List ResultVar := [.cell 2 55, .tmp 3]
def f19_h : List (Nat × List Nat × Nat) := [(0, [0, 2], 1), (1, [0, 2, 16], 1), (2, [2, 3], 1), (3, [2, 4, 5, 6], 1), (4, [2, 5, 6, 7], 2), (5, [2, 5, 6, 7, 8], 2), (6, [2, 5, 6, 7, 8, 28], 2), (8, [2, 5, 6, 7, 8, 28, 31], 2), (9, [2, 7, 8], 2), (10, [2, 5, 6, 7, 8, 28, 33], 2), (11, [2, 5, 6, 7, 8, 28, 33], 2), (12, [2, 5, 6, 7, 8, 28, 33], 2), (13, [2, 5, 7], 2), (14, [2, 7, 8], 2), (15, [2, 5, 6, 7, 8, 28, 46], 2), (16, [2, 7, 8], 2), (17, [2, 5, 6, 7, 8, 28, 50], 2), (18, [2, 7, 8], 2), (19, [2, 5, 6, 7, 8, 28, 54], 2), (20, [2, 5, 6, 7, 8, 28, 54], 2), (21, [2, 5, 6, 7, 8, 28, 54], 2), (22, [2, 7, 8], 2), (23, [2, 5, 7, 8, 61], 2), (24, [2, 5, 7], 2), (25, [2, 7, 8], 2), (7, [2, 7, 8], 2), (26, [2, 7, 8, 69], 2), (27, [2, 3], 1), (28, [2, 3], 1), (3000033, [], 1000), (3000054, [], 1000)]
def f19_bx : List Nat := []
def f19_d : List (Nat × Nat) := []
noncomputable def f36_b : Code := bodyOf Tryd.f36
def f36_r : List ResultVar := [.tmp 2]
def f36_h : List (Nat × List Nat × Nat) := [(0, [0], 0), (1, [3], 0), (2, [3, 8, 9, 10], 0), (3, [3, 8, 9, 10, 11], 0), (4, [3, 4, 5, 8, 9, 10], 0), (5, [3, 4, 8, 9, 10, 21], 0), (6, [2], 0), (7, [3, 8, 9, 10], 0), (8, [2], 0), (1000003, [3, 8, 9, 10], 0)]
def f36_bx : List Nat := []
def f36_d : List (Nat × Nat) := []
noncomputable def f37_b : Code := bodyOf Tryd.f37
def f37_r : List ResultVar := [.tmp 2]
def f37_h : List (Nat × List Nat × Nat) := [(0, [0], 0), (1, [6, 7, 8], 0), (2, [6, 7, 8, 9], 0), (3, [4, 6, 7, 8], 0), (4, [6, 7, 8, 17], 0), (5, [2], 0), (6, [6, 7, 8], 0), (7, [2], 0), (1000002, [6, 7, 8], 0)]
def f37_bx : List Nat := []
def f37_d : List (Nat × Nat) := []
noncomputable def f38_b : Code := bodyOf Tryd.f38
def f38_r : List ResultVar := [.tmp 2]
def f38_h : List (Nat × List Nat × Nat) := [(0, [0], 0), (1, [3], 0), (2, [2], 0), (3, [2], 0)]
def f38_bx : List Nat := []
def f38_d : List (Nat × Nat) := []
noncomputable def f40_b : Code := bodyOf Tryd.f40
def f40_r : List ResultVar := [.tmp 2]
def f40_h : List (Nat × List Nat × Nat) := [(0, [0], 0), (1, [0, 18], 0), (2, [2], 0), (3, [2], 0)]
def f40_bx : List Nat := []
def f40_d : List (Nat × Nat) := []
noncomputable def f41_b : Code := bodyOf Tryd.f41
def f41_r : List ResultVar := [.tmp 8]
def f41_h : List (Nat × List Nat × Nat) := [(0, [0, 1, 2, 3], 1), (1, [0, 1, 2, 3, 25], 1), (2, [8], 1), (3, [0, 1, 3], 1), (4, [0, 1, 9, 10, 11], 2), (5, [0, 1, 9, 10, 38], 2), (6, [8], 1), (7, [0, 1, 10], 1), (8, [0, 1], 1), (9, [0, 1, 53], 1), (10, [8], 1), (11, [0, 1, 56], 1), (12, [8], 1), (13, [8], 1)]
def f41_bx : List Nat := []
def f41_d : List (Nat × Nat) := [(7, 1008)]
noncomputable def f61_b : Code := bodyOf Tryd.f61
def f61_r : List ResultVar := [.tmp 2]
def f61_h : List (Nat × List Nat × Nat) := [(0, [0], 0), (1, [3], 1), (2, [3, 8, 9, 10], 1), (3, [3, 8, 9, 10, 11], 1), (4, [3, 4, 5, 8, 9, 10], 1), (5, [3, 4, 5, 8, 9, 10, 20], 1), (6, [3, 8, 9, 10], 1), (7, [3, 8, 9, 10], 1), (8, [2], 0), (1000003, [3, 8, 9, 10], 1)]
def f61_bx : List Nat := [7]
def f61_d : List (Nat × Nat) := []
noncomputable def f62_b : Code := bodyOf Tryd.f62
def f62_r : List ResultVar := [.tmp 0]
def f62_h : List (Nat × List Nat × Nat) := [(0, [], 0), (1, [0], 0)]
def f62_bx : List Nat := []
def f62_d : List (Nat × Nat) := []
noncomputable def f66_b : Code := bodyOf Tryd.f66
def f66_r : List ResultVar := [.tmp 4]
def f66_h : List (Nat × List Nat × Nat) := [(0, [0, 1], 1), (1, [0, 1, 5], 2), (2, [0, 5, 13, 14, 15], 2), (3, [0, 5, 13, 14, 15, 16], 2), (4, [0, 5, 7, 13, 14, 15], 2), (5, [0, 5, 8, 9, 10, 13, 14, 15], 2), (6, [0, 5, 8, 9, 10, 13, 14, 15], 2), (7, [0, 5, 8, 9, 13, 14, 15, 43], 2), (8, [4], 1), (9, [0, 5, 8, 9, 13, 14, 15], 2), (10, [0, 5, 8, 9, 11, 13, 14, 15], 2), (11, [0, 5, 8, 9, 11, 13, 14, 15, 52], 2), (12, [0, 5, 11, 13, 14, 15], 2), (13, [0, 5, 11, 13, 14, 15, 58], 2), (14, [4], 1), (15, [0, 5, 13, 14, 15], 2), (16, [4], 1), (1000003, [0, 5, 13, 14, 15], 2)]
def f66_bx : List Nat := []
def f66_d : List (Nat × Nat) := []
noncomputable def f89_b : Code := bodyOf Tryd.f89
def f89_r : List ResultVar := [.tmp 2]
def f89_h : List (Nat × List Nat × Nat) := [(0, [0], 0), (1, [0, 6, 7, 8], 0), (2, [0, 6, 7, 8, 9], 0), (3, [0, 4, 6, 7, 8], 0), (4, [0, 6, 7, 8, 29], 0), (5, [2], 0), (6, [0, 6, 7, 8], 0), (7, [2], 0), (1000002, [0, 6, 7, 8], 0)]
def f89_bx : List Nat := []
def f89_d : List (Nat × Nat) := []
noncomputable def f90_b : Code := bodyOf Tryd.f90
def f90_r : List ResultVar := [.tmp 2]
def f90_h : List (Nat × List Nat × Nat) := [(0, [0], 0), (1, [2], 0)]
def f90_bx : List Nat := []
def f90_d : List (Nat × Nat) := []
noncomputable def f91_b : Code := bodyOf Tryd.f91
def f91_r : List ResultVar := [.tmp 6]
def f91_h : List (Nat × List Nat × Nat) := [(0, [0, 1, 2], 1), (1, [0, 2, 9], 1), (2, [0, 2, 9, 10], 1), (3, [0, 2, 7, 8], 1), (4, [0, 7, 27], 1), (5, [6], 1), (6, [], 1), (7, [6], 1), (8, [0, 2, 33], 1), (9, [0], 1), (10, [6], 1), (11, [6], 1)]
def f91_bx : List Nat := []
def f91_d : List (Nat × Nat) := []
noncomputable def AXF (f : FuncId) : Option FX :=
  bif Nat.beq f 5 then some ⟨⟨f5_b, f5_r, f5_h⟩, f5_d, 96, f5_bx⟩ else
  bif Nat.beq f 6 then some ⟨⟨f6_b, f6_r, f6_h⟩, f6_d, 88, f6_bx⟩ else
  bif Nat.beq f 17 then some ⟨⟨f17_b, f17_r, f17_h⟩, f17_d, 60, f17_bx⟩ else
  bif Nat.beq f 18 then some ⟨⟨f18_b, f18_r, f18_h⟩, f18_d, 26, f18_bx⟩ else
  bif Nat.beq f 19 then some ⟨⟨f19_b, f19_r, f19_h⟩, f19_d, 73, f19_bx⟩ else
  bif Nat.beq f 36 then some ⟨⟨f36_b, f36_r, f36_h⟩, f36_d, 24, f36_bx⟩ else
  bif Nat.beq f 37 then some ⟨⟨f37_b, f37_r, f37_h⟩, f37_d, 19, f37_bx⟩ else
  bif Nat.beq f 38 then some ⟨⟨f38_b, f38_r, f38_h⟩, f38_d, 4, f38_bx⟩ else
  bif Nat.beq f 40 then some ⟨⟨f40_b, f40_r, f40_h⟩, f40_d, 26, f40_bx⟩ else
  bif Nat.beq f 41 then some ⟨⟨f41_b, f41_r, f41_h⟩, f41_d, 62, f41_bx⟩ else
  bif Nat.beq f 61 then some ⟨⟨f61_b, f61_r, f61_h⟩, f61_d, 29, f61_bx⟩ else
  bif Nat.beq f 62 then some ⟨⟨f62_b, f62_r, f62_h⟩, f62_d, 2, f62_bx⟩ else
  bif Nat.beq f 66 then some ⟨⟨f66_b, f66_r, f66_h⟩, f66_d, 61, f66_bx⟩ else
  bif Nat.beq f 89 then some ⟨⟨f89_b, f89_r, f89_h⟩, f89_d, 33, f89_bx⟩ else
  bif Nat.beq f 90 then some ⟨⟨f90_b, f90_r, f90_h⟩, f90_d, 10, f90_bx⟩ else
  bif Nat.beq f 91 then some ⟨⟨f91_b, f91_r, f91_h⟩, f91_d, 49, f91_bx⟩ else
  none
noncomputable def f5_x (B : Code) (call : CallF) (n : Nat) (p : List Nat) : (Ex → St → Option RR) → St → Option RR := aexec (AXE.box f5_bx) call f5_h f5_d n (piece p B)
noncomputable def f6_x (B : Code) (call : CallF) (n : Nat) (p : List Nat) : (Ex → St → Option RR) → St → Option RR := aexec (AXE.box f6_bx) call f6_h f6_d n (piece p B)
noncomputable def f17_x (B : Code) (call : CallF) (n : Nat) (p : List Nat) : (Ex → St → Option RR) → St → Option RR := aexec (AXE.box f17_bx) call f17_h f17_d n (piece p B)
noncomputable def f18_x (B : Code) (call : CallF) (n : Nat) (p : List Nat) : (Ex → St → Option RR) → St → Option RR := aexec (AXE.box f18_bx) call f18_h f18_d n (piece p B)
noncomputable def f19_x (B : Code) (call : CallF) (n : Nat) (p : List Nat) : (Ex → St → Option RR) → St → Option RR := aexec (AXE.box f19_bx) call f19_h f19_d n (piece p B)
noncomputable def f36_x (B : Code) (call : CallF) (n : Nat) (p : List Nat) : (Ex → St → Option RR) → St → Option RR := aexec (AXE.box f36_bx) call f36_h f36_d n (piece p B)
noncomputable def f37_x (B : Code) (call : CallF) (n : Nat) (p : List Nat) : (Ex → St → Option RR) → St → Option RR := aexec (AXE.box f37_bx) call f37_h f37_d n (piece p B)
noncomputable def f38_x (B : Code) (call : CallF) (n : Nat) (p : List Nat) : (Ex → St → Option RR) → St → Option RR := aexec (AXE.box f38_bx) call f38_h f38_d n (piece p B)
noncomputable def f40_x (B : Code) (call : CallF) (n : Nat) (p : List Nat) : (Ex → St → Option RR) → St → Option RR := aexec (AXE.box f40_bx) call f40_h f40_d n (piece p B)
noncomputable def f41_x (B : Code) (call : CallF) (n : Nat) (p : List Nat) : (Ex → St → Option RR) → St → Option RR := aexec (AXE.box f41_bx) call f41_h f41_d n (piece p B)
noncomputable def f61_x (B : Code) (call : CallF) (n : Nat) (p : List Nat) : (Ex → St → Option RR) → St → Option RR := aexec (AXE.box f61_bx) call f61_h f61_d n (piece p B)
noncomputable def f62_x (B : Code) (call : CallF) (n : Nat) (p : List Nat) : (Ex → St → Option RR) → St → Option RR := aexec (AXE.box f62_bx) call f62_h f62_d n (piece p B)
noncomputable def f66_x (B : Code) (call : CallF) (n : Nat) (p : List Nat) : (Ex → St → Option RR) → St → Option RR := aexec (AXE.box f66_bx) call f66_h f66_d n (piece p B)
noncomputable def f89_x (B : Code) (call : CallF) (n : Nat) (p : List Nat) : (Ex → St → Option RR) → St → Option RR := aexec (AXE.box f89_bx) call f89_h f89_d n (piece p B)
noncomputable def f90_x (B : Code) (call : CallF) (n : Nat) (p : List Nat) : (Ex → St → Option RR) → St → Option RR := aexec (AXE.box f90_bx) call f90_h f90_d n (piece p B)
noncomputable def f91_x (B : Code) (call : CallF) (n : Nat) (p : List Nat) : (Ex → St → Option RR) → St → Option RR := aexec (AXE.box f91_bx) call f91_h f91_d n (piece p B)
end AX
end Go.Proofs.YtfbicbgdfcbhpaaDoor
