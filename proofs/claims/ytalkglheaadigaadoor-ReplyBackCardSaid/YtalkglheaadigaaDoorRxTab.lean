/-
  The functions of this seat, for the reckoning: tables. Printed.
-/
import Derived.Test.YtalkglheaadigaaDoorAX24
import Derived.Test.YtalkglheaadigaaDoorProg
import Derived.Test.YtalkglheaadigaaDoorRxPrim2
set_option maxRecDepth 20000
set_option linter.unusedVariables false
set_option linter.unusedSimpArgs false
set_option linter.unusedSectionVars false
namespace Go.Proofs.YtalkglheaadigaaDoor
namespace AX
def AXT0 : List (Nat × TI) := [(3, .int .i64), (4, .bool), (5, .int .u8), (9, .str), (22, .int .i64), (25, .slice 9 1), (27, .struct [.int .i64, .str, .slice 9 1] [(0, 1, 3), (1, 1, 9), (2, 1, 25)]), (34, .slice 5 1), (35, .tup [(.struct [.int .i64, .str, .slice 9 1] [(0, 1, 3), (1, 1, 9), (2, 1, 25)]), (.int .i64), (.int .i64)]), (38, .struct [.int .i64, .str, .slice 9 1, .int .i64, .int .i64] [(0, 3, 27), (3, 1, 3), (4, 1, 22)]), (40, .slice 27 3), (41, .tup [(.slice 27 3), (.int .i64)]), (45, .tup [(.slice 5 1), (.int .i64)]), (48, .tup [(.int .i64), (.int .i64), (.int .i64), .bool]), (51, .struct [.int .i64, .int .i64, .int .i64, .bool] [(0, 1, 3), (1, 1, 3), (2, 1, 3), (3, 1, 4)]), (53, .slice 3 1)]
noncomputable def AXE : Env := ⟨AXT0, primOf [(15, pGood), (17, pRead), (22, pFew), (23, pBytes), (24, pRBytes), (25, pEnh), (26, pREnh), (28, pRGood)], fun _ => none, []⟩
noncomputable def f4_b : Code := bodyOf Tryd.f4
def f4_r : List ResultVar := [.tmp 4]
def f4_h : List (Nat × List Nat × Nat) := [(0, [0, 1], 0), (1, [0, 1, 15], 0), (2, [4], 0), (3, [0, 1, 18], 0), (4, [4], 0), (5, [0, 1, 5, 6, 7], 1), (6, [0, 1, 5, 6, 7, 8], 2), (7, [0, 1, 46], 0), (8, [4], 0), (9, [0, 1, 9, 10], 0), (10, [9, 10, 11, 12], 0), (11, [9, 11, 69], 0), (12, [4], 0), (13, [9, 11, 13], 0), (14, [9, 11, 13, 73], 0), (16, [9, 11, 13, 85], 0), (17, [4], 0), (15, [9, 11, 13], 0), (18, [4], 0), (1000014, [9, 11, 13], 0)]
def f4_d : List (Nat × Nat) := [(16, 8)]
noncomputable def f5_b : Code := bodyOf Tryd.f5
def f5_r : List ResultVar := [.tmp 4]
def f5_h : List (Nat × List Nat × Nat) := [(0, [0, 1], 0), (1, [0, 1, 14], 0), (2, [4], 0), (3, [0, 1, 17], 0), (4, [4], 0), (5, [0, 1, 5], 0), (6, [0, 1, 5, 6], 0), (7, [0, 1, 5, 6, 7], 0), (8, [0, 1, 5, 6, 7, 21], 0), (10, [0, 1, 5, 6, 7, 29], 0), (11, [4], 0), (12, [0, 1, 5, 6, 7, 8, 9], 0), (13, [0, 1, 5, 6, 7, 8, 9, 45], 0), (14, [4], 0), (15, [0, 1, 5, 6, 7, 8, 57], 0), (16, [0, 1, 5, 6, 7], 0), (17, [0, 1, 5, 6, 7], 0), (9, [0, 1, 5, 6, 7], 0), (18, [6, 10, 11], 0), (19, [6, 10, 82], 0), (20, [4], 0), (21, [6, 10, 12], 0), (22, [6, 10, 12, 86], 0), (24, [6, 10, 12, 98], 0), (25, [4], 0), (23, [6, 10, 12], 0), (26, [4], 0), (1000022, [6, 10, 12], 0), (1000008, [0, 1, 5, 6, 7], 0)]
def f5_d : List (Nat × Nat) := [(24, 8)]
noncomputable def f6_b : Code := bodyOf Tryd.f6
def f6_r : List ResultVar := [.tmp 4]
def f6_h : List (Nat × List Nat × Nat) := [(0, [1, 2], 1), (1, [1, 2, 16], 1), (2, [4], 0), (3, [1, 2, 24], 1), (4, [4], 0), (5, [1, 2, 5, 6], 1), (6, [1, 2, 5, 6, 7, 8], 1), (7, [1, 2, 5, 6, 7, 8, 9, 10, 11, 12], 1), (8, [2, 5, 6, 7, 8, 9, 10, 11, 12, 13], 2), (9, [2, 5, 6, 7, 8, 9, 10, 11, 12, 13, 14], 2), (10, [4], 0)]
def f6_d : List (Nat × Nat) := [(10, 66)]
noncomputable def f16_b : Code := bodyOf Tryd.f16
def f16_r : List ResultVar := [.tmp 0]
def f16_h : List (Nat × List Nat × Nat) := [(0, [], 0), (1, [1, 2], 0), (2, [1, 2, 3, 4], 0), (3, [1, 2, 3, 4, 5, 6], 0), (4, [0], 0)]
def f16_d : List (Nat × Nat) := []
noncomputable def f18_b : Code := bodyOf Tryd.f18
def f18_r : List ResultVar := [.cell 6 38]
def f18_h : List (Nat × List Nat × Nat) := [(0, [0, 1, 2, 6], 1), (1, [0, 1, 2, 6, 7], 2), (2, [0, 1, 2, 6, 7, 8], 2), (3, [0, 1, 2, 6, 7, 8, 9], 2), (4, [0, 1, 2, 6, 7, 8, 9, 37], 2), (5, [0, 1, 2, 6, 7, 8, 9], 2), (6, [0, 1, 2, 6, 7, 8, 9, 44], 2), (7, [6], 1), (8, [0, 1, 2, 6, 7, 9, 10], 2), (9, [0, 1, 2, 6, 7, 8, 10], 2), (10, [0, 1, 2, 6, 7, 8, 10, 64], 2), (11, [6], 1), (12, [0, 1, 2, 6, 7, 8, 10, 11], 2), (13, [0, 1, 2, 6, 7, 8, 10, 11, 12], 2), (14, [0, 1, 2, 6, 7, 8, 10, 11, 12, 67], 2), (16, [0, 1, 2, 6, 7, 8, 10, 11, 12, 79], 2), (17, [6], 1), (18, [0, 1, 2, 6, 7, 8, 10, 11, 12], 2), (15, [0, 1, 2, 6, 7, 8, 10, 11, 12], 2), (19, [0, 1, 2, 6, 7, 8, 10, 11, 13], 2), (20, [0, 1, 2, 6, 7, 8, 10, 11, 13, 14], 2), (21, [0, 1, 2, 6, 7, 8, 10, 11, 13, 14, 91], 2), (22, [0, 1, 2, 6, 7, 8, 10, 11, 13, 15], 2), (23, [0, 1, 2, 6, 7, 8, 10, 11, 13, 15, 101], 2), (24, [0, 1, 2, 6, 7, 8, 10, 11, 13, 15], 2), (25, [0, 1, 2, 6, 7, 8, 10, 11, 13, 15, 115], 2), (26, [6], 1), (27, [0, 1, 2, 6, 7, 8, 10, 11, 13, 14, 15], 2), (28, [0, 1, 2, 6, 7, 8, 10, 11, 13, 14], 2), (29, [0, 1, 2, 6, 7, 8, 10, 11, 13, 14, 152], 2), (30, [6], 1), (31, [0, 1, 2, 6, 7, 8, 10, 13, 14], 2), (32, [0, 1, 2, 6, 7, 8, 10, 13], 2), (33, [0, 1, 2, 6, 7, 8, 10], 2), (34, [0, 1, 2, 6, 7, 8, 166], 2), (35, [6], 1), (1000023, [0, 1, 2, 6, 7, 8, 10, 11, 13, 15], 2), (1000014, [0, 1, 2, 6, 7, 8, 10, 11, 12], 2), (1000004, [0, 1, 2, 6, 7, 8, 9], 2), (1000003, [0, 1, 2, 6, 7, 8], 2)]
def f18_d : List (Nat × Nat) := []
noncomputable def f19_b : Code := bodyOf Tryd.f19
def f19_r : List ResultVar := [.tmp 4]
def f19_h : List (Nat × List Nat × Nat) := [(0, [2, 3], 2), (1, [2, 3, 26], 2), (2, [4], 0), (3, [2, 3, 5], 2), (4, [2, 3, 5, 31], 2), (6, [2, 3, 5, 44], 2), (7, [4], 0), (5, [2, 3, 5], 2), (8, [4], 0), (1000004, [2, 3, 5], 2)]
def f19_d : List (Nat × Nat) := [(6, 10)]
noncomputable def f20_b : Code := bodyOf Tryd.f20
def f20_r : List ResultVar := [.tmp 4, .tmp 5]
def f20_h : List (Nat × List Nat × Nat) := [(0, [0, 1], 0), (1, [0, 1, 6], 0), (2, [0, 1, 6, 12], 0), (3, [0, 1, 6, 7, 8, 9], 1), (4, [0, 1, 6, 7, 8, 9, 21], 1), (5, [4, 5], 0), (6, [0, 1, 6, 8], 0), (7, [0, 1, 6], 0), (8, [4, 5], 0), (1000002, [0, 1, 6], 0)]
def f20_d : List (Nat × Nat) := []
noncomputable def f21_b : Code := bodyOf Tryd.f21
def f21_r : List ResultVar := [.tmp 4, .tmp 5]
def f21_h : List (Nat × List Nat × Nat) := [(0, [0, 1], 0), (1, [0, 1, 6], 0), (2, [0, 1, 6, 7], 0), (3, [0, 1, 6, 7, 12], 0), (4, [0, 1, 6, 7, 8], 1), (5, [0, 1, 6, 7, 8, 19], 1), (6, [4, 5], 0), (7, [0, 1, 6, 7, 8], 1), (8, [0, 1, 6, 7], 0), (9, [4, 5], 0), (1000003, [0, 1, 6, 7], 0)]
def f21_d : List (Nat × Nat) := [(6, 3)]
noncomputable def f27_b : Code := bodyOf Tryd.f27
def f27_r : List ResultVar := [.tmp 2]
def f27_h : List (Nat × List Nat × Nat) := [(0, [0], 0), (1, [0, 3], 0), (2, [3, 6, 7, 8], 0), (3, [3, 6, 7, 8, 9], 0), (4, [3, 5, 6, 7, 8], 1), (5, [3, 6, 7, 8], 0), (6, [3, 6, 7, 8], 0), (7, [2], 0), (1000003, [3, 6, 7, 8], 0)]
def f27_d : List (Nat × Nat) := []
noncomputable def f29_b : Code := bodyOf Tryd.f29
def f29_r : List ResultVar := [.tmp 2]
def f29_h : List (Nat × List Nat × Nat) := [(0, [0], 0), (1, [2], 0)]
def f29_d : List (Nat × Nat) := []
noncomputable def f44_b : Code := bodyOf Tryd.f44
def f44_r : List ResultVar := [.tmp 4]
def f44_h : List (Nat × List Nat × Nat) := [(0, [0, 1], 0), (1, [1, 5], 1), (2, [4], 0)]
def f44_d : List (Nat × Nat) := []
noncomputable def f45_b : Code := bodyOf Tryd.f45
def f45_r : List ResultVar := [.tmp 2]
def f45_h : List (Nat × List Nat × Nat) := [(0, [0], 0), (1, [0, 3], 0), (2, [0, 3, 7], 0), (4, [0, 3, 19], 0), (5, [2], 0), (3, [0, 3], 0), (6, [2], 0), (1000002, [0, 3], 0)]
def f45_d : List (Nat × Nat) := []
noncomputable def AXF (f : FuncId) : Option FX :=
  bif Nat.beq f 4 then some ⟨⟨f4_b, f4_r, f4_h⟩, f4_d, 86⟩ else
  bif Nat.beq f 5 then some ⟨⟨f5_b, f5_r, f5_h⟩, f5_d, 99⟩ else
  bif Nat.beq f 6 then some ⟨⟨f6_b, f6_r, f6_h⟩, f6_d, 116⟩ else
  bif Nat.beq f 16 then some ⟨⟨f16_b, f16_r, f16_h⟩, f16_d, 64⟩ else
  bif Nat.beq f 18 then some ⟨⟨f18_b, f18_r, f18_h⟩, f18_d, 172⟩ else
  bif Nat.beq f 19 then some ⟨⟨f19_b, f19_r, f19_h⟩, f19_d, 45⟩ else
  bif Nat.beq f 20 then some ⟨⟨f20_b, f20_r, f20_h⟩, f20_d, 31⟩ else
  bif Nat.beq f 21 then some ⟨⟨f21_b, f21_r, f21_h⟩, f21_d, 32⟩ else
  bif Nat.beq f 27 then some ⟨⟨f27_b, f27_r, f27_h⟩, f27_d, 19⟩ else
  bif Nat.beq f 29 then some ⟨⟨f29_b, f29_r, f29_h⟩, f29_d, 9⟩ else
  bif Nat.beq f 44 then some ⟨⟨f44_b, f44_r, f44_h⟩, f44_d, 17⟩ else
  bif Nat.beq f 45 then some ⟨⟨f45_b, f45_r, f45_h⟩, f45_d, 23⟩ else
  none
noncomputable def f4_x (call : CallF) (n : Nat) (p : List Nat) : (Ex → St → Option RR) → St → Option RR := aexec AXE call f4_h f4_d n (sub f4_b p)
noncomputable def f5_x (call : CallF) (n : Nat) (p : List Nat) : (Ex → St → Option RR) → St → Option RR := aexec AXE call f5_h f5_d n (sub f5_b p)
noncomputable def f6_x (call : CallF) (n : Nat) (p : List Nat) : (Ex → St → Option RR) → St → Option RR := aexec AXE call f6_h f6_d n (sub f6_b p)
noncomputable def f16_x (call : CallF) (n : Nat) (p : List Nat) : (Ex → St → Option RR) → St → Option RR := aexec AXE call f16_h f16_d n (sub f16_b p)
noncomputable def f18_x (call : CallF) (n : Nat) (p : List Nat) : (Ex → St → Option RR) → St → Option RR := aexec AXE call f18_h f18_d n (sub f18_b p)
noncomputable def f19_x (call : CallF) (n : Nat) (p : List Nat) : (Ex → St → Option RR) → St → Option RR := aexec AXE call f19_h f19_d n (sub f19_b p)
noncomputable def f20_x (call : CallF) (n : Nat) (p : List Nat) : (Ex → St → Option RR) → St → Option RR := aexec AXE call f20_h f20_d n (sub f20_b p)
noncomputable def f21_x (call : CallF) (n : Nat) (p : List Nat) : (Ex → St → Option RR) → St → Option RR := aexec AXE call f21_h f21_d n (sub f21_b p)
noncomputable def f27_x (call : CallF) (n : Nat) (p : List Nat) : (Ex → St → Option RR) → St → Option RR := aexec AXE call f27_h f27_d n (sub f27_b p)
noncomputable def f29_x (call : CallF) (n : Nat) (p : List Nat) : (Ex → St → Option RR) → St → Option RR := aexec AXE call f29_h f29_d n (sub f29_b p)
noncomputable def f44_x (call : CallF) (n : Nat) (p : List Nat) : (Ex → St → Option RR) → St → Option RR := aexec AXE call f44_h f44_d n (sub f44_b p)
noncomputable def f45_x (call : CallF) (n : Nat) (p : List Nat) : (Ex → St → Option RR) → St → Option RR := aexec AXE call f45_h f45_d n (sub f45_b p)
end AX
end Go.Proofs.YtalkglheaadigaaDoor
