/-
  PqTab.
-/
import Derived.Test.YtnkppakkeobegaaGreatDoorZP10
import Derived.Test.YtnkppakkeobegaaGreatDoorProg
import Derived.Test.YtnkppakkeobegaaGreatDoorZP13
set_option maxRecDepth 20000
set_option linter.unusedVariables false
set_option linter.unusedSimpArgs false
set_option linter.unusedSectionVars false
namespace Go.Proofs.YtnkppakkeobegaaGreatDoor
namespace AX
structure S_api_Ask where
 fKind : Int
 fFrom_Local : List UInt8
 fFrom_Domain : List UInt8
 fRcpt_Local : List UInt8
 fRcpt_Domain : List UInt8
 fSize : Int
 fTo : List Cell
 fBody : List Cell
@[reducible] def S_api_Ask.cells (x : S_api_Ask) : List Cell := [.int .i64 x.fKind, .str x.fFrom_Local, .str x.fFrom_Domain, .str x.fRcpt_Local, .str x.fRcpt_Domain, .int .i64 x.fSize, .sl none 2 x.fTo, .sl none 1 x.fBody]
def takeS_api_Ask {R : Type} (l : List Cell) (k : S_api_Ask → List Cell → Option R) : Option R :=
 consK l fun c0 r0 => castI .i64 c0 fun v0 =>
 consK r0 fun c1 r1 => castS c1 fun v1 =>
 consK r1 fun c2 r2 => castS c2 fun v2 =>
 consK r2 fun c3 r3 => castS c3 fun v3 =>
 consK r3 fun c4 r4 => castS c4 fun v4 =>
 consK r4 fun c5 r5 => castI .i64 c5 fun v5 =>
 consK r5 fun c6 r6 => castL 2 c6 fun _ v6 =>
 consK r6 fun c7 r7 => castL 1 c7 fun _ v7 =>
 k (⟨v0, v1, v2, v3, v4, v5, v6, v7⟩ : S_api_Ask) r7
theorem takeS_api_Ask_cells_nil {R : Type} (x : S_api_Ask) (k : S_api_Ask → List Cell → Option R) : takeS_api_Ask x.cells k = k x [] := by
 cases x; rfl
structure S_api_Reply where
 fCode : Int
 fEnh : List UInt8
 fLines : List Cell
@[reducible] def S_api_Reply.cells (x : S_api_Reply) : List Cell := [.int .i64 x.fCode, .str x.fEnh, .sl none 1 x.fLines]
def takeS_api_Reply {R : Type} (l : List Cell) (k : S_api_Reply → List Cell → Option R) : Option R :=
 consK l fun c0 r0 => castI .i64 c0 fun v0 =>
 consK r0 fun c1 r1 => castS c1 fun v1 =>
 consK r1 fun c2 r2 => castL 1 c2 fun _ v2 =>
 k (⟨v0, v1, v2⟩ : S_api_Reply) r2
theorem takeS_api_Reply_cells_nil {R : Type} (x : S_api_Reply) (k : S_api_Reply → List Cell → Option R) : takeS_api_Reply x.cells k = k x [] := by
 cases x; rfl
structure S_addr_reader where
 fs : List UInt8
 fat : Int
 flarge : Bool
@[reducible] def S_addr_reader.cells (x : S_addr_reader) : List Cell := [.str x.fs, .int .i64 x.fat, .bool x.flarge]
def takeS_addr_reader {R : Type} (l : List Cell) (k : S_addr_reader → List Cell → Option R) : Option R :=
 consK l fun c0 r0 => castS c0 fun v0 =>
 consK r0 fun c1 r1 => castI .i64 c1 fun v1 =>
 consK r1 fun c2 r2 => castB c2 fun v2 =>
 k (⟨v0, v1, v2⟩ : S_addr_reader) r2
theorem takeS_addr_reader_cells_nil {R : Type} (x : S_addr_reader) (k : S_addr_reader → List Cell → Option R) : takeS_addr_reader x.cells k = k x [] := by
 cases x; rfl
theorem takeS_addr_reader_ok {R : Type} (cs : List Cell) (k : S_addr_reader → List Cell → Option R) (r : R) (h : takeS_addr_reader cs k = some r) : ∃ x a b, cs = a ++ b ∧ LikeL a (S_addr_reader.cells x) ∧ k x b = some r := by
 unfold takeS_addr_reader at h
 obtain ⟨c0, r0, e0, p0⟩ := consK_some h
 obtain ⟨v0, d0, q0⟩ := castS_some p0
 obtain ⟨c1, r1, e1, p1⟩ := consK_some q0
 obtain ⟨v1, d1, q1⟩ := castI_some p1
 obtain ⟨c2, r2, e2, p2⟩ := consK_some q1
 obtain ⟨v2, d2, q2⟩ := castB_some p2
 subst d0 d1 d2
 subst e2 e1 e0
 exact ⟨_, [_, _, _], _, rfl, .cons (.str _) (.cons (.int _ _) (.cons (.bool _) (.nil))), q2⟩
def SK_addr_reader : SKd := ⟨S_addr_reader, S_addr_reader.cells, takeS_addr_reader, takeS_addr_reader_ok⟩
structure S_api_Text where
 fBytes : List Cell
 fLong : Bool
 fBare : Bool
 fLarge : Bool
@[reducible] def S_api_Text.cells (x : S_api_Text) : List Cell := [.sl none 1 x.fBytes, .bool x.fLong, .bool x.fBare, .bool x.fLarge]
def takeS_api_Text {R : Type} (l : List Cell) (k : S_api_Text → List Cell → Option R) : Option R :=
 consK l fun c0 r0 => castL 1 c0 fun _ v0 =>
 consK r0 fun c1 r1 => castB c1 fun v1 =>
 consK r1 fun c2 r2 => castB c2 fun v2 =>
 consK r2 fun c3 r3 => castB c3 fun v3 =>
 k (⟨v0, v1, v2, v3⟩ : S_api_Text) r3
theorem takeS_api_Text_cells_nil {R : Type} (x : S_api_Text) (k : S_api_Text → List Cell → Option R) : takeS_api_Text x.cells k = k x [] := by
 cases x; rfl
theorem takeS_api_Text_ok {R : Type} (cs : List Cell) (k : S_api_Text → List Cell → Option R) (r : R) (h : takeS_api_Text cs k = some r) : ∃ x a b, cs = a ++ b ∧ LikeL a (S_api_Text.cells x) ∧ k x b = some r := by
 unfold takeS_api_Text at h
 obtain ⟨c0, r0, e0, p0⟩ := consK_some h
 obtain ⟨m0, s0, v0, d0, u0, q0⟩ := castL_some p0
 obtain ⟨c1, r1, e1, p1⟩ := consK_some q0
 obtain ⟨v1, d1, q1⟩ := castB_some p1
 obtain ⟨c2, r2, e2, p2⟩ := consK_some q1
 obtain ⟨v2, d2, q2⟩ := castB_some p2
 obtain ⟨c3, r3, e3, p3⟩ := consK_some q2
 obtain ⟨v3, d3, q3⟩ := castB_some p3
 subst d0 d1 d2 d3
 subst e3 e2 e1 e0
 exact ⟨_, [_, _, _, _], _, rfl, .cons (.sl _ _ _ _ u0) (.cons (.bool _) (.cons (.bool _) (.cons (.bool _) (.nil)))), q3⟩
def SK_api_Text : SKd := ⟨S_api_Text, S_api_Text.cells, takeS_api_Text, takeS_api_Text_ok⟩
structure S_proto_sender where
 faddr_Local : List UInt8
 faddr_Domain : List UInt8
 fsize : Int
@[reducible] def S_proto_sender.cells (x : S_proto_sender) : List Cell := [.str x.faddr_Local, .str x.faddr_Domain, .int .i64 x.fsize]
structure S_api_Cmd where
 fVerb : Int
 fArg : List UInt8
 fPath_Local : List UInt8
 fPath_Domain : List UInt8
 fNull : Bool
 fSize : Int
 fBody : Int
@[reducible] def S_api_Cmd.cells (x : S_api_Cmd) : List Cell := [.int .i64 x.fVerb, .str x.fArg, .str x.fPath_Local, .str x.fPath_Domain, .bool x.fNull, .int .i64 x.fSize, .int .i64 x.fBody]
def takeS_api_Cmd {R : Type} (l : List Cell) (k : S_api_Cmd → List Cell → Option R) : Option R :=
 consK l fun c0 r0 => castI .i64 c0 fun v0 =>
 consK r0 fun c1 r1 => castS c1 fun v1 =>
 consK r1 fun c2 r2 => castS c2 fun v2 =>
 consK r2 fun c3 r3 => castS c3 fun v3 =>
 consK r3 fun c4 r4 => castB c4 fun v4 =>
 consK r4 fun c5 r5 => castI .i64 c5 fun v5 =>
 consK r5 fun c6 r6 => castI .i64 c6 fun v6 =>
 k (⟨v0, v1, v2, v3, v4, v5, v6⟩ : S_api_Cmd) r6
theorem takeS_api_Cmd_cells_nil {R : Type} (x : S_api_Cmd) (k : S_api_Cmd → List Cell → Option R) : takeS_api_Cmd x.cells k = k x [] := by
 cases x; rfl
theorem takeS_api_Cmd_ok {R : Type} (cs : List Cell) (k : S_api_Cmd → List Cell → Option R) (r : R) (h : takeS_api_Cmd cs k = some r) : ∃ x a b, cs = a ++ b ∧ LikeL a (S_api_Cmd.cells x) ∧ k x b = some r := by
 unfold takeS_api_Cmd at h
 obtain ⟨c0, r0, e0, p0⟩ := consK_some h
 obtain ⟨v0, d0, q0⟩ := castI_some p0
 obtain ⟨c1, r1, e1, p1⟩ := consK_some q0
 obtain ⟨v1, d1, q1⟩ := castS_some p1
 obtain ⟨c2, r2, e2, p2⟩ := consK_some q1
 obtain ⟨v2, d2, q2⟩ := castS_some p2
 obtain ⟨c3, r3, e3, p3⟩ := consK_some q2
 obtain ⟨v3, d3, q3⟩ := castS_some p3
 obtain ⟨c4, r4, e4, p4⟩ := consK_some q3
 obtain ⟨v4, d4, q4⟩ := castB_some p4
 obtain ⟨c5, r5, e5, p5⟩ := consK_some q4
 obtain ⟨v5, d5, q5⟩ := castI_some p5
 obtain ⟨c6, r6, e6, p6⟩ := consK_some q5
 obtain ⟨v6, d6, q6⟩ := castI_some p6
 subst d0 d1 d2 d3 d4 d5 d6
 subst e6 e5 e4 e3 e2 e1 e0
 exact ⟨_, [_, _, _, _, _, _, _], _, rfl, .cons (.int _ _) (.cons (.str _) (.cons (.str _) (.cons (.str _) (.cons (.bool _) (.cons (.int _ _) (.cons (.int _ _) (.nil))))))), q6⟩
def SK_api_Cmd : SKd := ⟨S_api_Cmd, S_api_Cmd.cells, takeS_api_Cmd, takeS_api_Cmd_ok⟩
structure S_dot_Decoder where
 fmost : Int
 fstate : Int
 fline : Int
 ftext : S_api_Text
@[reducible] def S_dot_Decoder.cells (x : S_dot_Decoder) : List Cell := [.int .i64 x.fmost, .int .i64 x.fstate, .int .i64 x.fline, .sl none 1 x.ftext.fBytes, .bool x.ftext.fLong, .bool x.ftext.fBare, .bool x.ftext.fLarge]
def AXT0 : List (Nat × TI) := [(0, .tup []), (3, .int .i64), (4, .bool), (5, .int .u8), (9, .str), (23, .ptr), (26, .slice 5 1), (28, .struct [.str, .str] [(0, 1, 9), (1, 1, 9)]), (29, .slice 28 2), (31, .struct [.int .i64, .str, .str, .str, .str, .int .i64, .slice 28 2, .slice 5 1] [(0, 1, 3), (1, 2, 28), (3, 2, 28), (5, 1, 3), (6, 1, 29), (7, 1, 26)]), (32, .tup [(.slice 5 1), (.struct [.int .i64, .str, .str, .str, .str, .int .i64, .slice 28 2, .slice 5 1] [(0, 1, 3), (1, 2, 28), (3, 2, 28), (5, 1, 3), (6, 1, 29), (7, 1, 26)])]), (35, .tup [(.slice 5 1), .bool]), (37, .slice 9 1), (39, .struct [.int .i64, .str, .slice 9 1] [(0, 1, 3), (1, 1, 9), (2, 1, 37)]), (40, .slice 39 3), (42, .slice 3 1), (43, .tup [.str, .str]), (46, .int .i64), (67, .ptr), (68, .ptr), (70, .struct [.bool, .str, .slice 5 1, .bool, .ptr, .slice 28 2, .ptr, .int .i64, .str, .str, .str, .str, .int .i64, .slice 28 2, .slice 5 1, .int .i64, .bool] [(0, 1, 4), (1, 1, 9), (2, 1, 26), (3, 1, 4), (4, 1, 67), (5, 1, 29), (6, 1, 68), (7, 8, 31), (15, 1, 3), (16, 1, 4)]), (71, .tup [(.slice 39 3), .bool]), (76, .fn), (85, .ptr), (87, .struct [.str, .int .i64, .bool] [(0, 1, 9), (1, 1, 3), (2, 1, 4)]), (88, .tup [.str, .bool]), (93, .tup [(.slice 5 1), (.int .i64)]), (102, .tup [(.int .i64), .bool]), (105, .struct [.slice 5 1, .bool, .bool, .bool] [(0, 1, 26), (1, 1, 4), (2, 1, 4), (3, 1, 4)]), (108, .struct [.str, .str, .int .i64] [(0, 2, 28), (2, 1, 3)]), (115, .struct [.int .i64, .str, .str, .str, .bool, .int .i64, .int .i64] [(0, 1, 3), (1, 1, 9), (2, 2, 28), (4, 1, 4), (5, 1, 3), (6, 1, 3)]), (116, .tup [(.struct [.int .i64, .str, .str, .str, .bool, .int .i64, .int .i64] [(0, 1, 3), (1, 1, 9), (2, 2, 28), (4, 1, 4), (5, 1, 3), (6, 1, 3)]), (.int .i64)]), (126, .err), (136, .fn), (146, .struct [.int .i64, .int .i64, .int .i64, .slice 5 1, .bool, .bool, .bool] [(0, 1, 3), (1, 1, 3), (2, 1, 3), (3, 4, 105)]), (153, .tup [.str, .str, .bool]), (158, .ptr), (172, .int .u64), (178, .tup [(.struct [.str, .str] [(0, 1, 9), (1, 1, 9)]), (.int .i64), (.int .i64)]), (190, .tup [(.struct [.str, .str] [(0, 1, 9), (1, 1, 9)]), .bool]), (192, .tup [(.struct [.str, .str] [(0, 1, 9), (1, 1, 9)]), (.int .i64)]), (194, .map 9 3), (215, .tup [(.int .u64), .err])]
noncomputable def AXE : Env := ⟨AXT0, [], [], primOf [(33, pGood), (47, pBIndex), (50, pBytes), (51, pSClone), (52, pBClone), (68, pRepeat), (102, pCut), (112, pSplit), (128, pContains), (144, pHasPrefix), (178, pParseU), (193, pIndexByte)], primHOf [(195, pQuoted)], primSOf [], [38, 48, 75, 76, 77, 78, 79, 107], refOf [], [28], [3, 4, 5, 6, 7, 8, 9, 10, 11, 12, 13, 14, 18, 24, 27, 30, 34, 46, 48, 66, 67, 75, 76, 77, 78, 79, 96, 97, 108, 121, 122], [], [], primGOf [(30, pMany)]⟩
noncomputable def f4_b : Code := bodyOf Tryz.f4
def f4_r : List ResultVar := [.tmp 8]
def f4_h : List (Nat × List Nat × Nat) := [(0, [0, 1, 2, 3], 0), (1, [0, 1, 2, 3, 17], 0), (2, [8], 0), (3, [0, 1, 2, 3, 25], 0), (4, [8], 0), (5, [1, 2, 3, 9, 10], 0), (6, [1, 2, 3, 9, 10, 35], 0), (7, [8], 0), (8, [1, 2, 3, 9, 10, 11], 0), (9, [1, 2, 9, 10, 11, 36], 0), (10, [1, 2, 9, 10, 11], 0), (11, [1, 2, 9, 10, 11, 12, 13], 0), (12, [9, 10, 12, 13, 14, 15], 0), (13, [8], 0), (2000011, [1, 2, 9, 10, 11], 0), (2000006, [1, 2, 3, 9, 10], 0), (2000004, [0, 1, 2, 3, 25], 0)]
def f4_bx : List Nat := []
def f4_s : List (Nat × SS) := [(2000004, ⟨[(0, .one (.bool)), (1, .one (.sl 1)), (2, .one (.sl 1)), (3, .one (.bool)), (25, .one (.bool))], [], true, []⟩), (2000006, ⟨[(1, .one (.sl 1)), (2, .one (.sl 1)), (3, .one (.bool)), (9, .one (.raw)), (10, .one (.raw))], [], true, [9, 10]⟩), (2000011, ⟨[(1, .one (.sl 1)), (2, .one (.sl 1)), (9, .one (.gpo)), (10, .one (.gpo)), (11, .one (.int .i64))], [], true, []⟩)]
def f4_d : List (Nat × Nat) := []
noncomputable def f7_b : Code := bodyOf Tryz.f7
def f7_r : List ResultVar := [.tmp 0]
def f7_h : List (Nat × List Nat × Nat) := [(0, [], 0), (1, [1], 0), (2, [1, 20], 0), (3, [0], 0), (4, [1], 0), (5, [1, 2, 3], 1), (6, [1, 2, 3, 4, 5], 1), (7, [1, 2, 3, 4, 5], 1), (8, [1, 2, 3, 4, 5, 6, 7], 2), (9, [0], 0), (2000004, [1], 0), (2000003, [1, 20], 0), (2000002, [1], 0)]
def f7_bx : List Nat := []
def f7_s : List (Nat × SS) := [(2000002, ⟨[(1, .one (.raw))], [], true, [1]⟩), (2000003, ⟨[(1, .one (.raw)), (20, .one (.bool))], [], true, [1]⟩), (2000004, ⟨[(1, .one (.raw))], [], true, [1]⟩)]
def f7_d : List (Nat × Nat) := []
noncomputable def f8_b : Code := bodyOf Tryz.f8
def f8_r : List ResultVar := [.tmp 4]
def f8_h : List (Nat × List Nat × Nat) := [(0, [0, 1], 0), (1, [0, 1, 7], 0), (2, [4], 0), (3, [4], 0)]
def f8_bx : List Nat := []
def f8_s : List (Nat × SS) := []
def f8_d : List (Nat × Nat) := []
noncomputable def f13_b : Code := bodyOf Tryz.f13
def f13_r : List ResultVar := [.tmp 8, .tmp 9]
def f13_h : List (Nat × List Nat × Nat) := [(0, [0, 1, 2, 3], 0), (1, [0, 1, 2, 3, 10, 11], 0), (2, [0, 1, 2, 3, 10, 11, 12], 0), (3, [0, 1, 2, 3, 10, 11, 12, 13], 0), (4, [0, 1, 2, 3, 10, 11, 12, 13, 23], 0), (6, [0, 1, 2, 3, 10, 11, 12, 13, 14], 0), (7, [0, 1, 2, 3, 10, 11, 12, 13, 14, 31], 0), (8, [0, 1, 2, 3, 10, 11, 12, 13, 14], 0), (9, [0, 1, 2, 3, 10, 11, 13, 14], 0), (10, [0, 1, 2, 3, 10, 11, 12, 13], 0), (11, [0, 1, 2, 3, 10, 11, 12, 13, 15, 16], 1), (12, [0, 1, 2, 3, 10, 11, 12, 13, 16], 1), (13, [0, 1, 2, 3, 10, 11, 12, 13, 16, 59], 1), (14, [0, 1, 2, 3, 10, 11, 12, 13], 0), (15, [0, 1, 2, 3, 10, 11, 12, 13, 17], 0), (16, [0, 1, 2, 3, 10, 11, 12, 13, 17, 18], 0), (17, [0, 1, 2, 3, 10, 11, 12, 13, 17, 18, 79], 0), (19, [0, 1, 2, 3, 10, 11, 12, 13, 17, 18], 0), (18, [0, 1, 2, 3, 10, 11, 12, 13, 17, 18], 0), (20, [0, 1, 2, 3, 10, 11, 12, 13, 15, 19], 0), (21, [0, 1, 2, 3, 10, 11, 12, 13, 15, 95], 0), (22, [8, 9], 0), (23, [0, 1, 2, 3, 10, 11, 12, 13], 0), (5, [0, 1, 2, 3, 10, 11, 12, 13], 0), (24, [8, 9], 0), (1000017, [0, 1, 2, 3, 10, 11, 12, 13, 17, 18], 0), (1000011, [0, 1, 2, 3, 10, 11, 12, 13], 0), (1000004, [0, 1, 2, 3, 10, 11, 12, 13], 0), (2000009, [0, 1, 2, 3, 10, 11, 12, 13, 14], 0)]
def f13_bx : List Nat := []
def f13_s : List (Nat × SS) := [(1000004, ⟨[(0, .one (.gptr 0)), (1, .one (.sl 1)), (2, .one (.sl 1)), (3, .one (.int .i64)), (10, .one (.str)), (11, .one (.str)), (12, .one (.int .i64)), (13, .one (.int .i64))], [], true, []⟩), (1000011, ⟨[(0, .one (.gptr 0)), (1, .one (.sl 1)), (2, .one (.sl 1)), (3, .one (.int .i64)), (10, .one (.str)), (11, .one (.str)), (12, .one (.int .i64)), (13, .one (.int .i64))], [], true, []⟩), (1000017, ⟨[(0, .one (.gptr 0)), (1, .one (.sl 1)), (2, .one (.sl 1)), (3, .one (.int .i64)), (10, .one (.str)), (11, .one (.str)), (12, .one (.int .i64)), (13, .one (.int .i64)), (17, .one (.nm 3 17 0 39)), (18, .one (.int .i64))], [], true, []⟩), (2000009, ⟨[(0, .one (.gptr 0)), (1, .one (.sl 1)), (2, .one (.sl 1)), (3, .one (.int .i64)), (10, .one (.str)), (11, .one (.str)), (12, .one (.int .i64)), (13, .one (.int .i64)), (14, .one (.int .i64))], [], true, []⟩)]
def f13_d : List (Nat × Nat) := []
noncomputable def f14_b : Code := bodyOf Tryz.f14
def f14_r : List ResultVar := [.tmp 2]
def f14_h : List (Nat × List Nat × Nat) := [(0, [0], 0), (1, [2], 0)]
def f14_bx : List Nat := []
def f14_s : List (Nat × SS) := []
def f14_d : List (Nat × Nat) := []
noncomputable def f9_b : Code := bodyOf Tryz.f9
def f9_r : List ResultVar := []
def f9_h : List (Nat × List Nat × Nat) := [(0, [], 0)]
def f9_bx : List Nat := []
def f9_s : List (Nat × SS) := []
def f9_d : List (Nat × Nat) := []
noncomputable def f10_b : Code := bodyOf Tryz.f10
def f10_r : List ResultVar := [.tmp 2, .cell 3 31]
def f10_h : List (Nat × List Nat × Nat) := [(0, [0, 3], 1), (1, [0, 3, 4], 1), (2, [0, 3, 4, 19], 1), (3, [0, 3, 4, 5, 6], 1), (4, [0, 3, 4, 5, 26], 1), (5, [0, 3, 4], 1), (6, [2, 3], 1), (1000002, [0, 3, 4], 1), (2000006, [0, 3, 4], 1)]
def f10_bx : List Nat := []
def f10_s : List (Nat × SS) := [(1000002, ⟨[(0, .one (.gptr 0)), (3, .one (.ptr 0 0)), (4, .one (.nm 1 4 0 5))], [.cells [.int .i64, .str, .str, .str, .str, .int .i64, .nm 2 1000000 6 28, .nm 1 1000000 7 5]], true, []⟩), (2000006, ⟨[(0, .one (.gptr 0)), (3, .one (.ptr 0 0)), (4, .one (.nm 1 4 0 5))], [.cells [.int .i64, .str, .str, .str, .str, .int .i64, .nm 2 1000000 6 28, .nm 1 1000000 7 5]], true, []⟩)]
def f10_d : List (Nat × Nat) := []
noncomputable def f11_b : Code := bodyOf Tryz.f11
def f11_r : List ResultVar := [.tmp 2]
def f11_h : List (Nat × List Nat × Nat) := [(0, [0], 0), (1, [0, 7], 0), (2, [0, 7, 8], 0), (3, [2], 0), (4, [0, 10], 0), (5, [2], 0), (6, [2], 0)]
def f11_bx : List Nat := []
def f11_s : List (Nat × SS) := []
def f11_d : List (Nat × Nat) := []
noncomputable def f12_b : Code := bodyOf Tryz.f12
def f12_r : List ResultVar := [.tmp 4, .tmp 5]
def f12_h : List (Nat × List Nat × Nat) := [(0, [0, 1], 0), (1, [0, 1, 22], 0), (2, [4, 5], 0), (3, [0, 1, 28], 0), (4, [0, 1], 0), (5, [0, 1, 35], 0), (6, [0, 1], 0), (7, [1], 0), (8, [4, 5], 0), (2000007, [0, 1], 0), (2000002, [0, 1, 22], 0)]
def f12_bx : List Nat := []
def f12_s : List (Nat × SS) := [(2000002, ⟨[(0, .one (.gptr 0)), (1, .one (.sl 3)), (22, .one (.bool))], [], true, []⟩), (2000007, ⟨[(0, .one (.gptr 0)), (1, .one (.sl 3))], [], true, []⟩)]
def f12_d : List (Nat × Nat) := [(6, 174743411449320970862775622170643251017950816379730919424)]
noncomputable def f18_b : Code := bodyOf Tryz.f18
def f18_r : List ResultVar := [.tmp 2]
def f18_h : List (Nat × List Nat × Nat) := [(0, [0], 0), (1, [0, 3], 0), (2, [0, 3, 7], 0), (3, [0, 3], 0), (4, [2], 0), (2000004, [0, 3], 0)]
def f18_bx : List Nat := []
def f18_s : List (Nat × SS) := [(2000004, ⟨[(0, .one (.gptr 0)), (3, .one (.str))], [], true, []⟩)]
def f18_d : List (Nat × Nat) := []
noncomputable def f26_b : Code := bodyOf Tryz.f26
def f26_r : List ResultVar := [.tmp 2]
def f26_h : List (Nat × List Nat × Nat) := [(0, [0], 0), (1, [0, 3], 1), (2, [0, 3, 5], 1), (3, [2], 0)]
def f26_bx : List Nat := []
def f26_s : List (Nat × SS) := []
def f26_d : List (Nat × Nat) := []
noncomputable def f27_b : Code := bodyOf Tryz.f27
def f27_r : List ResultVar := [.tmp 2, .tmp 3]
def f27_h : List (Nat × List Nat × Nat) := [(0, [0], 0), (1, [0, 11], 0), (2, [2, 3], 0), (3, [0, 4], 0), (4, [0, 4, 24], 0), (5, [2, 3], 0), (6, [0, 4, 5], 0), (7, [0, 5], 0), (8, [0, 6], 0), (9, [0, 6, 54], 0), (10, [0, 6], 0), (11, [0, 6, 66], 0), (12, [6], 0), (13, [6], 0), (14, [2, 3], 0), (2000014, [6], 0), (2000010, [0, 6, 54], 0), (2000002, [0, 11], 0)]
def f27_bx : List Nat := []
def f27_s : List (Nat × SS) := [(2000002, ⟨[(0, .one (.gptr 0)), (11, .one (.bool))], [], true, []⟩), (2000010, ⟨[(0, .one (.gptr 0)), (6, .one (.nm 3 6 0 39)), (54, .one (.bool))], [], true, []⟩), (2000014, ⟨[(6, .one (.nm 3 6 0 39))], [], true, []⟩)]
def f27_d : List (Nat × Nat) := []
noncomputable def f28_b : Code := bodyOf Tryz.f28
def f28_r : List ResultVar := [.tmp 2]
def f28_h : List (Nat × List Nat × Nat) := [(0, [0], 0), (1, [0, 3], 0), (2, [3, 8, 9, 10], 0), (3, [3, 8, 9, 10, 11], 0), (4, [3, 5, 8, 9, 10], 1), (5, [3, 6, 8, 9, 10], 0), (6, [3, 8, 9, 10], 0), (7, [3, 8, 9, 10], 0), (8, [2], 0), (1000003, [3, 8, 9, 10], 0)]
def f28_bx : List Nat := []
def f28_s : List (Nat × SS) := [(1000003, ⟨[(3, .one (.nm 1 3 0 5)), (8, .one (.sl 3)), (9, .one (.int .i64)), (10, .one (.int .i64))], [], false, []⟩)]
def f28_d : List (Nat × Nat) := []
noncomputable def f29_b : Code := bodyOf Tryz.f29
def f29_r : List ResultVar := [.cell 2 31]
def f29_h : List (Nat × List Nat × Nat) := [(0, [1, 2], 2), (1, [1, 2], 2), (2, [2], 2)]
def f29_bx : List Nat := []
def f29_s : List (Nat × SS) := []
def f29_d : List (Nat × Nat) := [(1, 7)]
noncomputable def f31_b : Code := bodyOf Tryz.f31
def f31_r : List ResultVar := [.tmp 4]
def f31_h : List (Nat × List Nat × Nat) := [(0, [0, 1], 0), (1, [4], 0)]
def f31_bx : List Nat := []
def f31_s : List (Nat × SS) := []
def f31_d : List (Nat × Nat) := []
noncomputable def f34_b : Code := bodyOf Tryz.f34
def f34_r : List ResultVar := []
def f34_h : List (Nat × List Nat × Nat) := [(0, [], 0)]
def f34_bx : List Nat := []
def f34_s : List (Nat × SS) := []
def f34_d : List (Nat × Nat) := []
noncomputable def f38_b : Code := bodyOf Tryz.f38
def f38_r : List ResultVar := [.cell 6 39]
def f38_h : List (Nat × List Nat × Nat) := [(0, [0, 1, 2, 6], 1), (1, [6], 1)]
def f38_bx : List Nat := []
def f38_s : List (Nat × SS) := []
def f38_d : List (Nat × Nat) := []
noncomputable def f45_b : Code := bodyOf Tryz.f45
def f45_r : List ResultVar := [.tmp 2, .tmp 3]
def f45_h : List (Nat × List Nat × Nat) := [(0, [0], 1), (1, [0, 4], 1), (2, [0, 4, 11], 1), (3, [2, 3], 1), (4, [0, 4, 14], 1), (5, [0, 4], 1), (6, [0, 4, 24], 1), (7, [2, 3], 1), (8, [0, 4], 1), (9, [2, 3], 1), (1000004, [0, 4], 1), (2000009, [0, 4], 1)]
def f45_bx : List Nat := []
def f45_s : List (Nat × SS) := [(1000004, ⟨[(0, .one (.ptr 0 0)), (4, .one (.int .i64))], [.sk SK_addr_reader], false, []⟩), (2000009, ⟨[(0, .one (.ptr 0 0)), (4, .one (.int .i64))], [.sk SK_addr_reader], false, []⟩)]
def f45_d : List (Nat × Nat) := [(9, 9)]
noncomputable def f46_b : Code := bodyOf Tryz.f46
def f46_r : List ResultVar := [.tmp 2, .tmp 3]
def f46_h : List (Nat × List Nat × Nat) := [(0, [0], 0), (1, [0, 4, 5], 0), (2, [0, 5], 0), (3, [0, 31], 0), (4, [2, 3], 0), (5, [0, 6], 1), (6, [0, 6], 1), (7, [0, 6, 7], 2), (10, [0, 6, 7, 64], 2), (11, [0, 7], 2), (12, [0, 6, 7, 68], 2), (13, [0, 7], 2), (14, [0, 6, 7, 72], 2), (15, [0, 7], 2), (8, [], 0), (9, [2, 3], 0), (16, [0, 8], 0), (17, [8], 0), (18, [2, 3], 0), (2000016, [0, 7], 2), (2000006, [0, 6], 1), (2000002, [0, 4, 5], 0)]
def f46_bx : List Nat := []
def f46_s : List (Nat × SS) := [(2000002, ⟨[(0, .one (.gptr 0)), (4, .one (.int .i64)), (5, .one (.bool))], [], true, []⟩), (2000006, ⟨[(0, .one (.gptr 0)), (6, .one (.ptr 0 0))], [.sk SK_api_Text], true, []⟩), (2000016, ⟨[(0, .one (.gptr 0)), (7, .one (.ptr 1 0))], [.sk SK_api_Text, .cells [.int .i64, .str, .nm 1 1000001 2 9]], true, []⟩)]
def f46_d : List (Nat × Nat) := [(1, 38919790565023179337956519240720375033294798719025152), (8, 22), (16, 4)]
noncomputable def f48_b : Code := bodyOf Tryz.f48
def f48_r : List ResultVar := [.tmp 4]
def f48_h : List (Nat × List Nat × Nat) := [(0, [0, 1], 0), (1, [0, 5, 6], 1), (2, [0, 5, 6, 12], 1), (3, [0, 5, 6, 12], 1), (4, [0, 5, 6, 12], 1), (5, [4], 0), (6, [0, 5, 6, 41], 1), (7, [4], 0), (8, [0, 5, 46], 1), (9, [4], 0), (10, [0, 5, 52], 1), (11, [0, 5, 52, 53], 1), (12, [0, 5, 52, 53], 1), (13, [0, 5, 52, 53], 1), (14, [4], 0), (15, [0, 5, 52, 61], 1), (16, [4], 0), (17, [0, 5, 52, 66], 1), (18, [4], 0), (19, [0, 5, 71], 1), (20, [4], 0), (21, [4], 0), (2000014, [0, 5, 52, 53], 1), (2000005, [0, 5, 6, 12], 1), (3000012, [], 1000), (3000053, [], 1000)]
def f48_bx : List Nat := []
def f48_s : List (Nat × SS) := [(2000005, ⟨[(0, .one (.gptr 0)), (5, .one (.ptr 0 0)), (6, .one (.int .i64)), (12, .one (.bool))], [.sk SK_api_Cmd], true, []⟩), (2000014, ⟨[(0, .one (.gptr 0)), (5, .one (.ptr 0 0)), (52, .one (.int .i64)), (53, .one (.bool))], [.sk SK_api_Cmd], true, []⟩)]
def f48_d : List (Nat × Nat) := []
noncomputable def f49_b : Code := bodyOf Tryz.f49
def f49_r : List ResultVar := [.tmp 2]
def f49_h : List (Nat × List Nat × Nat) := [(0, [0], 0), (1, [2], 0)]
def f49_bx : List Nat := []
def f49_s : List (Nat × SS) := []
def f49_d : List (Nat × Nat) := []
noncomputable def f53_b : Code := bodyOf Tryz.f53
def f53_r : List ResultVar := [.tmp 4]
def f53_h : List (Nat × List Nat × Nat) := [(0, [0, 1], 0), (1, [0, 1, 7, 8], 0), (2, [0, 1, 7, 8, 9], 0), (3, [0, 1, 5, 7, 8], 0), (4, [0, 1, 5, 7, 8, 16], 0), (5, [4], 0), (6, [0, 1, 7, 8], 0), (7, [4], 0), (1000002, [0, 1, 7, 8], 0)]
def f53_bx : List Nat := []
def f53_s : List (Nat × SS) := [(331000002, ⟨[(0, .one (.sl 3)), (1, .one (.clo0 32)), (7, .one (.int .i64)), (8, .one (.int .i64))], [], false, []⟩)]
def f53_d : List (Nat × Nat) := []
noncomputable def f64_b : Code := bodyOf Tryz.f64
def f64_r : List ResultVar := [.tmp 2]
def f64_h : List (Nat × List Nat × Nat) := [(0, [0], 1), (1, [3], 1), (2, [2], 1)]
def f64_bx : List Nat := []
def f64_s : List (Nat × SS) := []
def f64_d : List (Nat × Nat) := []
noncomputable def f65_b : Code := bodyOf Tryz.f65
def f65_r : List ResultVar := [.tmp 2]
def f65_h : List (Nat × List Nat × Nat) := [(0, [0], 1), (1, [0, 12], 1), (2, [2], 1), (3, [2], 1)]
def f65_bx : List Nat := []
def f65_s : List (Nat × SS) := []
def f65_d : List (Nat × Nat) := [(1, 9), (3, 8)]
noncomputable def f66_b : Code := bodyOf Tryz.f66
def f66_r : List ResultVar := [.tmp 4, .tmp 5]
def f66_h : List (Nat × List Nat × Nat) := [(0, [0, 1, 4], 0), (1, [0, 1, 4, 16], 0), (2, [0, 1, 4], 0), (3, [0, 1, 4], 0), (4, [4, 5], 0), (1000001, [0, 1, 4], 0), (2000004, [0, 4], 0)]
def f66_bx : List Nat := []
def f66_s : List (Nat × SS) := [(1000001, ⟨[(0, .one (.gptr 0)), (1, .one (.sl 1)), (4, .one (.int .i64))], [], true, []⟩), (2000004, ⟨[(0, .one (.gptr 0)), (4, .one (.int .i64))], [], true, []⟩)]
def f66_d : List (Nat × Nat) := []
noncomputable def f67_b : Code := bodyOf Tryz.f67
def f67_r : List ResultVar := [.cell 2 105]
def f67_h : List (Nat × List Nat × Nat) := [(0, [0, 2], 1), (1, [2, 3], 2), (2, [2, 3], 2), (3, [2], 1)]
def f67_bx : List Nat := []
def f67_s : List (Nat × SS) := []
def f67_d : List (Nat × Nat) := []
noncomputable def f74_b : Code := bodyOf Tryz.f74
def f74_r : List ResultVar := [.cell 2 115, .tmp 3]
def f74_h : List (Nat × List Nat × Nat) := [(0, [0, 2], 1), (1, [0, 2, 16], 1), (2, [2, 3], 1), (3, [2, 4, 5, 6], 1), (4, [2, 5, 6, 7], 2), (5, [2, 5, 6, 7, 8], 2), (6, [2, 5, 6, 7, 8, 28], 2), (8, [2, 5, 6, 7, 8, 28, 31], 2), (9, [2, 7, 8], 2), (10, [2, 5, 6, 7, 8, 28, 33], 2), (11, [2, 5, 6, 7, 8, 28, 33], 2), (12, [2, 5, 6, 7, 8, 28, 33], 2), (13, [2, 5, 7], 2), (14, [2, 7, 8], 2), (15, [2, 5, 6, 7, 8, 28, 46], 2), (16, [2, 7, 8], 2), (17, [2, 5, 6, 7, 8, 28, 50], 2), (18, [2, 7, 8], 2), (19, [2, 5, 6, 7, 8, 28, 54], 2), (20, [2, 5, 6, 7, 8, 28, 54], 2), (21, [2, 5, 6, 7, 8, 28, 54], 2), (22, [2, 7, 8], 2), (23, [2, 5, 7, 8, 61], 2), (24, [2, 5, 7], 2), (25, [2, 7, 8], 2), (7, [2, 7, 8], 2), (26, [2, 7, 8, 69], 2), (27, [2, 3], 1), (28, [2, 3], 1), (2000026, [2, 7, 8], 2), (2000022, [2, 5, 6, 7, 8, 28, 54], 2), (2000013, [2, 5, 6, 7, 8, 28, 33], 2), (2000002, [0, 2, 16], 1), (3000033, [], 1000), (3000054, [], 1000)]
def f74_bx : List Nat := []
def f74_s : List (Nat × SS) := [(2000002, ⟨[(0, .one (.str)), (2, .one (.ptr 0 0)), (16, .one (.bool))], [.sk SK_api_Cmd], false, []⟩), (2000013, ⟨[(2, .one (.ptr 0 0)), (5, .one (.str)), (6, .one (.bool)), (7, .one (.ptr 1 0)), (8, .one (.int .i64)), (28, .one (.int .i64)), (33, .one (.bool))], [.sk SK_api_Cmd, .sk SK_api_Cmd], false, []⟩), (2000022, ⟨[(2, .one (.ptr 0 0)), (5, .one (.str)), (6, .one (.bool)), (7, .one (.ptr 1 0)), (8, .one (.int .i64)), (28, .one (.int .i64)), (54, .one (.bool))], [.sk SK_api_Cmd, .sk SK_api_Cmd], false, []⟩), (2000026, ⟨[(2, .one (.ptr 0 0)), (7, .one (.ptr 1 0)), (8, .one (.int .i64))], [.sk SK_api_Cmd, .sk SK_api_Cmd], false, []⟩)]
def f74_d : List (Nat × Nat) := []
noncomputable def f75_b : Code := bodyOf Tryz.f75
def f75_r : List ResultVar := [.tmp 4]
def f75_h : List (Nat × List Nat × Nat) := [(0, [0, 1], 0), (1, [0, 1], 0), (2, [0, 1], 0), (3, [1, 5], 1), (4, [5, 17], 1), (5, [5], 1), (6, [4], 0), (2000006, [5], 1)]
def f75_bx : List Nat := []
def f75_s : List (Nat × SS) := [(2000006, ⟨[(5, .one (.ptr 0 0))], [.cells [.int .i64, .str, .nm 1 1000000 2 9]], true, []⟩)]
def f75_d : List (Nat × Nat) := []
noncomputable def f76_b : Code := bodyOf Tryz.f76
def f76_r : List ResultVar := [.tmp 4]
def f76_h : List (Nat × List Nat × Nat) := [(0, [0, 3], 1), (1, [0, 3, 5], 1), (2, [4], 0), (3, [0, 3, 19], 1), (4, [4], 0), (5, [], 0), (6, [4], 0), (2000002, [0, 3, 5], 1)]
def f76_bx : List Nat := []
def f76_s : List (Nat × SS) := [(2000002, ⟨[(0, .one (.gptr 0)), (3, .one (.ptr 0 0)), (5, .one (.bool))], [.sk SK_api_Cmd], true, []⟩)]
def f76_d : List (Nat × Nat) := []
noncomputable def f77_b : Code := bodyOf Tryz.f77
def f77_r : List ResultVar := [.tmp 4]
def f77_h : List (Nat × List Nat × Nat) := [(0, [0, 3], 1), (1, [0, 3, 5], 1), (2, [4], 0), (3, [0, 3, 12], 1), (4, [4], 0), (5, [], 0), (6, [4], 0), (2000002, [0, 3, 5], 1)]
def f77_bx : List Nat := []
def f77_s : List (Nat × SS) := [(2000002, ⟨[(0, .one (.gptr 0)), (3, .one (.ptr 0 0)), (5, .one (.bool))], [.sk SK_api_Cmd], true, []⟩)]
def f77_d : List (Nat × Nat) := [(5, 18)]
noncomputable def f78_b : Code := bodyOf Tryz.f78
def f78_r : List ResultVar := [.tmp 2]
def f78_h : List (Nat × List Nat × Nat) := [(0, [0], 0), (1, [0, 3], 0), (2, [2], 0), (3, [0, 10], 0), (4, [2], 0), (5, [], 0), (6, [2], 0), (2000006, [], 0), (2000002, [0, 3], 0)]
def f78_bx : List Nat := []
def f78_s : List (Nat × SS) := [(2000002, ⟨[(0, .one (.gptr 0)), (3, .one (.bool))], [], true, []⟩), (2000006, ⟨[], [], true, []⟩)]
def f78_d : List (Nat × Nat) := []
noncomputable def f79_b : Code := bodyOf Tryz.f79
def f79_r : List ResultVar := [.tmp 4]
def f79_h : List (Nat × List Nat × Nat) := [(0, [0, 1], 0), (1, [0, 5], 0), (2, [0, 5, 6], 0), (3, [], 0), (4, [0, 5, 10], 0), (5, [4], 0), (6, [0, 5, 14], 0), (7, [4], 0), (8, [0, 18], 0), (9, [], 0), (10, [4], 0), (11, [4], 0), (2000011, [], 0)]
def f79_bx : List Nat := []
def f79_s : List (Nat × SS) := [(2000011, ⟨[], [], true, []⟩)]
def f79_d : List (Nat × Nat) := []
noncomputable def f32_b : Code := bodyOf Tryz.f32
def f32_r : List ResultVar := [.tmp 2]
def f32_h : List (Nat × List Nat × Nat) := [(0, [1], 1), (1, [2], 0)]
def f32_bx : List Nat := []
def f32_s : List (Nat × SS) := []
def f32_d : List (Nat × Nat) := []
noncomputable def f92_b : Code := bodyOf Tryz.f92
def f92_r : List ResultVar := [.tmp 4]
def f92_h : List (Nat × List Nat × Nat) := [(0, [0, 1], 1), (1, [0, 1, 5], 1), (2, [0, 1, 5, 32], 1), (3, [0, 1, 5], 1), (4, [4], 1), (1000002, [0, 1, 5], 1), (2000004, [0, 5], 1)]
def f92_bx : List Nat := []
def f92_s : List (Nat × SS) := [(941000002, ⟨[(0, .one (.ptr 0 0)), (1, .one (.clo0 93)), (5, .one (.int .i64))], [.sk SK_addr_reader], false, []⟩), (942000004, ⟨[(0, .one (.ptr 0 0)), (5, .one (.int .i64))], [.sk SK_addr_reader], false, []⟩), (2091000002, ⟨[(0, .one (.ptr 0 0)), (1, .one (.clo0 208)), (5, .one (.int .i64))], [.sk SK_addr_reader], false, []⟩), (2092000004, ⟨[(0, .one (.ptr 0 0)), (5, .one (.int .i64))], [.sk SK_addr_reader], false, []⟩)]
def f92_d : List (Nat × Nat) := [(2, 21), (4, 9)]
noncomputable def f96_b : Code := bodyOf Tryz.f96
def f96_r : List ResultVar := []
def f96_h : List (Nat × List Nat × Nat) := [(0, [0, 1, 7], 0), (1, [0, 1, 7, 8], 0), (2, [0, 1, 7, 10], 0), (3, [0, 1, 7, 12], 0), (4, [0, 1, 7, 14], 0), (5, [0, 1, 16], 0), (6, [0, 1], 0), (7, [0, 1, 22], 0), (8, [], 0), (9, [], 0), (10, [0, 1, 30], 0), (11, [], 0), (12, [], 0), (13, [0, 1, 38], 0), (14, [], 0), (15, [0, 1], 0), (16, [0, 1], 0), (17, [], 0), (18, [0, 1, 53], 0), (19, [0], 0), (20, [], 0), (21, [0, 1], 0), (22, [], 0), (2000012, [0, 1], 0)]
def f96_bx : List Nat := []
def f96_s : List (Nat × SS) := [(2000012, ⟨[(0, .one (.gptr 0)), (1, .one (.int .u8))], [], true, []⟩)]
def f96_d : List (Nat × Nat) := []
noncomputable def f97_b : Code := bodyOf Tryz.f97
def f97_r : List ResultVar := [.tmp 2]
def f97_h : List (Nat × List Nat × Nat) := [(0, [0], 0), (1, [2], 0)]
def f97_bx : List Nat := []
def f97_s : List (Nat × SS) := []
def f97_d : List (Nat × Nat) := []
noncomputable def f101_b : Code := bodyOf Tryz.f101
def f101_r : List ResultVar := [.tmp 2]
def f101_h : List (Nat × List Nat × Nat) := [(0, [0], 0), (1, [6, 7, 8], 0), (2, [6, 7, 8, 9], 0), (3, [4, 6, 7, 8], 0), (4, [6, 7, 8, 17], 0), (5, [2], 0), (6, [6, 7, 8], 0), (7, [2], 0), (1000002, [6, 7, 8], 0), (2000005, [6, 7, 8, 17], 0)]
def f101_bx : List Nat := []
def f101_s : List (Nat × SS) := [(1000002, ⟨[(6, .one (.sl 1)), (7, .one (.int .i64)), (8, .one (.int .i64))], [], false, []⟩), (2000005, ⟨[(6, .one (.sl 1)), (7, .one (.int .i64)), (8, .one (.int .i64)), (17, .one (.bool))], [], false, []⟩)]
def f101_d : List (Nat × Nat) := []
noncomputable def f103_b : Code := bodyOf Tryz.f103
def f103_r : List ResultVar := [.tmp 2]
def f103_h : List (Nat × List Nat × Nat) := [(0, [0], 0), (1, [3], 0), (2, [3, 8, 9, 10], 0), (3, [3, 8, 9, 10, 11], 0), (4, [3, 4, 5, 8, 9, 10], 0), (5, [3, 4, 8, 9, 10, 21], 0), (6, [2], 0), (7, [3, 8, 9, 10], 0), (8, [2], 0), (1000003, [3, 8, 9, 10], 0), (2000006, [3, 4, 8, 9, 10, 21], 0)]
def f103_bx : List Nat := []
def f103_s : List (Nat × SS) := [(1000003, ⟨[(3, .one (.str)), (8, .one (.sl 1)), (9, .one (.int .i64)), (10, .one (.int .i64))], [], false, []⟩), (2000006, ⟨[(3, .one (.str)), (4, .one (.int .i64)), (8, .one (.sl 1)), (9, .one (.int .i64)), (10, .one (.int .i64)), (21, .one (.bool))], [], false, []⟩)]
def f103_d : List (Nat × Nat) := []
noncomputable def f104_b : Code := bodyOf Tryz.f104
def f104_r : List ResultVar := [.tmp 2]
def f104_h : List (Nat × List Nat × Nat) := [(0, [0], 0), (1, [3], 0), (2, [2], 0), (3, [2], 0)]
def f104_bx : List Nat := []
def f104_s : List (Nat × SS) := []
def f104_d : List (Nat × Nat) := []
noncomputable def f105_b : Code := bodyOf Tryz.f105
def f105_r : List ResultVar := [.tmp 2]
def f105_h : List (Nat × List Nat × Nat) := [(0, [0], 0), (1, [0, 18], 0), (2, [2], 0), (3, [2], 0), (2000002, [0, 18], 0)]
def f105_bx : List Nat := []
def f105_s : List (Nat × SS) := [(2000002, ⟨[(0, .one (.str)), (18, .one (.bool))], [], false, []⟩)]
def f105_d : List (Nat × Nat) := []
noncomputable def f106_b : Code := bodyOf Tryz.f106
def f106_r : List ResultVar := [.tmp 8]
def f106_h : List (Nat × List Nat × Nat) := [(0, [0, 1, 2, 3], 1), (1, [0, 1, 2, 3, 25], 1), (2, [8], 1), (3, [0, 1, 3], 1), (4, [0, 1, 9, 10, 11], 2), (5, [0, 1, 9, 10, 38], 2), (6, [8], 1), (7, [0, 1, 10], 1), (8, [0, 1], 1), (9, [0, 1, 53], 1), (10, [8], 1), (11, [0, 1, 56], 1), (12, [8], 1), (13, [8], 1), (2000002, [0, 1, 2, 3, 25], 1)]
def f106_bx : List Nat := []
def f106_s : List (Nat × SS) := [(2000002, ⟨[(0, .one (.ptr 0 0)), (1, .one (.str)), (2, .one (.str)), (3, .one (.bool)), (25, .one (.bool))], [.sk SK_api_Cmd], false, []⟩)]
def f106_d : List (Nat × Nat) := [(7, 1008)]
noncomputable def f107_b : Code := bodyOf Tryz.f107
def f107_r : List ResultVar := [.tmp 0]
def f107_h : List (Nat × List Nat × Nat) := [(0, [], 0), (1, [0], 0)]
def f107_bx : List Nat := []
def f107_s : List (Nat × SS) := []
def f107_d : List (Nat × Nat) := []
noncomputable def f108_b : Code := bodyOf Tryz.f108
def f108_r : List ResultVar := [.tmp 2]
def f108_h : List (Nat × List Nat × Nat) := [(0, [0], 0), (1, [2], 0)]
def f108_bx : List Nat := []
def f108_s : List (Nat × SS) := []
def f108_d : List (Nat × Nat) := []
noncomputable def f93_b : Code := bodyOf Tryz.f93
def f93_r : List ResultVar := [.tmp 2]
def f93_h : List (Nat × List Nat × Nat) := [(0, [0], 0), (1, [2], 0)]
def f93_bx : List Nat := []
def f93_s : List (Nat × SS) := []
def f93_d : List (Nat × Nat) := []
noncomputable def f121_b : Code := bodyOf Tryz.f121
def f121_r : List ResultVar := []
def f121_h : List (Nat × List Nat × Nat) := [(0, [0, 1], 0), (1, [0, 1], 0), (2, [0, 11], 0), (3, [0, 11, 12], 0), (4, [], 0), (5, [0, 17], 0), (6, [], 0)]
def f121_bx : List Nat := []
def f121_s : List (Nat × SS) := []
def f121_d : List (Nat × Nat) := []
noncomputable def f122_b : Code := bodyOf Tryz.f122
def f122_r : List ResultVar := []
def f122_h : List (Nat × List Nat × Nat) := [(0, [0, 6, 7, 8], 0), (1, [0, 6, 7, 8, 9], 0), (2, [0, 5, 6, 7, 8], 0), (3, [0, 5, 6, 7, 8], 0), (4, [0, 5, 6, 7, 8, 23], 0), (5, [0, 5, 6, 7, 8], 0), (6, [0, 5, 6, 7, 8, 38], 0), (7, [0, 6, 7, 8], 0), (8, [0, 6, 7, 8], 0), (9, [0, 6, 7, 8], 0), (1000001, [0, 6, 7, 8], 0), (2000009, [0, 6, 7, 8], 0), (2000006, [0, 5, 6, 7, 8], 0)]
def f122_bx : List Nat := []
def f122_s : List (Nat × SS) := [(1000001, ⟨[(0, .one (.gptr 0)), (6, .one (.sl 1)), (7, .one (.int .i64)), (8, .one (.int .i64))], [], true, []⟩), (2000006, ⟨[(0, .one (.gptr 0)), (5, .one (.int .u8)), (6, .one (.sl 1)), (7, .one (.int .i64)), (8, .one (.int .i64))], [], true, []⟩), (2000009, ⟨[(0, .one (.gptr 0)), (6, .one (.sl 1)), (7, .one (.int .i64)), (8, .one (.int .i64))], [], true, []⟩)]
def f122_d : List (Nat × Nat) := [(6, 10)]
noncomputable def f126_b : Code := bodyOf Tryz.f126
def f126_r : List ResultVar := [.tmp 2]
def f126_h : List (Nat × List Nat × Nat) := [(0, [0], 0), (1, [3], 1), (2, [3, 8, 9, 10], 1), (3, [3, 8, 9, 10, 11], 1), (4, [3, 4, 5, 8, 9, 10], 1), (5, [3, 4, 5, 8, 9, 10, 20], 1), (6, [3, 8, 9, 10], 1), (7, [3, 8, 9, 10], 1), (8, [2], 0), (1000003, [3, 8, 9, 10], 1), (2000007, [3, 8, 9, 10], 1), (2000006, [3, 4, 5, 8, 9, 10, 20], 1)]
def f126_bx : List Nat := [7]
def f126_s : List (Nat × SS) := [(1000003, ⟨[(3, .one (.bsl 0 1)), (8, .one (.bsl 0 1)), (9, .one (.int .i64)), (10, .one (.int .i64))], [.cells [.row]], false, []⟩), (2000006, ⟨[(3, .one (.bsl 0 1)), (4, .one (.int .i64)), (5, .one (.int .u8)), (8, .one (.bsl 0 1)), (9, .one (.int .i64)), (10, .one (.int .i64)), (20, .one (.bool))], [.cells [.row]], false, []⟩), (2000007, ⟨[(3, .one (.bsl 0 1)), (8, .one (.bsl 0 1)), (9, .one (.int .i64)), (10, .one (.int .i64))], [.cells [.row]], false, []⟩)]
def f126_d : List (Nat × Nat) := []
noncomputable def f127_b : Code := bodyOf Tryz.f127
def f127_r : List ResultVar := [.tmp 0]
def f127_h : List (Nat × List Nat × Nat) := [(0, [], 0), (1, [0], 0)]
def f127_bx : List Nat := []
def f127_s : List (Nat × SS) := []
def f127_d : List (Nat × Nat) := []
noncomputable def f129_b : Code := bodyOf Tryz.f129
def f129_r : List ResultVar := [.cell 4 28, .tmp 5, .tmp 6]
def f129_h : List (Nat × List Nat × Nat) := [(0, [0, 1, 4], 1), (1, [0, 4, 13], 1), (2, [4, 5, 6], 1), (3, [4, 7], 2), (4, [4, 7, 8], 2), (5, [4, 7, 8, 24], 2), (6, [4, 7, 8], 2), (7, [4, 6, 7], 2), (8, [4, 6, 7, 42], 2), (9, [4, 5, 6], 1), (10, [4, 5, 6], 1), (2000008, [4, 6, 7], 2), (2000007, [4, 7, 8], 2), (2000005, [4, 7, 8], 2), (2000002, [0, 4, 13], 1)]
def f129_bx : List Nat := []
def f129_s : List (Nat × SS) := [(2000002, ⟨[(0, .one (.str)), (4, .one (.ptr 0 0)), (13, .one (.bool))], [.cells [.str, .str]], false, []⟩), (2000005, ⟨[(4, .one (.ptr 0 0)), (7, .one (.ptr 1 0)), (8, .one (.bool))], [.cells [.str, .str], .sk SK_addr_reader], false, []⟩), (2000007, ⟨[(4, .one (.ptr 0 0)), (7, .one (.ptr 1 0)), (8, .one (.bool))], [.cells [.str, .str], .sk SK_addr_reader], false, []⟩), (2000008, ⟨[(4, .one (.ptr 0 0)), (6, .one (.int .i64)), (7, .one (.ptr 1 0))], [.cells [.str, .str], .sk SK_addr_reader], false, []⟩)]
def f129_d : List (Nat × Nat) := [(7, 8771017326710440113586190614872628378845822582789), (10, 4437705773062899051394628616200)]
noncomputable def f130_b : Code := bodyOf Tryz.f130
def f130_r : List ResultVar := [.tmp 4]
def f130_h : List (Nat × List Nat × Nat) := [(0, [0, 1], 1), (1, [0, 1, 5], 2), (2, [0, 5, 13, 14, 15], 2), (3, [0, 5, 13, 14, 15, 16], 2), (4, [0, 5, 7, 13, 14, 15], 2), (5, [0, 5, 8, 9, 10, 13, 14, 15], 2), (6, [0, 5, 8, 9, 10, 13, 14, 15], 2), (7, [0, 5, 8, 9, 13, 14, 15, 43], 2), (8, [4], 1), (9, [0, 5, 8, 9, 13, 14, 15], 2), (10, [0, 5, 8, 9, 11, 13, 14, 15], 2), (11, [0, 5, 8, 9, 11, 13, 14, 15, 52], 2), (12, [0, 5, 11, 13, 14, 15], 2), (13, [0, 5, 11, 13, 14, 15, 58], 2), (14, [4], 1), (15, [0, 5, 13, 14, 15], 2), (16, [4], 1), (1000003, [0, 5, 13, 14, 15], 2), (2000013, [0, 5, 11, 13, 14, 15], 2), (2000008, [0, 5, 8, 9, 13, 14, 15, 43], 2)]
def f130_bx : List Nat := []
def f130_s : List (Nat × SS) := [(1000003, ⟨[(0, .one (.ptr 0 0)), (5, .one (.mapr 1)), (13, .one (.sl 1)), (14, .one (.int .i64)), (15, .one (.int .i64))], [.sk SK_api_Cmd, .cells [.map]], false, []⟩), (2000008, ⟨[(0, .one (.ptr 0 0)), (5, .one (.mapr 1)), (8, .one (.str)), (9, .one (.str)), (13, .one (.sl 1)), (14, .one (.int .i64)), (15, .one (.int .i64)), (43, .one (.bool))], [.sk SK_api_Cmd, .cells [.map]], false, []⟩), (2000013, ⟨[(0, .one (.ptr 0 0)), (5, .one (.mapr 1)), (11, .one (.int .i64)), (13, .one (.sl 1)), (14, .one (.int .i64)), (15, .one (.int .i64))], [.sk SK_api_Cmd, .cells [.map]], false, []⟩)]
def f130_d : List (Nat × Nat) := []
noncomputable def f94_b : Code := bodyOf Tryz.f94
def f94_r : List ResultVar := [.tmp 2]
def f94_h : List (Nat × List Nat × Nat) := [(0, [0], 0), (1, [2], 0)]
def f94_bx : List Nat := []
def f94_s : List (Nat × SS) := []
def f94_d : List (Nat × Nat) := []
noncomputable def f95_b : Code := bodyOf Tryz.f95
def f95_r : List ResultVar := [.tmp 2]
def f95_h : List (Nat × List Nat × Nat) := [(0, [0], 0), (1, [2], 0)]
def f95_bx : List Nat := []
def f95_s : List (Nat × SS) := []
def f95_d : List (Nat × Nat) := []
noncomputable def f145_b : Code := bodyOf Tryz.f145
def f145_r : List ResultVar := [.tmp 4]
def f145_h : List (Nat × List Nat × Nat) := [(0, [0, 1], 1), (1, [0, 27], 1), (2, [], 1), (3, [4], 1), (4, [4], 1), (2000002, [0, 27], 1)]
def f145_bx : List Nat := []
def f145_s : List (Nat × SS) := [(2000002, ⟨[(0, .one (.ptr 0 0)), (27, .one (.bool))], [.sk SK_addr_reader], false, []⟩)]
def f145_d : List (Nat × Nat) := [(1, 21)]
noncomputable def f146_b : Code := bodyOf Tryz.f146
def f146_r : List ResultVar := [.tmp 2]
def f146_h : List (Nat × List Nat × Nat) := [(0, [0], 1), (1, [0, 7], 1), (2, [2], 1), (3, [0, 10], 1), (4, [2], 1), (5, [0, 4], 1), (6, [0, 17], 1), (7, [2], 1), (8, [0, 20], 1), (9, [2], 1), (1000003, [0], 1)]
def f146_bx : List Nat := []
def f146_s : List (Nat × SS) := [(1000003, ⟨[(0, .one (.ptr 0 0))], [.sk SK_addr_reader], false, []⟩)]
def f146_d : List (Nat × Nat) := []
noncomputable def f147_b : Code := bodyOf Tryz.f147
def f147_r : List ResultVar := [.cell 2 28, .tmp 3]
def f147_h : List (Nat × List Nat × Nat) := [(0, [0, 2], 2), (1, [0, 2, 3], 2), (2, [0, 2, 16], 2), (3, [2, 3], 2), (4, [2, 3], 2), (5, [2, 3], 2), (2000003, [0, 2, 16], 2)]
def f147_bx : List Nat := []
def f147_s : List (Nat × SS) := [(2000003, ⟨[(0, .one (.ptr 0 0)), (2, .one (.ptr 1 0)), (16, .one (.bool))], [.sk SK_addr_reader, .cells [.str, .str]], false, []⟩)]
def f147_d : List (Nat × Nat) := []
noncomputable def f148_b : Code := bodyOf Tryz.f148
def f148_r : List ResultVar := [.cell 6 28, .tmp 7]
def f148_h : List (Nat × List Nat × Nat) := [(0, [0, 2, 4, 6], 3), (1, [0, 4, 6, 8], 3), (2, [6, 7], 3), (3, [4, 6, 12], 3), (4, [6, 7], 3), (5, [6, 7], 3)]
def f148_bx : List Nat := []
def f148_s : List (Nat × SS) := []
def f148_d : List (Nat × Nat) := []
noncomputable def f149_b : Code := bodyOf Tryz.f149
def f149_r : List ResultVar := [.tmp 2]
def f149_h : List (Nat × List Nat × Nat) := [(0, [0], 0), (1, [0, 6, 7, 8], 0), (2, [0, 6, 7, 8, 9], 0), (3, [0, 4, 6, 7, 8], 0), (4, [0, 6, 7, 8, 29], 0), (5, [2], 0), (6, [0, 6, 7, 8], 0), (7, [2], 0), (1000002, [0, 6, 7, 8], 0), (2000005, [0, 6, 7, 8, 29], 0)]
def f149_bx : List Nat := []
def f149_s : List (Nat × SS) := [(1000002, ⟨[(0, .one (.str)), (6, .one (.sl 1)), (7, .one (.int .i64)), (8, .one (.int .i64))], [], false, []⟩), (2000005, ⟨[(0, .one (.str)), (6, .one (.sl 1)), (7, .one (.int .i64)), (8, .one (.int .i64)), (29, .one (.bool))], [], false, []⟩)]
def f149_d : List (Nat × Nat) := []
noncomputable def f150_b : Code := bodyOf Tryz.f150
def f150_r : List ResultVar := [.tmp 2]
def f150_h : List (Nat × List Nat × Nat) := [(0, [0], 0), (1, [2], 0)]
def f150_bx : List Nat := []
def f150_s : List (Nat × SS) := []
def f150_d : List (Nat × Nat) := []
noncomputable def f151_b : Code := bodyOf Tryz.f151
def f151_r : List ResultVar := [.tmp 6]
def f151_h : List (Nat × List Nat × Nat) := [(0, [0, 1, 2], 1), (1, [0, 2, 9], 1), (2, [0, 2, 9, 10], 1), (3, [0, 2, 7, 8], 1), (4, [0, 7, 27], 1), (5, [6], 1), (6, [], 1), (7, [6], 1), (8, [0, 2, 33], 1), (9, [0], 1), (10, [6], 1), (11, [6], 1), (2000005, [0, 7, 27], 1)]
def f151_bx : List Nat := []
def f151_s : List (Nat × SS) := [(2000005, ⟨[(0, .one (.ptr 0 0)), (7, .one (.int .u64)), (27, .one (.bool))], [.sk SK_api_Cmd], false, []⟩)]
def f151_d : List (Nat × Nat) := []
noncomputable def f177_b : Code := bodyOf Tryz.f177
def f177_r : List ResultVar := [.tmp 2, .tmp 3]
def f177_h : List (Nat × List Nat × Nat) := [(0, [0], 1), (1, [0, 5], 1), (2, [0, 2, 3], 1), (3, [0, 2, 3], 1), (4, [2, 3], 1), (5, [2, 3], 1), (2000005, [2, 3], 1), (2000004, [0, 2, 3], 1)]
def f177_bx : List Nat := []
def f177_s : List (Nat × SS) := [(2000004, ⟨[(0, .one (.ptr 0 0)), (2, .one (.str)), (3, .one (.bool))], [.sk SK_addr_reader], false, []⟩), (2000005, ⟨[(2, .one (.str)), (3, .one (.bool))], [.sk SK_addr_reader], false, []⟩)]
def f177_d : List (Nat × Nat) := []
noncomputable def f196_b : Code := bodyOf Tryz.f196
def f196_r : List ResultVar := [.tmp 2, .tmp 3]
def f196_h : List (Nat × List Nat × Nat) := [(0, [0], 1), (1, [0, 4], 1), (2, [0, 4, 11], 1), (3, [2, 3], 1), (4, [0, 4, 13], 1), (5, [0, 4, 16], 1), (6, [2, 3], 1), (7, [2, 3], 1), (1000004, [0, 4], 1)]
def f196_bx : List Nat := []
def f196_s : List (Nat × SS) := [(1000004, ⟨[(0, .one (.ptr 0 0)), (4, .one (.int .i64))], [.sk SK_addr_reader], false, []⟩)]
def f196_d : List (Nat × Nat) := [(7, 9)]
noncomputable def f208_b : Code := bodyOf Tryz.f208
def f208_r : List ResultVar := [.tmp 2]
def f208_h : List (Nat × List Nat × Nat) := [(0, [0], 0), (1, [2], 0)]
def f208_bx : List Nat := []
def f208_s : List (Nat × SS) := []
def f208_d : List (Nat × Nat) := []
noncomputable def AXF (f : FuncId) : Option FX :=
 bif Nat.beq f 4 then some ⟨⟨f4_b, f4_r, f4_h⟩, f4_d, 71, f4_bx, [], [], f4_s⟩ else
 bif Nat.beq f 7 then some ⟨⟨f7_b, f7_r, f7_h⟩, f7_d, 101, f7_bx, [], [], f7_s⟩ else
 bif Nat.beq f 8 then some ⟨⟨f8_b, f8_r, f8_h⟩, f8_d, 12, f8_bx, [11], [], f8_s⟩ else
 bif Nat.beq f 13 then some ⟨⟨f13_b, f13_r, f13_h⟩, f13_d, 103, f13_bx, [], [], f13_s⟩ else
 bif Nat.beq f 14 then some ⟨⟨f14_b, f14_r, f14_h⟩, f14_d, 7, f14_bx, [], [], f14_s⟩ else
 bif Nat.beq f 9 then some ⟨⟨f9_b, f9_r, f9_h⟩, f9_d, 13, f9_bx, [], [8], f9_s⟩ else
 bif Nat.beq f 10 then some ⟨⟨f10_b, f10_r, f10_h⟩, f10_d, 37, f10_bx, [], [], f10_s⟩ else
 bif Nat.beq f 11 then some ⟨⟨f11_b, f11_r, f11_h⟩, f11_d, 14, f11_bx, [], [], f11_s⟩ else
 bif Nat.beq f 12 then some ⟨⟨f12_b, f12_r, f12_h⟩, f12_d, 56, f12_bx, [], [40], f12_s⟩ else
 bif Nat.beq f 18 then some ⟨⟨f18_b, f18_r, f18_h⟩, f18_d, 17, f18_bx, [], [], f18_s⟩ else
 bif Nat.beq f 26 then some ⟨⟨f26_b, f26_r, f26_h⟩, f26_d, 31, f26_bx, [], [], f26_s⟩ else
 bif Nat.beq f 27 then some ⟨⟨f27_b, f27_r, f27_h⟩, f27_d, 75, f27_bx, [], [36, 39], f27_s⟩ else
 bif Nat.beq f 28 then some ⟨⟨f28_b, f28_r, f28_h⟩, f28_d, 24, f28_bx, [], [], f28_s⟩ else
 bif Nat.beq f 29 then some ⟨⟨f29_b, f29_r, f29_h⟩, f29_d, 12, f29_bx, [], [], f29_s⟩ else
 bif Nat.beq f 31 then some ⟨⟨f31_b, f31_r, f31_h⟩, f31_d, 9, f31_bx, [], [], f31_s⟩ else
 bif Nat.beq f 34 then some ⟨⟨f34_b, f34_r, f34_h⟩, f34_d, 8, f34_bx, [], [], f34_s⟩ else
 bif Nat.beq f 38 then some ⟨⟨f38_b, f38_r, f38_h⟩, f38_d, 12, f38_bx, [], [], f38_s⟩ else
 bif Nat.beq f 45 then some ⟨⟨f45_b, f45_r, f45_h⟩, f45_d, 51, f45_bx, [], [], f45_s⟩ else
 bif Nat.beq f 46 then some ⟨⟨f46_b, f46_r, f46_h⟩, f46_d, 84, f46_bx, [], [25, 27], f46_s⟩ else
 bif Nat.beq f 48 then some ⟨⟨f48_b, f48_r, f48_h⟩, f48_d, 79, f48_bx, [], [], f48_s⟩ else
 bif Nat.beq f 49 then some ⟨⟨f49_b, f49_r, f49_h⟩, f49_d, 17, f49_bx, [], [], f49_s⟩ else
 bif Nat.beq f 53 then some ⟨⟨f53_b, f53_r, f53_h⟩, f53_d, 19, f53_bx, [], [], f53_s⟩ else
 bif Nat.beq f 64 then some ⟨⟨f64_b, f64_r, f64_h⟩, f64_d, 21, f64_bx, [], [], f64_s⟩ else
 bif Nat.beq f 65 then some ⟨⟨f65_b, f65_r, f65_h⟩, f65_d, 22, f65_bx, [], [], f65_s⟩ else
 bif Nat.beq f 66 then some ⟨⟨f66_b, f66_r, f66_h⟩, f66_d, 28, f66_bx, [], [], f66_s⟩ else
 bif Nat.beq f 67 then some ⟨⟨f67_b, f67_r, f67_h⟩, f67_d, 13, f67_bx, [], [], f67_s⟩ else
 bif Nat.beq f 74 then some ⟨⟨f74_b, f74_r, f74_h⟩, f74_d, 73, f74_bx, [], [], f74_s⟩ else
 bif Nat.beq f 75 then some ⟨⟨f75_b, f75_r, f75_h⟩, f75_d, 25, f75_bx, [], [19], f75_s⟩ else
 bif Nat.beq f 76 then some ⟨⟨f76_b, f76_r, f76_h⟩, f76_d, 36, f76_bx, [31], [], f76_s⟩ else
 bif Nat.beq f 77 then some ⟨⟨f77_b, f77_r, f77_h⟩, f77_d, 41, f77_bx, [], [], f77_s⟩ else
 bif Nat.beq f 78 then some ⟨⟨f78_b, f78_r, f78_h⟩, f78_d, 25, f78_bx, [], [], f78_s⟩ else
 bif Nat.beq f 79 then some ⟨⟨f79_b, f79_r, f79_h⟩, f79_d, 27, f79_bx, [], [], f79_s⟩ else
 bif Nat.beq f 32 then some ⟨⟨f32_b, f32_r, f32_h⟩, f32_d, 6, f32_bx, [], [], f32_s⟩ else
 bif Nat.beq f 92 then some ⟨⟨f92_b, f92_r, f92_h⟩, f92_d, 50, f92_bx, [], [], f92_s⟩ else
 bif Nat.beq f 96 then some ⟨⟨f96_b, f96_r, f96_h⟩, f96_d, 67, f96_bx, [], [], f96_s⟩ else
 bif Nat.beq f 97 then some ⟨⟨f97_b, f97_r, f97_h⟩, f97_d, 8, f97_bx, [], [], f97_s⟩ else
 bif Nat.beq f 101 then some ⟨⟨f101_b, f101_r, f101_h⟩, f101_d, 19, f101_bx, [], [], f101_s⟩ else
 bif Nat.beq f 103 then some ⟨⟨f103_b, f103_r, f103_h⟩, f103_d, 24, f103_bx, [], [], f103_s⟩ else
 bif Nat.beq f 104 then some ⟨⟨f104_b, f104_r, f104_h⟩, f104_d, 4, f104_bx, [], [], f104_s⟩ else
 bif Nat.beq f 105 then some ⟨⟨f105_b, f105_r, f105_h⟩, f105_d, 26, f105_bx, [], [], f105_s⟩ else
 bif Nat.beq f 106 then some ⟨⟨f106_b, f106_r, f106_h⟩, f106_d, 62, f106_bx, [], [], f106_s⟩ else
 bif Nat.beq f 107 then some ⟨⟨f107_b, f107_r, f107_h⟩, f107_d, 3, f107_bx, [], [], f107_s⟩ else
 bif Nat.beq f 108 then some ⟨⟨f108_b, f108_r, f108_h⟩, f108_d, 7, f108_bx, [6], [], f108_s⟩ else
 bif Nat.beq f 93 then some ⟨⟨f93_b, f93_r, f93_h⟩, f93_d, 13, f93_bx, [], [], f93_s⟩ else
 bif Nat.beq f 121 then some ⟨⟨f121_b, f121_r, f121_h⟩, f121_d, 23, f121_bx, [], [], f121_s⟩ else
 bif Nat.beq f 122 then some ⟨⟨f122_b, f122_r, f122_h⟩, f122_d, 56, f122_bx, [], [48], f122_s⟩ else
 bif Nat.beq f 126 then some ⟨⟨f126_b, f126_r, f126_h⟩, f126_d, 29, f126_bx, [], [], f126_s⟩ else
 bif Nat.beq f 127 then some ⟨⟨f127_b, f127_r, f127_h⟩, f127_d, 2, f127_bx, [], [], f127_s⟩ else
 bif Nat.beq f 129 then some ⟨⟨f129_b, f129_r, f129_h⟩, f129_d, 50, f129_bx, [], [], f129_s⟩ else
 bif Nat.beq f 130 then some ⟨⟨f130_b, f130_r, f130_h⟩, f130_d, 61, f130_bx, [], [], f130_s⟩ else
 bif Nat.beq f 94 then some ⟨⟨f94_b, f94_r, f94_h⟩, f94_d, 11, f94_bx, [], [], f94_s⟩ else
 bif Nat.beq f 95 then some ⟨⟨f95_b, f95_r, f95_h⟩, f95_d, 9, f95_bx, [], [], f95_s⟩ else
 bif Nat.beq f 145 then some ⟨⟨f145_b, f145_r, f145_h⟩, f145_d, 35, f145_bx, [], [], f145_s⟩ else
 bif Nat.beq f 146 then some ⟨⟨f146_b, f146_r, f146_h⟩, f146_d, 23, f146_bx, [], [], f146_s⟩ else
 bif Nat.beq f 147 then some ⟨⟨f147_b, f147_r, f147_h⟩, f147_d, 26, f147_bx, [], [], f147_s⟩ else
 bif Nat.beq f 148 then some ⟨⟨f148_b, f148_r, f148_h⟩, f148_d, 19, f148_bx, [], [], f148_s⟩ else
 bif Nat.beq f 149 then some ⟨⟨f149_b, f149_r, f149_h⟩, f149_d, 33, f149_bx, [], [], f149_s⟩ else
 bif Nat.beq f 150 then some ⟨⟨f150_b, f150_r, f150_h⟩, f150_d, 10, f150_bx, [], [], f150_s⟩ else
 bif Nat.beq f 151 then some ⟨⟨f151_b, f151_r, f151_h⟩, f151_d, 49, f151_bx, [], [], f151_s⟩ else
 bif Nat.beq f 177 then some ⟨⟨f177_b, f177_r, f177_h⟩, f177_d, 34, f177_bx, [], [], f177_s⟩ else
 bif Nat.beq f 196 then some ⟨⟨f196_b, f196_r, f196_h⟩, f196_d, 27, f196_bx, [], [], f196_s⟩ else
 bif Nat.beq f 208 then some ⟨⟨f208_b, f208_r, f208_h⟩, f208_d, 14, f208_bx, [], [], f208_s⟩ else
 none
end AX
end Go.Proofs.YtnkppakkeobegaaGreatDoor
