/-
  The functions, printed, and that they are the reckoning.
-/
import Derived.Test.YtfbicbgdfcbhpaaGreatDoorSxTab
set_option maxRecDepth 20000
set_option linter.unusedVariables false
set_option linter.unusedSimpArgs false
set_option linter.unusedSectionVars false
namespace Go.Proofs.YtfbicbgdfcbhpaaGreatDoor
namespace AX
set_option linter.unusedVariables false
noncomputable section
def f3_P15 (B : Code) (call : CallF) (n : Nat) (x0 : Bool) : OR :=
  f3_x B call n [1, 1, 1, 1, 1, 0, 1, 0, 1] (kSeq (f3_x B call n [1, 1, 1, 1, 1, 1]) (kEnd AXE 0 f3_r)) ⟨[(2, .one (.bool x0))], []⟩
def f3_P16 (B : Code) (call : CallF) (n : Nat) (x0 : Bool) : OR :=
  f3_x B call n [1, 1, 1, 1, 1, 1, 1, 1, 1] (kEnd AXE 0 f3_r) ⟨[(2, .one (.bool x0))], []⟩
def f3_P9 (B : Code) (call : CallF) (n : Nat) (x0 : LB) (x1 x2 : Bool) (x3 : S_api_Event) : OR :=
  f3_x B call n [1, 1, 1, 1, 1, 0, 1] (kSeq (f3_x B call n [1, 1, 1, 1, 1, 1]) (kEnd AXE 0 f3_r)) ⟨[(1, .one (.ptr 0 0)), (3, .one (.str x0)), (4, .one (.bool x1)), (37, .one (.bool x2))], [x3.cells]⟩
def f3_P (B : Code) (call : CallF) (n : Nat) (a0 : S_api_Event) : OR :=
  f3_x B call n [] (kEnd AXE 0 f3_r) ⟨[(0, .agg a0.cells)], []⟩
def f3_T15 (call : CallF) (n : Nat) (x0 : Bool) : OR :=
  some (.one (.bool x0), [])
theorem f3_o15 (call : CallF) (n : Nat) (B : Code) (hB : B = f3_b) : f3_P15 B call n = f3_T15 call n := by
  subst hB; funext x0; kernel_rfl
theorem f3_l15 (call : CallF) (n : Nat) : f3_P15 f3_b call n = f3_T15 call n :=
  f3_o15 call n _ (by kernel_rfl)
def f3_L15 (call : CallF) (n : Nat) : Bool → OR :=
  f3_T15 call n
theorem f3_e15 (call : CallF) (n : Nat) : f3_P15 f3_b call n = f3_L15 call n := by
  rw [f3_l15]; rfl
def f3_T16 (call : CallF) (n : Nat) (x0 : Bool) : OR :=
  some (.one (.bool x0), [])
theorem f3_o16 (call : CallF) (n : Nat) (B : Code) (hB : B = f3_b) : f3_P16 B call n = f3_T16 call n := by
  subst hB; funext x0; kernel_rfl
theorem f3_l16 (call : CallF) (n : Nat) : f3_P16 f3_b call n = f3_T16 call n :=
  f3_o16 call n _ (by kernel_rfl)
def f3_L16 (call : CallF) (n : Nat) : Bool → OR :=
  f3_T16 call n
theorem f3_e16 (call : CallF) (n : Nat) : f3_P16 f3_b call n = f3_L16 call n := by
  rw [f3_l16]; rfl
def f3_T9 (call : CallF) (n : Nat) (j15 : Bool → OR) (j16 : Bool → OR) (x0 : LB) (x1 x2 : Bool) (x3 : S_api_Event) : OR :=
  bif x2 then (
    j15 false) else (
    bif (!x1) then (
      some (.one (.bool true), [])) else (
      callK call 11 [.one (.str x0)] fun v1 =>
      castTup v1 fun v2 =>
      consK v2 fun z3 r4 =>
      aggV z3 fun r5 =>
      takeS_api_Event r5 fun w6 r7 =>
      nilK r7 (
        zI .i64 r4 fun n8 r9 =>
        nilK r9 (
          bif (n8 == (0 : Int)) then (
            callK call 12 [.agg x3.cells, .agg w6.cells] fun v10 =>
            oB v10 fun b11 =>
            j16 b11) else (
            j16 false)))))
theorem f3_o9 (X0 X1 : Code) (call : CallF) (n : Nat) (B : Code) (hB : B = (hole (hole f3_b [1, 1, 1, 1, 1, 0, 1, 0, 1] X0) [1, 1, 1, 1, 1, 1, 1, 1, 1] X1)) : f3_P9 B call n = f3_T9 call n (f3_P15 B call n) (f3_P16 B call n) := by
  subst hB; funext x0 x1 x2 x3; cases x2 <;> kernel_rfl
theorem f3_l9 (call : CallF) (n : Nat) : f3_P9 f3_b call n = f3_T9 call n (f3_P15 f3_b call n) (f3_P16 f3_b call n) :=
  f3_o9 (piece [1, 1, 1, 1, 1, 0, 1, 0, 1] f3_b) (piece [1, 1, 1, 1, 1, 1, 1, 1, 1] f3_b) call n _ (by kernel_rfl)
def f3_L9 (call : CallF) (n : Nat) : LB → Bool → Bool → S_api_Event → OR :=
  f3_T9 call n (f3_L15 call n) (f3_L16 call n)
theorem f3_e9 (call : CallF) (n : Nat) : f3_P9 f3_b call n = f3_L9 call n := by
  rw [f3_l9, f3_e15, f3_e16]; rfl
/-- pigeonhole/pigeonholelaw31.ScriptLines -/
def f3_T (call : CallF) (n : Nat) (j9 : LB → Bool → Bool → S_api_Event → OR) (a0 : S_api_Event) : OR :=
  callK call 6 [] fun v30 =>
  oB v30 fun b31 =>
  bif (!b31) then (
    some (.one (.bool false), [])) else (
    callK call 7 [.agg a0.cells] fun v32 =>
    oB v32 fun b33 =>
    bif (!b33) then (
      some (.one (.bool true), [])) else (
      callK call 8 [.agg a0.cells] fun v34 =>
      castTup v34 fun v35 =>
      zS v35 fun s36 r37 =>
      zB r37 fun b38 r39 =>
      nilK r39 (
        callK call 9 [.agg a0.cells] fun v40 =>
        castTup v40 fun v41 =>
        zS v41 fun s42 r43 =>
        zB r43 fun b44 r45 =>
        nilK r45 (
          bif (!(s36 == s42)) then (
            j9 s36 b38 true a0) else (
            bif (!(b38 == b44)) then (
              j9 s36 b38 true a0) else (
              callK call 10 [.agg a0.cells] fun v46 =>
              oB v46 fun b47 =>
              j9 s36 b38 (!(b47 == b44)) a0))))))
def f3_L (call : CallF) (n : Nat) (a0 : S_api_Event) : OR :=
  f3_T call n (f3_L9 call n) a0
theorem f3_o (X0 : Code) (call : CallF) (n : Nat) (B : Code) (hB : B = (hole f3_b [1, 1, 1, 1, 1, 0, 1] X0)) : f3_P B call n = f3_T call n (f3_P9 B call n) := by
  subst hB; funext a0; kernel_rfl
theorem f3_l (call : CallF) (n : Nat) : f3_P f3_b call n = f3_T call n (f3_P9 f3_b call n) :=
  f3_o (piece [1, 1, 1, 1, 1, 0, 1] f3_b) call n _ (by kernel_rfl)
theorem f3_e (call : CallF) (n : Nat) : f3_P f3_b call n = f3_L call n := by
  rw [f3_l, f3_e9]; rfl
theorem f3_eq (n : Nat) (a0 : S_api_Event) : acall AXE AXF (n + 1) 3 [.agg a0.cells] [] = f3_L (acall AXE AXF n) (n + 1) a0 :=
  (show _ = f3_P f3_b (acall AXE AXF n) (n + 1) a0 by kernel_rfl).trans (by rw [f3_e])
def f6_P5 (B : Code) (call : CallF) (n : Nat) (x0 : Bool) : OR :=
  f6_x B call n [1, 1, 1, 1, 1, 1] (kEnd AXE 0 f6_r) ⟨[(0, .one (.bool x0))], []⟩
def f6_P (B : Code) (call : CallF) (n : Nat) : OR :=
  f6_x B call n [] (kEnd AXE 0 f6_r) ⟨[], []⟩
def f6_T5 (call : CallF) (n : Nat) (x0 : Bool) : OR :=
  some (.one (.bool x0), [])
theorem f6_o5 (call : CallF) (n : Nat) (B : Code) (hB : B = f6_b) : f6_P5 B call n = f6_T5 call n := by
  subst hB; funext x0; kernel_rfl
theorem f6_l5 (call : CallF) (n : Nat) : f6_P5 f6_b call n = f6_T5 call n :=
  f6_o5 call n _ (by kernel_rfl)
def f6_L5 (call : CallF) (n : Nat) : Bool → OR :=
  f6_T5 call n
theorem f6_e5 (call : CallF) (n : Nat) : f6_P5 f6_b call n = f6_L5 call n := by
  rw [f6_l5]; rfl
/-- pigeonhole/pigeonholelaw31.awake -/
def f6_T (call : CallF) (n : Nat) (j5 : Bool → OR) : OR :=
  callK call 11 [.one (.str ([98, 121, 116, 101, 115, 32, 48, 32, 34, 78, 79, 79, 80, 92, 114, 92, 110, 34] : List UInt8))] fun v39 =>
  castTup v39 fun v40 =>
  consK v40 fun z41 r42 =>
  aggV z41 fun r43 =>
  takeS_api_Event r43 fun w44 r45 =>
  nilK r45 (
    zI .i64 r42 fun n46 r47 =>
    nilK r47 (
      callK call 8 [.agg (⟨(10 : Int), (0 : Int), (1 : Int), (0 : Int), false, ([] : List UInt8), (0 : Int), (0 : Int), ([] : List Cell), ([] : List Cell), (0 : Int), ([] : List Cell)⟩ : S_api_Event).cells] fun v48 =>
      castTup v48 fun v49 =>
      zS v49 fun s50 r51 =>
      zB r51 fun b52 r53 =>
      nilK r53 (
        callK call 20 [.one (.str ([35, 32, 97, 10, 117, 115, 101, 114, 32, 97, 110, 110, 32, 49, 48, 48, 32, 45, 49, 10, 10, 114, 117, 110] : List UInt8))] fun v54 =>
        castTup v54 fun v55 =>
        zL 12 v55 fun l56 r57 =>
        zI .i64 r57 fun n58 r59 =>
        zI .i64 r59 fun n60 r61 =>
        nilK r61 (
          callK call 20 [.one (.str ([114, 117, 110, 10, 102, 108, 121, 32, 49] : List UInt8))] fun v62 =>
          castTup v62 fun v63 =>
          zL 12 v63 fun l64 r65 =>
          zI .i64 r65 fun n66 r67 =>
          zI .i64 r67 fun n68 r69 =>
          nilK r69 (
            bif (n46 == (0 : Int)) then (
              bif (w44.fKind == (2 : Int)) then (
                bytesK w44.fData fun s70 =>
                bif (s70 == ([78, 79, 79, 80, 13, 10] : List UInt8)) then (
                  bif (s50 == ([101, 120, 112, 117, 110, 103, 101, 32, 42, 32, 49] : List UInt8)) then (
                    bif b52 then (
                      bif (n60 == (0 : Int)) then (
                        bif (n58 == (0 : Int)) then (
                          bif ((((l56).length / 12 : Nat) : Int) == (2 : Int)) then (
                            guardB (decide (0 ≤ (0 : Int)) && decide ((Int.toNat (0 : Int)) * 12 + 12 ≤ l56.length)) (
                              cI .i64 ((((l56.drop ((Int.toNat (0 : Int)) * 12)).take 12).drop 6).take 2) fun n71 r72 =>
                              cI .i64 r72 fun n73 r74 =>
                              bif ((n71 == (100 : Int)) && ((n73 == (-1 : Int)) && true)) then (
                                bif (n66 == (2 : Int)) then (
                                  bif (n68 == (15 : Int)) then (
                                    callK call 10 [.agg w44.cells] fun v75 =>
                                    oB v75 fun b76 =>
                                    j5 b76) else (
                                    j5 false)) else (
                                  j5 false)) else (
                                j5 false))) else (
                            j5 false)) else (
                          j5 false)) else (
                        j5 false)) else (
                      j5 false)) else (
                    j5 false)) else (
                  j5 false)) else (
                j5 false)) else (
              j5 false))))))
def f6_L (call : CallF) (n : Nat) : OR :=
  f6_T call n (f6_L5 call n)
theorem f6_o (X0 : Code) (call : CallF) (n : Nat) (B : Code) (hB : B = (hole f6_b [1, 1, 1, 1, 1, 1] X0)) : f6_P B call n = f6_T call n (f6_P5 B call n) := by
  subst hB; kernel_rfl
theorem f6_l (call : CallF) (n : Nat) : f6_P f6_b call n = f6_T call n (f6_P5 f6_b call n) :=
  f6_o (piece [1, 1, 1, 1, 1, 1] f6_b) call n _ (by kernel_rfl)
theorem f6_e (call : CallF) (n : Nat) : f6_P f6_b call n = f6_L call n := by
  rw [f6_l, f6_e5]; rfl
theorem f6_eq (n : Nat) : acall AXE AXF (n + 1) 6 [] [] = f6_L (acall AXE AXF n) (n + 1) :=
  (show _ = f6_P f6_b (acall AXE AXF n) (n + 1) by kernel_rfl).trans (by rw [f6_e])
def f7_P4 (B : Code) (call : CallF) (n : Nat) (x0 : Bool) : OR :=
  f7_x B call n [1, 0, 1, 0, 1] (kSeq (f7_x B call n [1, 1]) (kEnd AXE 0 f7_r)) ⟨[(2, .one (.bool x0))], []⟩
def f7_P5 (B : Code) (call : CallF) (n : Nat) (m0 : Nat) (x0 : Int) (x1 : S_api_Event) : OR :=
  aloop 1000004 (pruneAt f7_h 1000004) (f7_x B call n [1, 1, 0, 1, 0, 0]) (kBlk 0 (kSeq (f7_x B call n [1, 1, 1]) (kEnd AXE 0 f7_r))) m0 ⟨[(1, .one (.ptr 0 0)), (3, .one (.int .i64 x0))], [x1.cells]⟩
def f7_P1 (B : Code) (call : CallF) (n : Nat) (x0 : Bool) (x1 : S_api_Event) : OR :=
  f7_x B call n [1, 0, 1] (kSeq (f7_x B call n [1, 1]) (kEnd AXE 0 f7_r)) ⟨[(1, .one (.ptr 0 0)), (25, .one (.bool x0))], [x1.cells]⟩
def f7_P (B : Code) (call : CallF) (n : Nat) (a0 : S_api_Event) : OR :=
  f7_x B call n [] (kEnd AXE 0 f7_r) ⟨[(0, .agg a0.cells)], []⟩
def f7_T4 (call : CallF) (n : Nat) (x0 : Bool) : OR :=
  some (.one (.bool x0), [])
theorem f7_o4 (call : CallF) (n : Nat) (B : Code) (hB : B = f7_b) : f7_P4 B call n = f7_T4 call n := by
  subst hB; funext x0; kernel_rfl
theorem f7_l4 (call : CallF) (n : Nat) : f7_P4 f7_b call n = f7_T4 call n :=
  f7_o4 call n _ (by kernel_rfl)
def f7_L4 (call : CallF) (n : Nat) : Bool → OR :=
  f7_T4 call n
theorem f7_e4 (call : CallF) (n : Nat) : f7_P4 f7_b call n = f7_L4 call n := by
  rw [f7_l4]; rfl
def f7_T5 (call : CallF) (n : Nat) (j5m : Int → S_api_Event → OR) (x0 : Int) (x1 : S_api_Event) : OR :=
  bif (decide (x0 < (((x1.fTo).length / 1 : Nat) : Int))) then (
    itemK x1.fTo x0 fun c1 =>
    castS c1 fun s2 =>
    bif (decide (((s2).length : Int) > (100 : Int))) then (
      some (.one (.bool false), [])) else (
      j5m (IntKind.wrap .i64 (x0 + (1 : Int))) x1)) else (
    some (.one (.bool true), []))
theorem f7_o5 (call : CallF) (n : Nat) (m0 : Nat) (B : Code) (hB : B = f7_b) : f7_P5 B call n (m0 + 1) = f7_T5 call n (f7_P5 B call n m0) := by
  subst hB; funext x0 x1; kernel_rfl
theorem f7_l5 (call : CallF) (n : Nat) (m0 : Nat) : f7_P5 f7_b call n (m0 + 1) = f7_T5 call n (f7_P5 f7_b call n m0) :=
  f7_o5 call n m0 _ (by kernel_rfl)
def f7_L5 (call : CallF) (n : Nat) : Nat → Int → S_api_Event → OR
  | 0 => fun _ _ => none
  | m0 + 1 => f7_T5 call n (f7_L5 call n m0)
theorem f7_e5 (call : CallF) (n : Nat) : ∀ m0 : Nat, f7_P5 f7_b call n m0 = f7_L5 call n m0
  | 0 => by funext x0 x1; kernel_rfl
  | m0 + 1 => by rw [f7_l5, f7_e5 call n m0]; rfl
def f7_T1 (call : CallF) (n : Nat) (j4 : Bool → OR) (j5n : Int → S_api_Event → OR) (x0 : Bool) (x1 : S_api_Event) : OR :=
  bif x0 then (
    j4 false) else (
    j5n (0 : Int) x1)
theorem f7_o1 (X0 : Code) (call : CallF) (n : Nat) (B : Code) (hB : B = (hole f7_b [1, 0, 1, 0, 1] X0)) : f7_P1 B call n = f7_T1 call n (f7_P4 B call n) (f7_P5 B call n n) := by
  subst hB; funext x0 x1; cases x0 <;> kernel_rfl
theorem f7_l1 (call : CallF) (n : Nat) : f7_P1 f7_b call n = f7_T1 call n (f7_P4 f7_b call n) (f7_P5 f7_b call n n) :=
  f7_o1 (piece [1, 0, 1, 0, 1] f7_b) call n _ (by kernel_rfl)
def f7_L1 (call : CallF) (n : Nat) : Bool → S_api_Event → OR :=
  f7_T1 call n (f7_L4 call n) (f7_L5 call n n)
theorem f7_e1 (call : CallF) (n : Nat) : f7_P1 f7_b call n = f7_L1 call n := by
  rw [f7_l1, f7_e4, f7_e5]; rfl
/-- pigeonhole/pigeonholeref31.Light -/
def f7_T (call : CallF) (n : Nat) (j1 : Bool → S_api_Event → OR) (a0 : S_api_Event) : OR :=
  bif (decide ((((a0.fData).length / 1 : Nat) : Int) > (1000 : Int))) then (
    j1 true a0) else (
    bif (decide (((a0.fName).length : Int) > (100 : Int))) then (
      j1 true a0) else (
      bif (decide ((((a0.fTo).length / 1 : Nat) : Int) > (20 : Int))) then (
        j1 true a0) else (
        j1 (decide ((((a0.fKeep).length / 1 : Nat) : Int) > (60 : Int))) a0)))
def f7_L (call : CallF) (n : Nat) (a0 : S_api_Event) : OR :=
  f7_T call n (f7_L1 call n) a0
theorem f7_o (X0 : Code) (call : CallF) (n : Nat) (B : Code) (hB : B = (hole f7_b [1, 0, 1] X0)) : f7_P B call n = f7_T call n (f7_P1 B call n) := by
  subst hB; funext a0; kernel_rfl
theorem f7_l (call : CallF) (n : Nat) : f7_P f7_b call n = f7_T call n (f7_P1 f7_b call n) :=
  f7_o (piece [1, 0, 1] f7_b) call n _ (by kernel_rfl)
theorem f7_e (call : CallF) (n : Nat) : f7_P f7_b call n = f7_L call n := by
  rw [f7_l, f7_e1]; rfl
theorem f7_eq (n : Nat) (a0 : S_api_Event) : acall AXE AXF (n + 1) 7 [.agg a0.cells] [] = f7_L (acall AXE AXF n) (n + 1) a0 :=
  (show _ = f7_P f7_b (acall AXE AXF n) (n + 1) a0 by kernel_rfl).trans (by rw [f7_e])
def f8_P5 (B : Code) (call : CallF) (n : Nat) (x0 : LB) (x1 : Bool) : OR :=
  f8_x B call n [1, 0, 1, 0, 1] (kSeq (f8_x B call n [1, 1]) (kEnd AXE 0 f8_r)) ⟨[(2, .one (.str x0)), (3, .one (.bool x1))], []⟩
def f8_P9 (B : Code) (call : CallF) (n : Nat) (x0 : LB) (x1 : Bool) : OR :=
  f8_x B call n [1, 1, 1, 1, 0, 1, 0, 1] (kSeq (f8_x B call n [1, 1, 1, 1, 1]) (kEnd AXE 0 f8_r)) ⟨[(2, .one (.str x0)), (3, .one (.bool x1))], []⟩
def f8_P6 (B : Code) (call : CallF) (n : Nat) (x0 : LB) (x1 : Bool) : OR :=
  f8_x B call n [1, 1, 1, 1, 0, 1] (kSeq (f8_x B call n [1, 1, 1, 1, 1]) (kEnd AXE 0 f8_r)) ⟨[(4, .one (.str x0)), (29, .one (.bool x1))], []⟩
def f8_P1 (B : Code) (call : CallF) (n : Nat) (x0 : Bool) (x1 : S_api_Event) : OR :=
  f8_x B call n [1, 0, 1] (kSeq (f8_x B call n [1, 1]) (kEnd AXE 0 f8_r)) ⟨[(1, .one (.ptr 0 0)), (14, .one (.bool x0))], [x1.cells]⟩
def f8_P (B : Code) (call : CallF) (n : Nat) (a0 : S_api_Event) : OR :=
  f8_x B call n [] (kEnd AXE 0 f8_r) ⟨[(0, .agg a0.cells)], []⟩
def f8_T5 (call : CallF) (n : Nat) (x0 : LB) (x1 : Bool) : OR :=
  some (.tup [.one (.str x0), .one (.bool x1)], [])
theorem f8_o5 (call : CallF) (n : Nat) (B : Code) (hB : B = f8_b) : f8_P5 B call n = f8_T5 call n := by
  subst hB; funext x0 x1; kernel_rfl
theorem f8_l5 (call : CallF) (n : Nat) : f8_P5 f8_b call n = f8_T5 call n :=
  f8_o5 call n _ (by kernel_rfl)
def f8_L5 (call : CallF) (n : Nat) : LB → Bool → OR :=
  f8_T5 call n
theorem f8_e5 (call : CallF) (n : Nat) : f8_P5 f8_b call n = f8_L5 call n := by
  rw [f8_l5]; rfl
def f8_T9 (call : CallF) (n : Nat) (x0 : LB) (x1 : Bool) : OR :=
  some (.tup [.one (.str x0), .one (.bool x1)], [])
theorem f8_o9 (call : CallF) (n : Nat) (B : Code) (hB : B = f8_b) : f8_P9 B call n = f8_T9 call n := by
  subst hB; funext x0 x1; kernel_rfl
theorem f8_l9 (call : CallF) (n : Nat) : f8_P9 f8_b call n = f8_T9 call n :=
  f8_o9 call n _ (by kernel_rfl)
def f8_L9 (call : CallF) (n : Nat) : LB → Bool → OR :=
  f8_T9 call n
theorem f8_e9 (call : CallF) (n : Nat) : f8_P9 f8_b call n = f8_L9 call n := by
  rw [f8_l9]; rfl
def f8_T6 (call : CallF) (n : Nat) (j9 : LB → Bool → OR) (x0 : LB) (x1 : Bool) : OR :=
  bif x1 then (
    j9 ([] : List UInt8) false) else (
    some (.tup [.one (.str x0), .one (.bool true)], []))
theorem f8_o6 (X0 : Code) (call : CallF) (n : Nat) (B : Code) (hB : B = (hole f8_b [1, 1, 1, 1, 0, 1, 0, 1] X0)) : f8_P6 B call n = f8_T6 call n (f8_P9 B call n) := by
  subst hB; funext x0 x1; cases x1 <;> kernel_rfl
theorem f8_l6 (call : CallF) (n : Nat) : f8_P6 f8_b call n = f8_T6 call n (f8_P9 f8_b call n) :=
  f8_o6 (piece [1, 1, 1, 1, 0, 1, 0, 1] f8_b) call n _ (by kernel_rfl)
def f8_L6 (call : CallF) (n : Nat) : LB → Bool → OR :=
  f8_T6 call n (f8_L9 call n)
theorem f8_e6 (call : CallF) (n : Nat) : f8_P6 f8_b call n = f8_L6 call n := by
  rw [f8_l6, f8_e9]; rfl
def f8_T1 (call : CallF) (n : Nat) (j5 : LB → Bool → OR) (j6 : LB → Bool → OR) (x0 : Bool) (x1 : S_api_Event) : OR :=
  bif x0 then (
    j5 ([] : List UInt8) false) else (
    callK call 21 [.agg x1.cells] fun v1 =>
    oS v1 fun s2 =>
    callK call 11 [.one (.str s2)] fun v3 =>
    castTup v3 fun v4 =>
    consK v4 fun z5 r6 =>
    aggV z5 fun r7 =>
    takeS_api_Event r7 fun w8 r9 =>
    nilK r9 (
      zI .i64 r6 fun n10 r11 =>
      nilK r11 (
        bif (n10 != (0 : Int)) then (
          j6 s2 true) else (
          callK call 22 [.agg w8.cells, .agg x1.cells] fun v12 =>
          oB v12 fun b13 =>
          j6 s2 (!b13)))))
theorem f8_o1 (X0 X1 : Code) (call : CallF) (n : Nat) (B : Code) (hB : B = (hole (hole f8_b [1, 1, 1, 1, 0, 1] X0) [1, 0, 1, 0, 1] X1)) : f8_P1 B call n = f8_T1 call n (f8_P5 B call n) (f8_P6 B call n) := by
  subst hB; funext x0 x1; cases x0 <;> kernel_rfl
theorem f8_l1 (call : CallF) (n : Nat) : f8_P1 f8_b call n = f8_T1 call n (f8_P5 f8_b call n) (f8_P6 f8_b call n) :=
  f8_o1 (piece [1, 1, 1, 1, 0, 1] f8_b) (piece [1, 0, 1, 0, 1] f8_b) call n _ (by kernel_rfl)
def f8_L1 (call : CallF) (n : Nat) : Bool → S_api_Event → OR :=
  f8_T1 call n (f8_L5 call n) (f8_L6 call n)
theorem f8_e1 (call : CallF) (n : Nat) : f8_P1 f8_b call n = f8_L1 call n := by
  rw [f8_l1, f8_e5, f8_e6]; rfl
/-- pigeonhole/script.Line -/
def f8_T (call : CallF) (n : Nat) (j1 : Bool → S_api_Event → OR) (a0 : S_api_Event) : OR :=
  bif (decide (a0.fKind < (1 : Int))) then (
    j1 true a0) else (
    j1 (decide (a0.fKind > (17 : Int))) a0)
def f8_L (call : CallF) (n : Nat) (a0 : S_api_Event) : OR :=
  f8_T call n (f8_L1 call n) a0
theorem f8_o (X0 : Code) (call : CallF) (n : Nat) (B : Code) (hB : B = (hole f8_b [1, 0, 1] X0)) : f8_P B call n = f8_T call n (f8_P1 B call n) := by
  subst hB; funext a0; kernel_rfl
theorem f8_l (call : CallF) (n : Nat) : f8_P f8_b call n = f8_T call n (f8_P1 f8_b call n) :=
  f8_o (piece [1, 0, 1] f8_b) call n _ (by kernel_rfl)
theorem f8_e (call : CallF) (n : Nat) : f8_P f8_b call n = f8_L call n := by
  rw [f8_l, f8_e1]; rfl
theorem f8_eq (n : Nat) (a0 : S_api_Event) : acall AXE AXF (n + 1) 8 [.agg a0.cells] [] = f8_L (acall AXE AXF n) (n + 1) a0 :=
  (show _ = f8_P f8_b (acall AXE AXF n) (n + 1) a0 by kernel_rfl).trans (by rw [f8_e])
def f9_P28 (B : Code) (call : CallF) (n : Nat) (x0 : LB) (x1 : Bool) : OR :=
  f9_x B call n [1, 0, 1, 0, 1] (kSeq (f9_x B call n [1, 1]) (kEnd AXE 0 f9_r)) ⟨[(2, .one (.str x0)), (3, .one (.bool x1))], []⟩
def f9_P47 (B : Code) (call : CallF) (n : Nat) (x0 : LB) (x1 : Bool) : OR :=
  f9_x B call n [1, 1, 1, 1, 1, 0, 1, 0, 1] (kSeq (f9_x B call n [1, 1, 1, 1, 1, 1]) (kEnd AXE 0 f9_r)) ⟨[(2, .one (.str x0)), (3, .one (.bool x1))], []⟩
def f9_P44 (B : Code) (call : CallF) (n : Nat) (x0 : LB) (x1 : Bool) : OR :=
  f9_x B call n [1, 1, 1, 1, 1, 0, 1] (kSeq (f9_x B call n [1, 1, 1, 1, 1, 1]) (kEnd AXE 0 f9_r)) ⟨[(4, .one (.str x0)), (254, .one (.bool x1))], []⟩
def f9_P41 (B : Code) (call : CallF) (n : Nat) (x0 : LB) (x1 : S_api_Event) (x2 : S_ref31_Got) : OR :=
  f9_x B call n [1, 1, 1, 1, 1] (kEnd AXE 0 f9_r) ⟨[(1, .one (.ptr 0 0)), (4, .one (.str x0)), (7, .one (.ptr 1 0))], [x1.cells, x2.cells]⟩
def f9_P29 (B : Code) (call : CallF) (n : Nat) (x0 : LB) (x1 : S_api_Event) : OR :=
  f9_x B call n [1, 1, 1, 1] (kEnd AXE 0 f9_r) ⟨[(1, .one (.ptr 0 0)), (4, .one (.str x0))], [x1.cells]⟩
def f9_P42 (B : Code) (call : CallF) (n : Nat) (x0 : LB) (x1 : Int) (x2 : S_api_Event) : OR :=
  f9_x B call n [1, 1, 1, 1] (kEnd AXE 0 f9_r) ⟨[(1, .one (.ptr 0 0)), (4, .one (.str x0)), (5, .one (.int .i64 x1))], [x2.cells]⟩
def f9_P30 (B : Code) (call : CallF) (n : Nat) (m0 : Nat) (x0 : LB) (x1 : Int) (x2 : S_api_Event) : OR :=
  aloop 1000022 (pruneAt f9_h 1000022) (f9_x B call n [1, 1, 1, 0, 1, 0, 1, 1, 1, 1, 1, 1, 1, 1, 1, 1, 1, 0, 1, 1, 0, 0]) (kBlk 1 (kBlk 0 (kSeq (f9_x B call n [1, 1, 1, 1]) (kEnd AXE 0 f9_r)))) m0 ⟨[(1, .one (.ptr 0 0)), (4, .one (.str x0)), (5, .one (.int .i64 x1))], [x2.cells]⟩
def f9_P43 (B : Code) (call : CallF) (n : Nat) (x0 : LB) (x1 : Int) (x2 : S_api_Event) : OR :=
  f9_x B call n [1, 1, 1, 1] (kEnd AXE 0 f9_r) ⟨[(1, .one (.ptr 0 0)), (4, .one (.str x0)), (6, .one (.int .i64 x1))], [x2.cells]⟩
def f9_P34 (B : Code) (call : CallF) (n : Nat) (m0 : Nat) (x0 : LB) (x1 : Int) (x2 : S_api_Event) : OR :=
  aloop 1000037 (pruneAt f9_h 1000037) (f9_x B call n [1, 1, 1, 0, 1, 0, 1, 1, 1, 1, 1, 1, 1, 1, 1, 1, 1, 1, 1, 1, 1, 1, 1, 1, 1, 1, 1, 0, 1, 1, 0, 0]) (kBlk 3 (kBlk 0 (kSeq (f9_x B call n [1, 1, 1, 1]) (kEnd AXE 0 f9_r)))) m0 ⟨[(1, .one (.ptr 0 0)), (4, .one (.str x0)), (6, .one (.int .i64 x1))], [x2.cells]⟩
def f9_P1 (B : Code) (call : CallF) (n : Nat) (x0 : Bool) (x1 : S_api_Event) : OR :=
  f9_x B call n [1, 0, 1] (kSeq (f9_x B call n [1, 1]) (kEnd AXE 0 f9_r)) ⟨[(1, .one (.ptr 0 0)), (61, .one (.bool x0))], [x1.cells]⟩
def f9_P (B : Code) (call : CallF) (n : Nat) (a0 : S_api_Event) : OR :=
  f9_x B call n [] (kEnd AXE 0 f9_r) ⟨[(0, .agg a0.cells)], []⟩
def f9_T28 (call : CallF) (n : Nat) (x0 : LB) (x1 : Bool) : OR :=
  some (.tup [.one (.str x0), .one (.bool x1)], [])
theorem f9_o28 (call : CallF) (n : Nat) (B : Code) (hB : B = f9_b) : f9_P28 B call n = f9_T28 call n := by
  subst hB; funext x0 x1; kernel_rfl
theorem f9_l28 (call : CallF) (n : Nat) : f9_P28 f9_b call n = f9_T28 call n :=
  f9_o28 call n _ (by kernel_rfl)
def f9_L28 (call : CallF) (n : Nat) : LB → Bool → OR :=
  f9_T28 call n
theorem f9_e28 (call : CallF) (n : Nat) : f9_P28 f9_b call n = f9_L28 call n := by
  rw [f9_l28]; rfl
def f9_T47 (call : CallF) (n : Nat) (x0 : LB) (x1 : Bool) : OR :=
  some (.tup [.one (.str x0), .one (.bool x1)], [])
theorem f9_o47 (call : CallF) (n : Nat) (B : Code) (hB : B = f9_b) : f9_P47 B call n = f9_T47 call n := by
  subst hB; funext x0 x1; kernel_rfl
theorem f9_l47 (call : CallF) (n : Nat) : f9_P47 f9_b call n = f9_T47 call n :=
  f9_o47 call n _ (by kernel_rfl)
def f9_L47 (call : CallF) (n : Nat) : LB → Bool → OR :=
  f9_T47 call n
theorem f9_e47 (call : CallF) (n : Nat) : f9_P47 f9_b call n = f9_L47 call n := by
  rw [f9_l47]; rfl
def f9_T44 (call : CallF) (n : Nat) (j47 : LB → Bool → OR) (x0 : LB) (x1 : Bool) : OR :=
  bif x1 then (
    j47 ([] : List UInt8) false) else (
    some (.tup [.one (.str x0), .one (.bool true)], []))
theorem f9_o44 (X0 : Code) (call : CallF) (n : Nat) (B : Code) (hB : B = (hole f9_b [1, 1, 1, 1, 1, 0, 1, 0, 1] X0)) : f9_P44 B call n = f9_T44 call n (f9_P47 B call n) := by
  subst hB; funext x0 x1; cases x1 <;> kernel_rfl
theorem f9_l44 (call : CallF) (n : Nat) : f9_P44 f9_b call n = f9_T44 call n (f9_P47 f9_b call n) :=
  f9_o44 (piece [1, 1, 1, 1, 1, 0, 1, 0, 1] f9_b) call n _ (by kernel_rfl)
def f9_L44 (call : CallF) (n : Nat) : LB → Bool → OR :=
  f9_T44 call n (f9_L47 call n)
theorem f9_e44 (call : CallF) (n : Nat) : f9_P44 f9_b call n = f9_L44 call n := by
  rw [f9_l44, f9_e47]; rfl
def f9_T41 (call : CallF) (n : Nat) (j44 : LB → Bool → OR) (x0 : LB) (x1 : S_api_Event) (x2 : S_ref31_Got) : OR :=
  bif (x2.fErr != (0 : Int)) then (
    j44 x0 true) else (
    callK call 12 [.agg x2.fE.cells, .agg x1.cells] fun v1 =>
    oB v1 fun b2 =>
    j44 x0 (!b2))
theorem f9_o41 (X0 : Code) (call : CallF) (n : Nat) (B : Code) (hB : B = (hole f9_b [1, 1, 1, 1, 1, 0, 1] X0)) : f9_P41 B call n = f9_T41 call n (f9_P44 B call n) := by
  subst hB; funext x0 x1 x2; kernel_rfl
theorem f9_l41 (call : CallF) (n : Nat) : f9_P41 f9_b call n = f9_T41 call n (f9_P44 f9_b call n) :=
  f9_o41 (piece [1, 1, 1, 1, 1, 0, 1] f9_b) call n _ (by kernel_rfl)
def f9_L41 (call : CallF) (n : Nat) : LB → S_api_Event → S_ref31_Got → OR :=
  f9_T41 call n (f9_L44 call n)
theorem f9_e41 (call : CallF) (n : Nat) : f9_P41 f9_b call n = f9_L41 call n := by
  rw [f9_l41, f9_e44]; rfl
def f9_T29 (call : CallF) (n : Nat) (j41 : LB → S_api_Event → S_ref31_Got → OR) (x0 : LB) (x1 : S_api_Event) : OR :=
  callK call 28 [.one (.str x0)] fun v1 =>
  castAgg v1 fun r2 =>
  takeS_ref31_Got r2 fun w3 r4 =>
  nilK r4 (
    j41 x0 x1 w3)
theorem f9_o29 (X0 : Code) (call : CallF) (n : Nat) (B : Code) (hB : B = (hole f9_b [1, 1, 1, 1, 1] X0)) : f9_P29 B call n = f9_T29 call n (f9_P41 B call n) := by
  subst hB; funext x0 x1; kernel_rfl
theorem f9_l29 (call : CallF) (n : Nat) : f9_P29 f9_b call n = f9_T29 call n (f9_P41 f9_b call n) :=
  f9_o29 (piece [1, 1, 1, 1, 1] f9_b) call n _ (by kernel_rfl)
def f9_L29 (call : CallF) (n : Nat) : LB → S_api_Event → OR :=
  f9_T29 call n (f9_L41 call n)
theorem f9_e29 (call : CallF) (n : Nat) : f9_P29 f9_b call n = f9_L29 call n := by
  rw [f9_l29, f9_e41]; rfl
def f9_T42 (call : CallF) (n : Nat) (j41 : LB → S_api_Event → S_ref31_Got → OR) (x0 : LB) (x1 : Int) (x2 : S_api_Event) : OR :=
  callK call 28 [.one (.str x0)] fun v1 =>
  castAgg v1 fun r2 =>
  takeS_ref31_Got r2 fun w3 r4 =>
  nilK r4 (
    j41 x0 x2 w3)
theorem f9_o42 (X0 : Code) (call : CallF) (n : Nat) (B : Code) (hB : B = (hole f9_b [1, 1, 1, 1, 1] X0)) : f9_P42 B call n = f9_T42 call n (f9_P41 B call n) := by
  subst hB; funext x0 x1 x2; kernel_rfl
theorem f9_l42 (call : CallF) (n : Nat) : f9_P42 f9_b call n = f9_T42 call n (f9_P41 f9_b call n) :=
  f9_o42 (piece [1, 1, 1, 1, 1] f9_b) call n _ (by kernel_rfl)
def f9_L42 (call : CallF) (n : Nat) : LB → Int → S_api_Event → OR :=
  f9_T42 call n (f9_L41 call n)
theorem f9_e42 (call : CallF) (n : Nat) : f9_P42 f9_b call n = f9_L42 call n := by
  rw [f9_l42, f9_e41]; rfl
def f9_T30 (call : CallF) (n : Nat) (j30m : LB → Int → S_api_Event → OR) (j42 : LB → Int → S_api_Event → OR) (x0 : LB) (x1 : Int) (x2 : S_api_Event) : OR :=
  bif (decide (x1 < (((x2.fTo).length / 1 : Nat) : Int))) then (
    bif decide ((x0).length + (([32] : List UInt8)).length ≤ strLim) then (
      itemK x2.fTo x1 fun c1 =>
      castS c1 fun s2 =>
      bif decide (((x0 ++ ([32] : List UInt8))).length + (s2).length ≤ strLim) then (
        j30m ((x0 ++ ([32] : List UInt8)) ++ s2) (IntKind.wrap .i64 (x1 + (1 : Int))) x2) else none) else none) else (
    j42 x0 x1 x2)
theorem f9_o30 (X0 : Code) (call : CallF) (n : Nat) (m0 : Nat) (B : Code) (hB : B = (hole f9_b [1, 1, 1, 1] X0)) : f9_P30 B call n (m0 + 1) = f9_T30 call n (f9_P30 B call n m0) (f9_P42 B call n) := by
  subst hB; funext x0 x1 x2; kernel_rfl
theorem f9_l30 (call : CallF) (n : Nat) (m0 : Nat) : f9_P30 f9_b call n (m0 + 1) = f9_T30 call n (f9_P30 f9_b call n m0) (f9_P42 f9_b call n) :=
  f9_o30 (piece [1, 1, 1, 1] f9_b) call n m0 _ (by kernel_rfl)
def f9_L30 (call : CallF) (n : Nat) : Nat → LB → Int → S_api_Event → OR
  | 0 => fun _ _ _ => none
  | m0 + 1 => f9_T30 call n (f9_L30 call n m0) (f9_L42 call n)
theorem f9_e30 (call : CallF) (n : Nat) : ∀ m0 : Nat, f9_P30 f9_b call n m0 = f9_L30 call n m0
  | 0 => by funext x0 x1 x2; kernel_rfl
  | m0 + 1 => by rw [f9_l30, f9_e42, f9_e30 call n m0]; rfl
def f9_T43 (call : CallF) (n : Nat) (j41 : LB → S_api_Event → S_ref31_Got → OR) (x0 : LB) (x1 : Int) (x2 : S_api_Event) : OR :=
  callK call 28 [.one (.str x0)] fun v1 =>
  castAgg v1 fun r2 =>
  takeS_ref31_Got r2 fun w3 r4 =>
  nilK r4 (
    j41 x0 x2 w3)
theorem f9_o43 (X0 : Code) (call : CallF) (n : Nat) (B : Code) (hB : B = (hole f9_b [1, 1, 1, 1, 1] X0)) : f9_P43 B call n = f9_T43 call n (f9_P41 B call n) := by
  subst hB; funext x0 x1 x2; kernel_rfl
theorem f9_l43 (call : CallF) (n : Nat) : f9_P43 f9_b call n = f9_T43 call n (f9_P41 f9_b call n) :=
  f9_o43 (piece [1, 1, 1, 1, 1] f9_b) call n _ (by kernel_rfl)
def f9_L43 (call : CallF) (n : Nat) : LB → Int → S_api_Event → OR :=
  f9_T43 call n (f9_L41 call n)
theorem f9_e43 (call : CallF) (n : Nat) : f9_P43 f9_b call n = f9_L43 call n := by
  rw [f9_l43, f9_e41]; rfl
def f9_T34 (call : CallF) (n : Nat) (j34m : LB → Int → S_api_Event → OR) (j43 : LB → Int → S_api_Event → OR) (x0 : LB) (x1 : Int) (x2 : S_api_Event) : OR :=
  bif (decide (x1 < (((x2.fKeep).length / 1 : Nat) : Int))) then (
    itemK x2.fKeep x1 fun c1 =>
    castI .i64 c1 fun n2 =>
    callK call 23 [.one (.int .i64 n2)] fun v3 =>
    oB v3 fun b4 =>
    bif (!b4) then (
      some (.tup [.one (.str ([] : List UInt8)), .one (.bool false)], [])) else (
      bif decide ((x0).length + (([32] : List UInt8)).length ≤ strLim) then (
        itemK x2.fKeep x1 fun c5 =>
        castI .i64 c5 fun n6 =>
        callK call 25 [.one (.int .i64 n6)] fun v7 =>
        oS v7 fun s8 =>
        bif decide (((x0 ++ ([32] : List UInt8))).length + (s8).length ≤ strLim) then (
          j34m ((x0 ++ ([32] : List UInt8)) ++ s8) (IntKind.wrap .i64 (x1 + (1 : Int))) x2) else none) else none)) else (
    j43 x0 x1 x2)
theorem f9_o34 (X0 : Code) (call : CallF) (n : Nat) (m0 : Nat) (B : Code) (hB : B = (hole f9_b [1, 1, 1, 1] X0)) : f9_P34 B call n (m0 + 1) = f9_T34 call n (f9_P34 B call n m0) (f9_P43 B call n) := by
  subst hB; funext x0 x1 x2; kernel_rfl
theorem f9_l34 (call : CallF) (n : Nat) (m0 : Nat) : f9_P34 f9_b call n (m0 + 1) = f9_T34 call n (f9_P34 f9_b call n m0) (f9_P43 f9_b call n) :=
  f9_o34 (piece [1, 1, 1, 1] f9_b) call n m0 _ (by kernel_rfl)
def f9_L34 (call : CallF) (n : Nat) : Nat → LB → Int → S_api_Event → OR
  | 0 => fun _ _ _ => none
  | m0 + 1 => f9_T34 call n (f9_L34 call n m0) (f9_L43 call n)
theorem f9_e34 (call : CallF) (n : Nat) : ∀ m0 : Nat, f9_P34 f9_b call n m0 = f9_L34 call n m0
  | 0 => by funext x0 x1 x2; kernel_rfl
  | m0 + 1 => by rw [f9_l34, f9_e43, f9_e34 call n m0]; rfl
def f9_T1 (call : CallF) (n : Nat) (j28 : LB → Bool → OR) (j29 : LB → S_api_Event → OR) (j30n : LB → Int → S_api_Event → OR) (j34n : LB → Int → S_api_Event → OR) (x0 : Bool) (x1 : S_api_Event) : OR :=
  bif x0 then (
    j28 ([] : List UInt8) false) else (
    callK call 24 [.one (.int .i64 x1.fKind)] fun v1 =>
    oS v1 fun s2 =>
    bif (x1.fKind == (1 : Int)) then (
      bif decide ((s2).length + (([32] : List UInt8)).length ≤ strLim) then (
        callK call 25 [.one (.int .i64 x1.fSlot)] fun v3 =>
        oS v3 fun s4 =>
        bif decide (((s2 ++ ([32] : List UInt8))).length + (s4).length ≤ strLim) then (
          bif decide ((((s2 ++ ([32] : List UInt8)) ++ s4)).length + (([32, 115, 109, 116, 112] : List UInt8)).length ≤ strLim) then (
            bif x1.fLmtp then (
              callK call 24 [.one (.int .i64 (1 : Int))] fun v5 =>
              oS v5 fun s6 =>
              bif decide ((s6).length + (([32] : List UInt8)).length ≤ strLim) then (
                callK call 25 [.one (.int .i64 x1.fSlot)] fun v7 =>
                oS v7 fun s8 =>
                bif decide (((s6 ++ ([32] : List UInt8))).length + (s8).length ≤ strLim) then (
                  bif decide ((((s6 ++ ([32] : List UInt8)) ++ s8)).length + (([32, 108, 109, 116, 112] : List UInt8)).length ≤ strLim) then (
                    j29 (((s6 ++ ([32] : List UInt8)) ++ s8) ++ ([32, 108, 109, 116, 112] : List UInt8)) x1) else none) else none) else none) else (
              j29 (((s2 ++ ([32] : List UInt8)) ++ s4) ++ ([32, 115, 109, 116, 112] : List UInt8)) x1)) else none) else none) else none) else (
      bif (x1.fKind == (2 : Int)) then (
        bif decide ((s2).length + (([32] : List UInt8)).length ≤ strLim) then (
          callK call 25 [.one (.int .i64 x1.fSlot)] fun v9 =>
          oS v9 fun s10 =>
          bif decide (((s2 ++ ([32] : List UInt8))).length + (s10).length ≤ strLim) then (
            bif decide ((((s2 ++ ([32] : List UInt8)) ++ s10)).length + (([32] : List UInt8)).length ≤ strLim) then (
              callK call 26 [.one (.sl none 1 x1.fData)] fun v11 =>
              oS v11 fun s12 =>
              bif decide (((((s2 ++ ([32] : List UInt8)) ++ s10) ++ ([32] : List UInt8))).length + (s12).length ≤ strLim) then (
                j29 ((((s2 ++ ([32] : List UInt8)) ++ s10) ++ ([32] : List UInt8)) ++ s12) x1) else none) else none) else none) else none) else (
        bif (x1.fKind == (3 : Int)) then (
          bif decide ((s2).length + (([32] : List UInt8)).length ≤ strLim) then (
            callK call 25 [.one (.int .i64 x1.fSlot)] fun v13 =>
            oS v13 fun s14 =>
            bif decide (((s2 ++ ([32] : List UInt8))).length + (s14).length ≤ strLim) then (
              j29 ((s2 ++ ([32] : List UInt8)) ++ s14) x1) else none) else none) else (
          bif (x1.fKind == (4 : Int)) then (
            bif decide ((s2).length + (([32] : List UInt8)).length ≤ strLim) then (
              callK call 25 [.one (.int .i64 x1.fN)] fun v15 =>
              oS v15 fun s16 =>
              bif decide (((s2 ++ ([32] : List UInt8))).length + (s16).length ≤ strLim) then (
                j29 ((s2 ++ ([32] : List UInt8)) ++ s16) x1) else none) else none) else (
            bif (x1.fKind == (15 : Int)) then (
              bif decide ((s2).length + (([32] : List UInt8)).length ≤ strLim) then (
                callK call 25 [.one (.int .i64 x1.fN)] fun v17 =>
                oS v17 fun s18 =>
                bif decide (((s2 ++ ([32] : List UInt8))).length + (s18).length ≤ strLim) then (
                  j29 ((s2 ++ ([32] : List UInt8)) ++ s18) x1) else none) else none) else (
              bif (x1.fKind == (6 : Int)) then (
                bif decide ((s2).length + (([32] : List UInt8)).length ≤ strLim) then (
                  callK call 27 [.one (.str x1.fName)] fun v19 =>
                  oS v19 fun s20 =>
                  bif decide (((s2 ++ ([32] : List UInt8))).length + (s20).length ≤ strLim) then (
                    bif decide ((((s2 ++ ([32] : List UInt8)) ++ s20)).length + (([32] : List UInt8)).length ≤ strLim) then (
                      callK call 25 [.one (.int .i64 x1.fLimit_Bytes)] fun v21 =>
                      oS v21 fun s22 =>
                      bif decide (((((s2 ++ ([32] : List UInt8)) ++ s20) ++ ([32] : List UInt8))).length + (s22).length ≤ strLim) then (
                        bif decide ((((((s2 ++ ([32] : List UInt8)) ++ s20) ++ ([32] : List UInt8)) ++ s22)).length + (([32] : List UInt8)).length ≤ strLim) then (
                          callK call 25 [.one (.int .i64 x1.fLimit_Count)] fun v23 =>
                          oS v23 fun s24 =>
                          bif decide (((((((s2 ++ ([32] : List UInt8)) ++ s20) ++ ([32] : List UInt8)) ++ s22) ++ ([32] : List UInt8))).length + (s24).length ≤ strLim) then (
                            j29 ((((((s2 ++ ([32] : List UInt8)) ++ s20) ++ ([32] : List UInt8)) ++ s22) ++ ([32] : List UInt8)) ++ s24) x1) else none) else none) else none) else none) else none) else none) else (
                bif (x1.fKind == (7 : Int)) then (
                  bif decide ((s2).length + (([32] : List UInt8)).length ≤ strLim) then (
                    callK call 27 [.one (.str x1.fName)] fun v25 =>
                    oS v25 fun s26 =>
                    bif decide (((s2 ++ ([32] : List UInt8))).length + (s26).length ≤ strLim) then (
                      bif decide ((((s2 ++ ([32] : List UInt8)) ++ s26)).length + (([32] : List UInt8)).length ≤ strLim) then (
                        callK call 25 [.one (.int .i64 x1.fLimit_Bytes)] fun v27 =>
                        oS v27 fun s28 =>
                        bif decide (((((s2 ++ ([32] : List UInt8)) ++ s26) ++ ([32] : List UInt8))).length + (s28).length ≤ strLim) then (
                          bif decide ((((((s2 ++ ([32] : List UInt8)) ++ s26) ++ ([32] : List UInt8)) ++ s28)).length + (([32] : List UInt8)).length ≤ strLim) then (
                            callK call 25 [.one (.int .i64 x1.fLimit_Count)] fun v29 =>
                            oS v29 fun s30 =>
                            bif decide (((((((s2 ++ ([32] : List UInt8)) ++ s26) ++ ([32] : List UInt8)) ++ s28) ++ ([32] : List UInt8))).length + (s30).length ≤ strLim) then (
                              j29 ((((((s2 ++ ([32] : List UInt8)) ++ s26) ++ ([32] : List UInt8)) ++ s28) ++ ([32] : List UInt8)) ++ s30) x1) else none) else none) else none) else none) else none) else none) else (
                  bif (x1.fKind == (8 : Int)) then (
                    bif decide ((s2).length + (([32] : List UInt8)).length ≤ strLim) then (
                      callK call 27 [.one (.str x1.fName)] fun v31 =>
                      oS v31 fun s32 =>
                      bif decide (((s2 ++ ([32] : List UInt8))).length + (s32).length ≤ strLim) then (
                        j30n ((s2 ++ ([32] : List UInt8)) ++ s32) (0 : Int) x1) else none) else none) else (
                    bif (x1.fKind == (9 : Int)) then (
                      bif decide ((s2).length + (([32] : List UInt8)).length ≤ strLim) then (
                        callK call 27 [.one (.str x1.fName)] fun v33 =>
                        oS v33 fun s34 =>
                        bif decide (((s2 ++ ([32] : List UInt8))).length + (s34).length ≤ strLim) then (
                          j29 ((s2 ++ ([32] : List UInt8)) ++ s34) x1) else none) else none) else (
                      bif (x1.fKind == (12 : Int)) then (
                        bif decide ((s2).length + (([32] : List UInt8)).length ≤ strLim) then (
                          callK call 27 [.one (.str x1.fName)] fun v35 =>
                          oS v35 fun s36 =>
                          bif decide (((s2 ++ ([32] : List UInt8))).length + (s36).length ≤ strLim) then (
                            j29 ((s2 ++ ([32] : List UInt8)) ++ s36) x1) else none) else none) else (
                        bif (x1.fKind == (10 : Int)) then (
                          bif decide ((s2).length + (([32] : List UInt8)).length ≤ strLim) then (
                            callK call 27 [.one (.str x1.fName)] fun v37 =>
                            oS v37 fun s38 =>
                            bif decide (((s2 ++ ([32] : List UInt8))).length + (s38).length ≤ strLim) then (
                              bif decide ((((s2 ++ ([32] : List UInt8)) ++ s38)).length + (([32] : List UInt8)).length ≤ strLim) then (
                                callK call 25 [.one (.int .i64 x1.fN)] fun v39 =>
                                oS v39 fun s40 =>
                                bif decide (((((s2 ++ ([32] : List UInt8)) ++ s38) ++ ([32] : List UInt8))).length + (s40).length ≤ strLim) then (
                                  j29 ((((s2 ++ ([32] : List UInt8)) ++ s38) ++ ([32] : List UInt8)) ++ s40) x1) else none) else none) else none) else none) else (
                          bif (x1.fKind == (11 : Int)) then (
                            bif decide ((s2).length + (([32] : List UInt8)).length ≤ strLim) then (
                              callK call 27 [.one (.str x1.fName)] fun v41 =>
                              oS v41 fun s42 =>
                              bif decide (((s2 ++ ([32] : List UInt8))).length + (s42).length ≤ strLim) then (
                                bif decide ((((s2 ++ ([32] : List UInt8)) ++ s42)).length + (([32] : List UInt8)).length ≤ strLim) then (
                                  callK call 25 [.one (.int .i64 x1.fN)] fun v43 =>
                                  oS v43 fun s44 =>
                                  bif decide (((((s2 ++ ([32] : List UInt8)) ++ s42) ++ ([32] : List UInt8))).length + (s44).length ≤ strLim) then (
                                    bif decide ((((((s2 ++ ([32] : List UInt8)) ++ s42) ++ ([32] : List UInt8)) ++ s44)).length + (([32] : List UInt8)).length ≤ strLim) then (
                                      callK call 25 [.one (.int .i64 x1.fK)] fun v45 =>
                                      oS v45 fun s46 =>
                                      bif decide (((((((s2 ++ ([32] : List UInt8)) ++ s42) ++ ([32] : List UInt8)) ++ s44) ++ ([32] : List UInt8))).length + (s46).length ≤ strLim) then (
                                        j29 ((((((s2 ++ ([32] : List UInt8)) ++ s42) ++ ([32] : List UInt8)) ++ s44) ++ ([32] : List UInt8)) ++ s46) x1) else none) else none) else none) else none) else none) else none) else (
                            bif (x1.fKind == (14 : Int)) then (
                              bif decide ((s2).length + (([32] : List UInt8)).length ≤ strLim) then (
                                callK call 25 [.one (.int .i64 x1.fN)] fun v47 =>
                                oS v47 fun s48 =>
                                bif decide (((s2 ++ ([32] : List UInt8))).length + (s48).length ≤ strLim) then (
                                  bif decide ((((s2 ++ ([32] : List UInt8)) ++ s48)).length + (([32] : List UInt8)).length ≤ strLim) then (
                                    callK call 25 [.one (.int .i64 x1.fCode)] fun v49 =>
                                    oS v49 fun s50 =>
                                    bif decide (((((s2 ++ ([32] : List UInt8)) ++ s48) ++ ([32] : List UInt8))).length + (s50).length ≤ strLim) then (
                                      j29 ((((s2 ++ ([32] : List UInt8)) ++ s48) ++ ([32] : List UInt8)) ++ s50) x1) else none) else none) else none) else none) else (
                              bif (x1.fKind == (16 : Int)) then (
                                bif decide ((s2).length + (([32] : List UInt8)).length ≤ strLim) then (
                                  callK call 25 [.one (.int .i64 x1.fN)] fun v51 =>
                                  oS v51 fun s52 =>
                                  bif decide (((s2 ++ ([32] : List UInt8))).length + (s52).length ≤ strLim) then (
                                    j34n ((s2 ++ ([32] : List UInt8)) ++ s52) (0 : Int) x1) else none) else none) else (
                                j29 s2 x1)))))))))))))))
theorem f9_o1 (X0 X1 : Code) (call : CallF) (n : Nat) (B : Code) (hB : B = (hole (hole f9_b [1, 0, 1, 0, 1] X0) [1, 1, 1, 1] X1)) : f9_P1 B call n = f9_T1 call n (f9_P28 B call n) (f9_P29 B call n) (f9_P30 B call n n) (f9_P34 B call n n) := by
  subst hB; funext x0 x1; cases x0 <;> kernel_rfl
theorem f9_l1 (call : CallF) (n : Nat) : f9_P1 f9_b call n = f9_T1 call n (f9_P28 f9_b call n) (f9_P29 f9_b call n) (f9_P30 f9_b call n n) (f9_P34 f9_b call n n) :=
  f9_o1 (piece [1, 0, 1, 0, 1] f9_b) (piece [1, 1, 1, 1] f9_b) call n _ (by kernel_rfl)
def f9_L1 (call : CallF) (n : Nat) : Bool → S_api_Event → OR :=
  f9_T1 call n (f9_L28 call n) (f9_L29 call n) (f9_L30 call n n) (f9_L34 call n n)
theorem f9_e1 (call : CallF) (n : Nat) : f9_P1 f9_b call n = f9_L1 call n := by
  rw [f9_l1, f9_e28, f9_e29, f9_e30, f9_e34]; rfl
/-- pigeonhole/pigeonholeref31.Line -/
def f9_T (call : CallF) (n : Nat) (j1 : Bool → S_api_Event → OR) (a0 : S_api_Event) : OR :=
  bif (decide (a0.fKind < (1 : Int))) then (
    j1 true a0) else (
    bif (decide (a0.fKind > (17 : Int))) then (
      j1 true a0) else (
      callK call 23 [.one (.int .i64 a0.fN)] fun v85 =>
      oB v85 fun b86 =>
      bif (!b86) then (
        j1 true a0) else (
        callK call 23 [.one (.int .i64 a0.fK)] fun v87 =>
        oB v87 fun b88 =>
        bif (!b88) then (
          j1 true a0) else (
          callK call 23 [.one (.int .i64 a0.fLimit_Bytes)] fun v89 =>
          oB v89 fun b90 =>
          bif (!b90) then (
            j1 true a0) else (
            callK call 23 [.one (.int .i64 a0.fLimit_Count)] fun v91 =>
            oB v91 fun b92 =>
            bif (!b92) then (
              j1 true a0) else (
              bif (decide (a0.fCode < (0 : Int))) then (
                j1 true a0) else (
                bif (decide (a0.fCode > (17 : Int))) then (
                  j1 true a0) else (
                  bif (decide (a0.fSlot < (0 : Int))) then (
                    j1 true a0) else (
                    j1 (decide (a0.fSlot > (7 : Int))) a0)))))))))
def f9_L (call : CallF) (n : Nat) (a0 : S_api_Event) : OR :=
  f9_T call n (f9_L1 call n) a0
theorem f9_o (X0 : Code) (call : CallF) (n : Nat) (B : Code) (hB : B = (hole f9_b [1, 0, 1] X0)) : f9_P B call n = f9_T call n (f9_P1 B call n) := by
  subst hB; funext a0; kernel_rfl
theorem f9_l (call : CallF) (n : Nat) : f9_P f9_b call n = f9_T call n (f9_P1 f9_b call n) :=
  f9_o (piece [1, 0, 1] f9_b) call n _ (by kernel_rfl)
theorem f9_e (call : CallF) (n : Nat) : f9_P f9_b call n = f9_L call n := by
  rw [f9_l, f9_e1]; rfl
theorem f9_eq (n : Nat) (a0 : S_api_Event) : acall AXE AXF (n + 1) 9 [.agg a0.cells] [] = f9_L (acall AXE AXF n) (n + 1) a0 :=
  (show _ = f9_P f9_b (acall AXE AXF n) (n + 1) a0 by kernel_rfl).trans (by rw [f9_e])
def f10_P (B : Code) (call : CallF) (n : Nat) (a0 : S_api_Event) : OR :=
  f10_x B call n [] (kEnd AXE 0 f10_r) ⟨[(0, .agg a0.cells)], []⟩
/-- pigeonhole/script.Check -/
def f10_T (call : CallF) (n : Nat) (a0 : S_api_Event) : OR :=
  callK call 8 [.agg a0.cells] fun v7 =>
  castTup v7 fun v8 =>
  zS v8 fun s9 r10 =>
  zB r10 fun b11 r12 =>
  nilK r12 (
    some (.one (.bool b11), []))
def f10_L (call : CallF) (n : Nat) (a0 : S_api_Event) : OR :=
  f10_T call n a0
theorem f10_o (call : CallF) (n : Nat) (B : Code) (hB : B = f10_b) : f10_P B call n = f10_T call n := by
  subst hB; funext a0; kernel_rfl
theorem f10_l (call : CallF) (n : Nat) : f10_P f10_b call n = f10_T call n :=
  f10_o call n _ (by kernel_rfl)
theorem f10_e (call : CallF) (n : Nat) : f10_P f10_b call n = f10_L call n := by
  rw [f10_l]; rfl
theorem f10_eq (n : Nat) (a0 : S_api_Event) : acall AXE AXF (n + 1) 10 [.agg a0.cells] [] = f10_L (acall AXE AXF n) (n + 1) a0 :=
  (show _ = f10_P f10_b (acall AXE AXF n) (n + 1) a0 by kernel_rfl).trans (by rw [f10_e])
def f11_P17 (B : Code) (call : CallF) (n : Nat) (m0 : Nat) (x0 x1 : LB) (x2 : Bool) (x3 : LC) (x4 x5 : Int) (x6 x7 : S_api_Event) : OR :=
  f11_x B call n [1, 1, 1, 0, 1, 0, 0, 1, 1, 1] (kSeq (fun k => prK 1000004 (pruneAt f11_h 1000004) (aloop 1000004 (pruneAt f11_h 1000004) (f11_x B call n [1, 1, 1, 0, 1, 0, 0]) k m0)) (kBlk 0 (kSeq (f11_x B call n [1, 1, 1, 1]) (kEnd AXE 0 f11_r)))) ⟨[(2, .one (.ptr 0 0)), (4, .one (.str x0)), (5, .one (.str x1)), (6, .one (.bool x2)), (7, .one (.ptr 1 0)), (16, .one (.sl none 1 x3)), (17, .one (.int .i64 x4)), (18, .one (.int .i64 x5))], [[.int .i64 x6.fKind, .int .i64 x6.fSlot, .int .i64 x6.fN, .int .i64 x6.fK, .bool x6.fLmtp, .str x6.fName, .int .i64 x6.fLimit_Bytes, .int .i64 x6.fLimit_Count, .sl (some ⟨1000000, 8, 9⟩) 1 x6.fTo, .sl (some ⟨1000000, 9, 5⟩) 1 x6.fData, .int .i64 x6.fCode, .sl (some ⟨1000000, 11, 3⟩) 1 x6.fKeep], [.int .i64 x7.fKind, .int .i64 x7.fSlot, .int .i64 x7.fN, .int .i64 x7.fK, .bool x7.fLmtp, .str x7.fName, .int .i64 x7.fLimit_Bytes, .int .i64 x7.fLimit_Count, .sl (some ⟨1000001, 8, 9⟩) 1 x7.fTo, .sl (some ⟨1000001, 9, 5⟩) 1 x7.fData, .int .i64 x7.fCode, .sl (some ⟨1000001, 11, 3⟩) 1 x7.fKeep]]⟩
def f11_P18 (B : Code) (call : CallF) (n : Nat) (m0 : Nat) (x0 x1 : LB) (x2 : Bool) (x3 : Int) (x4 : LC) (x5 x6 : Int) (x7 x8 : S_api_Event) : OR :=
  f11_x B call n [1, 1, 1, 0, 1, 0, 0, 1, 1, 1] (kSeq (fun k => prK 1000004 (pruneAt f11_h 1000004) (aloop 1000004 (pruneAt f11_h 1000004) (f11_x B call n [1, 1, 1, 0, 1, 0, 0]) k m0)) (kBlk 0 (kSeq (f11_x B call n [1, 1, 1, 1]) (kEnd AXE 0 f11_r)))) ⟨[(2, .one (.ptr 0 0)), (4, .one (.str x0)), (5, .one (.str x1)), (6, .one (.bool x2)), (7, .one (.ptr 1 0)), (8, .one (.int .i64 x3)), (16, .one (.sl none 1 x4)), (17, .one (.int .i64 x5)), (18, .one (.int .i64 x6))], [[.int .i64 x7.fKind, .int .i64 x7.fSlot, .int .i64 x7.fN, .int .i64 x7.fK, .bool x7.fLmtp, .str x7.fName, .int .i64 x7.fLimit_Bytes, .int .i64 x7.fLimit_Count, .sl (some ⟨1000000, 8, 9⟩) 1 x7.fTo, .sl (some ⟨1000000, 9, 5⟩) 1 x7.fData, .int .i64 x7.fCode, .sl (some ⟨1000000, 11, 3⟩) 1 x7.fKeep], [.int .i64 x8.fKind, .int .i64 x8.fSlot, .int .i64 x8.fN, .int .i64 x8.fK, .bool x8.fLmtp, .str x8.fName, .int .i64 x8.fLimit_Bytes, .int .i64 x8.fLimit_Count, .sl (some ⟨1000001, 8, 9⟩) 1 x8.fTo, .sl (some ⟨1000001, 9, 5⟩) 1 x8.fData, .int .i64 x8.fCode, .sl (some ⟨1000001, 11, 3⟩) 1 x8.fKeep]]⟩
def f11_P16 (B : Code) (call : CallF) (n : Nat) (m0 : Nat) (x0 x1 : LB) (x2 : Bool) (x3 : Int) (x4 : LC) (x5 x6 : Int) (x7 : Bool) (x8 x9 : S_api_Event) : OR :=
  f11_x B call n [1, 1, 1, 0, 1, 0, 0, 1, 1, 0, 0, 1, 1] (kBlk 1 (kSeq (f11_x B call n [1, 1, 1, 0, 1, 0, 0, 1, 1, 1]) (kSeq (fun k => prK 1000004 (pruneAt f11_h 1000004) (aloop 1000004 (pruneAt f11_h 1000004) (f11_x B call n [1, 1, 1, 0, 1, 0, 0]) k m0)) (kBlk 0 (kSeq (f11_x B call n [1, 1, 1, 1]) (kEnd AXE 0 f11_r)))))) ⟨[(2, .one (.ptr 0 0)), (4, .one (.str x0)), (5, .one (.str x1)), (6, .one (.bool x2)), (7, .one (.ptr 1 0)), (8, .one (.int .i64 x3)), (16, .one (.sl none 1 x4)), (17, .one (.int .i64 x5)), (18, .one (.int .i64 x6)), (29, .one (.bool x7))], [[.int .i64 x8.fKind, .int .i64 x8.fSlot, .int .i64 x8.fN, .int .i64 x8.fK, .bool x8.fLmtp, .str x8.fName, .int .i64 x8.fLimit_Bytes, .int .i64 x8.fLimit_Count, .sl (some ⟨1000000, 8, 9⟩) 1 x8.fTo, .sl (some ⟨1000000, 9, 5⟩) 1 x8.fData, .int .i64 x8.fCode, .sl (some ⟨1000000, 11, 3⟩) 1 x8.fKeep], [.int .i64 x9.fKind, .int .i64 x9.fSlot, .int .i64 x9.fN, .int .i64 x9.fK, .bool x9.fLmtp, .str x9.fName, .int .i64 x9.fLimit_Bytes, .int .i64 x9.fLimit_Count, .sl (some ⟨1000001, 8, 9⟩) 1 x9.fTo, .sl (some ⟨1000001, 9, 5⟩) 1 x9.fData, .int .i64 x9.fCode, .sl (some ⟨1000001, 11, 3⟩) 1 x9.fKeep]]⟩
def f11_P4 (B : Code) (call : CallF) (n : Nat) (m0 : Nat) (x0 x1 : LB) (x2 : Bool) (x3 : LC) (x4 x5 : Int) (x6 x7 : S_api_Event) : OR :=
  aloop 1000004 (pruneAt f11_h 1000004) (f11_x B call n [1, 1, 1, 0, 1, 0, 0]) (kBlk 0 (kSeq (f11_x B call n [1, 1, 1, 1]) (kEnd AXE 0 f11_r))) m0 ⟨[(2, .one (.ptr 0 0)), (4, .one (.str x0)), (5, .one (.str x1)), (6, .one (.bool x2)), (7, .one (.ptr 1 0)), (16, .one (.sl none 1 x3)), (17, .one (.int .i64 x4)), (18, .one (.int .i64 x5))], [[.int .i64 x6.fKind, .int .i64 x6.fSlot, .int .i64 x6.fN, .int .i64 x6.fK, .bool x6.fLmtp, .str x6.fName, .int .i64 x6.fLimit_Bytes, .int .i64 x6.fLimit_Count, .sl (some ⟨1000000, 8, 9⟩) 1 x6.fTo, .sl (some ⟨1000000, 9, 5⟩) 1 x6.fData, .int .i64 x6.fCode, .sl (some ⟨1000000, 11, 3⟩) 1 x6.fKeep], [.int .i64 x7.fKind, .int .i64 x7.fSlot, .int .i64 x7.fN, .int .i64 x7.fK, .bool x7.fLmtp, .str x7.fName, .int .i64 x7.fLimit_Bytes, .int .i64 x7.fLimit_Count, .sl (some ⟨1000001, 8, 9⟩) 1 x7.fTo, .sl (some ⟨1000001, 9, 5⟩) 1 x7.fData, .int .i64 x7.fCode, .sl (some ⟨1000001, 11, 3⟩) 1 x7.fKeep]]⟩
def f11_P (B : Code) (call : CallF) (n : Nat) (a0 : LB) : OR :=
  f11_x B call n [] (kEnd AXE 0 f11_r) ⟨[(0, .one (.str a0))], []⟩
def f11_T17 (call : CallF) (n : Nat) (j4m : LB → LB → Bool → LC → Int → Int → S_api_Event → S_api_Event → OR) (x0 x1 : LB) (x2 : Bool) (x3 : LC) (x4 x5 : Int) (x6 x7 : S_api_Event) : OR :=
  j4m x0 x1 x2 x3 x4 (IntKind.wrap .i64 (x5 + (1 : Int))) x6 x7
theorem f11_o17 (call : CallF) (n : Nat) (m0 : Nat) (B : Code) (hB : B = f11_b) : f11_P17 B call n m0 = f11_T17 call n (f11_P4 B call n m0) := by
  subst hB; funext x0 x1 x2 x3 x4 x5 x6 x7; kernel_rfl
theorem f11_l17 (call : CallF) (n : Nat) (m0 : Nat) : f11_P17 f11_b call n m0 = f11_T17 call n (f11_P4 f11_b call n m0) :=
  f11_o17 call n m0 _ (by kernel_rfl)
def f11_L17 (call : CallF) (n : Nat) (h_m0 : LB → LB → Bool → LC → Int → Int → S_api_Event → S_api_Event → OR) : LB → LB → Bool → LC → Int → Int → S_api_Event → S_api_Event → OR :=
  f11_T17 call n h_m0
theorem f11_e17 (call : CallF) (n : Nat) (m0 : Nat) : f11_P17 f11_b call n m0 = f11_L17 call n (f11_P4 f11_b call n m0) := by
  rw [f11_l17]; rfl
def f11_T18 (call : CallF) (n : Nat) (j4m : LB → LB → Bool → LC → Int → Int → S_api_Event → S_api_Event → OR) (x0 x1 : LB) (x2 : Bool) (x3 : Int) (x4 : LC) (x5 x6 : Int) (x7 x8 : S_api_Event) : OR :=
  j4m x0 x1 x2 x4 x5 (IntKind.wrap .i64 (x6 + (1 : Int))) x7 x8
theorem f11_o18 (call : CallF) (n : Nat) (m0 : Nat) (B : Code) (hB : B = f11_b) : f11_P18 B call n m0 = f11_T18 call n (f11_P4 B call n m0) := by
  subst hB; funext x0 x1 x2 x3 x4 x5 x6 x7 x8; kernel_rfl
theorem f11_l18 (call : CallF) (n : Nat) (m0 : Nat) : f11_P18 f11_b call n m0 = f11_T18 call n (f11_P4 f11_b call n m0) :=
  f11_o18 call n m0 _ (by kernel_rfl)
def f11_L18 (call : CallF) (n : Nat) (h_m0 : LB → LB → Bool → LC → Int → Int → S_api_Event → S_api_Event → OR) : LB → LB → Bool → Int → LC → Int → Int → S_api_Event → S_api_Event → OR :=
  f11_T18 call n h_m0
theorem f11_e18 (call : CallF) (n : Nat) (m0 : Nat) : f11_P18 f11_b call n m0 = f11_L18 call n (f11_P4 f11_b call n m0) := by
  rw [f11_l18]; rfl
def f11_T16 (call : CallF) (n : Nat) (j17 : LB → LB → Bool → LC → Int → Int → S_api_Event → S_api_Event → OR) (j18 : LB → LB → Bool → Int → LC → Int → Int → S_api_Event → S_api_Event → OR) (x0 x1 : LB) (x2 : Bool) (x3 : Int) (x4 : LC) (x5 x6 : Int) (x7 : Bool) (x8 x9 : S_api_Event) : OR :=
  bif x7 then (
    j17 x0 x1 x2 x4 x5 x6 x8 ({ x9 with fKind := x3 } : S_api_Event)) else (
    j18 x0 x1 x2 x3 x4 x5 x6 x8 x9)
theorem f11_o16 (X0 : Code) (call : CallF) (n : Nat) (m0 : Nat) (B : Code) (hB : B = (hole f11_b [1, 1, 1, 0, 1, 0, 0, 1, 1, 1] X0)) : f11_P16 B call n m0 = f11_T16 call n (f11_P17 B call n m0) (f11_P18 B call n m0) := by
  subst hB; funext x0 x1 x2 x3 x4 x5 x6 x7 x8 x9; cases x7 <;> kernel_rfl
theorem f11_l16 (call : CallF) (n : Nat) (m0 : Nat) : f11_P16 f11_b call n m0 = f11_T16 call n (f11_P17 f11_b call n m0) (f11_P18 f11_b call n m0) :=
  f11_o16 (piece [1, 1, 1, 0, 1, 0, 0, 1, 1, 1] f11_b) call n m0 _ (by kernel_rfl)
def f11_L16 (call : CallF) (n : Nat) (h_m0 : LB → LB → Bool → LC → Int → Int → S_api_Event → S_api_Event → OR) : LB → LB → Bool → Int → LC → Int → Int → Bool → S_api_Event → S_api_Event → OR :=
  f11_T16 call n (f11_L17 call n h_m0) (f11_L18 call n h_m0)
theorem f11_e16 (call : CallF) (n : Nat) (m0 : Nat) : f11_P16 f11_b call n m0 = f11_L16 call n (f11_P4 f11_b call n m0) := by
  rw [f11_l16, f11_e17, f11_e18]; rfl
def f11_T4 (call : CallF) (n : Nat) (j16 : LB → LB → Bool → Int → LC → Int → Int → Bool → S_api_Event → S_api_Event → OR) (x0 x1 : LB) (x2 : Bool) (x3 : LC) (x4 x5 : Int) (x6 x7 : S_api_Event) : OR :=
  bif (decide (x5 < x4)) then (
    itemK x3 x5 fun c1 =>
    castS c1 fun s2 =>
    bif (decide (x5 > (0 : Int))) then (
      j16 x0 x1 x2 x5 x3 x4 x5 (s2 == x0) x6 x7) else (
      j16 x0 x1 x2 x5 x3 x4 x5 false x6 x7)) else (
    bif (x7.fKind == (0 : Int)) then (
      some (.tup [.agg [.int .i64 x7.fKind, .int .i64 x7.fSlot, .int .i64 x7.fN, .int .i64 x7.fK, .bool x7.fLmtp, .str x7.fName, .int .i64 x7.fLimit_Bytes, .int .i64 x7.fLimit_Count, .sl (some ⟨1000000, 8, 9⟩) 1 x7.fTo, .sl (some ⟨1000000, 9, 5⟩) 1 x7.fData, .int .i64 x7.fCode, .sl (some ⟨1000000, 11, 3⟩) 1 x7.fKeep], .one (.int .i64 (15 : Int))], [])) else (
      callRK call 31 [.one (.ptr 0 0), .one (.str x1), .one (.bool x2)] [[.int .i64 x7.fKind, .int .i64 x7.fSlot, .int .i64 x7.fN, .int .i64 x7.fK, .bool x7.fLmtp, .str x7.fName, .int .i64 x7.fLimit_Bytes, .int .i64 x7.fLimit_Count, .sl none 1 x7.fTo, .sl none 1 x7.fData, .int .i64 x7.fCode, .sl (some ⟨1000000, 11, 3⟩) 1 x7.fKeep]] fun v3 h4 =>
      consK h4 fun r5 h6 =>
      consK r5 fun c7 r8 =>
      castI .i64 c7 fun n9 =>
      consK r8 fun c10 r11 =>
      castI .i64 c10 fun n12 =>
      consK r11 fun c13 r14 =>
      castI .i64 c13 fun n15 =>
      consK r14 fun c16 r17 =>
      castI .i64 c16 fun n18 =>
      consK r17 fun c19 r20 =>
      castB c19 fun b21 =>
      consK r20 fun c22 r23 =>
      castS c22 fun s24 =>
      consK r23 fun c25 r26 =>
      castI .i64 c25 fun n27 =>
      consK r26 fun c28 r29 =>
      castI .i64 c28 fun n30 =>
      consK r29 fun c31 r32 =>
      castL 1 c31 fun _ l33 =>
      consK r32 fun c34 r35 =>
      castL 1 c34 fun _ l36 =>
      consK r35 fun c37 r38 =>
      castI .i64 c37 fun n39 =>
      consK r38 fun c40 r41 =>
      castN 3 1 c40 fun l42 =>
      nilK r41 (
        nilK h6 (
          oB v3 fun b43 =>
          bif (!b43) then (
            some (.tup [.agg [.int .i64 (0 : Int), .int .i64 (0 : Int), .int .i64 (0 : Int), .int .i64 (0 : Int), .bool false, .str ([] : List UInt8), .int .i64 (0 : Int), .int .i64 (0 : Int), .sl (some ⟨1000000, 8, 9⟩) 1 ([] : List Cell), .sl (some ⟨1000000, 9, 5⟩) 1 ([] : List Cell), .int .i64 (0 : Int), .sl (some ⟨1000000, 11, 3⟩) 1 ([] : List Cell)], .one (.int .i64 (3 : Int))], [])) else (
            some (.tup [.agg [.int .i64 n9, .int .i64 n12, .int .i64 n15, .int .i64 n18, .bool b21, .str s24, .int .i64 n27, .int .i64 n30, .sl none 1 l33, .sl none 1 l36, .int .i64 n39, .sl (some ⟨1000000, 11, 3⟩) 1 l42], .one (.int .i64 (0 : Int))], []))))))
theorem f11_o4 (X0 : Code) (call : CallF) (n : Nat) (m0 : Nat) (B : Code) (hB : B = (hole f11_b [1, 1, 1, 0, 1, 0, 0, 1, 1, 0, 0, 1, 1] X0)) : f11_P4 B call n (m0 + 1) = f11_T4 call n (f11_P16 B call n m0) := by
  subst hB; funext x0 x1 x2 x3 x4 x5 x6 x7; kernel_rfl
theorem f11_l4 (call : CallF) (n : Nat) (m0 : Nat) : f11_P4 f11_b call n (m0 + 1) = f11_T4 call n (f11_P16 f11_b call n m0) :=
  f11_o4 (piece [1, 1, 1, 0, 1, 0, 0, 1, 1, 0, 0, 1, 1] f11_b) call n m0 _ (by kernel_rfl)
def f11_L4 (call : CallF) (n : Nat) : Nat → LB → LB → Bool → LC → Int → Int → S_api_Event → S_api_Event → OR
  | 0 => fun _ _ _ _ _ _ _ _ => none
  | m0 + 1 => f11_T4 call n (f11_L16 call n (f11_L4 call n m0))
theorem f11_e4 (call : CallF) (n : Nat) : ∀ m0 : Nat, f11_P4 f11_b call n m0 = f11_L4 call n m0
  | 0 => by funext x0 x1 x2 x3 x4 x5 x6 x7; kernel_rfl
  | m0 + 1 => by rw [f11_l4, f11_e16, f11_e4 call n m0]; rfl
/-- pigeonhole/script.Read -/
def f11_T (call : CallF) (n : Nat) (j4n : LB → LB → Bool → LC → Int → Int → S_api_Event → S_api_Event → OR) (a0 : LB) : OR :=
  primK pCut [.one (.str a0), .one (.str ([32] : List UInt8))] fun v54 =>
  castTup v54 fun v55 =>
  zS v55 fun s56 r57 =>
  zS r57 fun s58 r59 =>
  zB r59 fun b60 r61 =>
  nilK r61 (
    callK call 30 [] fun v62 =>
    oL 1 v62 fun l63 =>
    j4n s56 s58 b60 l63 (((l63).length / 1 : Nat) : Int) (0 : Int) (⟨(0 : Int), (0 : Int), (0 : Int), (0 : Int), false, ([] : List UInt8), (0 : Int), (0 : Int), ([] : List Cell), ([] : List Cell), (0 : Int), ([] : List Cell)⟩ : S_api_Event) (⟨(0 : Int), (0 : Int), (0 : Int), (0 : Int), false, ([] : List UInt8), (0 : Int), (0 : Int), ([] : List Cell), ([] : List Cell), (0 : Int), ([] : List Cell)⟩ : S_api_Event))
def f11_L (call : CallF) (n : Nat) (a0 : LB) : OR :=
  f11_T call n (f11_L4 call n n) a0
theorem f11_o (call : CallF) (n : Nat) (B : Code) (hB : B = f11_b) : f11_P B call n = f11_T call n (f11_P4 B call n n) := by
  subst hB; funext a0; kernel_rfl
theorem f11_l (call : CallF) (n : Nat) : f11_P f11_b call n = f11_T call n (f11_P4 f11_b call n n) :=
  f11_o call n _ (by kernel_rfl)
theorem f11_e (call : CallF) (n : Nat) : f11_P f11_b call n = f11_L call n := by
  rw [f11_l, f11_e4]; rfl
theorem f11_eq (n : Nat) (a0 : LB) : acall AXE AXF (n + 1) 11 [.one (.str a0)] [] = f11_L (acall AXE AXF n) (n + 1) a0 :=
  (show _ = f11_P f11_b (acall AXE AXF n) (n + 1) a0 by kernel_rfl).trans (by rw [f11_e])
def f12_P4 (B : Code) (call : CallF) (n : Nat) (x0 : Bool) : OR :=
  f12_x B call n [1, 0, 1, 0, 1] (kSeq (f12_x B call n [1, 1]) (kEnd AXE 0 f12_r)) ⟨[(4, .one (.bool x0))], []⟩
def f12_P5 (B : Code) (call : CallF) (n : Nat) (m0 : Nat) (x0 : Int) (x1 x2 : S_api_Event) : OR :=
  aloop 1000004 (pruneAt f12_h 1000004) (f12_x B call n [1, 1, 0, 1, 0, 0]) (kBlk 0 (kSeq (f12_x B call n [1, 1, 1]) (kEnd AXE 0 f12_r))) m0 ⟨[(2, .one (.ptr 0 0)), (3, .one (.ptr 1 0)), (5, .one (.int .i64 x0))], [x1.cells, x2.cells]⟩
def f12_P1 (B : Code) (call : CallF) (n : Nat) (x0 : Bool) (x1 x2 : S_api_Event) : OR :=
  f12_x B call n [1, 0, 1] (kSeq (f12_x B call n [1, 1]) (kEnd AXE 0 f12_r)) ⟨[(2, .one (.ptr 0 0)), (3, .one (.ptr 1 0)), (77, .one (.bool x0))], [x1.cells, x2.cells]⟩
def f12_P (B : Code) (call : CallF) (n : Nat) (a0 a1 : S_api_Event) : OR :=
  f12_x B call n [] (kEnd AXE 0 f12_r) ⟨[(0, .agg a0.cells), (1, .agg a1.cells)], []⟩
def f12_T4 (call : CallF) (n : Nat) (x0 : Bool) : OR :=
  some (.one (.bool x0), [])
theorem f12_o4 (call : CallF) (n : Nat) (B : Code) (hB : B = f12_b) : f12_P4 B call n = f12_T4 call n := by
  subst hB; funext x0; kernel_rfl
theorem f12_l4 (call : CallF) (n : Nat) : f12_P4 f12_b call n = f12_T4 call n :=
  f12_o4 call n _ (by kernel_rfl)
def f12_L4 (call : CallF) (n : Nat) : Bool → OR :=
  f12_T4 call n
theorem f12_e4 (call : CallF) (n : Nat) : f12_P4 f12_b call n = f12_L4 call n := by
  rw [f12_l4]; rfl
def f12_T5 (call : CallF) (n : Nat) (j5m : Int → S_api_Event → S_api_Event → OR) (x0 : Int) (x1 x2 : S_api_Event) : OR :=
  bif (decide (x0 < (((x1.fTo).length / 1 : Nat) : Int))) then (
    itemK x1.fTo x0 fun c1 =>
    castS c1 fun s2 =>
    itemK x2.fTo x0 fun c3 =>
    castS c3 fun s4 =>
    bif (!(s2 == s4)) then (
      some (.one (.bool false), [])) else (
      j5m (IntKind.wrap .i64 (x0 + (1 : Int))) x1 x2)) else (
    callK call 32 [.one (.sl none 1 x1.fKeep), .one (.sl none 1 x2.fKeep)] fun v5 =>
    oB v5 fun b6 =>
    some (.one (.bool b6), []))
theorem f12_o5 (call : CallF) (n : Nat) (m0 : Nat) (B : Code) (hB : B = f12_b) : f12_P5 B call n (m0 + 1) = f12_T5 call n (f12_P5 B call n m0) := by
  subst hB; funext x0 x1 x2; kernel_rfl
theorem f12_l5 (call : CallF) (n : Nat) (m0 : Nat) : f12_P5 f12_b call n (m0 + 1) = f12_T5 call n (f12_P5 f12_b call n m0) :=
  f12_o5 call n m0 _ (by kernel_rfl)
def f12_L5 (call : CallF) (n : Nat) : Nat → Int → S_api_Event → S_api_Event → OR
  | 0 => fun _ _ _ => none
  | m0 + 1 => f12_T5 call n (f12_L5 call n m0)
theorem f12_e5 (call : CallF) (n : Nat) : ∀ m0 : Nat, f12_P5 f12_b call n m0 = f12_L5 call n m0
  | 0 => by funext x0 x1 x2; kernel_rfl
  | m0 + 1 => by rw [f12_l5, f12_e5 call n m0]; rfl
def f12_T1 (call : CallF) (n : Nat) (j4 : Bool → OR) (j5n : Int → S_api_Event → S_api_Event → OR) (x0 : Bool) (x1 x2 : S_api_Event) : OR :=
  bif x0 then (
    j4 false) else (
    j5n (0 : Int) x1 x2)
theorem f12_o1 (X0 : Code) (call : CallF) (n : Nat) (B : Code) (hB : B = (hole f12_b [1, 0, 1, 0, 1] X0)) : f12_P1 B call n = f12_T1 call n (f12_P4 B call n) (f12_P5 B call n n) := by
  subst hB; funext x0 x1 x2; cases x0 <;> kernel_rfl
theorem f12_l1 (call : CallF) (n : Nat) : f12_P1 f12_b call n = f12_T1 call n (f12_P4 f12_b call n) (f12_P5 f12_b call n n) :=
  f12_o1 (piece [1, 0, 1, 0, 1] f12_b) call n _ (by kernel_rfl)
def f12_L1 (call : CallF) (n : Nat) : Bool → S_api_Event → S_api_Event → OR :=
  f12_T1 call n (f12_L4 call n) (f12_L5 call n n)
theorem f12_e1 (call : CallF) (n : Nat) : f12_P1 f12_b call n = f12_L1 call n := by
  rw [f12_l1, f12_e4, f12_e5]; rfl
/-- pigeonhole/pigeonholeref31.Same -/
def f12_T (call : CallF) (n : Nat) (j1 : Bool → S_api_Event → S_api_Event → OR) (a0 a1 : S_api_Event) : OR :=
  bif (a0.fKind != a1.fKind) then (
    j1 true a0 a1) else (
    bif (a0.fSlot != a1.fSlot) then (
      j1 true a0 a1) else (
      bif (a0.fN != a1.fN) then (
        j1 true a0 a1) else (
        bif (a0.fK != a1.fK) then (
          j1 true a0 a1) else (
          bif (!(a0.fLmtp == a1.fLmtp)) then (
            j1 true a0 a1) else (
            bif (!(a0.fName == a1.fName)) then (
              j1 true a0 a1) else (
              bif (!((a0.fLimit_Bytes == a1.fLimit_Bytes) && ((a0.fLimit_Count == a1.fLimit_Count) && true))) then (
                j1 true a0 a1) else (
                bif (a0.fCode != a1.fCode) then (
                  j1 true a0 a1) else (
                  bytesK a0.fData fun s9 =>
                  bytesK a1.fData fun s10 =>
                  bif (!(s9 == s10)) then (
                    j1 true a0 a1) else (
                    j1 ((((a0.fTo).length / 1 : Nat) : Int) != (((a1.fTo).length / 1 : Nat) : Int)) a0 a1)))))))))
def f12_L (call : CallF) (n : Nat) (a0 a1 : S_api_Event) : OR :=
  f12_T call n (f12_L1 call n) a0 a1
theorem f12_o (X0 : Code) (call : CallF) (n : Nat) (B : Code) (hB : B = (hole f12_b [1, 0, 1] X0)) : f12_P B call n = f12_T call n (f12_P1 B call n) := by
  subst hB; funext a0 a1; kernel_rfl
theorem f12_l (call : CallF) (n : Nat) : f12_P f12_b call n = f12_T call n (f12_P1 f12_b call n) :=
  f12_o (piece [1, 0, 1] f12_b) call n _ (by kernel_rfl)
theorem f12_e (call : CallF) (n : Nat) : f12_P f12_b call n = f12_L call n := by
  rw [f12_l, f12_e1]; rfl
theorem f12_eq (n : Nat) (a0 a1 : S_api_Event) : acall AXE AXF (n + 1) 12 [.agg a0.cells, .agg a1.cells] [] = f12_L (acall AXE AXF n) (n + 1) a0 a1 :=
  (show _ = f12_P f12_b (acall AXE AXF n) (n + 1) a0 a1 by kernel_rfl).trans (by rw [f12_e])
def f20_P11 (B : Code) (call : CallF) (n : Nat) (m0 : Nat) (x0 : LC) (x1 : Int) (x2 : LB) (x3 : LC) (x4 x5 : Int) : OR :=
  f20_x B call n [1, 0, 1, 0, 0, 1, 1, 1] (kSeq (fun k => prK 1000002 (pruneAt f20_h 1000002) (aloop 1000002 (pruneAt f20_h 1000002) (f20_x B call n [1, 0, 1, 0, 0]) k m0)) (kBlk 0 (kSeq (f20_x B call n [1, 1]) (kEnd AXE 0 f20_r)))) ⟨[(2, .one (.sl (some ⟨2, 0, 29⟩) 12 x0)), (5, .one (.int .i64 x1)), (6, .one (.str x2)), (10, .one (.sl none 1 x3)), (11, .one (.int .i64 x4)), (12, .one (.int .i64 x5))], []⟩
def f20_P16 (B : Code) (call : CallF) (n : Nat) (m0 : Nat) (x0 : LC) (x1 x2 : Int) : OR :=
  f20_x B call n [1, 0, 1, 0, 0, 1, 1, 0, 0, 1, 1, 1, 1, 0, 1, 0, 1] (kSeq (f20_x B call n [1, 0, 1, 0, 0, 1, 1, 0, 0, 1, 1, 1, 1, 1]) (kBlk 1 (kSeq (f20_x B call n [1, 0, 1, 0, 0, 1, 1, 1]) (kSeq (fun k => prK 1000002 (pruneAt f20_h 1000002) (aloop 1000002 (pruneAt f20_h 1000002) (f20_x B call n [1, 0, 1, 0, 0]) k m0)) (kBlk 0 (kSeq (f20_x B call n [1, 1]) (kEnd AXE 0 f20_r))))))) ⟨[(2, .one (.sl (some ⟨2, 0, 29⟩) 12 x0)), (3, .one (.int .i64 x1)), (4, .one (.int .i64 x2))], []⟩
def f20_P17 (B : Code) (call : CallF) (n : Nat) (m0 : Nat) (x0 x1 : LC) (x2 x3 : Int) : OR :=
  f20_x B call n [1, 0, 1, 0, 0, 1, 1, 1] (kSeq (fun k => prK 1000002 (pruneAt f20_h 1000002) (aloop 1000002 (pruneAt f20_h 1000002) (f20_x B call n [1, 0, 1, 0, 0]) k m0)) (kBlk 0 (kSeq (f20_x B call n [1, 1]) (kEnd AXE 0 f20_r)))) ⟨[(2, .one (.sl (some ⟨2, 0, 29⟩) 12 x0)), (10, .one (.sl none 1 x1)), (11, .one (.int .i64 x2)), (12, .one (.int .i64 x3))], []⟩
def f20_P14 (B : Code) (call : CallF) (n : Nat) (m0 : Nat) (x0 : LC) (x1 x2 : Int) (x3 : LC) (x4 x5 : Int) (x6 : Bool) (x7 : S_api_Event) : OR :=
  f20_x B call n [1, 0, 1, 0, 0, 1, 1, 0, 0, 1, 1, 1, 1, 0, 1] (kSeq (f20_x B call n [1, 0, 1, 0, 0, 1, 1, 0, 0, 1, 1, 1, 1, 1]) (kBlk 1 (kSeq (f20_x B call n [1, 0, 1, 0, 0, 1, 1, 1]) (kSeq (fun k => prK 1000002 (pruneAt f20_h 1000002) (aloop 1000002 (pruneAt f20_h 1000002) (f20_x B call n [1, 0, 1, 0, 0]) k m0)) (kBlk 0 (kSeq (f20_x B call n [1, 1]) (kEnd AXE 0 f20_r))))))) ⟨[(2, .one (.sl (some ⟨2, 0, 29⟩) 12 x0)), (5, .one (.int .i64 x1)), (7, .one (.ptr 0 0)), (8, .one (.int .i64 x2)), (10, .one (.sl none 1 x3)), (11, .one (.int .i64 x4)), (12, .one (.int .i64 x5)), (37, .one (.bool x6))], [x7.cells]⟩
def f20_P13 (B : Code) (call : CallF) (n : Nat) (m0 : Nat) (x0 : LC) (x1 x2 : Int) (x3 : LC) (x4 x5 : Int) (x6 : S_api_Event) : OR :=
  f20_x B call n [1, 0, 1, 0, 0, 1, 1, 0, 0, 1, 1, 1, 1] (kBlk 1 (kSeq (f20_x B call n [1, 0, 1, 0, 0, 1, 1, 1]) (kSeq (fun k => prK 1000002 (pruneAt f20_h 1000002) (aloop 1000002 (pruneAt f20_h 1000002) (f20_x B call n [1, 0, 1, 0, 0]) k m0)) (kBlk 0 (kSeq (f20_x B call n [1, 1]) (kEnd AXE 0 f20_r)))))) ⟨[(2, .one (.sl (some ⟨2, 0, 29⟩) 12 x0)), (5, .one (.int .i64 x1)), (7, .one (.ptr 0 0)), (8, .one (.int .i64 x2)), (10, .one (.sl none 1 x3)), (11, .one (.int .i64 x4)), (12, .one (.int .i64 x5))], [x6.cells]⟩
def f20_P12 (B : Code) (call : CallF) (n : Nat) (m0 : Nat) (x0 : LC) (x1 x2 : Int) (x3 : LC) (x4 x5 : Int) (x6 : Bool) (x7 : S_api_Event) : OR :=
  f20_x B call n [1, 0, 1, 0, 0, 1, 1, 0, 0, 1, 1, 1, 0, 1] (kSeq (f20_x B call n [1, 0, 1, 0, 0, 1, 1, 0, 0, 1, 1, 1, 1]) (kBlk 1 (kSeq (f20_x B call n [1, 0, 1, 0, 0, 1, 1, 1]) (kSeq (fun k => prK 1000002 (pruneAt f20_h 1000002) (aloop 1000002 (pruneAt f20_h 1000002) (f20_x B call n [1, 0, 1, 0, 0]) k m0)) (kBlk 0 (kSeq (f20_x B call n [1, 1]) (kEnd AXE 0 f20_r))))))) ⟨[(2, .one (.sl (some ⟨2, 0, 29⟩) 12 x0)), (5, .one (.int .i64 x1)), (7, .one (.ptr 0 0)), (8, .one (.int .i64 x2)), (10, .one (.sl none 1 x3)), (11, .one (.int .i64 x4)), (12, .one (.int .i64 x5)), (35, .one (.bool x6))], [x7.cells]⟩
def f20_P8 (B : Code) (call : CallF) (n : Nat) (m0 : Nat) (x0 : LC) (x1 : Int) (x2 : LB) (x3 : LC) (x4 x5 : Int) (x6 : Bool) : OR :=
  f20_x B call n [1, 0, 1, 0, 0, 1, 1, 0, 0, 1, 0, 1] (kSeq (f20_x B call n [1, 0, 1, 0, 0, 1, 1, 0, 0, 1, 1]) (kBlk 1 (kSeq (f20_x B call n [1, 0, 1, 0, 0, 1, 1, 1]) (kSeq (fun k => prK 1000002 (pruneAt f20_h 1000002) (aloop 1000002 (pruneAt f20_h 1000002) (f20_x B call n [1, 0, 1, 0, 0]) k m0)) (kBlk 0 (kSeq (f20_x B call n [1, 1]) (kEnd AXE 0 f20_r))))))) ⟨[(2, .one (.sl (some ⟨2, 0, 29⟩) 12 x0)), (5, .one (.int .i64 x1)), (6, .one (.str x2)), (10, .one (.sl none 1 x3)), (11, .one (.int .i64 x4)), (12, .one (.int .i64 x5)), (23, .one (.bool x6))], []⟩
def f20_P2 (B : Code) (call : CallF) (n : Nat) (m0 : Nat) (x0 x1 : LC) (x2 x3 : Int) : OR :=
  aloop 1000002 (pruneAt f20_h 1000002) (f20_x B call n [1, 0, 1, 0, 0]) (kBlk 0 (kSeq (f20_x B call n [1, 1]) (kEnd AXE 0 f20_r))) m0 ⟨[(2, .one (.sl (some ⟨2, 0, 29⟩) 12 x0)), (10, .one (.sl none 1 x1)), (11, .one (.int .i64 x2)), (12, .one (.int .i64 x3))], []⟩
def f20_P (B : Code) (call : CallF) (n : Nat) (a0 : LB) : OR :=
  f20_x B call n [] (kEnd AXE 0 f20_r) ⟨[(0, .one (.str a0))], []⟩
def f20_T11 (call : CallF) (n : Nat) (j2m : LC → LC → Int → Int → OR) (x0 : LC) (x1 : Int) (x2 : LB) (x3 : LC) (x4 x5 : Int) : OR :=
  j2m x0 x3 x4 (IntKind.wrap .i64 (x5 + (1 : Int)))
theorem f20_o11 (call : CallF) (n : Nat) (m0 : Nat) (B : Code) (hB : B = f20_b) : f20_P11 B call n m0 = f20_T11 call n (f20_P2 B call n m0) := by
  subst hB; funext x0 x1 x2 x3 x4 x5; kernel_rfl
theorem f20_l11 (call : CallF) (n : Nat) (m0 : Nat) : f20_P11 f20_b call n m0 = f20_T11 call n (f20_P2 f20_b call n m0) :=
  f20_o11 call n m0 _ (by kernel_rfl)
def f20_L11 (call : CallF) (n : Nat) (h_m0 : LC → LC → Int → Int → OR) : LC → Int → LB → LC → Int → Int → OR :=
  f20_T11 call n h_m0
theorem f20_e11 (call : CallF) (n : Nat) (m0 : Nat) : f20_P11 f20_b call n m0 = f20_L11 call n (f20_P2 f20_b call n m0) := by
  rw [f20_l11]; rfl
def f20_T16 (call : CallF) (n : Nat) (x0 : LC) (x1 x2 : Int) : OR :=
  some (.tup [.one (.sl (some ⟨2, 0, 29⟩) 12 x0), .one (.int .i64 x1), .one (.int .i64 x2)], [])
theorem f20_o16 (call : CallF) (n : Nat) (m0 : Nat) (B : Code) (hB : B = f20_b) : f20_P16 B call n m0 = f20_T16 call n := by
  subst hB; funext x0 x1 x2; kernel_rfl
theorem f20_l16 (call : CallF) (n : Nat) (m0 : Nat) : f20_P16 f20_b call n m0 = f20_T16 call n :=
  f20_o16 call n m0 _ (by kernel_rfl)
def f20_L16 (call : CallF) (n : Nat) (h_m0 : LC → LC → Int → Int → OR) : LC → Int → Int → OR :=
  f20_T16 call n
theorem f20_e16 (call : CallF) (n : Nat) (m0 : Nat) : f20_P16 f20_b call n m0 = f20_L16 call n (f20_P2 f20_b call n m0) := by
  rw [f20_l16]; rfl
def f20_T17 (call : CallF) (n : Nat) (j2m : LC → LC → Int → Int → OR) (x0 x1 : LC) (x2 x3 : Int) : OR :=
  j2m x0 x1 x2 (IntKind.wrap .i64 (x3 + (1 : Int)))
theorem f20_o17 (call : CallF) (n : Nat) (m0 : Nat) (B : Code) (hB : B = f20_b) : f20_P17 B call n m0 = f20_T17 call n (f20_P2 B call n m0) := by
  subst hB; funext x0 x1 x2 x3; kernel_rfl
theorem f20_l17 (call : CallF) (n : Nat) (m0 : Nat) : f20_P17 f20_b call n m0 = f20_T17 call n (f20_P2 f20_b call n m0) :=
  f20_o17 call n m0 _ (by kernel_rfl)
def f20_L17 (call : CallF) (n : Nat) (h_m0 : LC → LC → Int → Int → OR) : LC → LC → Int → Int → OR :=
  f20_T17 call n h_m0
theorem f20_e17 (call : CallF) (n : Nat) (m0 : Nat) : f20_P17 f20_b call n m0 = f20_L17 call n (f20_P2 f20_b call n m0) := by
  rw [f20_l17]; rfl
def f20_T14 (call : CallF) (n : Nat) (j16 : LC → Int → Int → OR) (j17 : LC → LC → Int → Int → OR) (x0 : LC) (x1 x2 : Int) (x3 : LC) (x4 x5 : Int) (x6 : Bool) (x7 : S_api_Event) : OR :=
  bif x6 then (
    j16 ([] : List Cell) (IntKind.wrap .i64 (x1 + (1 : Int))) x2) else (
    guardB (decide (((x0).length + (([.int .i64 x7.fKind, .int .i64 x7.fSlot, .int .i64 x7.fN, .int .i64 x7.fK, .bool x7.fLmtp, .str x7.fName, .int .i64 x7.fLimit_Bytes, .int .i64 x7.fLimit_Count, .sl none 1 x7.fTo, .sl none 1 x7.fData, .int .i64 x7.fCode, .sl none 1 x7.fKeep] : List Cell)).length) * 1000 ≤ rowLim)) (
      j17 (x0 ++ ([.int .i64 x7.fKind, .int .i64 x7.fSlot, .int .i64 x7.fN, .int .i64 x7.fK, .bool x7.fLmtp, .str x7.fName, .int .i64 x7.fLimit_Bytes, .int .i64 x7.fLimit_Count, .sl none 1 x7.fTo, .sl none 1 x7.fData, .int .i64 x7.fCode, .sl none 1 x7.fKeep] : List Cell)) x3 x4 x5))
theorem f20_o14 (X0 X1 : Code) (call : CallF) (n : Nat) (m0 : Nat) (B : Code) (hB : B = (hole (hole f20_b [1, 0, 1, 0, 0, 1, 1, 0, 0, 1, 1, 1, 1, 0, 1, 0, 1] X0) [1, 0, 1, 0, 0, 1, 1, 1] X1)) : f20_P14 B call n m0 = f20_T14 call n (f20_P16 B call n m0) (f20_P17 B call n m0) := by
  subst hB; funext x0 x1 x2 x3 x4 x5 x6 x7; cases x6 <;> kernel_rfl
theorem f20_l14 (call : CallF) (n : Nat) (m0 : Nat) : f20_P14 f20_b call n m0 = f20_T14 call n (f20_P16 f20_b call n m0) (f20_P17 f20_b call n m0) :=
  f20_o14 (piece [1, 0, 1, 0, 0, 1, 1, 0, 0, 1, 1, 1, 1, 0, 1, 0, 1] f20_b) (piece [1, 0, 1, 0, 0, 1, 1, 1] f20_b) call n m0 _ (by kernel_rfl)
def f20_L14 (call : CallF) (n : Nat) (h_m0 : LC → LC → Int → Int → OR) : LC → Int → Int → LC → Int → Int → Bool → S_api_Event → OR :=
  f20_T14 call n (f20_L16 call n h_m0) (f20_L17 call n h_m0)
theorem f20_e14 (call : CallF) (n : Nat) (m0 : Nat) : f20_P14 f20_b call n m0 = f20_L14 call n (f20_P2 f20_b call n m0) := by
  rw [f20_l14, f20_e16, f20_e17]; rfl
def f20_T13 (call : CallF) (n : Nat) (j14 : LC → Int → Int → LC → Int → Int → Bool → S_api_Event → OR) (x0 : LC) (x1 x2 : Int) (x3 : LC) (x4 x5 : Int) (x6 : S_api_Event) : OR :=
  j14 x0 x1 x2 x3 x4 x5 (x2 != (0 : Int)) x6
theorem f20_o13 (X0 : Code) (call : CallF) (n : Nat) (m0 : Nat) (B : Code) (hB : B = (hole f20_b [1, 0, 1, 0, 0, 1, 1, 0, 0, 1, 1, 1, 1, 0, 1] X0)) : f20_P13 B call n m0 = f20_T13 call n (f20_P14 B call n m0) := by
  subst hB; funext x0 x1 x2 x3 x4 x5 x6; kernel_rfl
theorem f20_l13 (call : CallF) (n : Nat) (m0 : Nat) : f20_P13 f20_b call n m0 = f20_T13 call n (f20_P14 f20_b call n m0) :=
  f20_o13 (piece [1, 0, 1, 0, 0, 1, 1, 0, 0, 1, 1, 1, 1, 0, 1] f20_b) call n m0 _ (by kernel_rfl)
def f20_L13 (call : CallF) (n : Nat) (h_m0 : LC → LC → Int → Int → OR) : LC → Int → Int → LC → Int → Int → S_api_Event → OR :=
  f20_T13 call n (f20_L14 call n h_m0)
theorem f20_e13 (call : CallF) (n : Nat) (m0 : Nat) : f20_P13 f20_b call n m0 = f20_L13 call n (f20_P2 f20_b call n m0) := by
  rw [f20_l13, f20_e14]; rfl
def f20_T12 (call : CallF) (n : Nat) (j13 : LC → Int → Int → LC → Int → Int → S_api_Event → OR) (x0 : LC) (x1 x2 : Int) (x3 : LC) (x4 x5 : Int) (x6 : Bool) (x7 : S_api_Event) : OR :=
  bif x6 then (
    j13 x0 x1 (4 : Int) x3 x4 x5 x7) else (
    j13 x0 x1 x2 x3 x4 x5 x7)
theorem f20_o12 (X0 : Code) (call : CallF) (n : Nat) (m0 : Nat) (B : Code) (hB : B = (hole f20_b [1, 0, 1, 0, 0, 1, 1, 0, 0, 1, 1, 1, 1] X0)) : f20_P12 B call n m0 = f20_T12 call n (f20_P13 B call n m0) := by
  subst hB; funext x0 x1 x2 x3 x4 x5 x6 x7; cases x6 <;> kernel_rfl
theorem f20_l12 (call : CallF) (n : Nat) (m0 : Nat) : f20_P12 f20_b call n m0 = f20_T12 call n (f20_P13 f20_b call n m0) :=
  f20_o12 (piece [1, 0, 1, 0, 0, 1, 1, 0, 0, 1, 1, 1, 1] f20_b) call n m0 _ (by kernel_rfl)
def f20_L12 (call : CallF) (n : Nat) (h_m0 : LC → LC → Int → Int → OR) : LC → Int → Int → LC → Int → Int → Bool → S_api_Event → OR :=
  f20_T12 call n (f20_L13 call n h_m0)
theorem f20_e12 (call : CallF) (n : Nat) (m0 : Nat) : f20_P12 f20_b call n m0 = f20_L12 call n (f20_P2 f20_b call n m0) := by
  rw [f20_l12, f20_e13]; rfl
def f20_T8 (call : CallF) (n : Nat) (j11 : LC → Int → LB → LC → Int → Int → OR) (j12 : LC → Int → Int → LC → Int → Int → Bool → S_api_Event → OR) (x0 : LC) (x1 : Int) (x2 : LB) (x3 : LC) (x4 x5 : Int) (x6 : Bool) : OR :=
  bif x6 then (
    j11 x0 x1 x2 x3 x4 x5) else (
    callK call 11 [.one (.str x2)] fun v1 =>
    castTup v1 fun v2 =>
    consK v2 fun z3 r4 =>
    aggV z3 fun r5 =>
    takeS_api_Event r5 fun w6 r7 =>
    nilK r7 (
      zI .i64 r4 fun n8 r9 =>
      nilK r9 (
        bif (n8 == (0 : Int)) then (
          j12 x0 x1 n8 x3 x4 x5 ((((x0).length / 12 : Nat) : Int) == (1000 : Int)) w6) else (
          j12 x0 x1 n8 x3 x4 x5 false w6))))
theorem f20_o8 (X0 X1 : Code) (call : CallF) (n : Nat) (m0 : Nat) (B : Code) (hB : B = (hole (hole f20_b [1, 0, 1, 0, 0, 1, 1, 0, 0, 1, 1, 1, 0, 1] X0) [1, 0, 1, 0, 0, 1, 1, 1] X1)) : f20_P8 B call n m0 = f20_T8 call n (f20_P11 B call n m0) (f20_P12 B call n m0) := by
  subst hB; funext x0 x1 x2 x3 x4 x5 x6; cases x6 <;> kernel_rfl
theorem f20_l8 (call : CallF) (n : Nat) (m0 : Nat) : f20_P8 f20_b call n m0 = f20_T8 call n (f20_P11 f20_b call n m0) (f20_P12 f20_b call n m0) :=
  f20_o8 (piece [1, 0, 1, 0, 0, 1, 1, 0, 0, 1, 1, 1, 0, 1] f20_b) (piece [1, 0, 1, 0, 0, 1, 1, 1] f20_b) call n m0 _ (by kernel_rfl)
def f20_L8 (call : CallF) (n : Nat) (h_m0 : LC → LC → Int → Int → OR) : LC → Int → LB → LC → Int → Int → Bool → OR :=
  f20_T8 call n (f20_L11 call n h_m0) (f20_L12 call n h_m0)
theorem f20_e8 (call : CallF) (n : Nat) (m0 : Nat) : f20_P8 f20_b call n m0 = f20_L8 call n (f20_P2 f20_b call n m0) := by
  rw [f20_l8, f20_e11, f20_e12]; rfl
def f20_T2 (call : CallF) (n : Nat) (j8 : LC → Int → LB → LC → Int → Int → Bool → OR) (x0 x1 : LC) (x2 x3 : Int) : OR :=
  bif (decide (x3 < x2)) then (
    itemK x1 x3 fun c1 =>
    castS c1 fun s2 =>
    bif (s2 == ([] : List UInt8)) then (
      j8 x0 x3 s2 x1 x2 x3 true) else (
      itemK s2 (0 : Int) fun u3 =>
      j8 x0 x3 s2 x1 x2 x3 ((UInt8.toNat u3 : Int) == (35 : Int)))) else (
    some (.tup [.one (.sl (some ⟨2, 0, 29⟩) 12 x0), .one (.int .i64 (0 : Int)), .one (.int .i64 (0 : Int))], []))
theorem f20_o2 (X0 : Code) (call : CallF) (n : Nat) (m0 : Nat) (B : Code) (hB : B = (hole f20_b [1, 0, 1, 0, 0, 1, 1, 0, 0, 1, 0, 1] X0)) : f20_P2 B call n (m0 + 1) = f20_T2 call n (f20_P8 B call n m0) := by
  subst hB; funext x0 x1 x2 x3; kernel_rfl
theorem f20_l2 (call : CallF) (n : Nat) (m0 : Nat) : f20_P2 f20_b call n (m0 + 1) = f20_T2 call n (f20_P8 f20_b call n m0) :=
  f20_o2 (piece [1, 0, 1, 0, 0, 1, 1, 0, 0, 1, 0, 1] f20_b) call n m0 _ (by kernel_rfl)
def f20_L2 (call : CallF) (n : Nat) : Nat → LC → LC → Int → Int → OR
  | 0 => fun _ _ _ _ => none
  | m0 + 1 => f20_T2 call n (f20_L8 call n (f20_L2 call n m0))
theorem f20_e2 (call : CallF) (n : Nat) : ∀ m0 : Nat, f20_P2 f20_b call n m0 = f20_L2 call n m0
  | 0 => by funext x0 x1 x2 x3; kernel_rfl
  | m0 + 1 => by rw [f20_l2, f20_e8, f20_e2 call n m0]; rfl
/-- pigeonhole/script.Parse -/
def f20_T (call : CallF) (n : Nat) (j2n : LC → LC → Int → Int → OR) (a0 : LB) : OR :=
  primK pSplit [.one (.str a0), .one (.str ([10] : List UInt8))] fun v15 =>
  oL 1 v15 fun l16 =>
  j2n ([] : List Cell) l16 (((l16).length / 1 : Nat) : Int) (0 : Int)
def f20_L (call : CallF) (n : Nat) (a0 : LB) : OR :=
  f20_T call n (f20_L2 call n n) a0
theorem f20_o (call : CallF) (n : Nat) (B : Code) (hB : B = f20_b) : f20_P B call n = f20_T call n (f20_P2 B call n n) := by
  subst hB; funext a0; kernel_rfl
theorem f20_l (call : CallF) (n : Nat) : f20_P f20_b call n = f20_T call n (f20_P2 f20_b call n n) :=
  f20_o call n _ (by kernel_rfl)
theorem f20_e (call : CallF) (n : Nat) : f20_P f20_b call n = f20_L call n := by
  rw [f20_l, f20_e2]; rfl
theorem f20_eq (n : Nat) (a0 : LB) : acall AXE AXF (n + 1) 20 [.one (.str a0)] [] = f20_L (acall AXE AXF n) (n + 1) a0 :=
  (show _ = f20_P f20_b (acall AXE AXF n) (n + 1) a0 by kernel_rfl).trans (by rw [f20_e])
def f21_P24 (B : Code) (call : CallF) (n : Nat) (m0 : Nat) (x0 x1 : LC) (x2 x3 : Int) (x4 : S_api_Event) : OR :=
  f21_x B call n [1, 1, 0, 1, 0, 0, 1, 1, 1] (kSeq (fun k => prK 1000003 (pruneAt f21_h 1000003) (aloop 1000003 (pruneAt f21_h 1000003) (f21_x B call n [1, 1, 0, 1, 0, 0]) k m0)) (kBlk 0 (kSeq (f21_x B call n [1, 1, 1]) (kEnd AXE 0 f21_r)))) ⟨[(1, .one (.ptr 0 0)), (3, .one (.sl (some ⟨3, 0, 9⟩) 1 x0)), (19, .one (.sl none 1 x1)), (20, .one (.int .i64 x2)), (21, .one (.int .i64 x3))], [x4.cells]⟩
def f21_P30 (B : Code) (call : CallF) (n : Nat) (m0 : Nat) (x0 x1 : LC) (x2 x3 : Int) (x4 : LC) (x5 x6 : Int) (x7 : S_api_Event) : OR :=
  f21_x B call n [1, 1, 0, 1, 0, 0, 1, 1, 1] (kSeq (fun k => prK 1000003 (pruneAt f21_h 1000003) (aloop 1000003 (pruneAt f21_h 1000003) (f21_x B call n [1, 1, 0, 1, 0, 0]) k m0)) (kBlk 0 (kSeq (f21_x B call n [1, 1, 1]) (kEnd AXE 0 f21_r)))) ⟨[(1, .one (.ptr 0 0)), (3, .one (.sl (some ⟨3, 0, 9⟩) 1 x0)), (19, .one (.sl none 1 x1)), (20, .one (.int .i64 x2)), (21, .one (.int .i64 x3)), (110, .one (.sl none 1 x4)), (111, .one (.int .i64 x5)), (112, .one (.int .i64 x6))], [x7.cells]⟩
def f21_P25 (B : Code) (call : CallF) (n : Nat) (m0 : Nat) (m1 : Nat) (x0 x1 : LC) (x2 x3 : Int) (x4 : LC) (x5 x6 : Int) (x7 : S_api_Event) : OR :=
  aloop 1000029 (pruneAt f21_h 1000029) (f21_x B call n [1, 1, 0, 1, 0, 0, 1, 1, 0, 0, 1, 1, 0, 1, 1, 1, 1, 1, 1, 1, 1, 1, 1, 1, 1, 1, 1, 1, 1, 1, 1, 1, 1, 1, 0, 1, 0, 0]) (kBlk 3 (kBlk 2 (kBlk 1 (kSeq (f21_x B call n [1, 1, 0, 1, 0, 0, 1, 1, 1]) (kSeq (fun k => prK 1000003 (pruneAt f21_h 1000003) (aloop 1000003 (pruneAt f21_h 1000003) (f21_x B call n [1, 1, 0, 1, 0, 0]) k m0)) (kBlk 0 (kSeq (f21_x B call n [1, 1, 1]) (kEnd AXE 0 f21_r)))))))) m1 ⟨[(1, .one (.ptr 0 0)), (3, .one (.sl (some ⟨3, 0, 9⟩) 1 x0)), (19, .one (.sl none 1 x1)), (20, .one (.int .i64 x2)), (21, .one (.int .i64 x3)), (110, .one (.sl none 1 x4)), (111, .one (.int .i64 x5)), (112, .one (.int .i64 x6))], [x7.cells]⟩
def f21_P3 (B : Code) (call : CallF) (n : Nat) (m0 : Nat) (x0 x1 : LC) (x2 x3 : Int) (x4 : S_api_Event) : OR :=
  aloop 1000003 (pruneAt f21_h 1000003) (f21_x B call n [1, 1, 0, 1, 0, 0]) (kBlk 0 (kSeq (f21_x B call n [1, 1, 1]) (kEnd AXE 0 f21_r))) m0 ⟨[(1, .one (.ptr 0 0)), (3, .one (.sl (some ⟨3, 0, 9⟩) 1 x0)), (19, .one (.sl none 1 x1)), (20, .one (.int .i64 x2)), (21, .one (.int .i64 x3))], [x4.cells]⟩
def f21_P (B : Code) (call : CallF) (n : Nat) (a0 : S_api_Event) : OR :=
  f21_x B call n [] (kEnd AXE 0 f21_r) ⟨[(0, .agg a0.cells)], []⟩
def f21_T24 (call : CallF) (n : Nat) (j3m : LC → LC → Int → Int → S_api_Event → OR) (x0 x1 : LC) (x2 x3 : Int) (x4 : S_api_Event) : OR :=
  j3m x0 x1 x2 (IntKind.wrap .i64 (x3 + (1 : Int))) x4
theorem f21_o24 (call : CallF) (n : Nat) (m0 : Nat) (B : Code) (hB : B = f21_b) : f21_P24 B call n m0 = f21_T24 call n (f21_P3 B call n m0) := by
  subst hB; funext x0 x1 x2 x3 x4; kernel_rfl
theorem f21_l24 (call : CallF) (n : Nat) (m0 : Nat) : f21_P24 f21_b call n m0 = f21_T24 call n (f21_P3 f21_b call n m0) :=
  f21_o24 call n m0 _ (by kernel_rfl)
def f21_L24 (call : CallF) (n : Nat) (h_m0 : LC → LC → Int → Int → S_api_Event → OR) : LC → LC → Int → Int → S_api_Event → OR :=
  f21_T24 call n h_m0
theorem f21_e24 (call : CallF) (n : Nat) (m0 : Nat) : f21_P24 f21_b call n m0 = f21_L24 call n (f21_P3 f21_b call n m0) := by
  rw [f21_l24]; rfl
def f21_T30 (call : CallF) (n : Nat) (j3m : LC → LC → Int → Int → S_api_Event → OR) (x0 x1 : LC) (x2 x3 : Int) (x4 : LC) (x5 x6 : Int) (x7 : S_api_Event) : OR :=
  j3m x0 x1 x2 (IntKind.wrap .i64 (x3 + (1 : Int))) x7
theorem f21_o30 (call : CallF) (n : Nat) (m0 : Nat) (B : Code) (hB : B = f21_b) : f21_P30 B call n m0 = f21_T30 call n (f21_P3 B call n m0) := by
  subst hB; funext x0 x1 x2 x3 x4 x5 x6 x7; kernel_rfl
theorem f21_l30 (call : CallF) (n : Nat) (m0 : Nat) : f21_P30 f21_b call n m0 = f21_T30 call n (f21_P3 f21_b call n m0) :=
  f21_o30 call n m0 _ (by kernel_rfl)
def f21_L30 (call : CallF) (n : Nat) (h_m0 : LC → LC → Int → Int → S_api_Event → OR) : LC → LC → Int → Int → LC → Int → Int → S_api_Event → OR :=
  f21_T30 call n h_m0
theorem f21_e30 (call : CallF) (n : Nat) (m0 : Nat) : f21_P30 f21_b call n m0 = f21_L30 call n (f21_P3 f21_b call n m0) := by
  rw [f21_l30]; rfl
def f21_T25 (call : CallF) (n : Nat) (j25m : LC → LC → Int → Int → LC → Int → Int → S_api_Event → OR) (j30 : LC → LC → Int → Int → LC → Int → Int → S_api_Event → OR) (x0 x1 : LC) (x2 x3 : Int) (x4 : LC) (x5 x6 : Int) (x7 : S_api_Event) : OR :=
  bif (decide (x6 < x5)) then (
    itemK x4 x6 fun c1 =>
    castI .i64 c1 fun n2 =>
    primK pItoa [.one (.int .i64 n2)] fun v3 =>
    oS v3 fun s4 =>
    guardB (decide (((x0).length + (([.str s4] : List Cell)).length) * 1000 ≤ rowLim)) (
      j25m (x0 ++ ([.str s4] : List Cell)) x1 x2 x3 x4 x5 (IntKind.wrap .i64 (x6 + (1 : Int))) x7)) else (
    j30 x0 x1 x2 x3 x4 x5 x6 x7)
theorem f21_o25 (X0 : Code) (call : CallF) (n : Nat) (m0 : Nat) (m1 : Nat) (B : Code) (hB : B = (hole f21_b [1, 1, 0, 1, 0, 0, 1, 1, 1] X0)) : f21_P25 B call n m0 (m1 + 1) = f21_T25 call n (f21_P25 B call n m0 m1) (f21_P30 B call n m0) := by
  subst hB; funext x0 x1 x2 x3 x4 x5 x6 x7; kernel_rfl
theorem f21_l25 (call : CallF) (n : Nat) (m0 : Nat) (m1 : Nat) : f21_P25 f21_b call n m0 (m1 + 1) = f21_T25 call n (f21_P25 f21_b call n m0 m1) (f21_P30 f21_b call n m0) :=
  f21_o25 (piece [1, 1, 0, 1, 0, 0, 1, 1, 1] f21_b) call n m0 m1 _ (by kernel_rfl)
def f21_L25 (call : CallF) (n : Nat) (h_m0 : LC → LC → Int → Int → S_api_Event → OR) : Nat → LC → LC → Int → Int → LC → Int → Int → S_api_Event → OR
  | 0 => fun _ _ _ _ _ _ _ _ => none
  | m1 + 1 => f21_T25 call n (f21_L25 call n h_m0 m1) (f21_L30 call n h_m0)
theorem f21_e25 (call : CallF) (n : Nat) (m0 : Nat) : ∀ m1 : Nat, f21_P25 f21_b call n m0 m1 = f21_L25 call n (f21_P3 f21_b call n m0) m1
  | 0 => by funext x0 x1 x2 x3 x4 x5 x6 x7; kernel_rfl
  | m1 + 1 => by rw [f21_l25, f21_e30, f21_e25 call n m0 m1]; rfl
def f21_T3 (call : CallF) (n : Nat) (j24 : LC → LC → Int → Int → S_api_Event → OR) (j25n : LC → LC → Int → Int → LC → Int → Int → S_api_Event → OR) (x0 x1 : LC) (x2 x3 : Int) (x4 : S_api_Event) : OR :=
  bif (decide (x3 < x2)) then (
    itemK x1 x3 fun c1 =>
    castI .u8 c1 fun n2 =>
    bif (n2 == (115 : Int)) then (
      primK pItoa [.one (.int .i64 x4.fSlot)] fun v3 =>
      oS v3 fun s4 =>
      guardB (decide (((x0).length + (([.str s4] : List Cell)).length) * 1000 ≤ rowLim)) (
        j24 (x0 ++ ([.str s4] : List Cell)) x1 x2 x3 x4)) else (
      bif (n2 == (112 : Int)) then (
        callK call 52 [.one (.bool x4.fLmtp)] fun v5 =>
        oS v5 fun s6 =>
        guardB (decide (((x0).length + (([.str s6] : List Cell)).length) * 1000 ≤ rowLim)) (
          j24 (x0 ++ ([.str s6] : List Cell)) x1 x2 x3 x4)) else (
        bif (n2 == (100 : Int)) then (
          callK call 53 [.one (.sl none 1 x4.fData)] fun v7 =>
          oS v7 fun s8 =>
          guardB (decide (((x0).length + (([.str s8] : List Cell)).length) * 1000 ≤ rowLim)) (
            j24 (x0 ++ ([.str s8] : List Cell)) x1 x2 x3 x4)) else (
          bif (n2 == (110 : Int)) then (
            primK pItoa [.one (.int .i64 x4.fN)] fun v9 =>
            oS v9 fun s10 =>
            guardB (decide (((x0).length + (([.str s10] : List Cell)).length) * 1000 ≤ rowLim)) (
              j24 (x0 ++ ([.str s10] : List Cell)) x1 x2 x3 x4)) else (
            bif (n2 == (107 : Int)) then (
              primK pItoa [.one (.int .i64 x4.fK)] fun v11 =>
              oS v11 fun s12 =>
              guardB (decide (((x0).length + (([.str s12] : List Cell)).length) * 1000 ≤ rowLim)) (
                j24 (x0 ++ ([.str s12] : List Cell)) x1 x2 x3 x4)) else (
              bif (n2 == (98 : Int)) then (
                primK pItoa [.one (.int .i64 x4.fLimit_Bytes)] fun v13 =>
                oS v13 fun s14 =>
                guardB (decide (((x0).length + (([.str s14] : List Cell)).length) * 1000 ≤ rowLim)) (
                  j24 (x0 ++ ([.str s14] : List Cell)) x1 x2 x3 x4)) else (
                bif (n2 == (99 : Int)) then (
                  primK pItoa [.one (.int .i64 x4.fLimit_Count)] fun v15 =>
                  oS v15 fun s16 =>
                  guardB (decide (((x0).length + (([.str s16] : List Cell)).length) * 1000 ≤ rowLim)) (
                    j24 (x0 ++ ([.str s16] : List Cell)) x1 x2 x3 x4)) else (
                  bif (n2 == (101 : Int)) then (
                    primK pItoa [.one (.int .i64 x4.fCode)] fun v17 =>
                    oS v17 fun s18 =>
                    guardB (decide (((x0).length + (([.str s18] : List Cell)).length) * 1000 ≤ rowLim)) (
                      j24 (x0 ++ ([.str s18] : List Cell)) x1 x2 x3 x4)) else (
                    bif (n2 == (109 : Int)) then (
                      callK call 54 [.one (.str x4.fName)] fun v19 =>
                      oS v19 fun s20 =>
                      guardB (decide (((x0).length + (([.str s20] : List Cell)).length) * 1000 ≤ rowLim)) (
                        j24 (x0 ++ ([.str s20] : List Cell)) x1 x2 x3 x4)) else (
                      bif (n2 == (117 : Int)) then (
                        callK call 54 [.one (.str x4.fName)] fun v21 =>
                        oS v21 fun s22 =>
                        guardB (decide (((x0).length + (([.str s22] : List Cell)).length) * 1000 ≤ rowLim)) (
                          j24 (x0 ++ ([.str s22] : List Cell)) x1 x2 x3 x4)) else (
                        bif (n2 == (116 : Int)) then (
                          guardB (decide (((x0).length + (x4.fTo).length) * 1000 ≤ rowLim)) (
                            j24 (x0 ++ x4.fTo) x1 x2 x3 x4)) else (
                          bif (n2 == (119 : Int)) then (
                            j25n x0 x1 x2 x3 x4.fKeep (((x4.fKeep).length / 1 : Nat) : Int) (0 : Int) x4) else (
                            j24 x0 x1 x2 x3 x4))))))))))))) else (
    primK pJoin [.one (.sl none 1 x0), .one (.str ([32] : List UInt8))] fun v23 =>
    oS v23 fun s24 =>
    some (.one (.str s24), []))
theorem f21_o3 (X0 : Code) (call : CallF) (n : Nat) (m0 : Nat) (B : Code) (hB : B = (hole f21_b [1, 1, 0, 1, 0, 0, 1, 1, 1] X0)) : f21_P3 B call n (m0 + 1) = f21_T3 call n (f21_P24 B call n m0) (f21_P25 B call n m0 n) := by
  subst hB; funext x0 x1 x2 x3 x4; kernel_rfl
theorem f21_l3 (call : CallF) (n : Nat) (m0 : Nat) : f21_P3 f21_b call n (m0 + 1) = f21_T3 call n (f21_P24 f21_b call n m0) (f21_P25 f21_b call n m0 n) :=
  f21_o3 (piece [1, 1, 0, 1, 0, 0, 1, 1, 1] f21_b) call n m0 _ (by kernel_rfl)
def f21_L3 (call : CallF) (n : Nat) : Nat → LC → LC → Int → Int → S_api_Event → OR
  | 0 => fun _ _ _ _ _ => none
  | m0 + 1 => f21_T3 call n (f21_L24 call n (f21_L3 call n m0)) (f21_L25 call n (f21_L3 call n m0) n)
theorem f21_e3 (call : CallF) (n : Nat) : ∀ m0 : Nat, f21_P3 f21_b call n m0 = f21_L3 call n m0
  | 0 => by funext x0 x1 x2 x3 x4; kernel_rfl
  | m0 + 1 => by rw [f21_l3, f21_e24, f21_e25, f21_e3 call n m0]; rfl
/-- pigeonhole/script.written -/
def f21_T (call : CallF) (n : Nat) (j3n : LC → LC → Int → Int → S_api_Event → OR) (a0 : S_api_Event) : OR :=
  callK call 30 [] fun v37 =>
  oL 1 v37 fun l38 =>
  itemK l38 a0.fKind fun c39 =>
  castS c39 fun s40 =>
  callK call 51 [] fun v41 =>
  oL 1 v41 fun l42 =>
  itemK l42 a0.fKind fun c43 =>
  castS c43 fun s44 =>
  j3n ([.str s40] : List Cell) (byteCells s44) ((((byteCells s44)).length / 1 : Nat) : Int) (0 : Int) a0
def f21_L (call : CallF) (n : Nat) (a0 : S_api_Event) : OR :=
  f21_T call n (f21_L3 call n n) a0
theorem f21_o (call : CallF) (n : Nat) (B : Code) (hB : B = f21_b) : f21_P B call n = f21_T call n (f21_P3 B call n n) := by
  subst hB; funext a0; kernel_rfl
theorem f21_l (call : CallF) (n : Nat) : f21_P f21_b call n = f21_T call n (f21_P3 f21_b call n n) :=
  f21_o call n _ (by kernel_rfl)
theorem f21_e (call : CallF) (n : Nat) : f21_P f21_b call n = f21_L call n := by
  rw [f21_l, f21_e3]; rfl
theorem f21_eq (n : Nat) (a0 : S_api_Event) : acall AXE AXF (n + 1) 21 [.agg a0.cells] [] = f21_L (acall AXE AXF n) (n + 1) a0 :=
  (show _ = f21_P f21_b (acall AXE AXF n) (n + 1) a0 by kernel_rfl).trans (by rw [f21_e])
def f22_P3 (B : Code) (call : CallF) (n : Nat) (x0 : Bool) : OR :=
  f22_x B call n [1, 0, 1, 0, 1] (kSeq (f22_x B call n [1, 1]) (kEnd AXE 0 f22_r)) ⟨[(4, .one (.bool x0))], []⟩
def f22_P4 (B : Code) (call : CallF) (n : Nat) (x0 : Bool) : OR :=
  f22_x B call n [1, 1, 1] (kEnd AXE 0 f22_r) ⟨[(4, .one (.bool x0))], []⟩
def f22_P1 (B : Code) (call : CallF) (n : Nat) (x0 : Bool) (x1 x2 : S_api_Event) : OR :=
  f22_x B call n [1, 0, 1] (kSeq (f22_x B call n [1, 1]) (kEnd AXE 0 f22_r)) ⟨[(2, .one (.ptr 0 0)), (3, .one (.ptr 1 0)), (58, .one (.bool x0))], [x1.cells, x2.cells]⟩
def f22_P (B : Code) (call : CallF) (n : Nat) (a0 a1 : S_api_Event) : OR :=
  f22_x B call n [] (kEnd AXE 0 f22_r) ⟨[(0, .agg a0.cells), (1, .agg a1.cells)], []⟩
def f22_T3 (call : CallF) (n : Nat) (x0 : Bool) : OR :=
  some (.one (.bool x0), [])
theorem f22_o3 (call : CallF) (n : Nat) (B : Code) (hB : B = f22_b) : f22_P3 B call n = f22_T3 call n := by
  subst hB; funext x0; kernel_rfl
theorem f22_l3 (call : CallF) (n : Nat) : f22_P3 f22_b call n = f22_T3 call n :=
  f22_o3 call n _ (by kernel_rfl)
def f22_L3 (call : CallF) (n : Nat) : Bool → OR :=
  f22_T3 call n
theorem f22_e3 (call : CallF) (n : Nat) : f22_P3 f22_b call n = f22_L3 call n := by
  rw [f22_l3]; rfl
def f22_T4 (call : CallF) (n : Nat) (x0 : Bool) : OR :=
  some (.one (.bool x0), [])
theorem f22_o4 (call : CallF) (n : Nat) (B : Code) (hB : B = f22_b) : f22_P4 B call n = f22_T4 call n := by
  subst hB; funext x0; kernel_rfl
theorem f22_l4 (call : CallF) (n : Nat) : f22_P4 f22_b call n = f22_T4 call n :=
  f22_o4 call n _ (by kernel_rfl)
def f22_L4 (call : CallF) (n : Nat) : Bool → OR :=
  f22_T4 call n
theorem f22_e4 (call : CallF) (n : Nat) : f22_P4 f22_b call n = f22_L4 call n := by
  rw [f22_l4]; rfl
def f22_T1 (call : CallF) (n : Nat) (j3 : Bool → OR) (j4 : Bool → OR) (x0 : Bool) (x1 x2 : S_api_Event) : OR :=
  bif x0 then (
    j3 false) else (
    bytesK x1.fData fun s1 =>
    bytesK x2.fData fun s2 =>
    bif (s1 == s2) then (
      callK call 56 [.one (.sl none 1 x1.fTo), .one (.sl none 1 x2.fTo)] fun v3 =>
      oB v3 fun b4 =>
      bif b4 then (
        callK call 57 [.one (.sl none 1 x1.fKeep), .one (.sl none 1 x2.fKeep)] fun v5 =>
        oB v5 fun b6 =>
        j4 b6) else (
        j4 false)) else (
      j4 false))
theorem f22_o1 (X0 X1 : Code) (call : CallF) (n : Nat) (B : Code) (hB : B = (hole (hole f22_b [1, 0, 1, 0, 1] X0) [1, 1, 1] X1)) : f22_P1 B call n = f22_T1 call n (f22_P3 B call n) (f22_P4 B call n) := by
  subst hB; funext x0 x1 x2; cases x0 <;> kernel_rfl
theorem f22_l1 (call : CallF) (n : Nat) : f22_P1 f22_b call n = f22_T1 call n (f22_P3 f22_b call n) (f22_P4 f22_b call n) :=
  f22_o1 (piece [1, 0, 1, 0, 1] f22_b) (piece [1, 1, 1] f22_b) call n _ (by kernel_rfl)
def f22_L1 (call : CallF) (n : Nat) : Bool → S_api_Event → S_api_Event → OR :=
  f22_T1 call n (f22_L3 call n) (f22_L4 call n)
theorem f22_e1 (call : CallF) (n : Nat) : f22_P1 f22_b call n = f22_L1 call n := by
  rw [f22_l1, f22_e3, f22_e4]; rfl
/-- pigeonhole/script.same -/
def f22_T (call : CallF) (n : Nat) (j1 : Bool → S_api_Event → S_api_Event → OR) (a0 a1 : S_api_Event) : OR :=
  bif (a0.fKind != a1.fKind) then (
    j1 true a0 a1) else (
    bif (a0.fSlot != a1.fSlot) then (
      j1 true a0 a1) else (
      bif (a0.fN != a1.fN) then (
        j1 true a0 a1) else (
        bif (a0.fK != a1.fK) then (
          j1 true a0 a1) else (
          bif (!(a0.fLmtp == a1.fLmtp)) then (
            j1 true a0 a1) else (
            bif (!(a0.fName == a1.fName)) then (
              j1 true a0 a1) else (
              bif (!((a0.fLimit_Bytes == a1.fLimit_Bytes) && ((a0.fLimit_Count == a1.fLimit_Count) && true))) then (
                j1 true a0 a1) else (
                j1 (a0.fCode != a1.fCode) a0 a1)))))))
def f22_L (call : CallF) (n : Nat) (a0 a1 : S_api_Event) : OR :=
  f22_T call n (f22_L1 call n) a0 a1
theorem f22_o (X0 : Code) (call : CallF) (n : Nat) (B : Code) (hB : B = (hole f22_b [1, 0, 1] X0)) : f22_P B call n = f22_T call n (f22_P1 B call n) := by
  subst hB; funext a0 a1; kernel_rfl
theorem f22_l (call : CallF) (n : Nat) : f22_P f22_b call n = f22_T call n (f22_P1 f22_b call n) :=
  f22_o (piece [1, 0, 1] f22_b) call n _ (by kernel_rfl)
theorem f22_e (call : CallF) (n : Nat) : f22_P f22_b call n = f22_L call n := by
  rw [f22_l, f22_e1]; rfl
theorem f22_eq (n : Nat) (a0 a1 : S_api_Event) : acall AXE AXF (n + 1) 22 [.agg a0.cells, .agg a1.cells] [] = f22_L (acall AXE AXF n) (n + 1) a0 a1 :=
  (show _ = f22_P f22_b (acall AXE AXF n) (n + 1) a0 a1 by kernel_rfl).trans (by rw [f22_e])
def f23_P1 (B : Code) (call : CallF) (n : Nat) (x0 : Bool) : OR :=
  f23_x B call n [1, 1] (kEnd AXE 0 f23_r) ⟨[(2, .one (.bool x0))], []⟩
def f23_P (B : Code) (call : CallF) (n : Nat) (a0 : Int) : OR :=
  f23_x B call n [] (kEnd AXE 0 f23_r) ⟨[(0, .one (.int .i64 a0))], []⟩
def f23_T1 (call : CallF) (n : Nat) (x0 : Bool) : OR :=
  some (.one (.bool x0), [])
theorem f23_o1 (call : CallF) (n : Nat) (B : Code) (hB : B = f23_b) : f23_P1 B call n = f23_T1 call n := by
  subst hB; funext x0; kernel_rfl
theorem f23_l1 (call : CallF) (n : Nat) : f23_P1 f23_b call n = f23_T1 call n :=
  f23_o1 call n _ (by kernel_rfl)
def f23_L1 (call : CallF) (n : Nat) : Bool → OR :=
  f23_T1 call n
theorem f23_e1 (call : CallF) (n : Nat) : f23_P1 f23_b call n = f23_L1 call n := by
  rw [f23_l1]; rfl
/-- pigeonhole/pigeonholeref31.in -/
def f23_T (call : CallF) (n : Nat) (j1 : Bool → OR) (a0 : Int) : OR :=
  bif (decide (a0 ≥ (-9007199254740992 : Int))) then (
    j1 (decide (a0 ≤ (9007199254740992 : Int)))) else (
    j1 false)
def f23_L (call : CallF) (n : Nat) (a0 : Int) : OR :=
  f23_T call n (f23_L1 call n) a0
theorem f23_o (X0 : Code) (call : CallF) (n : Nat) (B : Code) (hB : B = (hole f23_b [1, 1] X0)) : f23_P B call n = f23_T call n (f23_P1 B call n) := by
  subst hB; funext a0; kernel_rfl
theorem f23_l (call : CallF) (n : Nat) : f23_P f23_b call n = f23_T call n (f23_P1 f23_b call n) :=
  f23_o (piece [1, 1] f23_b) call n _ (by kernel_rfl)
theorem f23_e (call : CallF) (n : Nat) : f23_P f23_b call n = f23_L call n := by
  rw [f23_l, f23_e1]; rfl
theorem f23_eq (n : Nat) (a0 : Int) : acall AXE AXF (n + 1) 23 [.one (.int .i64 a0)] [] = f23_L (acall AXE AXF n) (n + 1) a0 :=
  (show _ = f23_P f23_b (acall AXE AXF n) (n + 1) a0 by kernel_rfl).trans (by rw [f23_e])
def f24_P (B : Code) (call : CallF) (n : Nat) (a0 : Int) : OR :=
  f24_x B call n [] (kEnd AXE 0 f24_r) ⟨[(0, .one (.int .i64 a0))], []⟩
/-- pigeonhole/pigeonholeref31.word -/
def f24_T (call : CallF) (n : Nat) (a0 : Int) : OR :=
  itemK ([.str ([] : List UInt8), .str ([111, 112, 101, 110] : List UInt8), .str ([98, 121, 116, 101, 115] : List UInt8), .str ([99, 108, 111, 115, 101] : List UInt8), .str ([116, 105, 99, 107] : List UInt8), .str ([114, 117, 110] : List UInt8), .str ([117, 115, 101, 114] : List UInt8), .str ([108, 105, 109, 105, 116] : List UInt8), .str ([97, 108, 105, 97, 115] : List UInt8), .str ([117, 110, 97, 108, 105, 97, 115] : List UInt8), .str ([101, 120, 112, 117, 110, 103, 101] : List UInt8), .str ([102, 108, 97, 103] : List UInt8), .str ([99, 111, 109, 112, 97, 99, 116] : List UInt8), .str ([112, 101, 114, 115, 105, 115, 116] : List UInt8), .str ([102, 97, 105, 108] : List UInt8), .str ([99, 114, 97, 115, 104] : List UInt8), .str ([98, 111, 111, 116] : List UInt8), .str ([114, 101, 112, 97, 105, 114] : List UInt8)] : List Cell) a0 fun c3 =>
  castS c3 fun s4 =>
  some (.one (.str s4), [])
def f24_L (call : CallF) (n : Nat) (a0 : Int) : OR :=
  f24_T call n a0
theorem f24_o (call : CallF) (n : Nat) (B : Code) (hB : B = f24_b) : f24_P B call n = f24_T call n := by
  subst hB; funext a0; kernel_rfl
theorem f24_l (call : CallF) (n : Nat) : f24_P f24_b call n = f24_T call n :=
  f24_o call n _ (by kernel_rfl)
theorem f24_e (call : CallF) (n : Nat) : f24_P f24_b call n = f24_L call n := by
  rw [f24_l]; rfl
theorem f24_eq (n : Nat) (a0 : Int) : acall AXE AXF (n + 1) 24 [.one (.int .i64 a0)] [] = f24_L (acall AXE AXF n) (n + 1) a0 :=
  (show _ = f24_P f24_b (acall AXE AXF n) (n + 1) a0 by kernel_rfl).trans (by rw [f24_e])
def f25_P5 (B : Code) (call : CallF) (n : Nat) (m0 : Nat) (x0 : Int) (x1 : LB) : OR :=
  aloop 1000004 (pruneAt f25_h 1000004) (f25_x B call n [1, 1, 1, 0, 0, 0]) (kBlk 0 (kSeq (f25_x B call n [1, 1, 1, 1]) (kEnd AXE 0 f25_r))) m0 ⟨[(0, .one (.int .i64 x0)), (3, .one (.str x1))], []⟩
def f25_P (B : Code) (call : CallF) (n : Nat) (a0 : Int) : OR :=
  f25_x B call n [] (kEnd AXE 0 f25_r) ⟨[(0, .one (.int .i64 a0))], []⟩
def f25_T5 (call : CallF) (n : Nat) (j5m : Int → LB → OR) (x0 : Int) (x1 : LB) : OR :=
  bif (decide (x0 ≥ (10 : Int))) then (
    bytesK ([.int .u8 (IntKind.wrap .u8 (IntKind.wrap .i64 ((48 : Int) + (Int.tmod (IntKind.wrap .i64 (Int.tdiv x0 (10 : Int))) (10 : Int)))))] : List Cell) fun s1 =>
    bif decide ((s1).length + (x1).length ≤ strLim) then (
      j5m (IntKind.wrap .i64 (Int.tdiv x0 (10 : Int))) (s1 ++ x1)) else none) else (
    some (.one (.str x1), []))
theorem f25_o5 (call : CallF) (n : Nat) (m0 : Nat) (B : Code) (hB : B = f25_b) : f25_P5 B call n (m0 + 1) = f25_T5 call n (f25_P5 B call n m0) := by
  subst hB; funext x0 x1; kernel_rfl
theorem f25_l5 (call : CallF) (n : Nat) (m0 : Nat) : f25_P5 f25_b call n (m0 + 1) = f25_T5 call n (f25_P5 f25_b call n m0) :=
  f25_o5 call n m0 _ (by kernel_rfl)
def f25_L5 (call : CallF) (n : Nat) : Nat → Int → LB → OR
  | 0 => fun _ _ => none
  | m0 + 1 => f25_T5 call n (f25_L5 call n m0)
theorem f25_e5 (call : CallF) (n : Nat) : ∀ m0 : Nat, f25_P5 f25_b call n m0 = f25_L5 call n m0
  | 0 => by funext x0 x1; kernel_rfl
  | m0 + 1 => by rw [f25_l5, f25_e5 call n m0]; rfl
/-- pigeonhole/pigeonholeref31.digits -/
def f25_T (call : CallF) (n : Nat) (j5n : Int → LB → OR) (a0 : Int) : OR :=
  bif (decide (a0 < (0 : Int))) then (
    callK call 25 [.one (.int .i64 (IntKind.wrap .i64 (0 - a0)))] fun v5 =>
    oS v5 fun s6 =>
    bif decide ((([45] : List UInt8)).length + (s6).length ≤ strLim) then (
      some (.one (.str (([45] : List UInt8) ++ s6)), [])) else none) else (
    bytesK ([.int .u8 (IntKind.wrap .u8 (IntKind.wrap .i64 ((48 : Int) + (Int.tmod a0 (10 : Int)))))] : List Cell) fun s7 =>
    j5n a0 s7)
def f25_L (call : CallF) (n : Nat) (a0 : Int) : OR :=
  f25_T call n (f25_L5 call n n) a0
theorem f25_o (call : CallF) (n : Nat) (B : Code) (hB : B = f25_b) : f25_P B call n = f25_T call n (f25_P5 B call n n) := by
  subst hB; funext a0; kernel_rfl
theorem f25_l (call : CallF) (n : Nat) : f25_P f25_b call n = f25_T call n (f25_P5 f25_b call n n) :=
  f25_o call n _ (by kernel_rfl)
theorem f25_e (call : CallF) (n : Nat) : f25_P f25_b call n = f25_L call n := by
  rw [f25_l, f25_e5]; rfl
theorem f25_eq (n : Nat) (a0 : Int) : acall AXE AXF (n + 1) 25 [.one (.int .i64 a0)] [] = f25_L (acall AXE AXF n) (n + 1) a0 :=
  (show _ = f25_P f25_b (acall AXE AXF n) (n + 1) a0 by kernel_rfl).trans (by rw [f25_e])
def f26_P11 (B : Code) (call : CallF) (n : Nat) (m0 : Nat) (x0 : LC) (x1 x2 : LB) (x3 : Int) : OR :=
  f26_x B call n [1, 1, 1, 0, 1, 0, 0, 1, 1] (kSeq (fun k => prK 1000004 (pruneAt f26_h 1000004) (aloop 1000004 (pruneAt f26_h 1000004) (f26_x B call n [1, 1, 1, 0, 1, 0, 0]) k m0)) (kBlk 0 (kSeq (f26_x B call n [1, 1, 1, 1]) (kEnd AXE 0 f26_r)))) ⟨[(0, .one (.sl none 1 x0)), (3, .one (.str x1)), (4, .one (.str x2)), (5, .one (.int .i64 x3))], []⟩
def f26_P14 (B : Code) (call : CallF) (n : Nat) (m0 : Nat) (x0 : LC) (x1 x2 : LB) (x3 x4 : Int) (x5 : Bool) : OR :=
  f26_x B call n [1, 1, 1, 0, 1, 0, 0, 1, 0, 0, 1, 1, 1, 1, 1, 1, 1, 1] (kBlk 1 (kSeq (f26_x B call n [1, 1, 1, 0, 1, 0, 0, 1, 1]) (kSeq (fun k => prK 1000004 (pruneAt f26_h 1000004) (aloop 1000004 (pruneAt f26_h 1000004) (f26_x B call n [1, 1, 1, 0, 1, 0, 0]) k m0)) (kBlk 0 (kSeq (f26_x B call n [1, 1, 1, 1]) (kEnd AXE 0 f26_r)))))) ⟨[(0, .one (.sl none 1 x0)), (3, .one (.str x1)), (4, .one (.str x2)), (5, .one (.int .i64 x3)), (6, .one (.int .u8 x4)), (45, .one (.bool x5))], []⟩
def f26_P13 (B : Code) (call : CallF) (n : Nat) (m0 : Nat) (x0 : LC) (x1 x2 : LB) (x3 x4 : Int) (x5 : Bool) : OR :=
  f26_x B call n [1, 1, 1, 0, 1, 0, 0, 1, 0, 0, 1, 1, 1, 1, 1, 1] (kBlk 1 (kSeq (f26_x B call n [1, 1, 1, 0, 1, 0, 0, 1, 1]) (kSeq (fun k => prK 1000004 (pruneAt f26_h 1000004) (aloop 1000004 (pruneAt f26_h 1000004) (f26_x B call n [1, 1, 1, 0, 1, 0, 0]) k m0)) (kBlk 0 (kSeq (f26_x B call n [1, 1, 1, 1]) (kEnd AXE 0 f26_r)))))) ⟨[(0, .one (.sl none 1 x0)), (3, .one (.str x1)), (4, .one (.str x2)), (5, .one (.int .i64 x3)), (6, .one (.int .u8 x4)), (41, .one (.bool x5))], []⟩
def f26_P12 (B : Code) (call : CallF) (n : Nat) (m0 : Nat) (x0 : LC) (x1 x2 : LB) (x3 x4 : Int) (x5 : Bool) : OR :=
  f26_x B call n [1, 1, 1, 0, 1, 0, 0, 1, 0, 0, 1, 1, 1, 1] (kBlk 1 (kSeq (f26_x B call n [1, 1, 1, 0, 1, 0, 0, 1, 1]) (kSeq (fun k => prK 1000004 (pruneAt f26_h 1000004) (aloop 1000004 (pruneAt f26_h 1000004) (f26_x B call n [1, 1, 1, 0, 1, 0, 0]) k m0)) (kBlk 0 (kSeq (f26_x B call n [1, 1, 1, 1]) (kEnd AXE 0 f26_r)))))) ⟨[(0, .one (.sl none 1 x0)), (3, .one (.str x1)), (4, .one (.str x2)), (5, .one (.int .i64 x3)), (6, .one (.int .u8 x4)), (34, .one (.bool x5))], []⟩
def f26_P10 (B : Code) (call : CallF) (n : Nat) (m0 : Nat) (x0 : LC) (x1 x2 : LB) (x3 x4 : Int) (x5 : Bool) : OR :=
  f26_x B call n [1, 1, 1, 0, 1, 0, 0, 1, 0, 0, 1, 1] (kBlk 1 (kSeq (f26_x B call n [1, 1, 1, 0, 1, 0, 0, 1, 1]) (kSeq (fun k => prK 1000004 (pruneAt f26_h 1000004) (aloop 1000004 (pruneAt f26_h 1000004) (f26_x B call n [1, 1, 1, 0, 1, 0, 0]) k m0)) (kBlk 0 (kSeq (f26_x B call n [1, 1, 1, 1]) (kEnd AXE 0 f26_r)))))) ⟨[(0, .one (.sl none 1 x0)), (3, .one (.str x1)), (4, .one (.str x2)), (5, .one (.int .i64 x3)), (6, .one (.int .u8 x4)), (22, .one (.bool x5))], []⟩
def f26_P4 (B : Code) (call : CallF) (n : Nat) (m0 : Nat) (x0 : LC) (x1 x2 : LB) (x3 : Int) : OR :=
  aloop 1000004 (pruneAt f26_h 1000004) (f26_x B call n [1, 1, 1, 0, 1, 0, 0]) (kBlk 0 (kSeq (f26_x B call n [1, 1, 1, 1]) (kEnd AXE 0 f26_r))) m0 ⟨[(0, .one (.sl none 1 x0)), (3, .one (.str x1)), (4, .one (.str x2)), (5, .one (.int .i64 x3))], []⟩
def f26_P (B : Code) (call : CallF) (n : Nat) (a0 : LC) : OR :=
  f26_x B call n [] (kEnd AXE 0 f26_r) ⟨[(0, .one (.sl none 1 a0))], []⟩
def f26_T11 (call : CallF) (n : Nat) (j4m : LC → LB → LB → Int → OR) (x0 : LC) (x1 x2 : LB) (x3 : Int) : OR :=
  j4m x0 x1 x2 (IntKind.wrap .i64 (x3 + (1 : Int)))
theorem f26_o11 (call : CallF) (n : Nat) (m0 : Nat) (B : Code) (hB : B = f26_b) : f26_P11 B call n m0 = f26_T11 call n (f26_P4 B call n m0) := by
  subst hB; funext x0 x1 x2 x3; kernel_rfl
theorem f26_l11 (call : CallF) (n : Nat) (m0 : Nat) : f26_P11 f26_b call n m0 = f26_T11 call n (f26_P4 f26_b call n m0) :=
  f26_o11 call n m0 _ (by kernel_rfl)
def f26_L11 (call : CallF) (n : Nat) (h_m0 : LC → LB → LB → Int → OR) : LC → LB → LB → Int → OR :=
  f26_T11 call n h_m0
theorem f26_e11 (call : CallF) (n : Nat) (m0 : Nat) : f26_P11 f26_b call n m0 = f26_L11 call n (f26_P4 f26_b call n m0) := by
  rw [f26_l11]; rfl
def f26_T14 (call : CallF) (n : Nat) (j11 : LC → LB → LB → Int → OR) (x0 : LC) (x1 x2 : LB) (x3 x4 : Int) (x5 : Bool) : OR :=
  bif x5 then (
    bif decide ((x2).length + (([92, 110] : List UInt8)).length ≤ strLim) then (
      j11 x0 x1 (x2 ++ ([92, 110] : List UInt8)) x3) else none) else (
    bif decide ((x2).length + (([92, 120] : List UInt8)).length ≤ strLim) then (
      bif decide (0 ≤ (IntKind.wrap .u8 (Int.tdiv x4 (16 : Int))) ∧ (IntKind.wrap .u8 (Int.tdiv x4 (16 : Int))) ≤ (IntKind.wrap .u8 ((IntKind.wrap .u8 (Int.tdiv x4 (16 : Int))) + (1 : Int))) ∧ (Int.toNat (IntKind.wrap .u8 ((IntKind.wrap .u8 (Int.tdiv x4 (16 : Int))) + (1 : Int)))) ≤ (x1).length) then (
        bif decide (((x2 ++ ([92, 120] : List UInt8))).length + (((x1.take (Int.toNat (IntKind.wrap .u8 ((IntKind.wrap .u8 (Int.tdiv x4 (16 : Int))) + (1 : Int))))).drop (Int.toNat (IntKind.wrap .u8 (Int.tdiv x4 (16 : Int)))))).length ≤ strLim) then (
          bif decide (0 ≤ (Int.tmod x4 (16 : Int)) ∧ (Int.tmod x4 (16 : Int)) ≤ (IntKind.wrap .u8 ((Int.tmod x4 (16 : Int)) + (1 : Int))) ∧ (Int.toNat (IntKind.wrap .u8 ((Int.tmod x4 (16 : Int)) + (1 : Int)))) ≤ (x1).length) then (
            bif decide ((((x2 ++ ([92, 120] : List UInt8)) ++ ((x1.take (Int.toNat (IntKind.wrap .u8 ((IntKind.wrap .u8 (Int.tdiv x4 (16 : Int))) + (1 : Int))))).drop (Int.toNat (IntKind.wrap .u8 (Int.tdiv x4 (16 : Int))))))).length + (((x1.take (Int.toNat (IntKind.wrap .u8 ((Int.tmod x4 (16 : Int)) + (1 : Int))))).drop (Int.toNat (Int.tmod x4 (16 : Int))))).length ≤ strLim) then (
              j11 x0 x1 (((x2 ++ ([92, 120] : List UInt8)) ++ ((x1.take (Int.toNat (IntKind.wrap .u8 ((IntKind.wrap .u8 (Int.tdiv x4 (16 : Int))) + (1 : Int))))).drop (Int.toNat (IntKind.wrap .u8 (Int.tdiv x4 (16 : Int)))))) ++ ((x1.take (Int.toNat (IntKind.wrap .u8 ((Int.tmod x4 (16 : Int)) + (1 : Int))))).drop (Int.toNat (Int.tmod x4 (16 : Int))))) x3) else none) else none) else none) else none) else none)
theorem f26_o14 (X0 : Code) (call : CallF) (n : Nat) (m0 : Nat) (B : Code) (hB : B = (hole f26_b [1, 1, 1, 0, 1, 0, 0, 1, 1] X0)) : f26_P14 B call n m0 = f26_T14 call n (f26_P11 B call n m0) := by
  subst hB; funext x0 x1 x2 x3 x4 x5; cases x5 <;> kernel_rfl
theorem f26_l14 (call : CallF) (n : Nat) (m0 : Nat) : f26_P14 f26_b call n m0 = f26_T14 call n (f26_P11 f26_b call n m0) :=
  f26_o14 (piece [1, 1, 1, 0, 1, 0, 0, 1, 1] f26_b) call n m0 _ (by kernel_rfl)
def f26_L14 (call : CallF) (n : Nat) (h_m0 : LC → LB → LB → Int → OR) : LC → LB → LB → Int → Int → Bool → OR :=
  f26_T14 call n (f26_L11 call n h_m0)
theorem f26_e14 (call : CallF) (n : Nat) (m0 : Nat) : f26_P14 f26_b call n m0 = f26_L14 call n (f26_P4 f26_b call n m0) := by
  rw [f26_l14, f26_e11]; rfl
def f26_T13 (call : CallF) (n : Nat) (j11 : LC → LB → LB → Int → OR) (j14 : LC → LB → LB → Int → Int → Bool → OR) (x0 : LC) (x1 x2 : LB) (x3 x4 : Int) (x5 : Bool) : OR :=
  bif x5 then (
    bif decide ((x2).length + (([92, 114] : List UInt8)).length ≤ strLim) then (
      j11 x0 x1 (x2 ++ ([92, 114] : List UInt8)) x3) else none) else (
    j14 x0 x1 x2 x3 x4 (x4 == (10 : Int)))
theorem f26_o13 (X0 X1 : Code) (call : CallF) (n : Nat) (m0 : Nat) (B : Code) (hB : B = (hole (hole f26_b [1, 1, 1, 0, 1, 0, 0, 1, 0, 0, 1, 1, 1, 1, 1, 1, 1, 1] X0) [1, 1, 1, 0, 1, 0, 0, 1, 1] X1)) : f26_P13 B call n m0 = f26_T13 call n (f26_P11 B call n m0) (f26_P14 B call n m0) := by
  subst hB; funext x0 x1 x2 x3 x4 x5; cases x5 <;> kernel_rfl
theorem f26_l13 (call : CallF) (n : Nat) (m0 : Nat) : f26_P13 f26_b call n m0 = f26_T13 call n (f26_P11 f26_b call n m0) (f26_P14 f26_b call n m0) :=
  f26_o13 (piece [1, 1, 1, 0, 1, 0, 0, 1, 0, 0, 1, 1, 1, 1, 1, 1, 1, 1] f26_b) (piece [1, 1, 1, 0, 1, 0, 0, 1, 1] f26_b) call n m0 _ (by kernel_rfl)
def f26_L13 (call : CallF) (n : Nat) (h_m0 : LC → LB → LB → Int → OR) : LC → LB → LB → Int → Int → Bool → OR :=
  f26_T13 call n (f26_L11 call n h_m0) (f26_L14 call n h_m0)
theorem f26_e13 (call : CallF) (n : Nat) (m0 : Nat) : f26_P13 f26_b call n m0 = f26_L13 call n (f26_P4 f26_b call n m0) := by
  rw [f26_l13, f26_e11, f26_e14]; rfl
def f26_T12 (call : CallF) (n : Nat) (j11 : LC → LB → LB → Int → OR) (j13 : LC → LB → LB → Int → Int → Bool → OR) (x0 : LC) (x1 x2 : LB) (x3 x4 : Int) (x5 : Bool) : OR :=
  bif x5 then (
    bytesK ([.int .u8 x4] : List Cell) fun s1 =>
    bif decide ((x2).length + (s1).length ≤ strLim) then (
      j11 x0 x1 (x2 ++ s1) x3) else none) else (
    j13 x0 x1 x2 x3 x4 (x4 == (13 : Int)))
theorem f26_o12 (X0 X1 : Code) (call : CallF) (n : Nat) (m0 : Nat) (B : Code) (hB : B = (hole (hole f26_b [1, 1, 1, 0, 1, 0, 0, 1, 0, 0, 1, 1, 1, 1, 1, 1] X0) [1, 1, 1, 0, 1, 0, 0, 1, 1] X1)) : f26_P12 B call n m0 = f26_T12 call n (f26_P11 B call n m0) (f26_P13 B call n m0) := by
  subst hB; funext x0 x1 x2 x3 x4 x5; cases x5 <;> kernel_rfl
theorem f26_l12 (call : CallF) (n : Nat) (m0 : Nat) : f26_P12 f26_b call n m0 = f26_T12 call n (f26_P11 f26_b call n m0) (f26_P13 f26_b call n m0) :=
  f26_o12 (piece [1, 1, 1, 0, 1, 0, 0, 1, 0, 0, 1, 1, 1, 1, 1, 1] f26_b) (piece [1, 1, 1, 0, 1, 0, 0, 1, 1] f26_b) call n m0 _ (by kernel_rfl)
def f26_L12 (call : CallF) (n : Nat) (h_m0 : LC → LB → LB → Int → OR) : LC → LB → LB → Int → Int → Bool → OR :=
  f26_T12 call n (f26_L11 call n h_m0) (f26_L13 call n h_m0)
theorem f26_e12 (call : CallF) (n : Nat) (m0 : Nat) : f26_P12 f26_b call n m0 = f26_L12 call n (f26_P4 f26_b call n m0) := by
  rw [f26_l12, f26_e11, f26_e13]; rfl
def f26_T10 (call : CallF) (n : Nat) (j11 : LC → LB → LB → Int → OR) (j12 : LC → LB → LB → Int → Int → Bool → OR) (x0 : LC) (x1 x2 : LB) (x3 x4 : Int) (x5 : Bool) : OR :=
  bif x5 then (
    bif decide ((x2).length + (([92] : List UInt8)).length ≤ strLim) then (
      bytesK ([.int .u8 x4] : List Cell) fun s1 =>
      bif decide (((x2 ++ ([92] : List UInt8))).length + (s1).length ≤ strLim) then (
        j11 x0 x1 ((x2 ++ ([92] : List UInt8)) ++ s1) x3) else none) else none) else (
    bif (decide (x4 ≥ (32 : Int))) then (
      j12 x0 x1 x2 x3 x4 (decide (x4 ≤ (126 : Int)))) else (
      j12 x0 x1 x2 x3 x4 false))
theorem f26_o10 (X0 X1 : Code) (call : CallF) (n : Nat) (m0 : Nat) (B : Code) (hB : B = (hole (hole f26_b [1, 1, 1, 0, 1, 0, 0, 1, 0, 0, 1, 1, 1, 1] X0) [1, 1, 1, 0, 1, 0, 0, 1, 1] X1)) : f26_P10 B call n m0 = f26_T10 call n (f26_P11 B call n m0) (f26_P12 B call n m0) := by
  subst hB; funext x0 x1 x2 x3 x4 x5; cases x5 <;> kernel_rfl
theorem f26_l10 (call : CallF) (n : Nat) (m0 : Nat) : f26_P10 f26_b call n m0 = f26_T10 call n (f26_P11 f26_b call n m0) (f26_P12 f26_b call n m0) :=
  f26_o10 (piece [1, 1, 1, 0, 1, 0, 0, 1, 0, 0, 1, 1, 1, 1] f26_b) (piece [1, 1, 1, 0, 1, 0, 0, 1, 1] f26_b) call n m0 _ (by kernel_rfl)
def f26_L10 (call : CallF) (n : Nat) (h_m0 : LC → LB → LB → Int → OR) : LC → LB → LB → Int → Int → Bool → OR :=
  f26_T10 call n (f26_L11 call n h_m0) (f26_L12 call n h_m0)
theorem f26_e10 (call : CallF) (n : Nat) (m0 : Nat) : f26_P10 f26_b call n m0 = f26_L10 call n (f26_P4 f26_b call n m0) := by
  rw [f26_l10, f26_e11, f26_e12]; rfl
def f26_T4 (call : CallF) (n : Nat) (j10 : LC → LB → LB → Int → Int → Bool → OR) (x0 : LC) (x1 x2 : LB) (x3 : Int) : OR :=
  bif (decide (x3 < (((x0).length / 1 : Nat) : Int))) then (
    itemK x0 x3 fun c1 =>
    castI .u8 c1 fun n2 =>
    bif (n2 == (34 : Int)) then (
      j10 x0 x1 x2 x3 n2 true) else (
      j10 x0 x1 x2 x3 n2 (n2 == (92 : Int)))) else (
    bif decide ((x2).length + (([34] : List UInt8)).length ≤ strLim) then (
      some (.one (.str (x2 ++ ([34] : List UInt8))), [])) else none)
theorem f26_o4 (X0 : Code) (call : CallF) (n : Nat) (m0 : Nat) (B : Code) (hB : B = (hole f26_b [1, 1, 1, 0, 1, 0, 0, 1, 0, 0, 1, 1] X0)) : f26_P4 B call n (m0 + 1) = f26_T4 call n (f26_P10 B call n m0) := by
  subst hB; funext x0 x1 x2 x3; kernel_rfl
theorem f26_l4 (call : CallF) (n : Nat) (m0 : Nat) : f26_P4 f26_b call n (m0 + 1) = f26_T4 call n (f26_P10 f26_b call n m0) :=
  f26_o4 (piece [1, 1, 1, 0, 1, 0, 0, 1, 0, 0, 1, 1] f26_b) call n m0 _ (by kernel_rfl)
def f26_L4 (call : CallF) (n : Nat) : Nat → LC → LB → LB → Int → OR
  | 0 => fun _ _ _ _ => none
  | m0 + 1 => f26_T4 call n (f26_L10 call n (f26_L4 call n m0))
theorem f26_e4 (call : CallF) (n : Nat) : ∀ m0 : Nat, f26_P4 f26_b call n m0 = f26_L4 call n m0
  | 0 => by funext x0 x1 x2 x3; kernel_rfl
  | m0 + 1 => by rw [f26_l4, f26_e10, f26_e4 call n m0]; rfl
/-- pigeonhole/pigeonholeref31.Data -/
def f26_T (call : CallF) (n : Nat) (j4n : LC → LB → LB → Int → OR) (a0 : LC) : OR :=
  j4n a0 ([48, 49, 50, 51, 52, 53, 54, 55, 56, 57, 97, 98, 99, 100, 101, 102] : List UInt8) ([34] : List UInt8) (0 : Int)
def f26_L (call : CallF) (n : Nat) (a0 : LC) : OR :=
  f26_T call n (f26_L4 call n n) a0
theorem f26_o (call : CallF) (n : Nat) (B : Code) (hB : B = f26_b) : f26_P B call n = f26_T call n (f26_P4 B call n n) := by
  subst hB; funext a0; kernel_rfl
theorem f26_l (call : CallF) (n : Nat) : f26_P f26_b call n = f26_T call n (f26_P4 f26_b call n n) :=
  f26_o call n _ (by kernel_rfl)
theorem f26_e (call : CallF) (n : Nat) : f26_P f26_b call n = f26_L call n := by
  rw [f26_l, f26_e4]; rfl
theorem f26_eq (n : Nat) (a0 : LC) : acall AXE AXF (n + 1) 26 [.one (.sl none 1 a0)] [] = f26_L (acall AXE AXF n) (n + 1) a0 :=
  (show _ = f26_P f26_b (acall AXE AXF n) (n + 1) a0 by kernel_rfl).trans (by rw [f26_e])
def f27_P (B : Code) (call : CallF) (n : Nat) (a0 : LB) : OR :=
  f27_x B call n [] (kEnd AXE 0 f27_r) ⟨[(0, .one (.str a0))], []⟩
/-- pigeonhole/pigeonholeref31.name -/
def f27_T (call : CallF) (n : Nat) (a0 : LB) : OR :=
  bif (a0 == ([] : List UInt8)) then (
    some (.one (.str ([42] : List UInt8)), [])) else (
    some (.one (.str a0), []))
def f27_L (call : CallF) (n : Nat) (a0 : LB) : OR :=
  f27_T call n a0
theorem f27_o (call : CallF) (n : Nat) (B : Code) (hB : B = f27_b) : f27_P B call n = f27_T call n := by
  subst hB; funext a0; kernel_rfl
theorem f27_l (call : CallF) (n : Nat) : f27_P f27_b call n = f27_T call n :=
  f27_o call n _ (by kernel_rfl)
theorem f27_e (call : CallF) (n : Nat) : f27_P f27_b call n = f27_L call n := by
  rw [f27_l]; rfl
theorem f27_eq (n : Nat) (a0 : LB) : acall AXE AXF (n + 1) 27 [.one (.str a0)] [] = f27_L (acall AXE AXF n) (n + 1) a0 :=
  (show _ = f27_P f27_b (acall AXE AXF n) (n + 1) a0 by kernel_rfl).trans (by rw [f27_e])
end
end AX
end Go.Proofs.YtfbicbgdfcbhpaaGreatDoor
