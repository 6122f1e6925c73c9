/-
  CxFun1.
-/
import Derived.Test.YtfbicbgdfcbhpaaGreatDoorCt32
set_option maxRecDepth 20000
set_option linter.unusedVariables false
set_option linter.unusedSimpArgs false
set_option linter.unusedSectionVars false
namespace Go.Proofs.YtfbicbgdfcbhpaaGreatDoor
namespace AX
set_option linter.unusedVariables false
noncomputable section
def f5_P8 (B : Code) (call : CallF) (n : Nat) (x0 : Bool) : OR :=
 f5_x B call n [1, 1, 0, 1, 0, 1] (kSeq (f5_x B call n [1, 1, 1]) (kEnd AXE 0 f5_r)) ⟨[(2, .one (.bool x0))], []⟩
def f5_P15 (B : Code) (call : CallF) (n : Nat) (x0 : Bool) : OR :=
 f5_x B call n [1, 1, 1, 1, 1, 0, 1, 0, 1] (kSeq (f5_x B call n [1, 1, 1, 1, 1, 1]) (kEnd AXE 0 f5_r)) ⟨[(2, .one (.bool x0))], []⟩
def f5_P16 (B : Code) (call : CallF) (n : Nat) (x0 : Bool) : OR :=
 f5_x B call n [1, 1, 1, 1, 1, 1, 1, 1, 1] (kEnd AXE 0 f5_r) ⟨[(2, .one (.bool x0))], []⟩
def f5_P9 (B : Code) (call : CallF) (n : Nat) (x0 : LB) (x1 : Int) (x2 : Bool) (x3 : S_api_Cmd) : OR :=
 f5_x B call n [1, 1, 1, 1, 1, 0, 1] (kSeq (f5_x B call n [1, 1, 1, 1, 1, 1]) (kEnd AXE 0 f5_r)) ⟨[(1, .one (.ptr 0 0)), (3, .one (.str x0)), (4, .one (.int .i64 x1)), (46, .one (.bool x2))], [x3.cells]⟩
def f5_P4 (B : Code) (call : CallF) (n : Nat) (x0 : Bool) (x1 : S_api_Cmd) : OR :=
 f5_x B call n [1, 1, 0, 1] (kSeq (f5_x B call n [1, 1, 1]) (kEnd AXE 0 f5_r)) ⟨[(1, .one (.ptr 0 0)), (28, .one (.bool x0))], [x1.cells]⟩
def f5_P (B : Code) (call : CallF) (n : Nat) (a0 : S_api_Cmd) : OR :=
 f5_x B call n [] (kEnd AXE 0 f5_r) ⟨[(0, .agg a0.cells)], []⟩
def f5_T8 (call : CallF) (n : Nat) (x0 : Bool) : OR :=
 some (.one (.bool x0), [])
theorem f5_o8 (call : CallF) (n : Nat) (B : Code) (hB : B = f5_b) : f5_P8 B call n = f5_T8 call n := by
 subst hB; funext x0; kernel_rfl
theorem f5_l8 (call : CallF) (n : Nat) : f5_P8 f5_b call n = f5_T8 call n :=
 f5_o8 call n _ (by kernel_rfl)
def f5_L8 (call : CallF) (n : Nat) : Bool → OR :=
 f5_T8 call n
theorem f5_e8 (call : CallF) (n : Nat) : f5_P8 f5_b call n = f5_L8 call n := by
 rw [f5_l8]; rfl
def f5_T15 (call : CallF) (n : Nat) (x0 : Bool) : OR :=
 some (.one (.bool x0), [])
theorem f5_o15 (call : CallF) (n : Nat) (B : Code) (hB : B = f5_b) : f5_P15 B call n = f5_T15 call n := by
 subst hB; funext x0; kernel_rfl
theorem f5_l15 (call : CallF) (n : Nat) : f5_P15 f5_b call n = f5_T15 call n :=
 f5_o15 call n _ (by kernel_rfl)
def f5_L15 (call : CallF) (n : Nat) : Bool → OR :=
 f5_T15 call n
theorem f5_e15 (call : CallF) (n : Nat) : f5_P15 f5_b call n = f5_L15 call n := by
 rw [f5_l15]; rfl
def f5_T16 (call : CallF) (n : Nat) (x0 : Bool) : OR :=
 some (.one (.bool x0), [])
theorem f5_o16 (call : CallF) (n : Nat) (B : Code) (hB : B = f5_b) : f5_P16 B call n = f5_T16 call n := by
 subst hB; funext x0; kernel_rfl
theorem f5_l16 (call : CallF) (n : Nat) : f5_P16 f5_b call n = f5_T16 call n :=
 f5_o16 call n _ (by kernel_rfl)
def f5_L16 (call : CallF) (n : Nat) : Bool → OR :=
 f5_T16 call n
theorem f5_e16 (call : CallF) (n : Nat) : f5_P16 f5_b call n = f5_L16 call n := by
 rw [f5_l16]; rfl
def f5_T9 (call : CallF) (n : Nat) (j15 : Bool → OR) (j16 : Bool → OR) (x0 : LB) (x1 : Int) (x2 : Bool) (x3 : S_api_Cmd) : OR :=
 bif x2 then (
  j15 false) else (
  bif (x1 != (0 : Int)) then (
   some (.one (.bool true), [])) else (
   callK call 14 [.one (.str x0)] fun v1 =>
   castTup v1 fun v2 =>
   consK v2 fun z3 r4 =>
   aggV z3 fun r5 =>
   takeS_api_Cmd r5 fun w6 r7 =>
   nilK r7 (
    zI .i64 r4 fun n8 r9 =>
    nilK r9 (
     bif (n8 == (0 : Int)) then (
      j16 ((w6.fVerb == x3.fVerb) && ((w6.fArg == x3.fArg) && (((w6.fPath_Local == x3.fPath_Local) && ((w6.fPath_Domain == x3.fPath_Domain) && true)) && ((w6.fNull == x3.fNull) && ((w6.fSize == x3.fSize) && ((w6.fBody == x3.fBody) && true))))))) else (
      j16 false)))))
theorem f5_o9 (X0 X1 : Code) (call : CallF) (n : Nat) (B : Code) (hB : B = (hole (hole f5_b [1, 1, 1, 1, 1, 0, 1, 0, 1] X0) [1, 1, 1, 1, 1, 1, 1, 1, 1] X1)) : f5_P9 B call n = f5_T9 call n (f5_P15 B call n) (f5_P16 B call n) := by
 subst hB; funext x0 x1 x2 x3; cases x2 <;> kernel_rfl
theorem f5_l9 (call : CallF) (n : Nat) : f5_P9 f5_b call n = f5_T9 call n (f5_P15 f5_b call n) (f5_P16 f5_b call n) :=
 f5_o9 (piece [1, 1, 1, 1, 1, 0, 1, 0, 1] f5_b) (piece [1, 1, 1, 1, 1, 1, 1, 1, 1] f5_b) call n _ (by kernel_rfl)
def f5_L9 (call : CallF) (n : Nat) : LB → Int → Bool → S_api_Cmd → OR :=
 f5_T9 call n (f5_L15 call n) (f5_L16 call n)
theorem f5_e9 (call : CallF) (n : Nat) : f5_P9 f5_b call n = f5_L9 call n := by
 rw [f5_l9, f5_e15, f5_e16]; rfl
def f5_T4 (call : CallF) (n : Nat) (j8 : Bool → OR) (j9 : LB → Int → Bool → S_api_Cmd → OR) (x0 : Bool) (x1 : S_api_Cmd) : OR :=
 bif x0 then (
  j8 true) else (
  callK call 18 [.agg x1.cells] fun v1 =>
  castTup v1 fun v2 =>
  zS v2 fun s3 r4 =>
  zI .i64 r4 fun n5 r6 =>
  nilK r6 (
   callK call 19 [.agg x1.cells] fun v7 =>
   castTup v7 fun v8 =>
   zS v8 fun s9 r10 =>
   zI .i64 r10 fun n11 r12 =>
   nilK r12 (
    bif (!(s3 == s9)) then (
     j9 s3 n5 true x1) else (
     j9 s3 n5 (n5 != n11) x1))))
theorem f5_o4 (X0 X1 : Code) (call : CallF) (n : Nat) (B : Code) (hB : B = (hole (hole f5_b [1, 1, 1, 1, 1, 0, 1] X0) [1, 1, 0, 1, 0, 1] X1)) : f5_P4 B call n = f5_T4 call n (f5_P8 B call n) (f5_P9 B call n) := by
 subst hB; funext x0 x1; cases x0 <;> kernel_rfl
theorem f5_l4 (call : CallF) (n : Nat) : f5_P4 f5_b call n = f5_T4 call n (f5_P8 f5_b call n) (f5_P9 f5_b call n) :=
 f5_o4 (piece [1, 1, 1, 1, 1, 0, 1] f5_b) (piece [1, 1, 0, 1, 0, 1] f5_b) call n _ (by kernel_rfl)
def f5_L4 (call : CallF) (n : Nat) : Bool → S_api_Cmd → OR :=
 f5_T4 call n (f5_L8 call n) (f5_L9 call n)
theorem f5_e4 (call : CallF) (n : Nat) : f5_P4 f5_b call n = f5_L4 call n := by
 rw [f5_l4, f5_e8, f5_e9]; rfl
def f5_T (call : CallF) (n : Nat) (j4 : Bool → S_api_Cmd → OR) (a0 : S_api_Cmd) : OR :=
 callK call 13 [] fun v24 =>
 oB v24 fun b25 =>
 bif (!b25) then (
  some (.one (.bool false), [])) else (
  bif (decide (((a0.fArg).length : Int) > (600 : Int))) then (
   j4 true a0) else (
   bif (decide (((a0.fPath_Local).length : Int) > (100 : Int))) then (
    j4 true a0) else (
    j4 (decide (((a0.fPath_Domain).length : Int) > (100 : Int))) a0)))
def f5_L (call : CallF) (n : Nat) (a0 : S_api_Cmd) : OR :=
 f5_T call n (f5_L4 call n) a0
theorem f5_o (X0 : Code) (call : CallF) (n : Nat) (B : Code) (hB : B = (hole f5_b [1, 1, 0, 1] X0)) : f5_P B call n = f5_T call n (f5_P4 B call n) := by
 subst hB; funext a0; kernel_rfl
theorem f5_l (call : CallF) (n : Nat) : f5_P f5_b call n = f5_T call n (f5_P4 f5_b call n) :=
 f5_o (piece [1, 1, 0, 1] f5_b) call n _ (by kernel_rfl)
theorem f5_e (call : CallF) (n : Nat) : f5_P f5_b call n = f5_L call n := by
 rw [f5_l, f5_e4]; rfl
theorem f5_eq (n : Nat) (a0 : S_api_Cmd) : acall AXE AXF (n + 1) 5 [.agg a0.cells] [] = f5_L (acall AXE AXF n) (n + 1) a0 :=
 (show _ = f5_P f5_b (acall AXE AXF n) (n + 1) a0 by kernel_rfl).trans (by rw [f5_e])
def f13_P5 (B : Code) (call : CallF) (n : Nat) (x0 : Bool) : OR :=
 f13_x B call n [1, 1, 1, 1, 1, 1] (kEnd AXE 0 f13_r) ⟨[(0, .one (.bool x0))], []⟩
def f13_P (B : Code) (call : CallF) (n : Nat) : OR :=
 f13_x B call n [] (kEnd AXE 0 f13_r) ⟨[], []⟩
def f13_T5 (call : CallF) (n : Nat) (x0 : Bool) : OR :=
 some (.one (.bool x0), [])
theorem f13_o5 (call : CallF) (n : Nat) (B : Code) (hB : B = f13_b) : f13_P5 B call n = f13_T5 call n := by
 subst hB; funext x0; kernel_rfl
theorem f13_l5 (call : CallF) (n : Nat) : f13_P5 f13_b call n = f13_T5 call n :=
 f13_o5 call n _ (by kernel_rfl)
def f13_L5 (call : CallF) (n : Nat) : Bool → OR :=
 f13_T5 call n
theorem f13_e5 (call : CallF) (n : Nat) : f13_P5 f13_b call n = f13_L5 call n := by
 rw [f13_l5]; rfl
def f13_T (call : CallF) (n : Nat) (j5 : Bool → OR) : OR :=
 callK call 14 [.one (.str ([109, 97, 105, 108, 32, 102, 114, 111, 109, 58, 60, 97, 64, 120, 62, 32, 115, 105, 122, 101, 61, 53] : List UInt8))] fun v37 =>
 castTup v37 fun v38 =>
 consK v38 fun z39 r40 =>
 aggV z39 fun r41 =>
 takeS_api_Cmd r41 fun w42 r43 =>
 nilK r43 (
  zI .i64 r40 fun n44 r45 =>
  nilK r45 (
   callK call 14 [.one (.str ([77, 65, 73, 76, 32, 70, 82, 79, 77, 58, 32, 60, 97, 64, 120, 62] : List UInt8))] fun v46 =>
   castTup v46 fun v47 =>
   consK v47 fun z48 r49 =>
   aggV z48 fun r50 =>
   takeS_api_Cmd r50 fun w51 r52 =>
   nilK r52 (
    zI .i64 r49 fun n53 r54 =>
    nilK r54 (
     callK call 14 [.one (.str ([82, 67, 80, 84, 32, 84, 79, 58, 60, 97, 64, 120, 62, 32, 88] : List UInt8))] fun v55 =>
     castTup v55 fun v56 =>
     consK v56 fun z57 r58 =>
     aggV z57 fun r59 =>
     takeS_api_Cmd r59 fun w60 r61 =>
     nilK r61 (
      zI .i64 r58 fun n62 r63 =>
      nilK r63 (
       callK call 14 [.one (.str ([70, 79, 79] : List UInt8))] fun v64 =>
       castTup v64 fun v65 =>
       consK v65 fun z66 r67 =>
       aggV z66 fun r68 =>
       takeS_api_Cmd r68 fun w69 r70 =>
       nilK r70 (
        zI .i64 r67 fun n71 r72 =>
        nilK r72 (
         bif (n44 == (0 : Int)) then (
          bif (w42.fVerb == (4 : Int)) then (
           bif (w42.fPath_Local == ([97] : List UInt8)) then (
            bif (w42.fSize == (5 : Int)) then (
             bif (!w42.fNull) then (
              bif (n53 == (501 : Int)) then (
               bif (n62 == (555 : Int)) then (
                j5 (n71 == (500 : Int))) else (
                j5 false)) else (
               j5 false)) else (
              j5 false)) else (
             j5 false)) else (
            j5 false)) else (
           j5 false)) else (
          j5 false)))))))))
def f13_L (call : CallF) (n : Nat) : OR :=
 f13_T call n (f13_L5 call n)
theorem f13_o (X0 : Code) (call : CallF) (n : Nat) (B : Code) (hB : B = (hole f13_b [1, 1, 1, 1, 1, 1] X0)) : f13_P B call n = f13_T call n (f13_P5 B call n) := by
 subst hB; kernel_rfl
theorem f13_l (call : CallF) (n : Nat) : f13_P f13_b call n = f13_T call n (f13_P5 f13_b call n) :=
 f13_o (piece [1, 1, 1, 1, 1, 1] f13_b) call n _ (by kernel_rfl)
theorem f13_e (call : CallF) (n : Nat) : f13_P f13_b call n = f13_L call n := by
 rw [f13_l, f13_e5]; rfl
theorem f13_eq (n : Nat) : acall AXE AXF (n + 1) 13 [] [] = f13_L (acall AXE AXF n) (n + 1) :=
 (show _ = f13_P f13_b (acall AXE AXF n) (n + 1) by kernel_rfl).trans (by rw [f13_e])
def f14_P10 (B : Code) (call : CallF) (n : Nat) (x0 : Int) (x1 : S_api_Cmd) : OR :=
 f14_x B call n [1, 0, 1, 0, 1] (kSeq (f14_x B call n [1, 1]) (kEnd AXE 0 f14_r)) ⟨[(2, .one (.ptr 0 0)), (3, .one (.int .i64 x0))], [x1.cells]⟩
def f14_P19 (B : Code) (call : CallF) (n : Nat) (x0 : Int) (x1 : S_api_Cmd) : OR :=
 f14_x B call n [1, 1, 1, 1, 1, 1, 0, 1, 0, 1] (kSeq (f14_x B call n [1, 1, 1, 1, 1, 1, 1]) (kEnd AXE 0 f14_r)) ⟨[(2, .one (.ptr 0 0)), (3, .one (.int .i64 x0))], [x1.cells]⟩
def f14_P14 (B : Code) (call : CallF) (n : Nat) (x0 : Int) (x1 : Bool) (x2 x3 : S_api_Cmd) : OR :=
 f14_x B call n [1, 1, 1, 1, 1, 1, 0, 1] (kSeq (f14_x B call n [1, 1, 1, 1, 1, 1, 1]) (kEnd AXE 0 f14_r)) ⟨[(2, .one (.ptr 0 0)), (7, .one (.ptr 1 0)), (8, .one (.int .i64 x0)), (69, .one (.bool x1))], [x2.cells, x3.cells]⟩
def f14_P11 (B : Code) (call : CallF) (n : Nat) (x0 : Int) (x1 x2 : S_api_Cmd) : OR :=
 f14_x B call n [1, 1, 1, 1, 1, 1] (kEnd AXE 0 f14_r) ⟨[(2, .one (.ptr 0 0)), (7, .one (.ptr 1 0)), (8, .one (.int .i64 x0))], [x1.cells, x2.cells]⟩
def f14_P17 (B : Code) (call : CallF) (n : Nat) (x0 : LB) (x1 x2 : S_api_Cmd) : OR :=
 f14_x B call n [1, 1, 1, 1, 1, 0, 1, 0, 1, 1, 1, 0, 1] (kBlk 0 (kSeq (f14_x B call n [1, 1, 1, 1, 1, 1]) (kEnd AXE 0 f14_r))) ⟨[(2, .one (.ptr 0 0)), (5, .one (.str x0)), (7, .one (.ptr 1 0))], [x1.cells, x2.cells]⟩
def f14_P26 (B : Code) (call : CallF) (n : Nat) (x0 : LB) (x1 x2 : S_api_Cmd) : OR :=
 f14_x B call n [1, 1, 1, 1, 1, 0, 1, 0, 1, 1, 1, 1, 1, 1, 1, 1, 1, 1, 1, 0, 1] (kBlk 0 (kSeq (f14_x B call n [1, 1, 1, 1, 1, 1]) (kEnd AXE 0 f14_r))) ⟨[(2, .one (.ptr 0 0)), (5, .one (.str x0)), (7, .one (.ptr 1 0))], [x1.cells, x2.cells]⟩
def f14_P24 (B : Code) (call : CallF) (n : Nat) (x0 : LB) (x1 : Int) (x2 : Bool) (x3 x4 : S_api_Cmd) : OR :=
 f14_x B call n [1, 1, 1, 1, 1, 0, 1, 0, 1, 1, 1, 1, 1, 1, 1, 1, 1, 1, 1] (kBlk 0 (kSeq (f14_x B call n [1, 1, 1, 1, 1, 1]) (kEnd AXE 0 f14_r))) ⟨[(2, .one (.ptr 0 0)), (5, .one (.str x0)), (7, .one (.ptr 1 0)), (8, .one (.int .i64 x1)), (61, .one (.bool x2))], [x3.cells, x4.cells]⟩
def f14_P22 (B : Code) (call : CallF) (n : Nat) (x0 : Bool) (x1 : LB) (x2 : Bool) (x3 x4 : Int) (x5 x6 : S_api_Cmd) : OR :=
 f14_x B call n [1, 1, 1, 1, 1, 0, 1, 0, 1, 1, 1, 1, 1, 1, 1, 1, 1] (kBlk 0 (kSeq (f14_x B call n [1, 1, 1, 1, 1, 1]) (kEnd AXE 0 f14_r))) ⟨[(54, .one (.bool x0)), (2, .one (.ptr 0 0)), (5, .one (.str x1)), (6, .one (.bool x2)), (7, .one (.ptr 1 0)), (8, .one (.int .i64 x3)), (28, .one (.int .i64 x4))], [x5.cells, x6.cells]⟩
def f14_P25 (B : Code) (call : CallF) (n : Nat) (x0 : LB) (x1 : Bool) (x2 x3 : Int) (x4 : Bool) (x5 x6 : S_api_Cmd) : OR :=
 f14_x B call n [1, 1, 1, 1, 1, 0, 1, 0, 1, 1, 1, 1, 1, 1, 1, 1, 1] (kBlk 0 (kSeq (f14_x B call n [1, 1, 1, 1, 1, 1]) (kEnd AXE 0 f14_r))) ⟨[(2, .one (.ptr 0 0)), (5, .one (.str x0)), (6, .one (.bool x1)), (7, .one (.ptr 1 0)), (8, .one (.int .i64 x2)), (28, .one (.int .i64 x3)), (54, .one (.bool x4))], [x5.cells, x6.cells]⟩
def f14_P23 (B : Code) (call : CallF) (n : Nat) (x0 : LB) (x1 : Bool) (x2 x3 : Int) (x4 : Bool) (x5 x6 : S_api_Cmd) : OR :=
 f14_x B call n [1, 1, 1, 1, 1, 0, 1, 0, 1, 1, 1, 1, 1, 1, 1, 1, 0, 1, 1, 1] (kSeq (f14_x B call n [1, 1, 1, 1, 1, 0, 1, 0, 1, 1, 1, 1, 1, 1, 1, 1, 1]) (kBlk 0 (kSeq (f14_x B call n [1, 1, 1, 1, 1, 1]) (kEnd AXE 0 f14_r)))) ⟨[(2, .one (.ptr 0 0)), (5, .one (.str x0)), (6, .one (.bool x1)), (7, .one (.ptr 1 0)), (8, .one (.int .i64 x2)), (28, .one (.int .i64 x3)), (54, .one (.bool x4))], [x5.cells, x6.cells]⟩
def f14_P21 (B : Code) (call : CallF) (n : Nat) (x0 : LB) (x1 : Bool) (x2 x3 : Int) (x4 : Bool) (x5 x6 : S_api_Cmd) : OR :=
 f14_x B call n [1, 1, 1, 1, 1, 0, 1, 0, 1, 1, 1, 1, 1, 1, 1, 1, 0, 1] (kSeq (f14_x B call n [1, 1, 1, 1, 1, 0, 1, 0, 1, 1, 1, 1, 1, 1, 1, 1, 1]) (kBlk 0 (kSeq (f14_x B call n [1, 1, 1, 1, 1, 1]) (kEnd AXE 0 f14_r)))) ⟨[(2, .one (.ptr 0 0)), (5, .one (.str x0)), (6, .one (.bool x1)), (7, .one (.ptr 1 0)), (8, .one (.int .i64 x2)), (28, .one (.int .i64 x3)), (54, .one (.bool x4))], [x5.cells, x6.cells]⟩
def f14_P20 (B : Code) (call : CallF) (n : Nat) (x0 : LB) (x1 : Bool) (x2 x3 : Int) (x4 : Bool) (x5 x6 : S_api_Cmd) : OR :=
 f14_x B call n [1, 1, 1, 1, 1, 0, 1, 0, 1, 1, 1, 1, 1, 1, 1] (kBlk 0 (kSeq (f14_x B call n [1, 1, 1, 1, 1, 1]) (kEnd AXE 0 f14_r))) ⟨[(2, .one (.ptr 0 0)), (5, .one (.str x0)), (6, .one (.bool x1)), (7, .one (.ptr 1 0)), (8, .one (.int .i64 x2)), (28, .one (.int .i64 x3)), (50, .one (.bool x4))], [x5.cells, x6.cells]⟩
def f14_P18 (B : Code) (call : CallF) (n : Nat) (x0 : LB) (x1 : Bool) (x2 x3 : Int) (x4 : Bool) (x5 x6 : S_api_Cmd) : OR :=
 f14_x B call n [1, 1, 1, 1, 1, 0, 1, 0, 1, 1, 1, 1, 1] (kBlk 0 (kSeq (f14_x B call n [1, 1, 1, 1, 1, 1]) (kEnd AXE 0 f14_r))) ⟨[(2, .one (.ptr 0 0)), (5, .one (.str x0)), (6, .one (.bool x1)), (7, .one (.ptr 1 0)), (8, .one (.int .i64 x2)), (28, .one (.int .i64 x3)), (46, .one (.bool x4))], [x5.cells, x6.cells]⟩
def f14_P12 (B : Code) (call : CallF) (n : Nat) (x0 : Bool) (x1 : LB) (x2 : Bool) (x3 x4 : Int) (x5 x6 : S_api_Cmd) : OR :=
 f14_x B call n [1, 1, 1, 1, 1, 0, 1, 0, 1, 1, 1] (kBlk 0 (kSeq (f14_x B call n [1, 1, 1, 1, 1, 1]) (kEnd AXE 0 f14_r))) ⟨[(33, .one (.bool x0)), (2, .one (.ptr 0 0)), (5, .one (.str x1)), (6, .one (.bool x2)), (7, .one (.ptr 1 0)), (8, .one (.int .i64 x3)), (28, .one (.int .i64 x4))], [x5.cells, x6.cells]⟩
def f14_P13 (B : Code) (call : CallF) (n : Nat) (x0 : LB) (x1 : Bool) (x2 x3 : Int) (x4 : Bool) (x5 x6 : S_api_Cmd) : OR :=
 f14_x B call n [1, 1, 1, 1, 1, 0, 1, 0, 1, 1, 1] (kBlk 0 (kSeq (f14_x B call n [1, 1, 1, 1, 1, 1]) (kEnd AXE 0 f14_r))) ⟨[(2, .one (.ptr 0 0)), (5, .one (.str x0)), (6, .one (.bool x1)), (7, .one (.ptr 1 0)), (8, .one (.int .i64 x2)), (28, .one (.int .i64 x3)), (33, .one (.bool x4))], [x5.cells, x6.cells]⟩
def f14_P1 (B : Code) (call : CallF) (n : Nat) (x0 : LB) (x1 : Bool) (x2 : S_api_Cmd) : OR :=
 f14_x B call n [1, 0, 1] (kSeq (f14_x B call n [1, 1]) (kEnd AXE 0 f14_r)) ⟨[(0, .one (.str x0)), (2, .one (.ptr 0 0)), (16, .one (.bool x1))], [x2.cells]⟩
def f14_P (B : Code) (call : CallF) (n : Nat) (a0 : LB) : OR :=
 f14_x B call n [] (kEnd AXE 0 f14_r) ⟨[(0, .one (.str a0))], []⟩
def f14_T10 (call : CallF) (n : Nat) (x0 : Int) (x1 : S_api_Cmd) : OR :=
 some (.tup [.agg x1.cells, .one (.int .i64 x0)], [])
theorem f14_o10 (call : CallF) (n : Nat) (B : Code) (hB : B = f14_b) : f14_P10 B call n = f14_T10 call n := by
 subst hB; funext x0 x1; kernel_rfl
theorem f14_l10 (call : CallF) (n : Nat) : f14_P10 f14_b call n = f14_T10 call n :=
 f14_o10 call n _ (by kernel_rfl)
def f14_L10 (call : CallF) (n : Nat) : Int → S_api_Cmd → OR :=
 f14_T10 call n
theorem f14_e10 (call : CallF) (n : Nat) : f14_P10 f14_b call n = f14_L10 call n := by
 rw [f14_l10]; rfl
def f14_T19 (call : CallF) (n : Nat) (x0 : Int) (x1 : S_api_Cmd) : OR :=
 some (.tup [.agg x1.cells, .one (.int .i64 x0)], [])
theorem f14_o19 (call : CallF) (n : Nat) (B : Code) (hB : B = f14_b) : f14_P19 B call n = f14_T19 call n := by
 subst hB; funext x0 x1; kernel_rfl
theorem f14_l19 (call : CallF) (n : Nat) : f14_P19 f14_b call n = f14_T19 call n :=
 f14_o19 call n _ (by kernel_rfl)
def f14_L19 (call : CallF) (n : Nat) : Int → S_api_Cmd → OR :=
 f14_T19 call n
theorem f14_e19 (call : CallF) (n : Nat) : f14_P19 f14_b call n = f14_L19 call n := by
 rw [f14_l19]; rfl
def f14_T14 (call : CallF) (n : Nat) (j19 : Int → S_api_Cmd → OR) (x0 : Int) (x1 : Bool) (x2 x3 : S_api_Cmd) : OR :=
 bif x1 then (
  j19 x0 (⟨(0 : Int), ([] : List UInt8), ([] : List UInt8), ([] : List UInt8), false, (0 : Int), (0 : Int)⟩ : S_api_Cmd)) else (
  some (.tup [.agg x3.cells, .one (.int .i64 (0 : Int))], []))
theorem f14_o14 (X0 : Code) (call : CallF) (n : Nat) (B : Code) (hB : B = (hole f14_b [1, 1, 1, 1, 1, 1, 0, 1, 0, 1] X0)) : f14_P14 B call n = f14_T14 call n (f14_P19 B call n) := by
 subst hB; funext x0 x1 x2 x3; cases x1 <;> kernel_rfl
theorem f14_l14 (call : CallF) (n : Nat) : f14_P14 f14_b call n = f14_T14 call n (f14_P19 f14_b call n) :=
 f14_o14 (piece [1, 1, 1, 1, 1, 1, 0, 1, 0, 1] f14_b) call n _ (by kernel_rfl)
def f14_L14 (call : CallF) (n : Nat) : Int → Bool → S_api_Cmd → S_api_Cmd → OR :=
 f14_T14 call n (f14_L19 call n)
theorem f14_e14 (call : CallF) (n : Nat) : f14_P14 f14_b call n = f14_L14 call n := by
 rw [f14_l14, f14_e19]; rfl
def f14_T11 (call : CallF) (n : Nat) (j14 : Int → Bool → S_api_Cmd → S_api_Cmd → OR) (x0 : Int) (x1 x2 : S_api_Cmd) : OR :=
 j14 x0 (x0 != (0 : Int)) x1 x2
theorem f14_o11 (X0 : Code) (call : CallF) (n : Nat) (B : Code) (hB : B = (hole f14_b [1, 1, 1, 1, 1, 1, 0, 1] X0)) : f14_P11 B call n = f14_T11 call n (f14_P14 B call n) := by
 subst hB; funext x0 x1 x2; kernel_rfl
theorem f14_l11 (call : CallF) (n : Nat) : f14_P11 f14_b call n = f14_T11 call n (f14_P14 f14_b call n) :=
 f14_o11 (piece [1, 1, 1, 1, 1, 1, 0, 1] f14_b) call n _ (by kernel_rfl)
def f14_L11 (call : CallF) (n : Nat) : Int → S_api_Cmd → S_api_Cmd → OR :=
 f14_T11 call n (f14_L14 call n)
theorem f14_e11 (call : CallF) (n : Nat) : f14_P11 f14_b call n = f14_L11 call n := by
 rw [f14_l11, f14_e14]; rfl
def f14_T17 (call : CallF) (n : Nat) (j11 : Int → S_api_Cmd → S_api_Cmd → OR) (x0 : LB) (x1 x2 : S_api_Cmd) : OR :=
 primK pADomain [.one (.str x0)] fun v1 =>
 oB v1 fun b2 =>
 bif b2 then (
  callK call 34 [.one (.bool true)] fun v3 =>
  oI .i64 v3 fun n4 =>
  j11 n4 x1 x2) else (
  callK call 36 [.one (.str x0)] fun v5 =>
  oB v5 fun b6 =>
  callK call 34 [.one (.bool b6)] fun v7 =>
  oI .i64 v7 fun n8 =>
  j11 n8 x1 x2)
theorem f14_o17 (X0 : Code) (call : CallF) (n : Nat) (B : Code) (hB : B = (hole f14_b [1, 1, 1, 1, 1, 1] X0)) : f14_P17 B call n = f14_T17 call n (f14_P11 B call n) := by
 subst hB; funext x0 x1 x2; kernel_rfl
theorem f14_l17 (call : CallF) (n : Nat) : f14_P17 f14_b call n = f14_T17 call n (f14_P11 f14_b call n) :=
 f14_o17 (piece [1, 1, 1, 1, 1, 1] f14_b) call n _ (by kernel_rfl)
def f14_L17 (call : CallF) (n : Nat) : LB → S_api_Cmd → S_api_Cmd → OR :=
 f14_T17 call n (f14_L11 call n)
theorem f14_e17 (call : CallF) (n : Nat) : f14_P17 f14_b call n = f14_L17 call n := by
 rw [f14_l17, f14_e11]; rfl
def f14_T26 (call : CallF) (n : Nat) (j11 : Int → S_api_Cmd → S_api_Cmd → OR) (x0 : LB) (x1 x2 : S_api_Cmd) : OR :=
 callK call 34 [.one (.bool (!(x0 == ([] : List UInt8))))] fun v1 =>
 oI .i64 v1 fun n2 =>
 j11 n2 x1 x2
theorem f14_o26 (X0 : Code) (call : CallF) (n : Nat) (B : Code) (hB : B = (hole f14_b [1, 1, 1, 1, 1, 1] X0)) : f14_P26 B call n = f14_T26 call n (f14_P11 B call n) := by
 subst hB; funext x0 x1 x2; kernel_rfl
theorem f14_l26 (call : CallF) (n : Nat) : f14_P26 f14_b call n = f14_T26 call n (f14_P11 f14_b call n) :=
 f14_o26 (piece [1, 1, 1, 1, 1, 1] f14_b) call n _ (by kernel_rfl)
def f14_L26 (call : CallF) (n : Nat) : LB → S_api_Cmd → S_api_Cmd → OR :=
 f14_T26 call n (f14_L11 call n)
theorem f14_e26 (call : CallF) (n : Nat) : f14_P26 f14_b call n = f14_L26 call n := by
 rw [f14_l26, f14_e11]; rfl
def f14_T24 (call : CallF) (n : Nat) (j26 : LB → S_api_Cmd → S_api_Cmd → OR) (j11 : Int → S_api_Cmd → S_api_Cmd → OR) (x0 : LB) (x1 : Int) (x2 : Bool) (x3 x4 : S_api_Cmd) : OR :=
 bif x2 then (
  j26 x0 x3 ({ x4 with fArg := x0 } : S_api_Cmd)) else (
  j11 x1 x3 ({ x4 with fArg := x0 } : S_api_Cmd))
theorem f14_o24 (X0 X1 : Code) (call : CallF) (n : Nat) (B : Code) (hB : B = (hole (hole f14_b [1, 1, 1, 1, 1, 0, 1, 0, 1, 1, 1, 1, 1, 1, 1, 1, 1, 1, 1, 0, 1] X0) [1, 1, 1, 1, 1, 1] X1)) : f14_P24 B call n = f14_T24 call n (f14_P26 B call n) (f14_P11 B call n) := by
 subst hB; funext x0 x1 x2 x3 x4; cases x2 <;> kernel_rfl
theorem f14_l24 (call : CallF) (n : Nat) : f14_P24 f14_b call n = f14_T24 call n (f14_P26 f14_b call n) (f14_P11 f14_b call n) :=
 f14_o24 (piece [1, 1, 1, 1, 1, 0, 1, 0, 1, 1, 1, 1, 1, 1, 1, 1, 1, 1, 1, 0, 1] f14_b) (piece [1, 1, 1, 1, 1, 1] f14_b) call n _ (by kernel_rfl)
def f14_L24 (call : CallF) (n : Nat) : LB → Int → Bool → S_api_Cmd → S_api_Cmd → OR :=
 f14_T24 call n (f14_L26 call n) (f14_L11 call n)
theorem f14_e24 (call : CallF) (n : Nat) : f14_P24 f14_b call n = f14_L24 call n := by
 rw [f14_l24, f14_e26, f14_e11]; rfl
def f14_T22 (call : CallF) (n : Nat) (j11 : Int → S_api_Cmd → S_api_Cmd → OR) (j24 : LB → Int → Bool → S_api_Cmd → S_api_Cmd → OR) (x0 : Bool) (x1 : LB) (x2 : Bool) (x3 x4 : Int) (x5 x6 : S_api_Cmd) : OR :=
 bif x0 then (
  callK call 34 [.one (.bool (!x2))] fun v1 =>
  oI .i64 v1 fun n2 =>
  j11 n2 x5 x6) else (
  j24 x1 x3 (x4 == (10 : Int)) x5 x6)
theorem f14_o22 (X0 X1 : Code) (call : CallF) (n : Nat) (B : Code) (hB : B = (hole (hole f14_b [1, 1, 1, 1, 1, 0, 1, 0, 1, 1, 1, 1, 1, 1, 1, 1, 1, 1, 1] X0) [1, 1, 1, 1, 1, 1] X1)) : f14_P22 B call n = f14_T22 call n (f14_P11 B call n) (f14_P24 B call n) := by
 subst hB; funext x0 x1 x2 x3 x4 x5 x6; cases x0 <;> kernel_rfl
theorem f14_l22 (call : CallF) (n : Nat) : f14_P22 f14_b call n = f14_T22 call n (f14_P11 f14_b call n) (f14_P24 f14_b call n) :=
 f14_o22 (piece [1, 1, 1, 1, 1, 0, 1, 0, 1, 1, 1, 1, 1, 1, 1, 1, 1, 1, 1] f14_b) (piece [1, 1, 1, 1, 1, 1] f14_b) call n _ (by kernel_rfl)
def f14_L22 (call : CallF) (n : Nat) : Bool → LB → Bool → Int → Int → S_api_Cmd → S_api_Cmd → OR :=
 f14_T22 call n (f14_L11 call n) (f14_L24 call n)
theorem f14_e22 (call : CallF) (n : Nat) : f14_P22 f14_b call n = f14_L22 call n := by
 rw [f14_l22, f14_e11, f14_e24]; rfl
def f14_T25 (call : CallF) (n : Nat) (j11 : Int → S_api_Cmd → S_api_Cmd → OR) (j24 : LB → Int → Bool → S_api_Cmd → S_api_Cmd → OR) (x0 : LB) (x1 : Bool) (x2 x3 : Int) (x4 : Bool) (x5 x6 : S_api_Cmd) : OR :=
 bif x4 then (
  callK call 34 [.one (.bool (!x1))] fun v1 =>
  oI .i64 v1 fun n2 =>
  j11 n2 x5 x6) else (
  j24 x0 x2 (x3 == (10 : Int)) x5 x6)
theorem f14_o25 (X0 X1 : Code) (call : CallF) (n : Nat) (B : Code) (hB : B = (hole (hole f14_b [1, 1, 1, 1, 1, 0, 1, 0, 1, 1, 1, 1, 1, 1, 1, 1, 1, 1, 1] X0) [1, 1, 1, 1, 1, 1] X1)) : f14_P25 B call n = f14_T25 call n (f14_P11 B call n) (f14_P24 B call n) := by
 subst hB; funext x0 x1 x2 x3 x4 x5 x6; cases x4 <;> kernel_rfl
theorem f14_l25 (call : CallF) (n : Nat) : f14_P25 f14_b call n = f14_T25 call n (f14_P11 f14_b call n) (f14_P24 f14_b call n) :=
 f14_o25 (piece [1, 1, 1, 1, 1, 0, 1, 0, 1, 1, 1, 1, 1, 1, 1, 1, 1, 1, 1] f14_b) (piece [1, 1, 1, 1, 1, 1] f14_b) call n _ (by kernel_rfl)
def f14_L25 (call : CallF) (n : Nat) : LB → Bool → Int → Int → Bool → S_api_Cmd → S_api_Cmd → OR :=
 f14_T25 call n (f14_L11 call n) (f14_L24 call n)
theorem f14_e25 (call : CallF) (n : Nat) : f14_P25 f14_b call n = f14_L25 call n := by
 rw [f14_l25, f14_e11, f14_e24]; rfl
def f14_T23 (call : CallF) (n : Nat) (j22 : Bool → LB → Bool → Int → Int → S_api_Cmd → S_api_Cmd → OR) (j25 : LB → Bool → Int → Int → Bool → S_api_Cmd → S_api_Cmd → OR) (x0 : LB) (x1 : Bool) (x2 x3 : Int) (x4 : Bool) (x5 x6 : S_api_Cmd) : OR :=
 bif x4 then (
  j22 true x0 x1 x2 x3 x5 x6) else (
  j25 x0 x1 x2 x3 (x3 == (9 : Int)) x5 x6)
theorem f14_o23 (X0 : Code) (call : CallF) (n : Nat) (B : Code) (hB : B = (hole f14_b [1, 1, 1, 1, 1, 0, 1, 0, 1, 1, 1, 1, 1, 1, 1, 1, 1] X0)) : f14_P23 B call n = f14_T23 call n (f14_P22 B call n) (f14_P25 B call n) := by
 subst hB; funext x0 x1 x2 x3 x4 x5 x6; cases x4 <;> kernel_rfl
theorem f14_l23 (call : CallF) (n : Nat) : f14_P23 f14_b call n = f14_T23 call n (f14_P22 f14_b call n) (f14_P25 f14_b call n) :=
 f14_o23 (piece [1, 1, 1, 1, 1, 0, 1, 0, 1, 1, 1, 1, 1, 1, 1, 1, 1] f14_b) call n _ (by kernel_rfl)
def f14_L23 (call : CallF) (n : Nat) : LB → Bool → Int → Int → Bool → S_api_Cmd → S_api_Cmd → OR :=
 f14_T23 call n (f14_L22 call n) (f14_L25 call n)
theorem f14_e23 (call : CallF) (n : Nat) : f14_P23 f14_b call n = f14_L23 call n := by
 rw [f14_l23, f14_e22, f14_e25]; rfl
def f14_T21 (call : CallF) (n : Nat) (j22 : Bool → LB → Bool → Int → Int → S_api_Cmd → S_api_Cmd → OR) (j23 : LB → Bool → Int → Int → Bool → S_api_Cmd → S_api_Cmd → OR) (x0 : LB) (x1 : Bool) (x2 x3 : Int) (x4 : Bool) (x5 x6 : S_api_Cmd) : OR :=
 bif x4 then (
  j22 true x0 x1 x2 x3 x5 x6) else (
  j23 x0 x1 x2 x3 (x3 == (7 : Int)) x5 x6)
theorem f14_o21 (X0 X1 : Code) (call : CallF) (n : Nat) (B : Code) (hB : B = (hole (hole f14_b [1, 1, 1, 1, 1, 0, 1, 0, 1, 1, 1, 1, 1, 1, 1, 1, 0, 1, 1, 1] X0) [1, 1, 1, 1, 1, 0, 1, 0, 1, 1, 1, 1, 1, 1, 1, 1, 1] X1)) : f14_P21 B call n = f14_T21 call n (f14_P22 B call n) (f14_P23 B call n) := by
 subst hB; funext x0 x1 x2 x3 x4 x5 x6; cases x4 <;> kernel_rfl
theorem f14_l21 (call : CallF) (n : Nat) : f14_P21 f14_b call n = f14_T21 call n (f14_P22 f14_b call n) (f14_P23 f14_b call n) :=
 f14_o21 (piece [1, 1, 1, 1, 1, 0, 1, 0, 1, 1, 1, 1, 1, 1, 1, 1, 0, 1, 1, 1] f14_b) (piece [1, 1, 1, 1, 1, 0, 1, 0, 1, 1, 1, 1, 1, 1, 1, 1, 1] f14_b) call n _ (by kernel_rfl)
def f14_L21 (call : CallF) (n : Nat) : LB → Bool → Int → Int → Bool → S_api_Cmd → S_api_Cmd → OR :=
 f14_T21 call n (f14_L22 call n) (f14_L23 call n)
theorem f14_e21 (call : CallF) (n : Nat) : f14_P21 f14_b call n = f14_L21 call n := by
 rw [f14_l21, f14_e22, f14_e23]; rfl
def f14_T20 (call : CallF) (n : Nat) (j11 : Int → S_api_Cmd → S_api_Cmd → OR) (j21 : LB → Bool → Int → Int → Bool → S_api_Cmd → S_api_Cmd → OR) (x0 : LB) (x1 : Bool) (x2 x3 : Int) (x4 : Bool) (x5 x6 : S_api_Cmd) : OR :=
 bif x4 then (
  callRK call 37 [.one (.ptr 0 0), .one (.str x0), .one (.str ([84, 79, 58] : List UInt8)), .one (.bool false)] [x6.cells] fun v1 h2 =>
  consK h2 fun r3 h4 =>
  takeS_api_Cmd r3 fun w5 r6 =>
  nilK r6 (
   nilK h4 (
    oI .i64 v1 fun n7 =>
    j11 n7 x5 w5))) else (
  j21 x0 x1 x2 x3 (x3 == (6 : Int)) x5 x6)
theorem f14_o20 (X0 X1 : Code) (call : CallF) (n : Nat) (B : Code) (hB : B = (hole (hole f14_b [1, 1, 1, 1, 1, 0, 1, 0, 1, 1, 1, 1, 1, 1, 1, 1, 0, 1] X0) [1, 1, 1, 1, 1, 1] X1)) : f14_P20 B call n = f14_T20 call n (f14_P11 B call n) (f14_P21 B call n) := by
 subst hB; funext x0 x1 x2 x3 x4 x5 x6; cases x4 <;> kernel_rfl
theorem f14_l20 (call : CallF) (n : Nat) : f14_P20 f14_b call n = f14_T20 call n (f14_P11 f14_b call n) (f14_P21 f14_b call n) :=
 f14_o20 (piece [1, 1, 1, 1, 1, 0, 1, 0, 1, 1, 1, 1, 1, 1, 1, 1, 0, 1] f14_b) (piece [1, 1, 1, 1, 1, 1] f14_b) call n _ (by kernel_rfl)
def f14_L20 (call : CallF) (n : Nat) : LB → Bool → Int → Int → Bool → S_api_Cmd → S_api_Cmd → OR :=
 f14_T20 call n (f14_L11 call n) (f14_L21 call n)
theorem f14_e20 (call : CallF) (n : Nat) : f14_P20 f14_b call n = f14_L20 call n := by
 rw [f14_l20, f14_e11, f14_e21]; rfl
def f14_T18 (call : CallF) (n : Nat) (j11 : Int → S_api_Cmd → S_api_Cmd → OR) (j20 : LB → Bool → Int → Int → Bool → S_api_Cmd → S_api_Cmd → OR) (x0 : LB) (x1 : Bool) (x2 x3 : Int) (x4 : Bool) (x5 x6 : S_api_Cmd) : OR :=
 bif x4 then (
  callRK call 37 [.one (.ptr 0 0), .one (.str x0), .one (.str ([70, 82, 79, 77, 58] : List UInt8)), .one (.bool true)] [x6.cells] fun v1 h2 =>
  consK h2 fun r3 h4 =>
  takeS_api_Cmd r3 fun w5 r6 =>
  nilK r6 (
   nilK h4 (
    oI .i64 v1 fun n7 =>
    j11 n7 x5 w5))) else (
  j20 x0 x1 x2 x3 (x3 == (5 : Int)) x5 x6)
theorem f14_o18 (X0 X1 : Code) (call : CallF) (n : Nat) (B : Code) (hB : B = (hole (hole f14_b [1, 1, 1, 1, 1, 0, 1, 0, 1, 1, 1, 1, 1, 1, 1] X0) [1, 1, 1, 1, 1, 1] X1)) : f14_P18 B call n = f14_T18 call n (f14_P11 B call n) (f14_P20 B call n) := by
 subst hB; funext x0 x1 x2 x3 x4 x5 x6; cases x4 <;> kernel_rfl
theorem f14_l18 (call : CallF) (n : Nat) : f14_P18 f14_b call n = f14_T18 call n (f14_P11 f14_b call n) (f14_P20 f14_b call n) :=
 f14_o18 (piece [1, 1, 1, 1, 1, 0, 1, 0, 1, 1, 1, 1, 1, 1, 1] f14_b) (piece [1, 1, 1, 1, 1, 1] f14_b) call n _ (by kernel_rfl)
def f14_L18 (call : CallF) (n : Nat) : LB → Bool → Int → Int → Bool → S_api_Cmd → S_api_Cmd → OR :=
 f14_T18 call n (f14_L11 call n) (f14_L20 call n)
theorem f14_e18 (call : CallF) (n : Nat) : f14_P18 f14_b call n = f14_L18 call n := by
 rw [f14_l18, f14_e11, f14_e20]; rfl
def f14_T12 (call : CallF) (n : Nat) (j17 : LB → S_api_Cmd → S_api_Cmd → OR) (j18 : LB → Bool → Int → Int → Bool → S_api_Cmd → S_api_Cmd → OR) (x0 : Bool) (x1 : LB) (x2 : Bool) (x3 x4 : Int) (x5 x6 : S_api_Cmd) : OR :=
 bif x0 then (
  j17 x1 x5 ({ x6 with fArg := x1 } : S_api_Cmd)) else (
  j18 x1 x2 x3 x4 (x4 == (4 : Int)) x5 x6)
theorem f14_o12 (X0 X1 : Code) (call : CallF) (n : Nat) (B : Code) (hB : B = (hole (hole f14_b [1, 1, 1, 1, 1, 0, 1, 0, 1, 1, 1, 0, 1] X0) [1, 1, 1, 1, 1, 0, 1, 0, 1, 1, 1, 1, 1] X1)) : f14_P12 B call n = f14_T12 call n (f14_P17 B call n) (f14_P18 B call n) := by
 subst hB; funext x0 x1 x2 x3 x4 x5 x6; cases x0 <;> kernel_rfl
theorem f14_l12 (call : CallF) (n : Nat) : f14_P12 f14_b call n = f14_T12 call n (f14_P17 f14_b call n) (f14_P18 f14_b call n) :=
 f14_o12 (piece [1, 1, 1, 1, 1, 0, 1, 0, 1, 1, 1, 0, 1] f14_b) (piece [1, 1, 1, 1, 1, 0, 1, 0, 1, 1, 1, 1, 1] f14_b) call n _ (by kernel_rfl)
def f14_L12 (call : CallF) (n : Nat) : Bool → LB → Bool → Int → Int → S_api_Cmd → S_api_Cmd → OR :=
 f14_T12 call n (f14_L17 call n) (f14_L18 call n)
theorem f14_e12 (call : CallF) (n : Nat) : f14_P12 f14_b call n = f14_L12 call n := by
 rw [f14_l12, f14_e17, f14_e18]; rfl
def f14_T13 (call : CallF) (n : Nat) (j17 : LB → S_api_Cmd → S_api_Cmd → OR) (j18 : LB → Bool → Int → Int → Bool → S_api_Cmd → S_api_Cmd → OR) (x0 : LB) (x1 : Bool) (x2 x3 : Int) (x4 : Bool) (x5 x6 : S_api_Cmd) : OR :=
 bif x4 then (
  j17 x0 x5 ({ x6 with fArg := x0 } : S_api_Cmd)) else (
  j18 x0 x1 x2 x3 (x3 == (4 : Int)) x5 x6)
theorem f14_o13 (X0 X1 : Code) (call : CallF) (n : Nat) (B : Code) (hB : B = (hole (hole f14_b [1, 1, 1, 1, 1, 0, 1, 0, 1, 1, 1, 0, 1] X0) [1, 1, 1, 1, 1, 0, 1, 0, 1, 1, 1, 1, 1] X1)) : f14_P13 B call n = f14_T13 call n (f14_P17 B call n) (f14_P18 B call n) := by
 subst hB; funext x0 x1 x2 x3 x4 x5 x6; cases x4 <;> kernel_rfl
theorem f14_l13 (call : CallF) (n : Nat) : f14_P13 f14_b call n = f14_T13 call n (f14_P17 f14_b call n) (f14_P18 f14_b call n) :=
 f14_o13 (piece [1, 1, 1, 1, 1, 0, 1, 0, 1, 1, 1, 0, 1] f14_b) (piece [1, 1, 1, 1, 1, 0, 1, 0, 1, 1, 1, 1, 1] f14_b) call n _ (by kernel_rfl)
def f14_L13 (call : CallF) (n : Nat) : LB → Bool → Int → Int → Bool → S_api_Cmd → S_api_Cmd → OR :=
 f14_T13 call n (f14_L17 call n) (f14_L18 call n)
theorem f14_e13 (call : CallF) (n : Nat) : f14_P13 f14_b call n = f14_L13 call n := by
 rw [f14_l13, f14_e17, f14_e18]; rfl
def f14_T1 (call : CallF) (n : Nat) (j10 : Int → S_api_Cmd → OR) (j11 : Int → S_api_Cmd → S_api_Cmd → OR) (j12 : Bool → LB → Bool → Int → Int → S_api_Cmd → S_api_Cmd → OR) (j13 : LB → Bool → Int → Int → Bool → S_api_Cmd → S_api_Cmd → OR) (x0 : LB) (x1 : Bool) (x2 : S_api_Cmd) : OR :=
 bif x1 then (
  j10 (500 : Int) (⟨(0 : Int), ([] : List UInt8), ([] : List UInt8), ([] : List UInt8), false, (0 : Int), (0 : Int)⟩ : S_api_Cmd)) else (
  primK pCut [.one (.str x0), .one (.str ([32] : List UInt8))] fun v1 =>
  castTup v1 fun v2 =>
  zS v2 fun s3 r4 =>
  zS r4 fun s5 r6 =>
  zB r6 fun b7 r8 =>
  nilK r8 (
   callK call 16 [.one (.str s3)] fun v9 =>
   oI .i64 v9 fun n10 =>
   bif (n10 == (0 : Int)) then (
    j11 (500 : Int) x2 (⟨n10, ([] : List UInt8), ([] : List UInt8), ([] : List UInt8), false, (-1 : Int), (0 : Int)⟩ : S_api_Cmd)) else (
    bif (n10 == (1 : Int)) then (
     j12 true s5 b7 (0 : Int) n10 x2 (⟨n10, ([] : List UInt8), ([] : List UInt8), ([] : List UInt8), false, (-1 : Int), (0 : Int)⟩ : S_api_Cmd)) else (
     bif (n10 == (2 : Int)) then (
      j12 true s5 b7 (0 : Int) n10 x2 (⟨n10, ([] : List UInt8), ([] : List UInt8), ([] : List UInt8), false, (-1 : Int), (0 : Int)⟩ : S_api_Cmd)) else (
      j13 s5 b7 (0 : Int) n10 (n10 == (3 : Int)) x2 (⟨n10, ([] : List UInt8), ([] : List UInt8), ([] : List UInt8), false, (-1 : Int), (0 : Int)⟩ : S_api_Cmd))))))
theorem f14_o1 (X0 X1 X2 : Code) (call : CallF) (n : Nat) (B : Code) (hB : B = (hole (hole (hole f14_b [1, 1, 1, 1, 1, 0, 1, 0, 1, 1, 1] X0) [1, 1, 1, 1, 1, 1] X1) [1, 0, 1, 0, 1] X2)) : f14_P1 B call n = f14_T1 call n (f14_P10 B call n) (f14_P11 B call n) (f14_P12 B call n) (f14_P13 B call n) := by
 subst hB; funext x0 x1 x2; cases x1 <;> kernel_rfl
theorem f14_l1 (call : CallF) (n : Nat) : f14_P1 f14_b call n = f14_T1 call n (f14_P10 f14_b call n) (f14_P11 f14_b call n) (f14_P12 f14_b call n) (f14_P13 f14_b call n) :=
 f14_o1 (piece [1, 1, 1, 1, 1, 0, 1, 0, 1, 1, 1] f14_b) (piece [1, 1, 1, 1, 1, 1] f14_b) (piece [1, 0, 1, 0, 1] f14_b) call n _ (by kernel_rfl)
def f14_L1 (call : CallF) (n : Nat) : LB → Bool → S_api_Cmd → OR :=
 f14_T1 call n (f14_L10 call n) (f14_L11 call n) (f14_L12 call n) (f14_L13 call n)
theorem f14_e1 (call : CallF) (n : Nat) : f14_P1 f14_b call n = f14_L1 call n := by
 rw [f14_l1, f14_e10, f14_e11, f14_e12, f14_e13]; rfl
def f14_T (call : CallF) (n : Nat) (j1 : LB → Bool → S_api_Cmd → OR) (a0 : LB) : OR :=
 bif (decide (((a0).length : Int) > (510 : Int))) then (
  j1 a0 true (⟨(0 : Int), ([] : List UInt8), ([] : List UInt8), ([] : List UInt8), false, (0 : Int), (0 : Int)⟩ : S_api_Cmd)) else (
  callK call 33 [.one (.str a0)] fun v41 =>
  oB v41 fun b42 =>
  j1 a0 (!b42) (⟨(0 : Int), ([] : List UInt8), ([] : List UInt8), ([] : List UInt8), false, (0 : Int), (0 : Int)⟩ : S_api_Cmd))
def f14_L (call : CallF) (n : Nat) (a0 : LB) : OR :=
 f14_T call n (f14_L1 call n) a0
theorem f14_o (X0 : Code) (call : CallF) (n : Nat) (B : Code) (hB : B = (hole f14_b [1, 0, 1] X0)) : f14_P B call n = f14_T call n (f14_P1 B call n) := by
 subst hB; funext a0; kernel_rfl
theorem f14_l (call : CallF) (n : Nat) : f14_P f14_b call n = f14_T call n (f14_P1 f14_b call n) :=
 f14_o (piece [1, 0, 1] f14_b) call n _ (by kernel_rfl)
theorem f14_e (call : CallF) (n : Nat) : f14_P f14_b call n = f14_L call n := by
 rw [f14_l, f14_e1]; rfl
theorem f14_eq (n : Nat) (a0 : LB) : acall AXE AXF (n + 1) 14 [.one (.str a0)] [] = f14_L (acall AXE AXF n) (n + 1) a0 :=
 (show _ = f14_P f14_b (acall AXE AXF n) (n + 1) a0 by kernel_rfl).trans (by rw [f14_e])
def f15_P15 (B : Code) (call : CallF) (n : Nat) (m0 : Nat) (x0 : S_ref06_Got) : OR :=
 f15_x B call n [1, 1, 0, 1, 0, 0, 1, 0, 0, 1, 0, 1] (kBlk 1 (kSeq (f15_x B call n [1, 1, 0, 1, 0, 0, 1, 1]) (kSeq (fun k => prK 1000004 (pruneAt f15_h 1000004) (aloop 1000004 (pruneAt f15_h 1000004) (f15_x B call n [1, 1, 0, 1, 0, 0]) k m0)) (kBlk 0 (kSeq (f15_x B call n [1, 1, 1]) (kEnd AXE 0 f15_r)))))) ⟨[(2, .one (.ptr 0 0))], [x0.cells]⟩
def f15_P12 (B : Code) (call : CallF) (n : Nat) (m0 : Nat) (x0 : LB) (x1 : Int) (x2 : Bool) (x3 : S_ref06_Got) : OR :=
 f15_x B call n [1, 1, 0, 1, 0, 0, 1, 0, 0, 1] (kBlk 1 (kSeq (f15_x B call n [1, 1, 0, 1, 0, 0, 1, 1]) (kSeq (fun k => prK 1000004 (pruneAt f15_h 1000004) (aloop 1000004 (pruneAt f15_h 1000004) (f15_x B call n [1, 1, 0, 1, 0, 0]) k m0)) (kBlk 0 (kSeq (f15_x B call n [1, 1, 1]) (kEnd AXE 0 f15_r)))))) ⟨[(0, .one (.str x0)), (2, .one (.ptr 0 0)), (3, .one (.int .i64 x1)), (26, .one (.bool x2))], [x3.cells]⟩
def f15_P19 (B : Code) (call : CallF) (n : Nat) (x0 : S_ref06_Got) : OR :=
 f15_x B call n [1, 1, 1, 1, 1, 1, 1, 0, 1, 0, 1, 0, 1] (kBlk 2 (kSeq (f15_x B call n [1, 1, 1, 1, 1, 1, 1, 1]) (kEnd AXE 0 f15_r))) ⟨[(2, .one (.ptr 0 0))], [x0.cells]⟩
def f15_P26 (B : Code) (call : CallF) (n : Nat) (x0 : S_ref06_Got) : OR :=
 f15_x B call n [1, 1, 1, 1, 1, 1, 1, 0, 1, 0, 1, 1, 1, 0, 0, 1, 0, 1] (kSeq (f15_x B call n [1, 1, 1, 1, 1, 1, 1, 0, 1, 0, 1, 1, 1, 0, 1]) (kBlk 2 (kSeq (f15_x B call n [1, 1, 1, 1, 1, 1, 1, 1]) (kEnd AXE 0 f15_r)))) ⟨[(2, .one (.ptr 0 0))], [x0.cells]⟩
def f15_P33 (B : Code) (call : CallF) (n : Nat) (x0 : S_ref06_Got) : OR :=
 f15_x B call n [1, 1, 1, 1, 1, 1, 1, 1, 1] (kEnd AXE 0 f15_r) ⟨[(2, .one (.ptr 0 0))], [x0.cells]⟩
def f15_P30 (B : Code) (call : CallF) (n : Nat) (x0 : S_ref06_Got) (x1 : S_api_Cmd) : OR :=
 f15_x B call n [1, 1, 1, 1, 1, 1, 1, 1] (kEnd AXE 0 f15_r) ⟨[(2, .one (.ptr 0 0)), (6, .one (.ptr 1 0))], [x0.cells, x1.cells]⟩
def f15_P27 (B : Code) (call : CallF) (n : Nat) (x0 : LB) (x1 : S_ref06_Got) (x2 : S_api_Cmd) : OR :=
 f15_x B call n [1, 1, 1, 1, 1, 1, 1, 0, 1, 0, 1, 1, 1, 0, 1] (kBlk 2 (kSeq (f15_x B call n [1, 1, 1, 1, 1, 1, 1, 1]) (kEnd AXE 0 f15_r))) ⟨[(2, .one (.ptr 0 0)), (5, .one (.str x0)), (6, .one (.ptr 1 0))], [x1.cells, x2.cells]⟩
def f15_P23 (B : Code) (call : CallF) (n : Nat) (x0 : LB) (x1 : Bool) (x2 : S_ref06_Got) (x3 : S_api_Cmd) : OR :=
 f15_x B call n [1, 1, 1, 1, 1, 1, 1, 0, 1, 0, 1, 1, 1, 0, 0, 1] (kSeq (f15_x B call n [1, 1, 1, 1, 1, 1, 1, 0, 1, 0, 1, 1, 1, 0, 1]) (kBlk 2 (kSeq (f15_x B call n [1, 1, 1, 1, 1, 1, 1, 1]) (kEnd AXE 0 f15_r)))) ⟨[(2, .one (.ptr 0 0)), (5, .one (.str x0)), (6, .one (.ptr 1 0)), (61, .one (.bool x1))], [x2.cells, x3.cells]⟩
def f15_P28 (B : Code) (call : CallF) (n : Nat) (x0 : S_ref06_Got) : OR :=
 f15_x B call n [1, 1, 1, 1, 1, 1, 1, 0, 1, 0, 1, 1, 1, 1, 1, 0, 1] (kBlk 2 (kSeq (f15_x B call n [1, 1, 1, 1, 1, 1, 1, 1]) (kEnd AXE 0 f15_r))) ⟨[(2, .one (.ptr 0 0))], [x0.cells]⟩
def f15_P31 (B : Code) (call : CallF) (n : Nat) (x0 : S_ref06_Got) : OR :=
 f15_x B call n [1, 1, 1, 1, 1, 1, 1, 0, 1, 0, 1, 1, 1, 1, 1, 1, 1, 0, 1] (kBlk 2 (kSeq (f15_x B call n [1, 1, 1, 1, 1, 1, 1, 1]) (kEnd AXE 0 f15_r))) ⟨[(2, .one (.ptr 0 0))], [x0.cells]⟩
def f15_P39 (B : Code) (call : CallF) (n : Nat) (x0 : S_ref06_Got) : OR :=
 f15_x B call n [1, 1, 1, 1, 1, 1, 1, 0, 1, 0, 1, 1, 1, 1, 1, 1, 1, 1, 1, 0, 1, 0, 1] (kBlk 2 (kSeq (f15_x B call n [1, 1, 1, 1, 1, 1, 1, 1]) (kEnd AXE 0 f15_r))) ⟨[(2, .one (.ptr 0 0))], [x0.cells]⟩
def f15_P36 (B : Code) (call : CallF) (n : Nat) (x0 : Bool) (x1 : S_ref06_Got) (x2 : S_api_Cmd) : OR :=
 f15_x B call n [1, 1, 1, 1, 1, 1, 1, 0, 1, 0, 1, 1, 1, 1, 1, 1, 1, 1, 1, 0, 1] (kBlk 2 (kSeq (f15_x B call n [1, 1, 1, 1, 1, 1, 1, 1]) (kEnd AXE 0 f15_r))) ⟨[(2, .one (.ptr 0 0)), (6, .one (.ptr 1 0)), (82, .one (.bool x0))], [x1.cells, x2.cells]⟩
def f15_P41 (B : Code) (call : CallF) (n : Nat) (x0 : S_ref06_Got) : OR :=
 f15_x B call n [1, 1, 1, 1, 1, 1, 1, 0, 1, 0, 1, 1, 1, 1, 1, 1, 1, 1, 1, 1, 1, 0, 0, 1, 0, 1] (kSeq (f15_x B call n [1, 1, 1, 1, 1, 1, 1, 0, 1, 0, 1, 1, 1, 1, 1, 1, 1, 1, 1, 1, 1, 0, 1]) (kBlk 2 (kSeq (f15_x B call n [1, 1, 1, 1, 1, 1, 1, 1]) (kEnd AXE 0 f15_r)))) ⟨[(2, .one (.ptr 0 0))], [x0.cells]⟩
def f15_P42 (B : Code) (call : CallF) (n : Nat) (x0 : LB) (x1 : S_ref06_Got) (x2 : S_api_Cmd) : OR :=
 f15_x B call n [1, 1, 1, 1, 1, 1, 1, 0, 1, 0, 1, 1, 1, 1, 1, 1, 1, 1, 1, 1, 1, 0, 1] (kBlk 2 (kSeq (f15_x B call n [1, 1, 1, 1, 1, 1, 1, 1]) (kEnd AXE 0 f15_r))) ⟨[(2, .one (.ptr 0 0)), (5, .one (.str x0)), (6, .one (.ptr 1 0))], [x1.cells, x2.cells]⟩
def f15_P40 (B : Code) (call : CallF) (n : Nat) (x0 : LB) (x1 : Bool) (x2 : S_ref06_Got) (x3 : S_api_Cmd) : OR :=
 f15_x B call n [1, 1, 1, 1, 1, 1, 1, 0, 1, 0, 1, 1, 1, 1, 1, 1, 1, 1, 1, 1, 1, 0, 0, 1] (kSeq (f15_x B call n [1, 1, 1, 1, 1, 1, 1, 0, 1, 0, 1, 1, 1, 1, 1, 1, 1, 1, 1, 1, 1, 0, 1]) (kBlk 2 (kSeq (f15_x B call n [1, 1, 1, 1, 1, 1, 1, 1]) (kEnd AXE 0 f15_r)))) ⟨[(2, .one (.ptr 0 0)), (5, .one (.str x0)), (6, .one (.ptr 1 0)), (87, .one (.bool x1))], [x2.cells, x3.cells]⟩
def f15_P37 (B : Code) (call : CallF) (n : Nat) (x0 : LB) (x1 : Bool) (x2 : S_ref06_Got) (x3 : S_api_Cmd) : OR :=
 f15_x B call n [1, 1, 1, 1, 1, 1, 1, 0, 1, 0, 1, 1, 1, 1, 1, 1, 1, 1, 1, 1, 1] (kBlk 2 (kSeq (f15_x B call n [1, 1, 1, 1, 1, 1, 1, 1]) (kEnd AXE 0 f15_r))) ⟨[(2, .one (.ptr 0 0)), (5, .one (.str x0)), (6, .one (.ptr 1 0)), (84, .one (.bool x1))], [x2.cells, x3.cells]⟩
def f15_P34 (B : Code) (call : CallF) (n : Nat) (x0 : Bool) (x1 : LB) (x2 : Int) (x3 : LB) (x4 : Int) (x5 : S_ref06_Got) (x6 : S_api_Cmd) : OR :=
 f15_x B call n [1, 1, 1, 1, 1, 1, 1, 0, 1, 0, 1, 1, 1, 1, 1, 1, 1, 1, 1] (kBlk 2 (kSeq (f15_x B call n [1, 1, 1, 1, 1, 1, 1, 1]) (kEnd AXE 0 f15_r))) ⟨[(75, .one (.bool x0)), (0, .one (.str x1)), (2, .one (.ptr 0 0)), (4, .one (.int .i64 x2)), (5, .one (.str x3)), (6, .one (.ptr 1 0)), (44, .one (.int .i64 x4))], [x5.cells, x6.cells]⟩
def f15_P38 (B : Code) (call : CallF) (n : Nat) (x0 : LB) (x1 : Int) (x2 : LB) (x3 : Int) (x4 : Bool) (x5 : S_ref06_Got) (x6 : S_api_Cmd) : OR :=
 f15_x B call n [1, 1, 1, 1, 1, 1, 1, 0, 1, 0, 1, 1, 1, 1, 1, 1, 1, 1, 1] (kBlk 2 (kSeq (f15_x B call n [1, 1, 1, 1, 1, 1, 1, 1]) (kEnd AXE 0 f15_r))) ⟨[(0, .one (.str x0)), (2, .one (.ptr 0 0)), (4, .one (.int .i64 x1)), (5, .one (.str x2)), (6, .one (.ptr 1 0)), (44, .one (.int .i64 x3)), (75, .one (.bool x4))], [x5.cells, x6.cells]⟩
def f15_P35 (B : Code) (call : CallF) (n : Nat) (x0 : LB) (x1 : Int) (x2 : LB) (x3 : Int) (x4 : Bool) (x5 : S_ref06_Got) (x6 : S_api_Cmd) : OR :=
 f15_x B call n [1, 1, 1, 1, 1, 1, 1, 0, 1, 0, 1, 1, 1, 1, 1, 1, 1, 1, 0, 1, 1, 1] (kSeq (f15_x B call n [1, 1, 1, 1, 1, 1, 1, 0, 1, 0, 1, 1, 1, 1, 1, 1, 1, 1, 1]) (kBlk 2 (kSeq (f15_x B call n [1, 1, 1, 1, 1, 1, 1, 1]) (kEnd AXE 0 f15_r)))) ⟨[(0, .one (.str x0)), (2, .one (.ptr 0 0)), (4, .one (.int .i64 x1)), (5, .one (.str x2)), (6, .one (.ptr 1 0)), (44, .one (.int .i64 x3)), (75, .one (.bool x4))], [x5.cells, x6.cells]⟩
def f15_P32 (B : Code) (call : CallF) (n : Nat) (x0 : LB) (x1 : Int) (x2 : LB) (x3 : Int) (x4 : Bool) (x5 : S_ref06_Got) (x6 : S_api_Cmd) : OR :=
 f15_x B call n [1, 1, 1, 1, 1, 1, 1, 0, 1, 0, 1, 1, 1, 1, 1, 1, 1, 1, 0, 1] (kSeq (f15_x B call n [1, 1, 1, 1, 1, 1, 1, 0, 1, 0, 1, 1, 1, 1, 1, 1, 1, 1, 1]) (kBlk 2 (kSeq (f15_x B call n [1, 1, 1, 1, 1, 1, 1, 1]) (kEnd AXE 0 f15_r)))) ⟨[(0, .one (.str x0)), (2, .one (.ptr 0 0)), (4, .one (.int .i64 x1)), (5, .one (.str x2)), (6, .one (.ptr 1 0)), (44, .one (.int .i64 x3)), (75, .one (.bool x4))], [x5.cells, x6.cells]⟩
def f15_P29 (B : Code) (call : CallF) (n : Nat) (x0 : LB) (x1 : Int) (x2 : LB) (x3 : Int) (x4 : Bool) (x5 : S_ref06_Got) (x6 : S_api_Cmd) : OR :=
 f15_x B call n [1, 1, 1, 1, 1, 1, 1, 0, 1, 0, 1, 1, 1, 1, 1, 1, 1] (kBlk 2 (kSeq (f15_x B call n [1, 1, 1, 1, 1, 1, 1, 1]) (kEnd AXE 0 f15_r))) ⟨[(0, .one (.str x0)), (2, .one (.ptr 0 0)), (4, .one (.int .i64 x1)), (5, .one (.str x2)), (6, .one (.ptr 1 0)), (44, .one (.int .i64 x3)), (70, .one (.bool x4))], [x5.cells, x6.cells]⟩
def f15_P24 (B : Code) (call : CallF) (n : Nat) (x0 : LB) (x1 : Int) (x2 : LB) (x3 : Int) (x4 : Bool) (x5 : S_ref06_Got) (x6 : S_api_Cmd) : OR :=
 f15_x B call n [1, 1, 1, 1, 1, 1, 1, 0, 1, 0, 1, 1, 1, 1, 1] (kBlk 2 (kSeq (f15_x B call n [1, 1, 1, 1, 1, 1, 1, 1]) (kEnd AXE 0 f15_r))) ⟨[(0, .one (.str x0)), (2, .one (.ptr 0 0)), (4, .one (.int .i64 x1)), (5, .one (.str x2)), (6, .one (.ptr 1 0)), (44, .one (.int .i64 x3)), (65, .one (.bool x4))], [x5.cells, x6.cells]⟩
def f15_P21 (B : Code) (call : CallF) (n : Nat) (x0 : Bool) (x1 : LB) (x2 : Int) (x3 : LB) (x4 : Int) (x5 : S_ref06_Got) (x6 : S_api_Cmd) : OR :=
 f15_x B call n [1, 1, 1, 1, 1, 1, 1, 0, 1, 0, 1, 1, 1] (kBlk 2 (kSeq (f15_x B call n [1, 1, 1, 1, 1, 1, 1, 1]) (kEnd AXE 0 f15_r))) ⟨[(50, .one (.bool x0)), (0, .one (.str x1)), (2, .one (.ptr 0 0)), (4, .one (.int .i64 x2)), (5, .one (.str x3)), (6, .one (.ptr 1 0)), (44, .one (.int .i64 x4))], [x5.cells, x6.cells]⟩
def f15_P25 (B : Code) (call : CallF) (n : Nat) (x0 : LB) (x1 : Int) (x2 : LB) (x3 : Int) (x4 : Bool) (x5 : S_ref06_Got) (x6 : S_api_Cmd) : OR :=
 f15_x B call n [1, 1, 1, 1, 1, 1, 1, 0, 1, 0, 1, 1, 1] (kBlk 2 (kSeq (f15_x B call n [1, 1, 1, 1, 1, 1, 1, 1]) (kEnd AXE 0 f15_r))) ⟨[(0, .one (.str x0)), (2, .one (.ptr 0 0)), (4, .one (.int .i64 x1)), (5, .one (.str x2)), (6, .one (.ptr 1 0)), (44, .one (.int .i64 x3)), (50, .one (.bool x4))], [x5.cells, x6.cells]⟩
def f15_P22 (B : Code) (call : CallF) (n : Nat) (x0 : LB) (x1 : Int) (x2 : LB) (x3 : Int) (x4 : Bool) (x5 : S_ref06_Got) (x6 : S_api_Cmd) : OR :=
 f15_x B call n [1, 1, 1, 1, 1, 1, 1, 0, 1, 0, 1, 1, 0, 1, 1, 1] (kSeq (f15_x B call n [1, 1, 1, 1, 1, 1, 1, 0, 1, 0, 1, 1, 1]) (kBlk 2 (kSeq (f15_x B call n [1, 1, 1, 1, 1, 1, 1, 1]) (kEnd AXE 0 f15_r)))) ⟨[(0, .one (.str x0)), (2, .one (.ptr 0 0)), (4, .one (.int .i64 x1)), (5, .one (.str x2)), (6, .one (.ptr 1 0)), (44, .one (.int .i64 x3)), (50, .one (.bool x4))], [x5.cells, x6.cells]⟩
def f15_P20 (B : Code) (call : CallF) (n : Nat) (x0 : LB) (x1 : Int) (x2 : LB) (x3 : Int) (x4 : Bool) (x5 : S_ref06_Got) (x6 : S_api_Cmd) : OR :=
 f15_x B call n [1, 1, 1, 1, 1, 1, 1, 0, 1, 0, 1, 1, 0, 1] (kSeq (f15_x B call n [1, 1, 1, 1, 1, 1, 1, 0, 1, 0, 1, 1, 1]) (kBlk 2 (kSeq (f15_x B call n [1, 1, 1, 1, 1, 1, 1, 1]) (kEnd AXE 0 f15_r)))) ⟨[(0, .one (.str x0)), (2, .one (.ptr 0 0)), (4, .one (.int .i64 x1)), (5, .one (.str x2)), (6, .one (.ptr 1 0)), (44, .one (.int .i64 x3)), (50, .one (.bool x4))], [x5.cells, x6.cells]⟩
def f15_P18 (B : Code) (call : CallF) (n : Nat) (x0 : LB) (x1 : Int) (x2 : LB) (x3 : Int) (x4 : Bool) (x5 : S_ref06_Got) (x6 : S_api_Cmd) : OR :=
 f15_x B call n [1, 1, 1, 1, 1, 1, 1, 0, 1, 0, 1] (kBlk 2 (kSeq (f15_x B call n [1, 1, 1, 1, 1, 1, 1, 1]) (kEnd AXE 0 f15_r))) ⟨[(0, .one (.str x0)), (2, .one (.ptr 0 0)), (4, .one (.int .i64 x1)), (5, .one (.str x2)), (6, .one (.ptr 1 0)), (44, .one (.int .i64 x3)), (47, .one (.bool x4))], [x5.cells, x6.cells]⟩
def f15_P17 (B : Code) (call : CallF) (n : Nat) (x0 : LB) (x1 : Int) (x2 : LB) (x3 : Int) (x4 : S_ref06_Got) (x5 : S_api_Cmd) : OR :=
 f15_x B call n [1, 1, 1, 1, 1, 1, 1, 0, 1] (kSeq (f15_x B call n [1, 1, 1, 1, 1, 1, 1, 1]) (kEnd AXE 0 f15_r)) ⟨[(0, .one (.str x0)), (2, .one (.ptr 0 0)), (4, .one (.int .i64 x1)), (5, .one (.str x2)), (6, .one (.ptr 1 0)), (44, .one (.int .i64 x3))], [x4.cells, x5.cells]⟩
def f15_P16 (B : Code) (call : CallF) (n : Nat) (x0 : LB) (x1 : Int) (x2 : LB) (x3 : S_ref06_Got) (x4 : S_api_Cmd) : OR :=
 f15_x B call n [1, 1, 1, 1, 1, 1, 1] (kEnd AXE 0 f15_r) ⟨[(0, .one (.str x0)), (2, .one (.ptr 0 0)), (4, .one (.int .i64 x1)), (5, .one (.str x2)), (6, .one (.ptr 1 0))], [x3.cells, x4.cells]⟩
def f15_P14 (B : Code) (call : CallF) (n : Nat) (x0 : LB) (x1 : Int) (x2 : LB) (x3 : S_ref06_Got) : OR :=
 f15_x B call n [1, 1, 1, 1, 1, 1] (kEnd AXE 0 f15_r) ⟨[(0, .one (.str x0)), (2, .one (.ptr 0 0)), (4, .one (.int .i64 x1)), (5, .one (.str x2))], [x3.cells]⟩
def f15_P5 (B : Code) (call : CallF) (n : Nat) (m0 : Nat) (x0 : LB) (x1 : Int) (x2 : S_ref06_Got) : OR :=
 aloop 1000004 (pruneAt f15_h 1000004) (f15_x B call n [1, 1, 0, 1, 0, 0]) (kBlk 0 (kSeq (f15_x B call n [1, 1, 1]) (kEnd AXE 0 f15_r))) m0 ⟨[(0, .one (.str x0)), (2, .one (.ptr 0 0)), (3, .one (.int .i64 x1))], [x2.cells]⟩
def f15_P (B : Code) (call : CallF) (n : Nat) (a0 : LB) : OR :=
 f15_x B call n [] (kEnd AXE 0 f15_r) ⟨[(0, .one (.str a0))], []⟩
def f15_T15 (call : CallF) (n : Nat) (x0 : S_ref06_Got) : OR :=
 some (.agg x0.cells, [])
theorem f15_o15 (call : CallF) (n : Nat) (m0 : Nat) (B : Code) (hB : B = f15_b) : f15_P15 B call n m0 = f15_T15 call n := by
 subst hB; funext x0; kernel_rfl
theorem f15_l15 (call : CallF) (n : Nat) (m0 : Nat) : f15_P15 f15_b call n m0 = f15_T15 call n :=
 f15_o15 call n m0 _ (by kernel_rfl)
def f15_L15 (call : CallF) (n : Nat) (h_m0 : LB → Int → S_ref06_Got → OR) : S_ref06_Got → OR :=
 f15_T15 call n
theorem f15_e15 (call : CallF) (n : Nat) (m0 : Nat) : f15_P15 f15_b call n m0 = f15_L15 call n (f15_P5 f15_b call n m0) := by
 rw [f15_l15]; rfl
def f15_T12 (call : CallF) (n : Nat) (j15 : S_ref06_Got → OR) (j5m : LB → Int → S_ref06_Got → OR) (x0 : LB) (x1 : Int) (x2 : Bool) (x3 : S_ref06_Got) : OR :=
 bif x2 then (
  j15 (⟨(⟨(0 : Int), ([] : List UInt8), ([] : List UInt8), ([] : List UInt8), false, (0 : Int), (0 : Int)⟩ : S_api_Cmd), (500 : Int)⟩ : S_ref06_Got)) else (
  j5m x0 (IntKind.wrap .i64 (x1 + (1 : Int))) x3)
theorem f15_o12 (X0 : Code) (call : CallF) (n : Nat) (m0 : Nat) (B : Code) (hB : B = (hole f15_b [1, 1, 0, 1, 0, 0, 1, 0, 0, 1, 0, 1] X0)) : f15_P12 B call n m0 = f15_T12 call n (f15_P15 B call n m0) (f15_P5 B call n m0) := by
 subst hB; funext x0 x1 x2 x3; cases x2 <;> kernel_rfl
theorem f15_l12 (call : CallF) (n : Nat) (m0 : Nat) : f15_P12 f15_b call n m0 = f15_T12 call n (f15_P15 f15_b call n m0) (f15_P5 f15_b call n m0) :=
 f15_o12 (piece [1, 1, 0, 1, 0, 0, 1, 0, 0, 1, 0, 1] f15_b) call n m0 _ (by kernel_rfl)
def f15_L12 (call : CallF) (n : Nat) (h_m0 : LB → Int → S_ref06_Got → OR) : LB → Int → Bool → S_ref06_Got → OR :=
 f15_T12 call n (f15_L15 call n h_m0) h_m0
theorem f15_e12 (call : CallF) (n : Nat) (m0 : Nat) : f15_P12 f15_b call n m0 = f15_L12 call n (f15_P5 f15_b call n m0) := by
 rw [f15_l12, f15_e15]; rfl
def f15_T19 (call : CallF) (n : Nat) (x0 : S_ref06_Got) : OR :=
 some (.agg x0.cells, [])
theorem f15_o19 (call : CallF) (n : Nat) (B : Code) (hB : B = f15_b) : f15_P19 B call n = f15_T19 call n := by
 subst hB; funext x0; kernel_rfl
theorem f15_l19 (call : CallF) (n : Nat) : f15_P19 f15_b call n = f15_T19 call n :=
 f15_o19 call n _ (by kernel_rfl)
def f15_L19 (call : CallF) (n : Nat) : S_ref06_Got → OR :=
 f15_T19 call n
theorem f15_e19 (call : CallF) (n : Nat) : f15_P19 f15_b call n = f15_L19 call n := by
 rw [f15_l19]; rfl
def f15_T26 (call : CallF) (n : Nat) (x0 : S_ref06_Got) : OR :=
 some (.agg x0.cells, [])
theorem f15_o26 (call : CallF) (n : Nat) (B : Code) (hB : B = f15_b) : f15_P26 B call n = f15_T26 call n := by
 subst hB; funext x0; kernel_rfl
theorem f15_l26 (call : CallF) (n : Nat) : f15_P26 f15_b call n = f15_T26 call n :=
 f15_o26 call n _ (by kernel_rfl)
def f15_L26 (call : CallF) (n : Nat) : S_ref06_Got → OR :=
 f15_T26 call n
theorem f15_e26 (call : CallF) (n : Nat) : f15_P26 f15_b call n = f15_L26 call n := by
 rw [f15_l26]; rfl
def f15_T33 (call : CallF) (n : Nat) (x0 : S_ref06_Got) : OR :=
 some (.agg x0.cells, [])
theorem f15_o33 (call : CallF) (n : Nat) (B : Code) (hB : B = f15_b) : f15_P33 B call n = f15_T33 call n := by
 subst hB; funext x0; kernel_rfl
theorem f15_l33 (call : CallF) (n : Nat) : f15_P33 f15_b call n = f15_T33 call n :=
 f15_o33 call n _ (by kernel_rfl)
def f15_L33 (call : CallF) (n : Nat) : S_ref06_Got → OR :=
 f15_T33 call n
theorem f15_e33 (call : CallF) (n : Nat) : f15_P33 f15_b call n = f15_L33 call n := by
 rw [f15_l33]; rfl
def f15_T30 (call : CallF) (n : Nat) (j33 : S_ref06_Got → OR) (x0 : S_ref06_Got) (x1 : S_api_Cmd) : OR :=
 j33 (⟨x1, (0 : Int)⟩ : S_ref06_Got)
theorem f15_o30 (X0 : Code) (call : CallF) (n : Nat) (B : Code) (hB : B = (hole f15_b [1, 1, 1, 1, 1, 1, 1, 1, 1] X0)) : f15_P30 B call n = f15_T30 call n (f15_P33 B call n) := by
 subst hB; funext x0 x1; kernel_rfl
theorem f15_l30 (call : CallF) (n : Nat) : f15_P30 f15_b call n = f15_T30 call n (f15_P33 f15_b call n) :=
 f15_o30 (piece [1, 1, 1, 1, 1, 1, 1, 1, 1] f15_b) call n _ (by kernel_rfl)
def f15_L30 (call : CallF) (n : Nat) : S_ref06_Got → S_api_Cmd → OR :=
 f15_T30 call n (f15_L33 call n)
theorem f15_e30 (call : CallF) (n : Nat) : f15_P30 f15_b call n = f15_L30 call n := by
 rw [f15_l30, f15_e33]; rfl
def f15_T27 (call : CallF) (n : Nat) (j30 : S_ref06_Got → S_api_Cmd → OR) (x0 : LB) (x1 : S_ref06_Got) (x2 : S_api_Cmd) : OR :=
 j30 x1 ({ x2 with fArg := x0 } : S_api_Cmd)
theorem f15_o27 (X0 : Code) (call : CallF) (n : Nat) (B : Code) (hB : B = (hole f15_b [1, 1, 1, 1, 1, 1, 1, 1] X0)) : f15_P27 B call n = f15_T27 call n (f15_P30 B call n) := by
 subst hB; funext x0 x1 x2; kernel_rfl
theorem f15_l27 (call : CallF) (n : Nat) : f15_P27 f15_b call n = f15_T27 call n (f15_P30 f15_b call n) :=
 f15_o27 (piece [1, 1, 1, 1, 1, 1, 1, 1] f15_b) call n _ (by kernel_rfl)
def f15_L27 (call : CallF) (n : Nat) : LB → S_ref06_Got → S_api_Cmd → OR :=
 f15_T27 call n (f15_L30 call n)
theorem f15_e27 (call : CallF) (n : Nat) : f15_P27 f15_b call n = f15_L27 call n := by
 rw [f15_l27, f15_e30]; rfl
def f15_T23 (call : CallF) (n : Nat) (j26 : S_ref06_Got → OR) (j27 : LB → S_ref06_Got → S_api_Cmd → OR) (x0 : LB) (x1 : Bool) (x2 : S_ref06_Got) (x3 : S_api_Cmd) : OR :=
 bif x1 then (
  j26 (⟨(⟨(0 : Int), ([] : List UInt8), ([] : List UInt8), ([] : List UInt8), false, (0 : Int), (0 : Int)⟩ : S_api_Cmd), (501 : Int)⟩ : S_ref06_Got)) else (
  j27 x0 x2 x3)
theorem f15_o23 (X0 X1 : Code) (call : CallF) (n : Nat) (B : Code) (hB : B = (hole (hole f15_b [1, 1, 1, 1, 1, 1, 1, 0, 1, 0, 1, 1, 1, 0, 0, 1, 0, 1] X0) [1, 1, 1, 1, 1, 1, 1, 0, 1, 0, 1, 1, 1, 0, 1] X1)) : f15_P23 B call n = f15_T23 call n (f15_P26 B call n) (f15_P27 B call n) := by
 subst hB; funext x0 x1 x2 x3; cases x1 <;> kernel_rfl
theorem f15_l23 (call : CallF) (n : Nat) : f15_P23 f15_b call n = f15_T23 call n (f15_P26 f15_b call n) (f15_P27 f15_b call n) :=
 f15_o23 (piece [1, 1, 1, 1, 1, 1, 1, 0, 1, 0, 1, 1, 1, 0, 0, 1, 0, 1] f15_b) (piece [1, 1, 1, 1, 1, 1, 1, 0, 1, 0, 1, 1, 1, 0, 1] f15_b) call n _ (by kernel_rfl)
def f15_L23 (call : CallF) (n : Nat) : LB → Bool → S_ref06_Got → S_api_Cmd → OR :=
 f15_T23 call n (f15_L26 call n) (f15_L27 call n)
theorem f15_e23 (call : CallF) (n : Nat) : f15_P23 f15_b call n = f15_L23 call n := by
 rw [f15_l23, f15_e26, f15_e27]; rfl
def f15_T28 (call : CallF) (n : Nat) (x0 : S_ref06_Got) : OR :=
 some (.agg x0.cells, [])
theorem f15_o28 (call : CallF) (n : Nat) (B : Code) (hB : B = f15_b) : f15_P28 B call n = f15_T28 call n := by
 subst hB; funext x0; kernel_rfl
theorem f15_l28 (call : CallF) (n : Nat) : f15_P28 f15_b call n = f15_T28 call n :=
 f15_o28 call n _ (by kernel_rfl)
def f15_L28 (call : CallF) (n : Nat) : S_ref06_Got → OR :=
 f15_T28 call n
theorem f15_e28 (call : CallF) (n : Nat) : f15_P28 f15_b call n = f15_L28 call n := by
 rw [f15_l28]; rfl
def f15_T31 (call : CallF) (n : Nat) (x0 : S_ref06_Got) : OR :=
 some (.agg x0.cells, [])
theorem f15_o31 (call : CallF) (n : Nat) (B : Code) (hB : B = f15_b) : f15_P31 B call n = f15_T31 call n := by
 subst hB; funext x0; kernel_rfl
theorem f15_l31 (call : CallF) (n : Nat) : f15_P31 f15_b call n = f15_T31 call n :=
 f15_o31 call n _ (by kernel_rfl)
def f15_L31 (call : CallF) (n : Nat) : S_ref06_Got → OR :=
 f15_T31 call n
theorem f15_e31 (call : CallF) (n : Nat) : f15_P31 f15_b call n = f15_L31 call n := by
 rw [f15_l31]; rfl
def f15_T39 (call : CallF) (n : Nat) (x0 : S_ref06_Got) : OR :=
 some (.agg x0.cells, [])
theorem f15_o39 (call : CallF) (n : Nat) (B : Code) (hB : B = f15_b) : f15_P39 B call n = f15_T39 call n := by
 subst hB; funext x0; kernel_rfl
theorem f15_l39 (call : CallF) (n : Nat) : f15_P39 f15_b call n = f15_T39 call n :=
 f15_o39 call n _ (by kernel_rfl)
def f15_L39 (call : CallF) (n : Nat) : S_ref06_Got → OR :=
 f15_T39 call n
theorem f15_e39 (call : CallF) (n : Nat) : f15_P39 f15_b call n = f15_L39 call n := by
 rw [f15_l39]; rfl
def f15_T36 (call : CallF) (n : Nat) (j39 : S_ref06_Got → OR) (j30 : S_ref06_Got → S_api_Cmd → OR) (x0 : Bool) (x1 : S_ref06_Got) (x2 : S_api_Cmd) : OR :=
 bif x0 then (
  j39 (⟨(⟨(0 : Int), ([] : List UInt8), ([] : List UInt8), ([] : List UInt8), false, (0 : Int), (0 : Int)⟩ : S_api_Cmd), (501 : Int)⟩ : S_ref06_Got)) else (
  j30 x1 x2)
theorem f15_o36 (X0 X1 : Code) (call : CallF) (n : Nat) (B : Code) (hB : B = (hole (hole f15_b [1, 1, 1, 1, 1, 1, 1, 0, 1, 0, 1, 1, 1, 1, 1, 1, 1, 1, 1, 0, 1, 0, 1] X0) [1, 1, 1, 1, 1, 1, 1, 1] X1)) : f15_P36 B call n = f15_T36 call n (f15_P39 B call n) (f15_P30 B call n) := by
 subst hB; funext x0 x1 x2; cases x0 <;> kernel_rfl
theorem f15_l36 (call : CallF) (n : Nat) : f15_P36 f15_b call n = f15_T36 call n (f15_P39 f15_b call n) (f15_P30 f15_b call n) :=
 f15_o36 (piece [1, 1, 1, 1, 1, 1, 1, 0, 1, 0, 1, 1, 1, 1, 1, 1, 1, 1, 1, 0, 1, 0, 1] f15_b) (piece [1, 1, 1, 1, 1, 1, 1, 1] f15_b) call n _ (by kernel_rfl)
def f15_L36 (call : CallF) (n : Nat) : Bool → S_ref06_Got → S_api_Cmd → OR :=
 f15_T36 call n (f15_L39 call n) (f15_L30 call n)
theorem f15_e36 (call : CallF) (n : Nat) : f15_P36 f15_b call n = f15_L36 call n := by
 rw [f15_l36, f15_e39, f15_e30]; rfl
def f15_T41 (call : CallF) (n : Nat) (x0 : S_ref06_Got) : OR :=
 some (.agg x0.cells, [])
theorem f15_o41 (call : CallF) (n : Nat) (B : Code) (hB : B = f15_b) : f15_P41 B call n = f15_T41 call n := by
 subst hB; funext x0; kernel_rfl
theorem f15_l41 (call : CallF) (n : Nat) : f15_P41 f15_b call n = f15_T41 call n :=
 f15_o41 call n _ (by kernel_rfl)
def f15_L41 (call : CallF) (n : Nat) : S_ref06_Got → OR :=
 f15_T41 call n
theorem f15_e41 (call : CallF) (n : Nat) : f15_P41 f15_b call n = f15_L41 call n := by
 rw [f15_l41]; rfl
def f15_T42 (call : CallF) (n : Nat) (j30 : S_ref06_Got → S_api_Cmd → OR) (x0 : LB) (x1 : S_ref06_Got) (x2 : S_api_Cmd) : OR :=
 j30 x1 ({ x2 with fArg := x0 } : S_api_Cmd)
theorem f15_o42 (X0 : Code) (call : CallF) (n : Nat) (B : Code) (hB : B = (hole f15_b [1, 1, 1, 1, 1, 1, 1, 1] X0)) : f15_P42 B call n = f15_T42 call n (f15_P30 B call n) := by
 subst hB; funext x0 x1 x2; kernel_rfl
theorem f15_l42 (call : CallF) (n : Nat) : f15_P42 f15_b call n = f15_T42 call n (f15_P30 f15_b call n) :=
 f15_o42 (piece [1, 1, 1, 1, 1, 1, 1, 1] f15_b) call n _ (by kernel_rfl)
def f15_L42 (call : CallF) (n : Nat) : LB → S_ref06_Got → S_api_Cmd → OR :=
 f15_T42 call n (f15_L30 call n)
theorem f15_e42 (call : CallF) (n : Nat) : f15_P42 f15_b call n = f15_L42 call n := by
 rw [f15_l42, f15_e30]; rfl
def f15_T40 (call : CallF) (n : Nat) (j41 : S_ref06_Got → OR) (j42 : LB → S_ref06_Got → S_api_Cmd → OR) (x0 : LB) (x1 : Bool) (x2 : S_ref06_Got) (x3 : S_api_Cmd) : OR :=
 bif x1 then (
  j41 (⟨(⟨(0 : Int), ([] : List UInt8), ([] : List UInt8), ([] : List UInt8), false, (0 : Int), (0 : Int)⟩ : S_api_Cmd), (501 : Int)⟩ : S_ref06_Got)) else (
  j42 x0 x2 x3)
theorem f15_o40 (X0 X1 : Code) (call : CallF) (n : Nat) (B : Code) (hB : B = (hole (hole f15_b [1, 1, 1, 1, 1, 1, 1, 0, 1, 0, 1, 1, 1, 1, 1, 1, 1, 1, 1, 1, 1, 0, 0, 1, 0, 1] X0) [1, 1, 1, 1, 1, 1, 1, 0, 1, 0, 1, 1, 1, 1, 1, 1, 1, 1, 1, 1, 1, 0, 1] X1)) : f15_P40 B call n = f15_T40 call n (f15_P41 B call n) (f15_P42 B call n) := by
 subst hB; funext x0 x1 x2 x3; cases x1 <;> kernel_rfl
theorem f15_l40 (call : CallF) (n : Nat) : f15_P40 f15_b call n = f15_T40 call n (f15_P41 f15_b call n) (f15_P42 f15_b call n) :=
 f15_o40 (piece [1, 1, 1, 1, 1, 1, 1, 0, 1, 0, 1, 1, 1, 1, 1, 1, 1, 1, 1, 1, 1, 0, 0, 1, 0, 1] f15_b) (piece [1, 1, 1, 1, 1, 1, 1, 0, 1, 0, 1, 1, 1, 1, 1, 1, 1, 1, 1, 1, 1, 0, 1] f15_b) call n _ (by kernel_rfl)
def f15_L40 (call : CallF) (n : Nat) : LB → Bool → S_ref06_Got → S_api_Cmd → OR :=
 f15_T40 call n (f15_L41 call n) (f15_L42 call n)
theorem f15_e40 (call : CallF) (n : Nat) : f15_P40 f15_b call n = f15_L40 call n := by
 rw [f15_l40, f15_e41, f15_e42]; rfl
def f15_T37 (call : CallF) (n : Nat) (j40 : LB → Bool → S_ref06_Got → S_api_Cmd → OR) (j30 : S_ref06_Got → S_api_Cmd → OR) (x0 : LB) (x1 : Bool) (x2 : S_ref06_Got) (x3 : S_api_Cmd) : OR :=
 bif x1 then (
  j40 x0 (x0 == ([] : List UInt8)) x2 x3) else (
  j30 x2 ({ x3 with fArg := x0 } : S_api_Cmd))
theorem f15_o37 (X0 X1 : Code) (call : CallF) (n : Nat) (B : Code) (hB : B = (hole (hole f15_b [1, 1, 1, 1, 1, 1, 1, 0, 1, 0, 1, 1, 1, 1, 1, 1, 1, 1, 1, 1, 1, 0, 0, 1] X0) [1, 1, 1, 1, 1, 1, 1, 1] X1)) : f15_P37 B call n = f15_T37 call n (f15_P40 B call n) (f15_P30 B call n) := by
 subst hB; funext x0 x1 x2 x3; cases x1 <;> kernel_rfl
theorem f15_l37 (call : CallF) (n : Nat) : f15_P37 f15_b call n = f15_T37 call n (f15_P40 f15_b call n) (f15_P30 f15_b call n) :=
 f15_o37 (piece [1, 1, 1, 1, 1, 1, 1, 0, 1, 0, 1, 1, 1, 1, 1, 1, 1, 1, 1, 1, 1, 0, 0, 1] f15_b) (piece [1, 1, 1, 1, 1, 1, 1, 1] f15_b) call n _ (by kernel_rfl)
def f15_L37 (call : CallF) (n : Nat) : LB → Bool → S_ref06_Got → S_api_Cmd → OR :=
 f15_T37 call n (f15_L40 call n) (f15_L30 call n)
theorem f15_e37 (call : CallF) (n : Nat) : f15_P37 f15_b call n = f15_L37 call n := by
 rw [f15_l37, f15_e40, f15_e30]; rfl
def f15_T34 (call : CallF) (n : Nat) (j36 : Bool → S_ref06_Got → S_api_Cmd → OR) (j37 : LB → Bool → S_ref06_Got → S_api_Cmd → OR) (x0 : Bool) (x1 : LB) (x2 : Int) (x3 : LB) (x4 : Int) (x5 : S_ref06_Got) (x6 : S_api_Cmd) : OR :=
 bif x0 then (
  j36 (decide (x2 < ((x1).length : Int))) x5 x6) else (
  j37 x3 (x4 == (10 : Int)) x5 x6)
theorem f15_o34 (X0 X1 : Code) (call : CallF) (n : Nat) (B : Code) (hB : B = (hole (hole f15_b [1, 1, 1, 1, 1, 1, 1, 0, 1, 0, 1, 1, 1, 1, 1, 1, 1, 1, 1, 0, 1] X0) [1, 1, 1, 1, 1, 1, 1, 0, 1, 0, 1, 1, 1, 1, 1, 1, 1, 1, 1, 1, 1] X1)) : f15_P34 B call n = f15_T34 call n (f15_P36 B call n) (f15_P37 B call n) := by
 subst hB; funext x0 x1 x2 x3 x4 x5 x6; cases x0 <;> kernel_rfl
theorem f15_l34 (call : CallF) (n : Nat) : f15_P34 f15_b call n = f15_T34 call n (f15_P36 f15_b call n) (f15_P37 f15_b call n) :=
 f15_o34 (piece [1, 1, 1, 1, 1, 1, 1, 0, 1, 0, 1, 1, 1, 1, 1, 1, 1, 1, 1, 0, 1] f15_b) (piece [1, 1, 1, 1, 1, 1, 1, 0, 1, 0, 1, 1, 1, 1, 1, 1, 1, 1, 1, 1, 1] f15_b) call n _ (by kernel_rfl)
def f15_L34 (call : CallF) (n : Nat) : Bool → LB → Int → LB → Int → S_ref06_Got → S_api_Cmd → OR :=
 f15_T34 call n (f15_L36 call n) (f15_L37 call n)
theorem f15_e34 (call : CallF) (n : Nat) : f15_P34 f15_b call n = f15_L34 call n := by
 rw [f15_l34, f15_e36, f15_e37]; rfl
def f15_T38 (call : CallF) (n : Nat) (j36 : Bool → S_ref06_Got → S_api_Cmd → OR) (j37 : LB → Bool → S_ref06_Got → S_api_Cmd → OR) (x0 : LB) (x1 : Int) (x2 : LB) (x3 : Int) (x4 : Bool) (x5 : S_ref06_Got) (x6 : S_api_Cmd) : OR :=
 bif x4 then (
  j36 (decide (x1 < ((x0).length : Int))) x5 x6) else (
  j37 x2 (x3 == (10 : Int)) x5 x6)
theorem f15_o38 (X0 X1 : Code) (call : CallF) (n : Nat) (B : Code) (hB : B = (hole (hole f15_b [1, 1, 1, 1, 1, 1, 1, 0, 1, 0, 1, 1, 1, 1, 1, 1, 1, 1, 1, 0, 1] X0) [1, 1, 1, 1, 1, 1, 1, 0, 1, 0, 1, 1, 1, 1, 1, 1, 1, 1, 1, 1, 1] X1)) : f15_P38 B call n = f15_T38 call n (f15_P36 B call n) (f15_P37 B call n) := by
 subst hB; funext x0 x1 x2 x3 x4 x5 x6; cases x4 <;> kernel_rfl
theorem f15_l38 (call : CallF) (n : Nat) : f15_P38 f15_b call n = f15_T38 call n (f15_P36 f15_b call n) (f15_P37 f15_b call n) :=
 f15_o38 (piece [1, 1, 1, 1, 1, 1, 1, 0, 1, 0, 1, 1, 1, 1, 1, 1, 1, 1, 1, 0, 1] f15_b) (piece [1, 1, 1, 1, 1, 1, 1, 0, 1, 0, 1, 1, 1, 1, 1, 1, 1, 1, 1, 1, 1] f15_b) call n _ (by kernel_rfl)
def f15_L38 (call : CallF) (n : Nat) : LB → Int → LB → Int → Bool → S_ref06_Got → S_api_Cmd → OR :=
 f15_T38 call n (f15_L36 call n) (f15_L37 call n)
theorem f15_e38 (call : CallF) (n : Nat) : f15_P38 f15_b call n = f15_L38 call n := by
 rw [f15_l38, f15_e36, f15_e37]; rfl
def f15_T35 (call : CallF) (n : Nat) (j34 : Bool → LB → Int → LB → Int → S_ref06_Got → S_api_Cmd → OR) (j38 : LB → Int → LB → Int → Bool → S_ref06_Got → S_api_Cmd → OR) (x0 : LB) (x1 : Int) (x2 : LB) (x3 : Int) (x4 : Bool) (x5 : S_ref06_Got) (x6 : S_api_Cmd) : OR :=
 bif x4 then (
  j34 true x0 x1 x2 x3 x5 x6) else (
  j38 x0 x1 x2 x3 (x3 == (9 : Int)) x5 x6)
theorem f15_o35 (X0 : Code) (call : CallF) (n : Nat) (B : Code) (hB : B = (hole f15_b [1, 1, 1, 1, 1, 1, 1, 0, 1, 0, 1, 1, 1, 1, 1, 1, 1, 1, 1] X0)) : f15_P35 B call n = f15_T35 call n (f15_P34 B call n) (f15_P38 B call n) := by
 subst hB; funext x0 x1 x2 x3 x4 x5 x6; cases x4 <;> kernel_rfl
theorem f15_l35 (call : CallF) (n : Nat) : f15_P35 f15_b call n = f15_T35 call n (f15_P34 f15_b call n) (f15_P38 f15_b call n) :=
 f15_o35 (piece [1, 1, 1, 1, 1, 1, 1, 0, 1, 0, 1, 1, 1, 1, 1, 1, 1, 1, 1] f15_b) call n _ (by kernel_rfl)
def f15_L35 (call : CallF) (n : Nat) : LB → Int → LB → Int → Bool → S_ref06_Got → S_api_Cmd → OR :=
 f15_T35 call n (f15_L34 call n) (f15_L38 call n)
theorem f15_e35 (call : CallF) (n : Nat) : f15_P35 f15_b call n = f15_L35 call n := by
 rw [f15_l35, f15_e34, f15_e38]; rfl
def f15_T32 (call : CallF) (n : Nat) (j34 : Bool → LB → Int → LB → Int → S_ref06_Got → S_api_Cmd → OR) (j35 : LB → Int → LB → Int → Bool → S_ref06_Got → S_api_Cmd → OR) (x0 : LB) (x1 : Int) (x2 : LB) (x3 : Int) (x4 : Bool) (x5 : S_ref06_Got) (x6 : S_api_Cmd) : OR :=
 bif x4 then (
  j34 true x0 x1 x2 x3 x5 x6) else (
  j35 x0 x1 x2 x3 (x3 == (7 : Int)) x5 x6)
theorem f15_o32 (X0 X1 : Code) (call : CallF) (n : Nat) (B : Code) (hB : B = (hole (hole f15_b [1, 1, 1, 1, 1, 1, 1, 0, 1, 0, 1, 1, 1, 1, 1, 1, 1, 1, 0, 1, 1, 1] X0) [1, 1, 1, 1, 1, 1, 1, 0, 1, 0, 1, 1, 1, 1, 1, 1, 1, 1, 1] X1)) : f15_P32 B call n = f15_T32 call n (f15_P34 B call n) (f15_P35 B call n) := by
 subst hB; funext x0 x1 x2 x3 x4 x5 x6; cases x4 <;> kernel_rfl
theorem f15_l32 (call : CallF) (n : Nat) : f15_P32 f15_b call n = f15_T32 call n (f15_P34 f15_b call n) (f15_P35 f15_b call n) :=
 f15_o32 (piece [1, 1, 1, 1, 1, 1, 1, 0, 1, 0, 1, 1, 1, 1, 1, 1, 1, 1, 0, 1, 1, 1] f15_b) (piece [1, 1, 1, 1, 1, 1, 1, 0, 1, 0, 1, 1, 1, 1, 1, 1, 1, 1, 1] f15_b) call n _ (by kernel_rfl)
def f15_L32 (call : CallF) (n : Nat) : LB → Int → LB → Int → Bool → S_ref06_Got → S_api_Cmd → OR :=
 f15_T32 call n (f15_L34 call n) (f15_L35 call n)
theorem f15_e32 (call : CallF) (n : Nat) : f15_P32 f15_b call n = f15_L32 call n := by
 rw [f15_l32, f15_e34, f15_e35]; rfl
def f15_T29 (call : CallF) (n : Nat) (j31 : S_ref06_Got → OR) (j32 : LB → Int → LB → Int → Bool → S_ref06_Got → S_api_Cmd → OR) (x0 : LB) (x1 : Int) (x2 : LB) (x3 : Int) (x4 : Bool) (x5 : S_ref06_Got) (x6 : S_api_Cmd) : OR :=
 bif x4 then (
  callK call 41 [.agg x6.cells, .one (.str x2), .one (.str ([84, 79, 58] : List UInt8))] fun v1 =>
  castAgg v1 fun r2 =>
  takeS_ref06_Got r2 fun w3 r4 =>
  nilK r4 (
   j31 w3)) else (
  j32 x0 x1 x2 x3 (x3 == (6 : Int)) x5 x6)
theorem f15_o29 (X0 X1 : Code) (call : CallF) (n : Nat) (B : Code) (hB : B = (hole (hole f15_b [1, 1, 1, 1, 1, 1, 1, 0, 1, 0, 1, 1, 1, 1, 1, 1, 1, 1, 0, 1] X0) [1, 1, 1, 1, 1, 1, 1, 0, 1, 0, 1, 1, 1, 1, 1, 1, 1, 0, 1] X1)) : f15_P29 B call n = f15_T29 call n (f15_P31 B call n) (f15_P32 B call n) := by
 subst hB; funext x0 x1 x2 x3 x4 x5 x6; cases x4 <;> kernel_rfl
theorem f15_l29 (call : CallF) (n : Nat) : f15_P29 f15_b call n = f15_T29 call n (f15_P31 f15_b call n) (f15_P32 f15_b call n) :=
 f15_o29 (piece [1, 1, 1, 1, 1, 1, 1, 0, 1, 0, 1, 1, 1, 1, 1, 1, 1, 1, 0, 1] f15_b) (piece [1, 1, 1, 1, 1, 1, 1, 0, 1, 0, 1, 1, 1, 1, 1, 1, 1, 0, 1] f15_b) call n _ (by kernel_rfl)
def f15_L29 (call : CallF) (n : Nat) : LB → Int → LB → Int → Bool → S_ref06_Got → S_api_Cmd → OR :=
 f15_T29 call n (f15_L31 call n) (f15_L32 call n)
theorem f15_e29 (call : CallF) (n : Nat) : f15_P29 f15_b call n = f15_L29 call n := by
 rw [f15_l29, f15_e31, f15_e32]; rfl
def f15_T24 (call : CallF) (n : Nat) (j28 : S_ref06_Got → OR) (j29 : LB → Int → LB → Int → Bool → S_ref06_Got → S_api_Cmd → OR) (x0 : LB) (x1 : Int) (x2 : LB) (x3 : Int) (x4 : Bool) (x5 : S_ref06_Got) (x6 : S_api_Cmd) : OR :=
 bif x4 then (
  callK call 41 [.agg x6.cells, .one (.str x2), .one (.str ([70, 82, 79, 77, 58] : List UInt8))] fun v1 =>
  castAgg v1 fun r2 =>
  takeS_ref06_Got r2 fun w3 r4 =>
  nilK r4 (
   j28 w3)) else (
  j29 x0 x1 x2 x3 (x3 == (5 : Int)) x5 x6)
theorem f15_o24 (X0 X1 : Code) (call : CallF) (n : Nat) (B : Code) (hB : B = (hole (hole f15_b [1, 1, 1, 1, 1, 1, 1, 0, 1, 0, 1, 1, 1, 1, 1, 0, 1] X0) [1, 1, 1, 1, 1, 1, 1, 0, 1, 0, 1, 1, 1, 1, 1, 1, 1] X1)) : f15_P24 B call n = f15_T24 call n (f15_P28 B call n) (f15_P29 B call n) := by
 subst hB; funext x0 x1 x2 x3 x4 x5 x6; cases x4 <;> kernel_rfl
theorem f15_l24 (call : CallF) (n : Nat) : f15_P24 f15_b call n = f15_T24 call n (f15_P28 f15_b call n) (f15_P29 f15_b call n) :=
 f15_o24 (piece [1, 1, 1, 1, 1, 1, 1, 0, 1, 0, 1, 1, 1, 1, 1, 0, 1] f15_b) (piece [1, 1, 1, 1, 1, 1, 1, 0, 1, 0, 1, 1, 1, 1, 1, 1, 1] f15_b) call n _ (by kernel_rfl)
def f15_L24 (call : CallF) (n : Nat) : LB → Int → LB → Int → Bool → S_ref06_Got → S_api_Cmd → OR :=
 f15_T24 call n (f15_L28 call n) (f15_L29 call n)
theorem f15_e24 (call : CallF) (n : Nat) : f15_P24 f15_b call n = f15_L24 call n := by
 rw [f15_l24, f15_e28, f15_e29]; rfl
def f15_T21 (call : CallF) (n : Nat) (j23 : LB → Bool → S_ref06_Got → S_api_Cmd → OR) (j24 : LB → Int → LB → Int → Bool → S_ref06_Got → S_api_Cmd → OR) (x0 : Bool) (x1 : LB) (x2 : Int) (x3 : LB) (x4 : Int) (x5 : S_ref06_Got) (x6 : S_api_Cmd) : OR :=
 bif x0 then (
  primK pRDomain [.one (.str x3)] fun v1 =>
  oB v1 fun b2 =>
  bif (!b2) then (
   callK call 40 [.one (.str x3)] fun v3 =>
   oB v3 fun b4 =>
   j23 x3 (!b4) x5 x6) else (
   j23 x3 false x5 x6)) else (
  j24 x1 x2 x3 x4 (x4 == (4 : Int)) x5 x6)
theorem f15_o21 (X0 X1 : Code) (call : CallF) (n : Nat) (B : Code) (hB : B = (hole (hole f15_b [1, 1, 1, 1, 1, 1, 1, 0, 1, 0, 1, 1, 1, 0, 0, 1] X0) [1, 1, 1, 1, 1, 1, 1, 0, 1, 0, 1, 1, 1, 1, 1] X1)) : f15_P21 B call n = f15_T21 call n (f15_P23 B call n) (f15_P24 B call n) := by
 subst hB; funext x0 x1 x2 x3 x4 x5 x6; cases x0 <;> kernel_rfl
theorem f15_l21 (call : CallF) (n : Nat) : f15_P21 f15_b call n = f15_T21 call n (f15_P23 f15_b call n) (f15_P24 f15_b call n) :=
 f15_o21 (piece [1, 1, 1, 1, 1, 1, 1, 0, 1, 0, 1, 1, 1, 0, 0, 1] f15_b) (piece [1, 1, 1, 1, 1, 1, 1, 0, 1, 0, 1, 1, 1, 1, 1] f15_b) call n _ (by kernel_rfl)
def f15_L21 (call : CallF) (n : Nat) : Bool → LB → Int → LB → Int → S_ref06_Got → S_api_Cmd → OR :=
 f15_T21 call n (f15_L23 call n) (f15_L24 call n)
theorem f15_e21 (call : CallF) (n : Nat) : f15_P21 f15_b call n = f15_L21 call n := by
 rw [f15_l21, f15_e23, f15_e24]; rfl
def f15_T25 (call : CallF) (n : Nat) (j23 : LB → Bool → S_ref06_Got → S_api_Cmd → OR) (j24 : LB → Int → LB → Int → Bool → S_ref06_Got → S_api_Cmd → OR) (x0 : LB) (x1 : Int) (x2 : LB) (x3 : Int) (x4 : Bool) (x5 : S_ref06_Got) (x6 : S_api_Cmd) : OR :=
 bif x4 then (
  primK pRDomain [.one (.str x2)] fun v1 =>
  oB v1 fun b2 =>
  bif (!b2) then (
   callK call 40 [.one (.str x2)] fun v3 =>
   oB v3 fun b4 =>
   j23 x2 (!b4) x5 x6) else (
   j23 x2 false x5 x6)) else (
  j24 x0 x1 x2 x3 (x3 == (4 : Int)) x5 x6)
theorem f15_o25 (X0 X1 : Code) (call : CallF) (n : Nat) (B : Code) (hB : B = (hole (hole f15_b [1, 1, 1, 1, 1, 1, 1, 0, 1, 0, 1, 1, 1, 0, 0, 1] X0) [1, 1, 1, 1, 1, 1, 1, 0, 1, 0, 1, 1, 1, 1, 1] X1)) : f15_P25 B call n = f15_T25 call n (f15_P23 B call n) (f15_P24 B call n) := by
 subst hB; funext x0 x1 x2 x3 x4 x5 x6; cases x4 <;> kernel_rfl
theorem f15_l25 (call : CallF) (n : Nat) : f15_P25 f15_b call n = f15_T25 call n (f15_P23 f15_b call n) (f15_P24 f15_b call n) :=
 f15_o25 (piece [1, 1, 1, 1, 1, 1, 1, 0, 1, 0, 1, 1, 1, 0, 0, 1] f15_b) (piece [1, 1, 1, 1, 1, 1, 1, 0, 1, 0, 1, 1, 1, 1, 1] f15_b) call n _ (by kernel_rfl)
def f15_L25 (call : CallF) (n : Nat) : LB → Int → LB → Int → Bool → S_ref06_Got → S_api_Cmd → OR :=
 f15_T25 call n (f15_L23 call n) (f15_L24 call n)
theorem f15_e25 (call : CallF) (n : Nat) : f15_P25 f15_b call n = f15_L25 call n := by
 rw [f15_l25, f15_e23, f15_e24]; rfl
def f15_T22 (call : CallF) (n : Nat) (j21 : Bool → LB → Int → LB → Int → S_ref06_Got → S_api_Cmd → OR) (j25 : LB → Int → LB → Int → Bool → S_ref06_Got → S_api_Cmd → OR) (x0 : LB) (x1 : Int) (x2 : LB) (x3 : Int) (x4 : Bool) (x5 : S_ref06_Got) (x6 : S_api_Cmd) : OR :=
 bif x4 then (
  j21 true x0 x1 x2 x3 x5 x6) else (
  j25 x0 x1 x2 x3 (x3 == (3 : Int)) x5 x6)
theorem f15_o22 (X0 : Code) (call : CallF) (n : Nat) (B : Code) (hB : B = (hole f15_b [1, 1, 1, 1, 1, 1, 1, 0, 1, 0, 1, 1, 1] X0)) : f15_P22 B call n = f15_T22 call n (f15_P21 B call n) (f15_P25 B call n) := by
 subst hB; funext x0 x1 x2 x3 x4 x5 x6; cases x4 <;> kernel_rfl
theorem f15_l22 (call : CallF) (n : Nat) : f15_P22 f15_b call n = f15_T22 call n (f15_P21 f15_b call n) (f15_P25 f15_b call n) :=
 f15_o22 (piece [1, 1, 1, 1, 1, 1, 1, 0, 1, 0, 1, 1, 1] f15_b) call n _ (by kernel_rfl)
def f15_L22 (call : CallF) (n : Nat) : LB → Int → LB → Int → Bool → S_ref06_Got → S_api_Cmd → OR :=
 f15_T22 call n (f15_L21 call n) (f15_L25 call n)
theorem f15_e22 (call : CallF) (n : Nat) : f15_P22 f15_b call n = f15_L22 call n := by
 rw [f15_l22, f15_e21, f15_e25]; rfl
def f15_T20 (call : CallF) (n : Nat) (j21 : Bool → LB → Int → LB → Int → S_ref06_Got → S_api_Cmd → OR) (j22 : LB → Int → LB → Int → Bool → S_ref06_Got → S_api_Cmd → OR) (x0 : LB) (x1 : Int) (x2 : LB) (x3 : Int) (x4 : Bool) (x5 : S_ref06_Got) (x6 : S_api_Cmd) : OR :=
 bif x4 then (
  j21 true x0 x1 x2 x3 x5 x6) else (
  j22 x0 x1 x2 x3 (x3 == (2 : Int)) x5 x6)
theorem f15_o20 (X0 X1 : Code) (call : CallF) (n : Nat) (B : Code) (hB : B = (hole (hole f15_b [1, 1, 1, 1, 1, 1, 1, 0, 1, 0, 1, 1, 0, 1, 1, 1] X0) [1, 1, 1, 1, 1, 1, 1, 0, 1, 0, 1, 1, 1] X1)) : f15_P20 B call n = f15_T20 call n (f15_P21 B call n) (f15_P22 B call n) := by
 subst hB; funext x0 x1 x2 x3 x4 x5 x6; cases x4 <;> kernel_rfl
theorem f15_l20 (call : CallF) (n : Nat) : f15_P20 f15_b call n = f15_T20 call n (f15_P21 f15_b call n) (f15_P22 f15_b call n) :=
 f15_o20 (piece [1, 1, 1, 1, 1, 1, 1, 0, 1, 0, 1, 1, 0, 1, 1, 1] f15_b) (piece [1, 1, 1, 1, 1, 1, 1, 0, 1, 0, 1, 1, 1] f15_b) call n _ (by kernel_rfl)
def f15_L20 (call : CallF) (n : Nat) : LB → Int → LB → Int → Bool → S_ref06_Got → S_api_Cmd → OR :=
 f15_T20 call n (f15_L21 call n) (f15_L22 call n)
theorem f15_e20 (call : CallF) (n : Nat) : f15_P20 f15_b call n = f15_L20 call n := by
 rw [f15_l20, f15_e21, f15_e22]; rfl
def f15_T18 (call : CallF) (n : Nat) (j19 : S_ref06_Got → OR) (j20 : LB → Int → LB → Int → Bool → S_ref06_Got → S_api_Cmd → OR) (x0 : LB) (x1 : Int) (x2 : LB) (x3 : Int) (x4 : Bool) (x5 : S_ref06_Got) (x6 : S_api_Cmd) : OR :=
 bif x4 then (
  j19 (⟨(⟨(0 : Int), ([] : List UInt8), ([] : List UInt8), ([] : List UInt8), false, (0 : Int), (0 : Int)⟩ : S_api_Cmd), (500 : Int)⟩ : S_ref06_Got)) else (
  j20 x0 x1 x2 x3 (x3 == (1 : Int)) x5 x6)
theorem f15_o18 (X0 X1 : Code) (call : CallF) (n : Nat) (B : Code) (hB : B = (hole (hole f15_b [1, 1, 1, 1, 1, 1, 1, 0, 1, 0, 1, 1, 0, 1] X0) [1, 1, 1, 1, 1, 1, 1, 0, 1, 0, 1, 0, 1] X1)) : f15_P18 B call n = f15_T18 call n (f15_P19 B call n) (f15_P20 B call n) := by
 subst hB; funext x0 x1 x2 x3 x4 x5 x6; cases x4 <;> kernel_rfl
theorem f15_l18 (call : CallF) (n : Nat) : f15_P18 f15_b call n = f15_T18 call n (f15_P19 f15_b call n) (f15_P20 f15_b call n) :=
 f15_o18 (piece [1, 1, 1, 1, 1, 1, 1, 0, 1, 0, 1, 1, 0, 1] f15_b) (piece [1, 1, 1, 1, 1, 1, 1, 0, 1, 0, 1, 0, 1] f15_b) call n _ (by kernel_rfl)
def f15_L18 (call : CallF) (n : Nat) : LB → Int → LB → Int → Bool → S_ref06_Got → S_api_Cmd → OR :=
 f15_T18 call n (f15_L19 call n) (f15_L20 call n)
theorem f15_e18 (call : CallF) (n : Nat) : f15_P18 f15_b call n = f15_L18 call n := by
 rw [f15_l18, f15_e19, f15_e20]; rfl
def f15_T17 (call : CallF) (n : Nat) (j18 : LB → Int → LB → Int → Bool → S_ref06_Got → S_api_Cmd → OR) (x0 : LB) (x1 : Int) (x2 : LB) (x3 : Int) (x4 : S_ref06_Got) (x5 : S_api_Cmd) : OR :=
 j18 x0 x1 x2 x3 (x3 == (0 : Int)) x4 x5
theorem f15_o17 (X0 : Code) (call : CallF) (n : Nat) (B : Code) (hB : B = (hole f15_b [1, 1, 1, 1, 1, 1, 1, 0, 1, 0, 1] X0)) : f15_P17 B call n = f15_T17 call n (f15_P18 B call n) := by
 subst hB; funext x0 x1 x2 x3 x4 x5; kernel_rfl
theorem f15_l17 (call : CallF) (n : Nat) : f15_P17 f15_b call n = f15_T17 call n (f15_P18 f15_b call n) :=
 f15_o17 (piece [1, 1, 1, 1, 1, 1, 1, 0, 1, 0, 1] f15_b) call n _ (by kernel_rfl)
def f15_L17 (call : CallF) (n : Nat) : LB → Int → LB → Int → S_ref06_Got → S_api_Cmd → OR :=
 f15_T17 call n (f15_L18 call n)
theorem f15_e17 (call : CallF) (n : Nat) : f15_P17 f15_b call n = f15_L17 call n := by
 rw [f15_l17, f15_e18]; rfl
def f15_T16 (call : CallF) (n : Nat) (j17 : LB → Int → LB → Int → S_ref06_Got → S_api_Cmd → OR) (x0 : LB) (x1 : Int) (x2 : LB) (x3 : S_ref06_Got) (x4 : S_api_Cmd) : OR :=
 j17 x0 x1 x2 x4.fVerb x3 x4
theorem f15_o16 (X0 : Code) (call : CallF) (n : Nat) (B : Code) (hB : B = (hole f15_b [1, 1, 1, 1, 1, 1, 1, 0, 1] X0)) : f15_P16 B call n = f15_T16 call n (f15_P17 B call n) := by
 subst hB; funext x0 x1 x2 x3 x4; kernel_rfl
theorem f15_l16 (call : CallF) (n : Nat) : f15_P16 f15_b call n = f15_T16 call n (f15_P17 f15_b call n) :=
 f15_o16 (piece [1, 1, 1, 1, 1, 1, 1, 0, 1] f15_b) call n _ (by kernel_rfl)
def f15_L16 (call : CallF) (n : Nat) : LB → Int → LB → S_ref06_Got → S_api_Cmd → OR :=
 f15_T16 call n (f15_L17 call n)
theorem f15_e16 (call : CallF) (n : Nat) : f15_P16 f15_b call n = f15_L16 call n := by
 rw [f15_l16, f15_e17]; rfl
def f15_T14 (call : CallF) (n : Nat) (j16 : LB → Int → LB → S_ref06_Got → S_api_Cmd → OR) (x0 : LB) (x1 : Int) (x2 : LB) (x3 : S_ref06_Got) : OR :=
 bif decide (0 ≤ x1 ∧ (Int.toNat x1) ≤ (x0).length) then (
  callK call 17 [.one (.str ((x0.take (Int.toNat x1)).drop 0))] fun v1 =>
  oI .i64 v1 fun n2 =>
  j16 x0 x1 x2 x3 (⟨n2, ([] : List UInt8), ([] : List UInt8), ([] : List UInt8), false, (-1 : Int), (0 : Int)⟩ : S_api_Cmd)) else none
theorem f15_o14 (X0 : Code) (call : CallF) (n : Nat) (B : Code) (hB : B = (hole f15_b [1, 1, 1, 1, 1, 1, 1] X0)) : f15_P14 B call n = f15_T14 call n (f15_P16 B call n) := by
 subst hB; funext x0 x1 x2 x3; kernel_rfl
theorem f15_l14 (call : CallF) (n : Nat) : f15_P14 f15_b call n = f15_T14 call n (f15_P16 f15_b call n) :=
 f15_o14 (piece [1, 1, 1, 1, 1, 1, 1] f15_b) call n _ (by kernel_rfl)
def f15_L14 (call : CallF) (n : Nat) : LB → Int → LB → S_ref06_Got → OR :=
 f15_T14 call n (f15_L16 call n)
theorem f15_e14 (call : CallF) (n : Nat) : f15_P14 f15_b call n = f15_L14 call n := by
 rw [f15_l14, f15_e16]; rfl
def f15_T5 (call : CallF) (n : Nat) (j12 : LB → Int → Bool → S_ref06_Got → OR) (j14 : LB → Int → LB → S_ref06_Got → OR) (x0 : LB) (x1 : Int) (x2 : S_ref06_Got) : OR :=
 bif (decide (x1 < ((x0).length : Int))) then (
  itemK x0 x1 fun u1 =>
  bif (decide ((UInt8.toNat u1 : Int) < (32 : Int))) then (
   j12 x0 x1 true x2) else (
   itemK x0 x1 fun u2 =>
   j12 x0 x1 (decide ((UInt8.toNat u2 : Int) > (126 : Int))) x2)) else (
  callK call 38 [.one (.str x0), .one (.int .i64 (0 : Int)), .one (.int .u8 (32 : Int))] fun v3 =>
  oI .i64 v3 fun n4 =>
  bif (decide (n4 < ((x0).length : Int))) then (
   bif decide (0 ≤ (IntKind.wrap .i64 (n4 + (1 : Int))) ∧ (Int.toNat (IntKind.wrap .i64 (n4 + (1 : Int)))) ≤ (x0).length) then (
    j14 x0 n4 ((x0.take (x0).length).drop (Int.toNat (IntKind.wrap .i64 (n4 + (1 : Int))))) x2) else none) else (
   j14 x0 n4 ([] : List UInt8) x2))
theorem f15_o5 (X0 X1 : Code) (call : CallF) (n : Nat) (m0 : Nat) (B : Code) (hB : B = (hole (hole f15_b [1, 1, 0, 1, 0, 0, 1, 0, 0, 1] X0) [1, 1, 1, 1, 1, 1] X1)) : f15_P5 B call n (m0 + 1) = f15_T5 call n (f15_P12 B call n m0) (f15_P14 B call n) := by
 subst hB; funext x0 x1 x2; kernel_rfl
theorem f15_l5 (call : CallF) (n : Nat) (m0 : Nat) : f15_P5 f15_b call n (m0 + 1) = f15_T5 call n (f15_P12 f15_b call n m0) (f15_P14 f15_b call n) :=
 f15_o5 (piece [1, 1, 0, 1, 0, 0, 1, 0, 0, 1] f15_b) (piece [1, 1, 1, 1, 1, 1] f15_b) call n m0 _ (by kernel_rfl)
def f15_L5 (call : CallF) (n : Nat) : Nat → LB → Int → S_ref06_Got → OR
 | 0 => fun _ _ _ => none
 | m0 + 1 => f15_T5 call n (f15_L12 call n (f15_L5 call n m0)) (f15_L14 call n)
theorem f15_e5 (call : CallF) (n : Nat) : ∀ m0 : Nat, f15_P5 f15_b call n m0 = f15_L5 call n m0
 | 0 => by funext x0 x1 x2; kernel_rfl
 | m0 + 1 => by rw [f15_l5, f15_e12, f15_e14, f15_e5 call n m0]; rfl
def f15_T (call : CallF) (n : Nat) (j5n : LB → Int → S_ref06_Got → OR) (a0 : LB) : OR :=
 bif (decide (((a0).length : Int) > (510 : Int))) then (
  some (.agg (⟨(⟨(0 : Int), ([] : List UInt8), ([] : List UInt8), ([] : List UInt8), false, (0 : Int), (0 : Int)⟩ : S_api_Cmd), (500 : Int)⟩ : S_ref06_Got).cells, [])) else (
  j5n a0 (0 : Int) (⟨(⟨(0 : Int), ([] : List UInt8), ([] : List UInt8), ([] : List UInt8), false, (0 : Int), (0 : Int)⟩ : S_api_Cmd), (0 : Int)⟩ : S_ref06_Got))
def f15_L (call : CallF) (n : Nat) (a0 : LB) : OR :=
 f15_T call n (f15_L5 call n n) a0
theorem f15_o (call : CallF) (n : Nat) (B : Code) (hB : B = f15_b) : f15_P B call n = f15_T call n (f15_P5 B call n n) := by
 subst hB; funext a0; kernel_rfl
theorem f15_l (call : CallF) (n : Nat) : f15_P f15_b call n = f15_T call n (f15_P5 f15_b call n n) :=
 f15_o call n _ (by kernel_rfl)
theorem f15_e (call : CallF) (n : Nat) : f15_P f15_b call n = f15_L call n := by
 rw [f15_l, f15_e5]; rfl
theorem f15_eq (n : Nat) (a0 : LB) : acall AXE AXF (n + 1) 15 [.one (.str a0)] [] = f15_L (acall AXE AXF n) (n + 1) a0 :=
 (show _ = f15_P f15_b (acall AXE AXF n) (n + 1) a0 by kernel_rfl).trans (by rw [f15_e])
def f16_P10 (B : Code) (call : CallF) (n : Nat) (m0 : Nat) (x0 : Int) : OR :=
 f16_x B call n [1, 1, 0, 1, 0, 0, 1, 1, 0, 0, 1, 1, 0, 1] (kBlk 1 (kSeq (f16_x B call n [1, 1, 0, 1, 0, 0, 1, 1, 1]) (kSeq (fun k => prK 1000003 (pruneAt f16_h 1000003) (aloop 1000003 (pruneAt f16_h 1000003) (f16_x B call n [1, 1, 0, 1, 0, 0]) k m0)) (kBlk 0 (kSeq (f16_x B call n [1, 1, 1]) (kEnd AXE 0 f16_r)))))) ⟨[(2, .one (.int .i64 x0))], []⟩
def f16_P11 (B : Code) (call : CallF) (n : Nat) (m0 : Nat) (x0 : LB) (x1 : Int) (x2 : LC) (x3 x4 : Int) : OR :=
 f16_x B call n [1, 1, 0, 1, 0, 0, 1, 1, 1] (kSeq (fun k => prK 1000003 (pruneAt f16_h 1000003) (aloop 1000003 (pruneAt f16_h 1000003) (f16_x B call n [1, 1, 0, 1, 0, 0]) k m0)) (kBlk 0 (kSeq (f16_x B call n [1, 1, 1]) (kEnd AXE 0 f16_r)))) ⟨[(3, .one (.str x0)), (4, .one (.int .i64 x1)), (8, .one (.sl none 1 x2)), (9, .one (.int .i64 x3)), (10, .one (.int .i64 x4))], []⟩
def f16_P9 (B : Code) (call : CallF) (n : Nat) (m0 : Nat) (x0 : LB) (x1 : Int) (x2 : LC) (x3 x4 : Int) (x5 : Bool) : OR :=
 f16_x B call n [1, 1, 0, 1, 0, 0, 1, 1, 0, 0, 1, 1] (kBlk 1 (kSeq (f16_x B call n [1, 1, 0, 1, 0, 0, 1, 1, 1]) (kSeq (fun k => prK 1000003 (pruneAt f16_h 1000003) (aloop 1000003 (pruneAt f16_h 1000003) (f16_x B call n [1, 1, 0, 1, 0, 0]) k m0)) (kBlk 0 (kSeq (f16_x B call n [1, 1, 1]) (kEnd AXE 0 f16_r)))))) ⟨[(3, .one (.str x0)), (4, .one (.int .i64 x1)), (8, .one (.sl none 1 x2)), (9, .one (.int .i64 x3)), (10, .one (.int .i64 x4)), (21, .one (.bool x5))], []⟩
def f16_P3 (B : Code) (call : CallF) (n : Nat) (m0 : Nat) (x0 : LB) (x1 : LC) (x2 x3 : Int) : OR :=
 aloop 1000003 (pruneAt f16_h 1000003) (f16_x B call n [1, 1, 0, 1, 0, 0]) (kBlk 0 (kSeq (f16_x B call n [1, 1, 1]) (kEnd AXE 0 f16_r))) m0 ⟨[(3, .one (.str x0)), (8, .one (.sl none 1 x1)), (9, .one (.int .i64 x2)), (10, .one (.int .i64 x3))], []⟩
def f16_P (B : Code) (call : CallF) (n : Nat) (a0 : LB) : OR :=
 f16_x B call n [] (kEnd AXE 0 f16_r) ⟨[(0, .one (.str a0))], []⟩
def f16_T10 (call : CallF) (n : Nat) (x0 : Int) : OR :=
 some (.one (.int .i64 x0), [])
theorem f16_o10 (call : CallF) (n : Nat) (m0 : Nat) (B : Code) (hB : B = f16_b) : f16_P10 B call n m0 = f16_T10 call n := by
 subst hB; funext x0; kernel_rfl
theorem f16_l10 (call : CallF) (n : Nat) (m0 : Nat) : f16_P10 f16_b call n m0 = f16_T10 call n :=
 f16_o10 call n m0 _ (by kernel_rfl)
def f16_L10 (call : CallF) (n : Nat) (h_m0 : LB → LC → Int → Int → OR) : Int → OR :=
 f16_T10 call n
theorem f16_e10 (call : CallF) (n : Nat) (m0 : Nat) : f16_P10 f16_b call n m0 = f16_L10 call n (f16_P3 f16_b call n m0) := by
 rw [f16_l10]; rfl
def f16_T11 (call : CallF) (n : Nat) (j3m : LB → LC → Int → Int → OR) (x0 : LB) (x1 : Int) (x2 : LC) (x3 x4 : Int) : OR :=
 j3m x0 x2 x3 (IntKind.wrap .i64 (x4 + (1 : Int)))
theorem f16_o11 (call : CallF) (n : Nat) (m0 : Nat) (B : Code) (hB : B = f16_b) : f16_P11 B call n m0 = f16_T11 call n (f16_P3 B call n m0) := by
 subst hB; funext x0 x1 x2 x3 x4; kernel_rfl
theorem f16_l11 (call : CallF) (n : Nat) (m0 : Nat) : f16_P11 f16_b call n m0 = f16_T11 call n (f16_P3 f16_b call n m0) :=
 f16_o11 call n m0 _ (by kernel_rfl)
def f16_L11 (call : CallF) (n : Nat) (h_m0 : LB → LC → Int → Int → OR) : LB → Int → LC → Int → Int → OR :=
 f16_T11 call n h_m0
theorem f16_e11 (call : CallF) (n : Nat) (m0 : Nat) : f16_P11 f16_b call n m0 = f16_L11 call n (f16_P3 f16_b call n m0) := by
 rw [f16_l11]; rfl
def f16_T9 (call : CallF) (n : Nat) (j10 : Int → OR) (j11 : LB → Int → LC → Int → Int → OR) (x0 : LB) (x1 : Int) (x2 : LC) (x3 x4 : Int) (x5 : Bool) : OR :=
 bif x5 then (
  j10 x1) else (
  j11 x0 x1 x2 x3 x4)
theorem f16_o9 (X0 X1 : Code) (call : CallF) (n : Nat) (m0 : Nat) (B : Code) (hB : B = (hole (hole f16_b [1, 1, 0, 1, 0, 0, 1, 1, 0, 0, 1, 1, 0, 1] X0) [1, 1, 0, 1, 0, 0, 1, 1, 1] X1)) : f16_P9 B call n m0 = f16_T9 call n (f16_P10 B call n m0) (f16_P11 B call n m0) := by
 subst hB; funext x0 x1 x2 x3 x4 x5; cases x5 <;> kernel_rfl
theorem f16_l9 (call : CallF) (n : Nat) (m0 : Nat) : f16_P9 f16_b call n m0 = f16_T9 call n (f16_P10 f16_b call n m0) (f16_P11 f16_b call n m0) :=
 f16_o9 (piece [1, 1, 0, 1, 0, 0, 1, 1, 0, 0, 1, 1, 0, 1] f16_b) (piece [1, 1, 0, 1, 0, 0, 1, 1, 1] f16_b) call n m0 _ (by kernel_rfl)
def f16_L9 (call : CallF) (n : Nat) (h_m0 : LB → LC → Int → Int → OR) : LB → Int → LC → Int → Int → Bool → OR :=
 f16_T9 call n (f16_L10 call n h_m0) (f16_L11 call n h_m0)
theorem f16_e9 (call : CallF) (n : Nat) (m0 : Nat) : f16_P9 f16_b call n m0 = f16_L9 call n (f16_P3 f16_b call n m0) := by
 rw [f16_l9, f16_e10, f16_e11]; rfl
def f16_T3 (call : CallF) (n : Nat) (j9 : LB → Int → LC → Int → Int → Bool → OR) (x0 : LB) (x1 : LC) (x2 x3 : Int) : OR :=
 bif (decide (x3 < x2)) then (
  itemK x1 x3 fun c1 =>
  castS c1 fun s2 =>
  bif (decide (x3 > (0 : Int))) then (
   j9 x0 x3 x1 x2 x3 (s2 == x0)) else (
   j9 x0 x3 x1 x2 x3 false)) else (
  some (.one (.int .i64 (0 : Int)), []))
theorem f16_o3 (X0 : Code) (call : CallF) (n : Nat) (m0 : Nat) (B : Code) (hB : B = (hole f16_b [1, 1, 0, 1, 0, 0, 1, 1, 0, 0, 1, 1] X0)) : f16_P3 B call n (m0 + 1) = f16_T3 call n (f16_P9 B call n m0) := by
 subst hB; funext x0 x1 x2 x3; kernel_rfl
theorem f16_l3 (call : CallF) (n : Nat) (m0 : Nat) : f16_P3 f16_b call n (m0 + 1) = f16_T3 call n (f16_P9 f16_b call n m0) :=
 f16_o3 (piece [1, 1, 0, 1, 0, 0, 1, 1, 0, 0, 1, 1] f16_b) call n m0 _ (by kernel_rfl)
def f16_L3 (call : CallF) (n : Nat) : Nat → LB → LC → Int → Int → OR
 | 0 => fun _ _ _ _ => none
 | m0 + 1 => f16_T3 call n (f16_L9 call n (f16_L3 call n m0))
theorem f16_e3 (call : CallF) (n : Nat) : ∀ m0 : Nat, f16_P3 f16_b call n m0 = f16_L3 call n m0
 | 0 => by funext x0 x1 x2 x3; kernel_rfl
 | m0 + 1 => by rw [f16_l3, f16_e9, f16_e3 call n m0]; rfl
def f16_T (call : CallF) (n : Nat) (j3n : LB → LC → Int → Int → OR) (a0 : LB) : OR :=
 callK call 42 [.one (.str a0)] fun v7 =>
 oS v7 fun s8 =>
 callK call 43 [] fun v9 =>
 oL 1 v9 fun l10 =>
 j3n s8 l10 (((l10).length / 1 : Nat) : Int) (0 : Int)
def f16_L (call : CallF) (n : Nat) (a0 : LB) : OR :=
 f16_T call n (f16_L3 call n n) a0
theorem f16_o (call : CallF) (n : Nat) (B : Code) (hB : B = f16_b) : f16_P B call n = f16_T call n (f16_P3 B call n n) := by
 subst hB; funext a0; kernel_rfl
theorem f16_l (call : CallF) (n : Nat) : f16_P f16_b call n = f16_T call n (f16_P3 f16_b call n n) :=
 f16_o call n _ (by kernel_rfl)
theorem f16_e (call : CallF) (n : Nat) : f16_P f16_b call n = f16_L call n := by
 rw [f16_l, f16_e3]; rfl
theorem f16_eq (n : Nat) (a0 : LB) : acall AXE AXF (n + 1) 16 [.one (.str a0)] [] = f16_L (acall AXE AXF n) (n + 1) a0 :=
 (show _ = f16_P f16_b (acall AXE AXF n) (n + 1) a0 by kernel_rfl).trans (by rw [f16_e])
def f17_P2 (B : Code) (call : CallF) (n : Nat) (m0 : Nat) (x0 : LB) (x1 : Int) : OR :=
 aloop 1000002 (pruneAt f17_h 1000002) (f17_x B call n [1, 0, 1, 0, 0]) (kBlk 0 (kSeq (f17_x B call n [1, 1]) (kEnd AXE 0 f17_r))) m0 ⟨[(0, .one (.str x0)), (3, .one (.int .i64 x1))], []⟩
def f17_P (B : Code) (call : CallF) (n : Nat) (a0 : LB) : OR :=
 f17_x B call n [] (kEnd AXE 0 f17_r) ⟨[(0, .one (.str a0))], []⟩
def f17_T2 (call : CallF) (n : Nat) (j2m : LB → Int → OR) (x0 : LB) (x1 : Int) : OR :=
 bif (decide (x1 ≤ (11 : Int))) then (
  callK call 44 [.one (.int .i64 x1)] fun v1 =>
  oS v1 fun s2 =>
  callK call 45 [.one (.str x0)] fun v3 =>
  oS v3 fun s4 =>
  bif (s2 == s4) then (
   some (.one (.int .i64 x1), [])) else (
   j2m x0 (IntKind.wrap .i64 (x1 + (1 : Int))))) else (
  some (.one (.int .i64 (0 : Int)), []))
theorem f17_o2 (call : CallF) (n : Nat) (m0 : Nat) (B : Code) (hB : B = f17_b) : f17_P2 B call n (m0 + 1) = f17_T2 call n (f17_P2 B call n m0) := by
 subst hB; funext x0 x1; kernel_rfl
theorem f17_l2 (call : CallF) (n : Nat) (m0 : Nat) : f17_P2 f17_b call n (m0 + 1) = f17_T2 call n (f17_P2 f17_b call n m0) :=
 f17_o2 call n m0 _ (by kernel_rfl)
def f17_L2 (call : CallF) (n : Nat) : Nat → LB → Int → OR
 | 0 => fun _ _ => none
 | m0 + 1 => f17_T2 call n (f17_L2 call n m0)
theorem f17_e2 (call : CallF) (n : Nat) : ∀ m0 : Nat, f17_P2 f17_b call n m0 = f17_L2 call n m0
 | 0 => by funext x0 x1; kernel_rfl
 | m0 + 1 => by rw [f17_l2, f17_e2 call n m0]; rfl
def f17_T (call : CallF) (n : Nat) (j2n : LB → Int → OR) (a0 : LB) : OR :=
 j2n a0 (1 : Int)
def f17_L (call : CallF) (n : Nat) (a0 : LB) : OR :=
 f17_T call n (f17_L2 call n n) a0
theorem f17_o (call : CallF) (n : Nat) (B : Code) (hB : B = f17_b) : f17_P B call n = f17_T call n (f17_P2 B call n n) := by
 subst hB; funext a0; kernel_rfl
theorem f17_l (call : CallF) (n : Nat) : f17_P f17_b call n = f17_T call n (f17_P2 f17_b call n n) :=
 f17_o call n _ (by kernel_rfl)
theorem f17_e (call : CallF) (n : Nat) : f17_P f17_b call n = f17_L call n := by
 rw [f17_l, f17_e2]; rfl
theorem f17_eq (n : Nat) (a0 : LB) : acall AXE AXF (n + 1) 17 [.one (.str a0)] [] = f17_L (acall AXE AXF n) (n + 1) a0 :=
 (show _ = f17_P f17_b (acall AXE AXF n) (n + 1) a0 by kernel_rfl).trans (by rw [f17_e])
def f18_P9 (B : Code) (call : CallF) (n : Nat) (x0 : LB) (x1 : Int) : OR :=
 f18_x B call n [1, 0, 1, 0, 1] (kSeq (f18_x B call n [1, 1]) (kEnd AXE 0 f18_r)) ⟨[(2, .one (.str x0)), (3, .one (.int .i64 x1))], []⟩
def f18_P14 (B : Code) (call : CallF) (n : Nat) (x0 : LB) (x1 : Int) : OR :=
 f18_x B call n [1, 1, 1, 0, 1, 0, 1, 0, 1, 0, 1, 0, 1] (kSeq (f18_x B call n [1, 1, 1, 0, 1, 0, 1, 0, 1, 1]) (kBlk 0 (kSeq (f18_x B call n [1, 1, 1, 1]) (kEnd AXE 0 f18_r)))) ⟨[(2, .one (.str x0)), (3, .one (.int .i64 x1))], []⟩
def f18_P20 (B : Code) (call : CallF) (n : Nat) (x0 : LB) (x1 : Int) : OR :=
 f18_x B call n [1, 1, 1, 1, 0, 1, 1, 0, 1] (kSeq (f18_x B call n [1, 1, 1, 1, 1]) (kEnd AXE 0 f18_r)) ⟨[(2, .one (.str x0)), (3, .one (.int .i64 x1))], []⟩
def f18_P16 (B : Code) (call : CallF) (n : Nat) (x0 : LB) (x1 : Bool) : OR :=
 f18_x B call n [1, 1, 1, 1, 0, 1, 1] (kSeq (f18_x B call n [1, 1, 1, 1, 1]) (kEnd AXE 0 f18_r)) ⟨[(4, .one (.str x0)), (87, .one (.bool x1))], []⟩
def f18_P13 (B : Code) (call : CallF) (n : Nat) (x0 : LB) (x1 : Int) (x2 x3 : S_api_Cmd) : OR :=
 f18_x B call n [1, 1, 1, 1, 0, 1] (kSeq (f18_x B call n [1, 1, 1, 1, 1]) (kEnd AXE 0 f18_r)) ⟨[(1, .one (.ptr 0 0)), (4, .one (.str x0)), (8, .one (.ptr 1 0)), (9, .one (.int .i64 x1))], [x2.cells, x3.cells]⟩
def f18_P11 (B : Code) (call : CallF) (n : Nat) (x0 : LB) (x1 : S_api_Cmd) : OR :=
 f18_x B call n [1, 1, 1, 1] (kEnd AXE 0 f18_r) ⟨[(1, .one (.ptr 0 0)), (4, .one (.str x0))], [x1.cells]⟩
def f18_P27 (B : Code) (call : CallF) (n : Nat) (x0 : LB) (x1 : Bool) (x2 : S_api_Cmd) : OR :=
 f18_x B call n [1, 1, 1, 0, 1, 0, 1, 0, 1, 1, 1, 1, 1, 1, 1, 1, 1] (kBlk 0 (kSeq (f18_x B call n [1, 1, 1, 1]) (kEnd AXE 0 f18_r))) ⟨[(1, .one (.ptr 0 0)), (4, .one (.str x0)), (68, .one (.bool x1))], [x2.cells]⟩
def f18_P26 (B : Code) (call : CallF) (n : Nat) (x0 : LB) (x1 : Bool) (x2 : S_api_Cmd) : OR :=
 f18_x B call n [1, 1, 1, 0, 1, 0, 1, 0, 1, 1, 1, 1, 1, 1, 1] (kBlk 0 (kSeq (f18_x B call n [1, 1, 1, 1]) (kEnd AXE 0 f18_r))) ⟨[(1, .one (.ptr 0 0)), (4, .one (.str x0)), (63, .one (.bool x1))], [x2.cells]⟩
def f18_P25 (B : Code) (call : CallF) (n : Nat) (x0 : LB) (x1 : S_api_Cmd) : OR :=
 f18_x B call n [1, 1, 1, 0, 1, 0, 1, 0, 1, 1, 1, 1, 1, 1] (kBlk 0 (kSeq (f18_x B call n [1, 1, 1, 1]) (kEnd AXE 0 f18_r))) ⟨[(1, .one (.ptr 0 0)), (4, .one (.str x0))], [x1.cells]⟩
def f18_P24 (B : Code) (call : CallF) (n : Nat) (x0 : LB) (x1 : Bool) (x2 : S_api_Cmd) : OR :=
 f18_x B call n [1, 1, 1, 0, 1, 0, 1, 0, 1, 1, 1, 1, 1, 0, 1] (kSeq (f18_x B call n [1, 1, 1, 0, 1, 0, 1, 0, 1, 1, 1, 1, 1, 1]) (kBlk 0 (kSeq (f18_x B call n [1, 1, 1, 1]) (kEnd AXE 0 f18_r)))) ⟨[(1, .one (.ptr 0 0)), (4, .one (.str x0)), (54, .one (.bool x1))], [x2.cells]⟩
def f18_P23 (B : Code) (call : CallF) (n : Nat) (x0 : LB) (x1 : S_api_Cmd) : OR :=
 f18_x B call n [1, 1, 1, 0, 1, 0, 1, 0, 1, 1, 1, 1, 1] (kBlk 0 (kSeq (f18_x B call n [1, 1, 1, 1]) (kEnd AXE 0 f18_r))) ⟨[(1, .one (.ptr 0 0)), (4, .one (.str x0))], [x1.cells]⟩
def f18_P22 (B : Code) (call : CallF) (n : Nat) (x0 x1 x2 : LB) (x3 : S_api_Cmd) : OR :=
 f18_x B call n [1, 1, 1, 0, 1, 0, 1, 0, 1, 1, 1, 1] (kBlk 0 (kSeq (f18_x B call n [1, 1, 1, 1]) (kEnd AXE 0 f18_r))) ⟨[(1, .one (.ptr 0 0)), (4, .one (.str x0)), (5, .one (.str x1)), (7, .one (.str x2))], [x3.cells]⟩
def f18_P21 (B : Code) (call : CallF) (n : Nat) (x0 x1 x2 : LB) (x3 : Bool) (x4 : S_api_Cmd) : OR :=
 f18_x B call n [1, 1, 1, 0, 1, 0, 1, 0, 1, 1, 1, 0, 1] (kSeq (f18_x B call n [1, 1, 1, 0, 1, 0, 1, 0, 1, 1, 1, 1]) (kBlk 0 (kSeq (f18_x B call n [1, 1, 1, 1]) (kEnd AXE 0 f18_r)))) ⟨[(1, .one (.ptr 0 0)), (4, .one (.str x0)), (5, .one (.str x1)), (7, .one (.str x2)), (46, .one (.bool x3))], [x4.cells]⟩
def f18_P19 (B : Code) (call : CallF) (n : Nat) (x0 x1 x2 : LB) (x3 : S_api_Cmd) : OR :=
 f18_x B call n [1, 1, 1, 0, 1, 0, 1, 0, 1, 1, 1] (kBlk 0 (kSeq (f18_x B call n [1, 1, 1, 1]) (kEnd AXE 0 f18_r))) ⟨[(1, .one (.ptr 0 0)), (4, .one (.str x0)), (5, .one (.str x1)), (7, .one (.str x2))], [x3.cells]⟩
def f18_P15 (B : Code) (call : CallF) (n : Nat) (x0 x1 : LB) (x2 : S_api_Cmd) : OR :=
 f18_x B call n [1, 1, 1, 0, 1, 0, 1, 0, 1, 1] (kBlk 0 (kSeq (f18_x B call n [1, 1, 1, 1]) (kEnd AXE 0 f18_r))) ⟨[(1, .one (.ptr 0 0)), (4, .one (.str x0)), (5, .one (.str x1))], [x2.cells]⟩
def f18_P12 (B : Code) (call : CallF) (n : Nat) (x0 x1 : LB) (x2 : Bool) (x3 : S_api_Cmd) : OR :=
 f18_x B call n [1, 1, 1, 0, 1, 0, 1, 0, 1, 0, 1] (kSeq (f18_x B call n [1, 1, 1, 0, 1, 0, 1, 0, 1, 1]) (kBlk 0 (kSeq (f18_x B call n [1, 1, 1, 1]) (kEnd AXE 0 f18_r)))) ⟨[(1, .one (.ptr 0 0)), (4, .one (.str x0)), (5, .one (.str x1)), (43, .one (.bool x2))], [x3.cells]⟩
def f18_P10 (B : Code) (call : CallF) (n : Nat) (x0 x1 : LB) (x2 : Int) (x3 : S_api_Cmd) : OR :=
 f18_x B call n [1, 1, 1, 0, 1, 0, 1, 0, 1] (kBlk 0 (kSeq (f18_x B call n [1, 1, 1, 1]) (kEnd AXE 0 f18_r))) ⟨[(1, .one (.ptr 0 0)), (4, .one (.str x0)), (5, .one (.str x1)), (6, .one (.int .i64 x2))], [x3.cells]⟩
def f18_P1 (B : Code) (call : CallF) (n : Nat) (x0 : Bool) (x1 : S_api_Cmd) : OR :=
 f18_x B call n [1, 0, 1] (kSeq (f18_x B call n [1, 1]) (kEnd AXE 0 f18_r)) ⟨[(1, .one (.ptr 0 0)), (17, .one (.bool x0))], [x1.cells]⟩
def f18_P (B : Code) (call : CallF) (n : Nat) (a0 : S_api_Cmd) : OR :=
 f18_x B call n [] (kEnd AXE 0 f18_r) ⟨[(0, .agg a0.cells)], []⟩
def f18_T9 (call : CallF) (n : Nat) (x0 : LB) (x1 : Int) : OR :=
 some (.tup [.one (.str x0), .one (.int .i64 x1)], [])
theorem f18_o9 (call : CallF) (n : Nat) (B : Code) (hB : B = f18_b) : f18_P9 B call n = f18_T9 call n := by
 subst hB; funext x0 x1; kernel_rfl
theorem f18_l9 (call : CallF) (n : Nat) : f18_P9 f18_b call n = f18_T9 call n :=
 f18_o9 call n _ (by kernel_rfl)
def f18_L9 (call : CallF) (n : Nat) : LB → Int → OR :=
 f18_T9 call n
theorem f18_e9 (call : CallF) (n : Nat) : f18_P9 f18_b call n = f18_L9 call n := by
 rw [f18_l9]; rfl
def f18_T14 (call : CallF) (n : Nat) (x0 : LB) (x1 : Int) : OR :=
 some (.tup [.one (.str x0), .one (.int .i64 x1)], [])
theorem f18_o14 (call : CallF) (n : Nat) (B : Code) (hB : B = f18_b) : f18_P14 B call n = f18_T14 call n := by
 subst hB; funext x0 x1; kernel_rfl
theorem f18_l14 (call : CallF) (n : Nat) : f18_P14 f18_b call n = f18_T14 call n :=
 f18_o14 call n _ (by kernel_rfl)
def f18_L14 (call : CallF) (n : Nat) : LB → Int → OR :=
 f18_T14 call n
theorem f18_e14 (call : CallF) (n : Nat) : f18_P14 f18_b call n = f18_L14 call n := by
 rw [f18_l14]; rfl
def f18_T20 (call : CallF) (n : Nat) (x0 : LB) (x1 : Int) : OR :=
 some (.tup [.one (.str x0), .one (.int .i64 x1)], [])
theorem f18_o20 (call : CallF) (n : Nat) (B : Code) (hB : B = f18_b) : f18_P20 B call n = f18_T20 call n := by
 subst hB; funext x0 x1; kernel_rfl
theorem f18_l20 (call : CallF) (n : Nat) : f18_P20 f18_b call n = f18_T20 call n :=
 f18_o20 call n _ (by kernel_rfl)
def f18_L20 (call : CallF) (n : Nat) : LB → Int → OR :=
 f18_T20 call n
theorem f18_e20 (call : CallF) (n : Nat) : f18_P20 f18_b call n = f18_L20 call n := by
 rw [f18_l20]; rfl
def f18_T16 (call : CallF) (n : Nat) (j20 : LB → Int → OR) (x0 : LB) (x1 : Bool) : OR :=
 bif x1 then (
  j20 ([] : List UInt8) (3 : Int)) else (
  some (.tup [.one (.str x0), .one (.int .i64 (0 : Int))], []))
theorem f18_o16 (X0 : Code) (call : CallF) (n : Nat) (B : Code) (hB : B = (hole f18_b [1, 1, 1, 1, 0, 1, 1, 0, 1] X0)) : f18_P16 B call n = f18_T16 call n (f18_P20 B call n) := by
 subst hB; funext x0 x1; cases x1 <;> kernel_rfl
theorem f18_l16 (call : CallF) (n : Nat) : f18_P16 f18_b call n = f18_T16 call n (f18_P20 f18_b call n) :=
 f18_o16 (piece [1, 1, 1, 1, 0, 1, 1, 0, 1] f18_b) call n _ (by kernel_rfl)
def f18_L16 (call : CallF) (n : Nat) : LB → Bool → OR :=
 f18_T16 call n (f18_L20 call n)
theorem f18_e16 (call : CallF) (n : Nat) : f18_P16 f18_b call n = f18_L16 call n := by
 rw [f18_l16, f18_e20]; rfl
def f18_T13 (call : CallF) (n : Nat) (j16 : LB → Bool → OR) (x0 : LB) (x1 : Int) (x2 x3 : S_api_Cmd) : OR :=
 bif (x1 != (0 : Int)) then (
  j16 x0 true) else (
  j16 x0 (!((x3.fVerb == x2.fVerb) && ((x3.fArg == x2.fArg) && (((x3.fPath_Local == x2.fPath_Local) && ((x3.fPath_Domain == x2.fPath_Domain) && true)) && ((x3.fNull == x2.fNull) && ((x3.fSize == x2.fSize) && ((x3.fBody == x2.fBody) && true))))))))
theorem f18_o13 (X0 : Code) (call : CallF) (n : Nat) (B : Code) (hB : B = (hole f18_b [1, 1, 1, 1, 0, 1, 1] X0)) : f18_P13 B call n = f18_T13 call n (f18_P16 B call n) := by
 subst hB; funext x0 x1 x2 x3; kernel_rfl
theorem f18_l13 (call : CallF) (n : Nat) : f18_P13 f18_b call n = f18_T13 call n (f18_P16 f18_b call n) :=
 f18_o13 (piece [1, 1, 1, 1, 0, 1, 1] f18_b) call n _ (by kernel_rfl)
def f18_L13 (call : CallF) (n : Nat) : LB → Int → S_api_Cmd → S_api_Cmd → OR :=
 f18_T13 call n (f18_L16 call n)
theorem f18_e13 (call : CallF) (n : Nat) : f18_P13 f18_b call n = f18_L13 call n := by
 rw [f18_l13, f18_e16]; rfl
def f18_T11 (call : CallF) (n : Nat) (j13 : LB → Int → S_api_Cmd → S_api_Cmd → OR) (x0 : LB) (x1 : S_api_Cmd) : OR :=
 callK call 14 [.one (.str x0)] fun v1 =>
 castTup v1 fun v2 =>
 consK v2 fun z3 r4 =>
 aggV z3 fun r5 =>
 takeS_api_Cmd r5 fun w6 r7 =>
 nilK r7 (
  zI .i64 r4 fun n8 r9 =>
  nilK r9 (
   j13 x0 n8 x1 w6))
theorem f18_o11 (X0 : Code) (call : CallF) (n : Nat) (B : Code) (hB : B = (hole f18_b [1, 1, 1, 1, 0, 1] X0)) : f18_P11 B call n = f18_T11 call n (f18_P13 B call n) := by
 subst hB; funext x0 x1; kernel_rfl
theorem f18_l11 (call : CallF) (n : Nat) : f18_P11 f18_b call n = f18_T11 call n (f18_P13 f18_b call n) :=
 f18_o11 (piece [1, 1, 1, 1, 0, 1] f18_b) call n _ (by kernel_rfl)
def f18_L11 (call : CallF) (n : Nat) : LB → S_api_Cmd → OR :=
 f18_T11 call n (f18_L13 call n)
theorem f18_e11 (call : CallF) (n : Nat) : f18_P11 f18_b call n = f18_L11 call n := by
 rw [f18_l11, f18_e13]; rfl
def f18_T27 (call : CallF) (n : Nat) (j11 : LB → S_api_Cmd → OR) (x0 : LB) (x1 : Bool) (x2 : S_api_Cmd) : OR :=
 bif x1 then (
  primK pItoa [.one (.int .i64 x2.fBody)] fun v1 =>
  oS v1 fun s2 =>
  bif decide ((([32, 66, 79, 68, 89, 61] : List UInt8)).length + (s2).length ≤ strLim) then (
   bif decide (((([32, 66, 79, 68, 89, 61] : List UInt8) ++ s2)).length + (([66, 73, 84] : List UInt8)).length ≤ strLim) then (
    bif decide ((x0).length + (((([32, 66, 79, 68, 89, 61] : List UInt8) ++ s2) ++ ([66, 73, 84] : List UInt8))).length ≤ strLim) then (
     j11 (x0 ++ ((([32, 66, 79, 68, 89, 61] : List UInt8) ++ s2) ++ ([66, 73, 84] : List UInt8))) x2) else none) else none) else none) else (
  j11 x0 x2)
theorem f18_o27 (X0 : Code) (call : CallF) (n : Nat) (B : Code) (hB : B = (hole f18_b [1, 1, 1, 1] X0)) : f18_P27 B call n = f18_T27 call n (f18_P11 B call n) := by
 subst hB; funext x0 x1 x2; cases x1 <;> kernel_rfl
theorem f18_l27 (call : CallF) (n : Nat) : f18_P27 f18_b call n = f18_T27 call n (f18_P11 f18_b call n) :=
 f18_o27 (piece [1, 1, 1, 1] f18_b) call n _ (by kernel_rfl)
def f18_L27 (call : CallF) (n : Nat) : LB → Bool → S_api_Cmd → OR :=
 f18_T27 call n (f18_L11 call n)
theorem f18_e27 (call : CallF) (n : Nat) : f18_P27 f18_b call n = f18_L27 call n := by
 rw [f18_l27, f18_e11]; rfl
def f18_T26 (call : CallF) (n : Nat) (j11 : LB → S_api_Cmd → OR) (j27 : LB → Bool → S_api_Cmd → OR) (x0 : LB) (x1 : Bool) (x2 : S_api_Cmd) : OR :=
 bif x1 then (
  bif decide ((x0).length + (([32, 66, 79, 68, 89, 61, 56, 66, 73, 84, 77, 73, 77, 69] : List UInt8)).length ≤ strLim) then (
   j11 (x0 ++ ([32, 66, 79, 68, 89, 61, 56, 66, 73, 84, 77, 73, 77, 69] : List UInt8)) x2) else none) else (
  j27 x0 (x2.fBody != (0 : Int)) x2)
theorem f18_o26 (X0 X1 : Code) (call : CallF) (n : Nat) (B : Code) (hB : B = (hole (hole f18_b [1, 1, 1, 0, 1, 0, 1, 0, 1, 1, 1, 1, 1, 1, 1, 1, 1] X0) [1, 1, 1, 1] X1)) : f18_P26 B call n = f18_T26 call n (f18_P11 B call n) (f18_P27 B call n) := by
 subst hB; funext x0 x1 x2; cases x1 <;> kernel_rfl
theorem f18_l26 (call : CallF) (n : Nat) : f18_P26 f18_b call n = f18_T26 call n (f18_P11 f18_b call n) (f18_P27 f18_b call n) :=
 f18_o26 (piece [1, 1, 1, 0, 1, 0, 1, 0, 1, 1, 1, 1, 1, 1, 1, 1, 1] f18_b) (piece [1, 1, 1, 1] f18_b) call n _ (by kernel_rfl)
def f18_L26 (call : CallF) (n : Nat) : LB → Bool → S_api_Cmd → OR :=
 f18_T26 call n (f18_L11 call n) (f18_L27 call n)
theorem f18_e26 (call : CallF) (n : Nat) : f18_P26 f18_b call n = f18_L26 call n := by
 rw [f18_l26, f18_e11, f18_e27]; rfl
def f18_T25 (call : CallF) (n : Nat) (j26 : LB → Bool → S_api_Cmd → OR) (x0 : LB) (x1 : S_api_Cmd) : OR :=
 j26 x0 (x1.fBody == (8 : Int)) x1
theorem f18_o25 (X0 : Code) (call : CallF) (n : Nat) (B : Code) (hB : B = (hole f18_b [1, 1, 1, 0, 1, 0, 1, 0, 1, 1, 1, 1, 1, 1, 1] X0)) : f18_P25 B call n = f18_T25 call n (f18_P26 B call n) := by
 subst hB; funext x0 x1; kernel_rfl
theorem f18_l25 (call : CallF) (n : Nat) : f18_P25 f18_b call n = f18_T25 call n (f18_P26 f18_b call n) :=
 f18_o25 (piece [1, 1, 1, 0, 1, 0, 1, 0, 1, 1, 1, 1, 1, 1, 1] f18_b) call n _ (by kernel_rfl)
def f18_L25 (call : CallF) (n : Nat) : LB → S_api_Cmd → OR :=
 f18_T25 call n (f18_L26 call n)
theorem f18_e25 (call : CallF) (n : Nat) : f18_P25 f18_b call n = f18_L25 call n := by
 rw [f18_l25, f18_e26]; rfl
def f18_T24 (call : CallF) (n : Nat) (j25 : LB → S_api_Cmd → OR) (x0 : LB) (x1 : Bool) (x2 : S_api_Cmd) : OR :=
 bif x1 then (
  primK pItoa [.one (.int .i64 x2.fSize)] fun v1 =>
  oS v1 fun s2 =>
  bif decide ((([32, 83, 73, 90, 69, 61] : List UInt8)).length + (s2).length ≤ strLim) then (
   bif decide ((x0).length + ((([32, 83, 73, 90, 69, 61] : List UInt8) ++ s2)).length ≤ strLim) then (
    j25 (x0 ++ (([32, 83, 73, 90, 69, 61] : List UInt8) ++ s2)) x2) else none) else none) else (
  j25 x0 x2)
theorem f18_o24 (X0 : Code) (call : CallF) (n : Nat) (B : Code) (hB : B = (hole f18_b [1, 1, 1, 0, 1, 0, 1, 0, 1, 1, 1, 1, 1, 1] X0)) : f18_P24 B call n = f18_T24 call n (f18_P25 B call n) := by
 subst hB; funext x0 x1 x2; cases x1 <;> kernel_rfl
theorem f18_l24 (call : CallF) (n : Nat) : f18_P24 f18_b call n = f18_T24 call n (f18_P25 f18_b call n) :=
 f18_o24 (piece [1, 1, 1, 0, 1, 0, 1, 0, 1, 1, 1, 1, 1, 1] f18_b) call n _ (by kernel_rfl)
def f18_L24 (call : CallF) (n : Nat) : LB → Bool → S_api_Cmd → OR :=
 f18_T24 call n (f18_L25 call n)
theorem f18_e24 (call : CallF) (n : Nat) : f18_P24 f18_b call n = f18_L24 call n := by
 rw [f18_l24, f18_e25]; rfl
def f18_T23 (call : CallF) (n : Nat) (j24 : LB → Bool → S_api_Cmd → OR) (x0 : LB) (x1 : S_api_Cmd) : OR :=
 j24 x0 (x1.fSize != (-1 : Int)) x1
theorem f18_o23 (X0 : Code) (call : CallF) (n : Nat) (B : Code) (hB : B = (hole f18_b [1, 1, 1, 0, 1, 0, 1, 0, 1, 1, 1, 1, 1, 0, 1] X0)) : f18_P23 B call n = f18_T23 call n (f18_P24 B call n) := by
 subst hB; funext x0 x1; kernel_rfl
theorem f18_l23 (call : CallF) (n : Nat) : f18_P23 f18_b call n = f18_T23 call n (f18_P24 f18_b call n) :=
 f18_o23 (piece [1, 1, 1, 0, 1, 0, 1, 0, 1, 1, 1, 1, 1, 0, 1] f18_b) call n _ (by kernel_rfl)
def f18_L23 (call : CallF) (n : Nat) : LB → S_api_Cmd → OR :=
 f18_T23 call n (f18_L24 call n)
theorem f18_e23 (call : CallF) (n : Nat) : f18_P23 f18_b call n = f18_L23 call n := by
 rw [f18_l23, f18_e24]; rfl
def f18_T22 (call : CallF) (n : Nat) (j23 : LB → S_api_Cmd → OR) (x0 x1 x2 : LB) (x3 : S_api_Cmd) : OR :=
 bif decide ((x2).length + (x1).length ≤ strLim) then (
  bif decide ((x0).length + ((x2 ++ x1)).length ≤ strLim) then (
   j23 (x0 ++ (x2 ++ x1)) x3) else none) else none
theorem f18_o22 (X0 : Code) (call : CallF) (n : Nat) (B : Code) (hB : B = (hole f18_b [1, 1, 1, 0, 1, 0, 1, 0, 1, 1, 1, 1, 1] X0)) : f18_P22 B call n = f18_T22 call n (f18_P23 B call n) := by
 subst hB; funext x0 x1 x2 x3; kernel_rfl
theorem f18_l22 (call : CallF) (n : Nat) : f18_P22 f18_b call n = f18_T22 call n (f18_P23 f18_b call n) :=
 f18_o22 (piece [1, 1, 1, 0, 1, 0, 1, 0, 1, 1, 1, 1, 1] f18_b) call n _ (by kernel_rfl)
def f18_L22 (call : CallF) (n : Nat) : LB → LB → LB → S_api_Cmd → OR :=
 f18_T22 call n (f18_L23 call n)
theorem f18_e22 (call : CallF) (n : Nat) : f18_P22 f18_b call n = f18_L22 call n := by
 rw [f18_l22, f18_e23]; rfl
def f18_T21 (call : CallF) (n : Nat) (j22 : LB → LB → LB → S_api_Cmd → OR) (x0 x1 x2 : LB) (x3 : Bool) (x4 : S_api_Cmd) : OR :=
 bif x3 then (
  j22 x0 x1 ([32, 84, 79, 58] : List UInt8) x4) else (
  j22 x0 x1 x2 x4)
theorem f18_o21 (X0 : Code) (call : CallF) (n : Nat) (B : Code) (hB : B = (hole f18_b [1, 1, 1, 0, 1, 0, 1, 0, 1, 1, 1, 1] X0)) : f18_P21 B call n = f18_T21 call n (f18_P22 B call n) := by
 subst hB; funext x0 x1 x2 x3 x4; cases x3 <;> kernel_rfl
theorem f18_l21 (call : CallF) (n : Nat) : f18_P21 f18_b call n = f18_T21 call n (f18_P22 f18_b call n) :=
 f18_o21 (piece [1, 1, 1, 0, 1, 0, 1, 0, 1, 1, 1, 1] f18_b) call n _ (by kernel_rfl)
def f18_L21 (call : CallF) (n : Nat) : LB → LB → LB → Bool → S_api_Cmd → OR :=
 f18_T21 call n (f18_L22 call n)
theorem f18_e21 (call : CallF) (n : Nat) : f18_P21 f18_b call n = f18_L21 call n := by
 rw [f18_l21, f18_e22]; rfl
def f18_T19 (call : CallF) (n : Nat) (j21 : LB → LB → LB → Bool → S_api_Cmd → OR) (x0 x1 x2 : LB) (x3 : S_api_Cmd) : OR :=
 j21 x0 x1 x2 (x3.fVerb == (5 : Int)) x3
theorem f18_o19 (X0 : Code) (call : CallF) (n : Nat) (B : Code) (hB : B = (hole f18_b [1, 1, 1, 0, 1, 0, 1, 0, 1, 1, 1, 0, 1] X0)) : f18_P19 B call n = f18_T19 call n (f18_P21 B call n) := by
 subst hB; funext x0 x1 x2 x3; kernel_rfl
theorem f18_l19 (call : CallF) (n : Nat) : f18_P19 f18_b call n = f18_T19 call n (f18_P21 f18_b call n) :=
 f18_o19 (piece [1, 1, 1, 0, 1, 0, 1, 0, 1, 1, 1, 0, 1] f18_b) call n _ (by kernel_rfl)
def f18_L19 (call : CallF) (n : Nat) : LB → LB → LB → S_api_Cmd → OR :=
 f18_T19 call n (f18_L21 call n)
theorem f18_e19 (call : CallF) (n : Nat) : f18_P19 f18_b call n = f18_L19 call n := by
 rw [f18_l19, f18_e21]; rfl
def f18_T15 (call : CallF) (n : Nat) (j19 : LB → LB → LB → S_api_Cmd → OR) (x0 x1 : LB) (x2 : S_api_Cmd) : OR :=
 j19 x0 x1 ([32, 70, 82, 79, 77, 58] : List UInt8) x2
theorem f18_o15 (X0 : Code) (call : CallF) (n : Nat) (B : Code) (hB : B = (hole f18_b [1, 1, 1, 0, 1, 0, 1, 0, 1, 1, 1] X0)) : f18_P15 B call n = f18_T15 call n (f18_P19 B call n) := by
 subst hB; funext x0 x1 x2; kernel_rfl
theorem f18_l15 (call : CallF) (n : Nat) : f18_P15 f18_b call n = f18_T15 call n (f18_P19 f18_b call n) :=
 f18_o15 (piece [1, 1, 1, 0, 1, 0, 1, 0, 1, 1, 1] f18_b) call n _ (by kernel_rfl)
def f18_L15 (call : CallF) (n : Nat) : LB → LB → S_api_Cmd → OR :=
 f18_T15 call n (f18_L19 call n)
theorem f18_e15 (call : CallF) (n : Nat) : f18_P15 f18_b call n = f18_L15 call n := by
 rw [f18_l15, f18_e19]; rfl
def f18_T12 (call : CallF) (n : Nat) (j14 : LB → Int → OR) (j15 : LB → LB → S_api_Cmd → OR) (x0 x1 : LB) (x2 : Bool) (x3 : S_api_Cmd) : OR :=
 bif x2 then (
  j14 ([] : List UInt8) (3 : Int)) else (
  j15 x0 x1 x3)
theorem f18_o12 (X0 X1 : Code) (call : CallF) (n : Nat) (B : Code) (hB : B = (hole (hole f18_b [1, 1, 1, 0, 1, 0, 1, 0, 1, 0, 1, 0, 1] X0) [1, 1, 1, 0, 1, 0, 1, 0, 1, 1] X1)) : f18_P12 B call n = f18_T12 call n (f18_P14 B call n) (f18_P15 B call n) := by
 subst hB; funext x0 x1 x2 x3; cases x2 <;> kernel_rfl
theorem f18_l12 (call : CallF) (n : Nat) : f18_P12 f18_b call n = f18_T12 call n (f18_P14 f18_b call n) (f18_P15 f18_b call n) :=
 f18_o12 (piece [1, 1, 1, 0, 1, 0, 1, 0, 1, 0, 1, 0, 1] f18_b) (piece [1, 1, 1, 0, 1, 0, 1, 0, 1, 1] f18_b) call n _ (by kernel_rfl)
def f18_L12 (call : CallF) (n : Nat) : LB → LB → Bool → S_api_Cmd → OR :=
 f18_T12 call n (f18_L14 call n) (f18_L15 call n)
theorem f18_e12 (call : CallF) (n : Nat) : f18_P12 f18_b call n = f18_L12 call n := by
 rw [f18_l12, f18_e14, f18_e15]; rfl
def f18_T10 (call : CallF) (n : Nat) (j12 : LB → LB → Bool → S_api_Cmd → OR) (x0 x1 : LB) (x2 : Int) (x3 : S_api_Cmd) : OR :=
 j12 x0 x1 (x2 != (0 : Int)) x3
theorem f18_o10 (X0 : Code) (call : CallF) (n : Nat) (B : Code) (hB : B = (hole f18_b [1, 1, 1, 0, 1, 0, 1, 0, 1, 0, 1] X0)) : f18_P10 B call n = f18_T10 call n (f18_P12 B call n) := by
 subst hB; funext x0 x1 x2 x3; kernel_rfl
theorem f18_l10 (call : CallF) (n : Nat) : f18_P10 f18_b call n = f18_T10 call n (f18_P12 f18_b call n) :=
 f18_o10 (piece [1, 1, 1, 0, 1, 0, 1, 0, 1, 0, 1] f18_b) call n _ (by kernel_rfl)
def f18_L10 (call : CallF) (n : Nat) : LB → LB → Int → S_api_Cmd → OR :=
 f18_T10 call n (f18_L12 call n)
theorem f18_e10 (call : CallF) (n : Nat) : f18_P10 f18_b call n = f18_L10 call n := by
 rw [f18_l10, f18_e12]; rfl
def f18_T1 (call : CallF) (n : Nat) (j9 : LB → Int → OR) (j10 : LB → LB → Int → S_api_Cmd → OR) (j11 : LB → S_api_Cmd → OR) (x0 : Bool) (x1 : S_api_Cmd) : OR :=
 bif x0 then (
  j9 ([] : List UInt8) (16 : Int)) else (
  callK call 43 [] fun v1 =>
  oL 1 v1 fun l2 =>
  itemK l2 x1.fVerb fun c3 =>
  castS c3 fun s4 =>
  bif (x1.fVerb == (4 : Int)) then (
   primK pAPath [.agg [.str x1.fPath_Local, .str x1.fPath_Domain]] fun v5 =>
   castTup v5 fun v6 =>
   zS v6 fun s7 r8 =>
   zI .i64 r8 fun n9 r10 =>
   nilK r10 (
    j10 s4 s7 n9 x1)) else (
   bif (x1.fVerb == (5 : Int)) then (
    primK pAPath [.agg [.str x1.fPath_Local, .str x1.fPath_Domain]] fun v11 =>
    castTup v11 fun v12 =>
    zS v12 fun s13 r14 =>
    zI .i64 r14 fun n15 r16 =>
    nilK r16 (
     j10 s4 s13 n15 x1)) else (
    bif (!(x1.fArg == ([] : List UInt8))) then (
     bif decide ((([32] : List UInt8)).length + (x1.fArg).length ≤ strLim) then (
      bif decide ((s4).length + ((([32] : List UInt8) ++ x1.fArg)).length ≤ strLim) then (
       j11 (s4 ++ (([32] : List UInt8) ++ x1.fArg)) x1) else none) else none) else (
     j11 s4 x1))))
theorem f18_o1 (X0 X1 X2 : Code) (call : CallF) (n : Nat) (B : Code) (hB : B = (hole (hole (hole f18_b [1, 1, 1, 0, 1, 0, 1, 0, 1] X0) [1, 0, 1, 0, 1] X1) [1, 1, 1, 1] X2)) : f18_P1 B call n = f18_T1 call n (f18_P9 B call n) (f18_P10 B call n) (f18_P11 B call n) := by
 subst hB; funext x0 x1; cases x0 <;> kernel_rfl
theorem f18_l1 (call : CallF) (n : Nat) : f18_P1 f18_b call n = f18_T1 call n (f18_P9 f18_b call n) (f18_P10 f18_b call n) (f18_P11 f18_b call n) :=
 f18_o1 (piece [1, 1, 1, 0, 1, 0, 1, 0, 1] f18_b) (piece [1, 0, 1, 0, 1] f18_b) (piece [1, 1, 1, 1] f18_b) call n _ (by kernel_rfl)
def f18_L1 (call : CallF) (n : Nat) : Bool → S_api_Cmd → OR :=
 f18_T1 call n (f18_L9 call n) (f18_L10 call n) (f18_L11 call n)
theorem f18_e1 (call : CallF) (n : Nat) : f18_P1 f18_b call n = f18_L1 call n := by
 rw [f18_l1, f18_e9, f18_e10, f18_e11]; rfl
def f18_T (call : CallF) (n : Nat) (j1 : Bool → S_api_Cmd → OR) (a0 : S_api_Cmd) : OR :=
 bif (decide (a0.fVerb < (1 : Int))) then (
  j1 true a0) else (
  j1 (decide (a0.fVerb > (11 : Int))) a0)
def f18_L (call : CallF) (n : Nat) (a0 : S_api_Cmd) : OR :=
 f18_T call n (f18_L1 call n) a0
theorem f18_o (X0 : Code) (call : CallF) (n : Nat) (B : Code) (hB : B = (hole f18_b [1, 0, 1] X0)) : f18_P B call n = f18_T call n (f18_P1 B call n) := by
 subst hB; funext a0; kernel_rfl
theorem f18_l (call : CallF) (n : Nat) : f18_P f18_b call n = f18_T call n (f18_P1 f18_b call n) :=
 f18_o (piece [1, 0, 1] f18_b) call n _ (by kernel_rfl)
theorem f18_e (call : CallF) (n : Nat) : f18_P f18_b call n = f18_L call n := by
 rw [f18_l, f18_e1]; rfl
theorem f18_eq (n : Nat) (a0 : S_api_Cmd) : acall AXE AXF (n + 1) 18 [.agg a0.cells] [] = f18_L (acall AXE AXF n) (n + 1) a0 :=
 (show _ = f18_P f18_b (acall AXE AXF n) (n + 1) a0 by kernel_rfl).trans (by rw [f18_e])
def f19_P4 (B : Code) (call : CallF) (n : Nat) (x0 : LB) (x1 : Int) : OR :=
 f19_x B call n [1, 0, 1, 0, 1] (kSeq (f19_x B call n [1, 1]) (kEnd AXE 0 f19_r)) ⟨[(2, .one (.str x0)), (3, .one (.int .i64 x1))], []⟩
def f19_P11 (B : Code) (call : CallF) (n : Nat) (x0 : LB) (x1 : Int) : OR :=
 f19_x B call n [1, 1, 1, 0, 1, 0, 1, 0, 1, 0, 1] (kSeq (f19_x B call n [1, 1, 1, 0, 1, 0, 1, 1]) (kSeq (f19_x B call n [1, 1, 1, 1]) (kEnd AXE 0 f19_r))) ⟨[(2, .one (.str x0)), (3, .one (.int .i64 x1))], []⟩
def f19_P17 (B : Code) (call : CallF) (n : Nat) (x0 : LB) (x1 : Int) : OR :=
 f19_x B call n [1, 1, 1, 1, 1, 0, 1, 0, 1] (kSeq (f19_x B call n [1, 1, 1, 1, 1, 1]) (kEnd AXE 0 f19_r)) ⟨[(2, .one (.str x0)), (3, .one (.int .i64 x1))], []⟩
def f19_P13 (B : Code) (call : CallF) (n : Nat) (x0 : LB) (x1 : Bool) : OR :=
 f19_x B call n [1, 1, 1, 1, 1, 0, 1] (kSeq (f19_x B call n [1, 1, 1, 1, 1, 1]) (kEnd AXE 0 f19_r)) ⟨[(4, .one (.str x0)), (83, .one (.bool x1))], []⟩
def f19_P10 (B : Code) (call : CallF) (n : Nat) (x0 : LB) (x1 : S_api_Cmd) (x2 : S_ref06_Got) : OR :=
 f19_x B call n [1, 1, 1, 1, 1] (kEnd AXE 0 f19_r) ⟨[(1, .one (.ptr 0 0)), (4, .one (.str x0)), (7, .one (.ptr 1 0))], [x1.cells, x2.cells]⟩
def f19_P8 (B : Code) (call : CallF) (n : Nat) (x0 : LB) (x1 : S_api_Cmd) : OR :=
 f19_x B call n [1, 1, 1, 1] (kEnd AXE 0 f19_r) ⟨[(1, .one (.ptr 0 0)), (4, .one (.str x0))], [x1.cells]⟩
def f19_P22 (B : Code) (call : CallF) (n : Nat) (x0 : LB) (x1 : Bool) (x2 : S_api_Cmd) : OR :=
 f19_x B call n [1, 1, 1, 0, 1, 0, 1, 1, 1, 1, 1, 1, 1] (kSeq (f19_x B call n [1, 1, 1, 1]) (kEnd AXE 0 f19_r)) ⟨[(1, .one (.ptr 0 0)), (4, .one (.str x0)), (62, .one (.bool x1))], [x2.cells]⟩
def f19_P21 (B : Code) (call : CallF) (n : Nat) (x0 : LB) (x1 : Bool) (x2 : S_api_Cmd) : OR :=
 f19_x B call n [1, 1, 1, 0, 1, 0, 1, 1, 1, 1, 1] (kSeq (f19_x B call n [1, 1, 1, 1]) (kEnd AXE 0 f19_r)) ⟨[(1, .one (.ptr 0 0)), (4, .one (.str x0)), (57, .one (.bool x1))], [x2.cells]⟩
def f19_P20 (B : Code) (call : CallF) (n : Nat) (x0 : LB) (x1 : S_api_Cmd) : OR :=
 f19_x B call n [1, 1, 1, 0, 1, 0, 1, 1, 1, 1] (kSeq (f19_x B call n [1, 1, 1, 1]) (kEnd AXE 0 f19_r)) ⟨[(1, .one (.ptr 0 0)), (4, .one (.str x0))], [x1.cells]⟩
def f19_P19 (B : Code) (call : CallF) (n : Nat) (x0 : LB) (x1 : Bool) (x2 : S_api_Cmd) : OR :=
 f19_x B call n [1, 1, 1, 0, 1, 0, 1, 1, 1, 0, 1] (kSeq (f19_x B call n [1, 1, 1, 0, 1, 0, 1, 1, 1, 1]) (kSeq (f19_x B call n [1, 1, 1, 1]) (kEnd AXE 0 f19_r))) ⟨[(1, .one (.ptr 0 0)), (4, .one (.str x0)), (48, .one (.bool x1))], [x2.cells]⟩
def f19_P18 (B : Code) (call : CallF) (n : Nat) (x0 : LB) (x1 : S_api_Cmd) : OR :=
 f19_x B call n [1, 1, 1, 0, 1, 0, 1, 1, 1] (kSeq (f19_x B call n [1, 1, 1, 1]) (kEnd AXE 0 f19_r)) ⟨[(1, .one (.ptr 0 0)), (4, .one (.str x0))], [x1.cells]⟩
def f19_P16 (B : Code) (call : CallF) (n : Nat) (x0 x1 : LB) (x2 : Bool) (x3 : S_api_Cmd) : OR :=
 f19_x B call n [1, 1, 1, 0, 1, 0, 1, 1, 0, 1] (kSeq (f19_x B call n [1, 1, 1, 0, 1, 0, 1, 1, 1]) (kSeq (f19_x B call n [1, 1, 1, 1]) (kEnd AXE 0 f19_r))) ⟨[(1, .one (.ptr 0 0)), (4, .one (.str x0)), (5, .one (.str x1)), (37, .one (.bool x2))], [x3.cells]⟩
def f19_P12 (B : Code) (call : CallF) (n : Nat) (x0 x1 : LB) (x2 : S_api_Cmd) : OR :=
 f19_x B call n [1, 1, 1, 0, 1, 0, 1, 1] (kSeq (f19_x B call n [1, 1, 1, 1]) (kEnd AXE 0 f19_r)) ⟨[(1, .one (.ptr 0 0)), (4, .one (.str x0)), (5, .one (.str x1))], [x2.cells]⟩
def f19_P9 (B : Code) (call : CallF) (n : Nat) (x0 x1 : LB) (x2 : Bool) (x3 : S_api_Cmd) : OR :=
 f19_x B call n [1, 1, 1, 0, 1, 0, 1, 0, 1] (kSeq (f19_x B call n [1, 1, 1, 0, 1, 0, 1, 1]) (kSeq (f19_x B call n [1, 1, 1, 1]) (kEnd AXE 0 f19_r))) ⟨[(1, .one (.ptr 0 0)), (4, .one (.str x0)), (5, .one (.str x1)), (34, .one (.bool x2))], [x3.cells]⟩
def f19_P7 (B : Code) (call : CallF) (n : Nat) (x0 x1 : LB) (x2 : Int) (x3 : S_api_Cmd) : OR :=
 f19_x B call n [1, 1, 1, 0, 1, 0, 1] (kSeq (f19_x B call n [1, 1, 1, 1]) (kEnd AXE 0 f19_r)) ⟨[(1, .one (.ptr 0 0)), (4, .one (.str x0)), (5, .one (.str x1)), (6, .one (.int .i64 x2))], [x3.cells]⟩
def f19_P5 (B : Code) (call : CallF) (n : Nat) (x0 : LB) (x1 : Bool) (x2 : S_api_Cmd) : OR :=
 f19_x B call n [1, 1, 1, 0, 1] (kSeq (f19_x B call n [1, 1, 1, 1]) (kEnd AXE 0 f19_r)) ⟨[(1, .one (.ptr 0 0)), (4, .one (.str x0)), (26, .one (.bool x1))], [x2.cells]⟩
def f19_P1 (B : Code) (call : CallF) (n : Nat) (x0 : Bool) (x1 : S_api_Cmd) : OR :=
 f19_x B call n [1, 0, 1] (kSeq (f19_x B call n [1, 1]) (kEnd AXE 0 f19_r)) ⟨[(1, .one (.ptr 0 0)), (15, .one (.bool x0))], [x1.cells]⟩
def f19_P (B : Code) (call : CallF) (n : Nat) (a0 : S_api_Cmd) : OR :=
 f19_x B call n [] (kEnd AXE 0 f19_r) ⟨[(0, .agg a0.cells)], []⟩
def f19_T4 (call : CallF) (n : Nat) (x0 : LB) (x1 : Int) : OR :=
 some (.tup [.one (.str x0), .one (.int .i64 x1)], [])
theorem f19_o4 (call : CallF) (n : Nat) (B : Code) (hB : B = f19_b) : f19_P4 B call n = f19_T4 call n := by
 subst hB; funext x0 x1; kernel_rfl
theorem f19_l4 (call : CallF) (n : Nat) : f19_P4 f19_b call n = f19_T4 call n :=
 f19_o4 call n _ (by kernel_rfl)
def f19_L4 (call : CallF) (n : Nat) : LB → Int → OR :=
 f19_T4 call n
theorem f19_e4 (call : CallF) (n : Nat) : f19_P4 f19_b call n = f19_L4 call n := by
 rw [f19_l4]; rfl
def f19_T11 (call : CallF) (n : Nat) (x0 : LB) (x1 : Int) : OR :=
 some (.tup [.one (.str x0), .one (.int .i64 x1)], [])
theorem f19_o11 (call : CallF) (n : Nat) (B : Code) (hB : B = f19_b) : f19_P11 B call n = f19_T11 call n := by
 subst hB; funext x0 x1; kernel_rfl
theorem f19_l11 (call : CallF) (n : Nat) : f19_P11 f19_b call n = f19_T11 call n :=
 f19_o11 call n _ (by kernel_rfl)
def f19_L11 (call : CallF) (n : Nat) : LB → Int → OR :=
 f19_T11 call n
theorem f19_e11 (call : CallF) (n : Nat) : f19_P11 f19_b call n = f19_L11 call n := by
 rw [f19_l11]; rfl
def f19_T17 (call : CallF) (n : Nat) (x0 : LB) (x1 : Int) : OR :=
 some (.tup [.one (.str x0), .one (.int .i64 x1)], [])
theorem f19_o17 (call : CallF) (n : Nat) (B : Code) (hB : B = f19_b) : f19_P17 B call n = f19_T17 call n := by
 subst hB; funext x0 x1; kernel_rfl
theorem f19_l17 (call : CallF) (n : Nat) : f19_P17 f19_b call n = f19_T17 call n :=
 f19_o17 call n _ (by kernel_rfl)
def f19_L17 (call : CallF) (n : Nat) : LB → Int → OR :=
 f19_T17 call n
theorem f19_e17 (call : CallF) (n : Nat) : f19_P17 f19_b call n = f19_L17 call n := by
 rw [f19_l17]; rfl
def f19_T13 (call : CallF) (n : Nat) (j17 : LB → Int → OR) (x0 : LB) (x1 : Bool) : OR :=
 bif x1 then (
  j17 ([] : List UInt8) (3 : Int)) else (
  some (.tup [.one (.str x0), .one (.int .i64 (0 : Int))], []))
theorem f19_o13 (X0 : Code) (call : CallF) (n : Nat) (B : Code) (hB : B = (hole f19_b [1, 1, 1, 1, 1, 0, 1, 0, 1] X0)) : f19_P13 B call n = f19_T13 call n (f19_P17 B call n) := by
 subst hB; funext x0 x1; cases x1 <;> kernel_rfl
theorem f19_l13 (call : CallF) (n : Nat) : f19_P13 f19_b call n = f19_T13 call n (f19_P17 f19_b call n) :=
 f19_o13 (piece [1, 1, 1, 1, 1, 0, 1, 0, 1] f19_b) call n _ (by kernel_rfl)
def f19_L13 (call : CallF) (n : Nat) : LB → Bool → OR :=
 f19_T13 call n (f19_L17 call n)
theorem f19_e13 (call : CallF) (n : Nat) : f19_P13 f19_b call n = f19_L13 call n := by
 rw [f19_l13, f19_e17]; rfl
def f19_T10 (call : CallF) (n : Nat) (j13 : LB → Bool → OR) (x0 : LB) (x1 : S_api_Cmd) (x2 : S_ref06_Got) : OR :=
 bif (x2.fCode != (0 : Int)) then (
  j13 x0 true) else (
  j13 x0 (!((x2.fC.fVerb == x1.fVerb) && ((x2.fC.fArg == x1.fArg) && (((x2.fC.fPath_Local == x1.fPath_Local) && ((x2.fC.fPath_Domain == x1.fPath_Domain) && true)) && ((x2.fC.fNull == x1.fNull) && ((x2.fC.fSize == x1.fSize) && ((x2.fC.fBody == x1.fBody) && true))))))))
theorem f19_o10 (X0 : Code) (call : CallF) (n : Nat) (B : Code) (hB : B = (hole f19_b [1, 1, 1, 1, 1, 0, 1] X0)) : f19_P10 B call n = f19_T10 call n (f19_P13 B call n) := by
 subst hB; funext x0 x1 x2; kernel_rfl
theorem f19_l10 (call : CallF) (n : Nat) : f19_P10 f19_b call n = f19_T10 call n (f19_P13 f19_b call n) :=
 f19_o10 (piece [1, 1, 1, 1, 1, 0, 1] f19_b) call n _ (by kernel_rfl)
def f19_L10 (call : CallF) (n : Nat) : LB → S_api_Cmd → S_ref06_Got → OR :=
 f19_T10 call n (f19_L13 call n)
theorem f19_e10 (call : CallF) (n : Nat) : f19_P10 f19_b call n = f19_L10 call n := by
 rw [f19_l10, f19_e13]; rfl
def f19_T8 (call : CallF) (n : Nat) (j10 : LB → S_api_Cmd → S_ref06_Got → OR) (x0 : LB) (x1 : S_api_Cmd) : OR :=
 callK call 15 [.one (.str x0)] fun v1 =>
 castAgg v1 fun r2 =>
 takeS_ref06_Got r2 fun w3 r4 =>
 nilK r4 (
  j10 x0 x1 w3)
theorem f19_o8 (X0 : Code) (call : CallF) (n : Nat) (B : Code) (hB : B = (hole f19_b [1, 1, 1, 1, 1] X0)) : f19_P8 B call n = f19_T8 call n (f19_P10 B call n) := by
 subst hB; funext x0 x1; kernel_rfl
theorem f19_l8 (call : CallF) (n : Nat) : f19_P8 f19_b call n = f19_T8 call n (f19_P10 f19_b call n) :=
 f19_o8 (piece [1, 1, 1, 1, 1] f19_b) call n _ (by kernel_rfl)
def f19_L8 (call : CallF) (n : Nat) : LB → S_api_Cmd → OR :=
 f19_T8 call n (f19_L10 call n)
theorem f19_e8 (call : CallF) (n : Nat) : f19_P8 f19_b call n = f19_L8 call n := by
 rw [f19_l8, f19_e10]; rfl
def f19_T22 (call : CallF) (n : Nat) (j8 : LB → S_api_Cmd → OR) (x0 : LB) (x1 : Bool) (x2 : S_api_Cmd) : OR :=
 bif x1 then (
  bif decide ((x0).length + (([32, 66, 79, 68, 89, 61, 56, 66, 73, 84, 77, 73, 77, 69] : List UInt8)).length ≤ strLim) then (
   j8 (x0 ++ ([32, 66, 79, 68, 89, 61, 56, 66, 73, 84, 77, 73, 77, 69] : List UInt8)) x2) else none) else (
  j8 x0 x2)
theorem f19_o22 (X0 : Code) (call : CallF) (n : Nat) (B : Code) (hB : B = (hole f19_b [1, 1, 1, 1] X0)) : f19_P22 B call n = f19_T22 call n (f19_P8 B call n) := by
 subst hB; funext x0 x1 x2; cases x1 <;> kernel_rfl
theorem f19_l22 (call : CallF) (n : Nat) : f19_P22 f19_b call n = f19_T22 call n (f19_P8 f19_b call n) :=
 f19_o22 (piece [1, 1, 1, 1] f19_b) call n _ (by kernel_rfl)
def f19_L22 (call : CallF) (n : Nat) : LB → Bool → S_api_Cmd → OR :=
 f19_T22 call n (f19_L8 call n)
theorem f19_e22 (call : CallF) (n : Nat) : f19_P22 f19_b call n = f19_L22 call n := by
 rw [f19_l22, f19_e8]; rfl
def f19_T21 (call : CallF) (n : Nat) (j8 : LB → S_api_Cmd → OR) (j22 : LB → Bool → S_api_Cmd → OR) (x0 : LB) (x1 : Bool) (x2 : S_api_Cmd) : OR :=
 bif x1 then (
  bif decide ((x0).length + (([32, 66, 79, 68, 89, 61, 55, 66, 73, 84] : List UInt8)).length ≤ strLim) then (
   j8 (x0 ++ ([32, 66, 79, 68, 89, 61, 55, 66, 73, 84] : List UInt8)) x2) else none) else (
  j22 x0 (x2.fBody != (0 : Int)) x2)
theorem f19_o21 (X0 X1 : Code) (call : CallF) (n : Nat) (B : Code) (hB : B = (hole (hole f19_b [1, 1, 1, 0, 1, 0, 1, 1, 1, 1, 1, 1, 1] X0) [1, 1, 1, 1] X1)) : f19_P21 B call n = f19_T21 call n (f19_P8 B call n) (f19_P22 B call n) := by
 subst hB; funext x0 x1 x2; cases x1 <;> kernel_rfl
theorem f19_l21 (call : CallF) (n : Nat) : f19_P21 f19_b call n = f19_T21 call n (f19_P8 f19_b call n) (f19_P22 f19_b call n) :=
 f19_o21 (piece [1, 1, 1, 0, 1, 0, 1, 1, 1, 1, 1, 1, 1] f19_b) (piece [1, 1, 1, 1] f19_b) call n _ (by kernel_rfl)
def f19_L21 (call : CallF) (n : Nat) : LB → Bool → S_api_Cmd → OR :=
 f19_T21 call n (f19_L8 call n) (f19_L22 call n)
theorem f19_e21 (call : CallF) (n : Nat) : f19_P21 f19_b call n = f19_L21 call n := by
 rw [f19_l21, f19_e8, f19_e22]; rfl
def f19_T20 (call : CallF) (n : Nat) (j21 : LB → Bool → S_api_Cmd → OR) (x0 : LB) (x1 : S_api_Cmd) : OR :=
 j21 x0 (x1.fBody == (7 : Int)) x1
theorem f19_o20 (X0 : Code) (call : CallF) (n : Nat) (B : Code) (hB : B = (hole f19_b [1, 1, 1, 0, 1, 0, 1, 1, 1, 1, 1] X0)) : f19_P20 B call n = f19_T20 call n (f19_P21 B call n) := by
 subst hB; funext x0 x1; kernel_rfl
theorem f19_l20 (call : CallF) (n : Nat) : f19_P20 f19_b call n = f19_T20 call n (f19_P21 f19_b call n) :=
 f19_o20 (piece [1, 1, 1, 0, 1, 0, 1, 1, 1, 1, 1] f19_b) call n _ (by kernel_rfl)
def f19_L20 (call : CallF) (n : Nat) : LB → S_api_Cmd → OR :=
 f19_T20 call n (f19_L21 call n)
theorem f19_e20 (call : CallF) (n : Nat) : f19_P20 f19_b call n = f19_L20 call n := by
 rw [f19_l20, f19_e21]; rfl
def f19_T19 (call : CallF) (n : Nat) (j20 : LB → S_api_Cmd → OR) (x0 : LB) (x1 : Bool) (x2 : S_api_Cmd) : OR :=
 bif x1 then (
  bif decide ((x0).length + (([32, 83, 73, 90, 69, 61] : List UInt8)).length ≤ strLim) then (
   callK call 49 [.one (.int .i64 x2.fSize)] fun v1 =>
   oS v1 fun s2 =>
   bif decide (((x0 ++ ([32, 83, 73, 90, 69, 61] : List UInt8))).length + (s2).length ≤ strLim) then (
    j20 ((x0 ++ ([32, 83, 73, 90, 69, 61] : List UInt8)) ++ s2) x2) else none) else none) else (
  j20 x0 x2)
theorem f19_o19 (X0 : Code) (call : CallF) (n : Nat) (B : Code) (hB : B = (hole f19_b [1, 1, 1, 0, 1, 0, 1, 1, 1, 1] X0)) : f19_P19 B call n = f19_T19 call n (f19_P20 B call n) := by
 subst hB; funext x0 x1 x2; cases x1 <;> kernel_rfl
theorem f19_l19 (call : CallF) (n : Nat) : f19_P19 f19_b call n = f19_T19 call n (f19_P20 f19_b call n) :=
 f19_o19 (piece [1, 1, 1, 0, 1, 0, 1, 1, 1, 1] f19_b) call n _ (by kernel_rfl)
def f19_L19 (call : CallF) (n : Nat) : LB → Bool → S_api_Cmd → OR :=
 f19_T19 call n (f19_L20 call n)
theorem f19_e19 (call : CallF) (n : Nat) : f19_P19 f19_b call n = f19_L19 call n := by
 rw [f19_l19, f19_e20]; rfl
def f19_T18 (call : CallF) (n : Nat) (j19 : LB → Bool → S_api_Cmd → OR) (x0 : LB) (x1 : S_api_Cmd) : OR :=
 j19 x0 (x1.fSize != (-1 : Int)) x1
theorem f19_o18 (X0 : Code) (call : CallF) (n : Nat) (B : Code) (hB : B = (hole f19_b [1, 1, 1, 0, 1, 0, 1, 1, 1, 0, 1] X0)) : f19_P18 B call n = f19_T18 call n (f19_P19 B call n) := by
 subst hB; funext x0 x1; kernel_rfl
theorem f19_l18 (call : CallF) (n : Nat) : f19_P18 f19_b call n = f19_T18 call n (f19_P19 f19_b call n) :=
 f19_o18 (piece [1, 1, 1, 0, 1, 0, 1, 1, 1, 0, 1] f19_b) call n _ (by kernel_rfl)
def f19_L18 (call : CallF) (n : Nat) : LB → S_api_Cmd → OR :=
 f19_T18 call n (f19_L19 call n)
theorem f19_e18 (call : CallF) (n : Nat) : f19_P18 f19_b call n = f19_L18 call n := by
 rw [f19_l18, f19_e19]; rfl
def f19_T16 (call : CallF) (n : Nat) (j18 : LB → S_api_Cmd → OR) (x0 x1 : LB) (x2 : Bool) (x3 : S_api_Cmd) : OR :=
 bif x2 then (
  bif decide ((x0).length + (([32, 70, 82, 79, 77, 58] : List UInt8)).length ≤ strLim) then (
   bif decide (((x0 ++ ([32, 70, 82, 79, 77, 58] : List UInt8))).length + (x1).length ≤ strLim) then (
    j18 ((x0 ++ ([32, 70, 82, 79, 77, 58] : List UInt8)) ++ x1) x3) else none) else none) else (
  bif decide ((x0).length + (([32, 84, 79, 58] : List UInt8)).length ≤ strLim) then (
   bif decide (((x0 ++ ([32, 84, 79, 58] : List UInt8))).length + (x1).length ≤ strLim) then (
    j18 ((x0 ++ ([32, 84, 79, 58] : List UInt8)) ++ x1) x3) else none) else none)
theorem f19_o16 (X0 : Code) (call : CallF) (n : Nat) (B : Code) (hB : B = (hole f19_b [1, 1, 1, 0, 1, 0, 1, 1, 1] X0)) : f19_P16 B call n = f19_T16 call n (f19_P18 B call n) := by
 subst hB; funext x0 x1 x2 x3; cases x2 <;> kernel_rfl
theorem f19_l16 (call : CallF) (n : Nat) : f19_P16 f19_b call n = f19_T16 call n (f19_P18 f19_b call n) :=
 f19_o16 (piece [1, 1, 1, 0, 1, 0, 1, 1, 1] f19_b) call n _ (by kernel_rfl)
def f19_L16 (call : CallF) (n : Nat) : LB → LB → Bool → S_api_Cmd → OR :=
 f19_T16 call n (f19_L18 call n)
theorem f19_e16 (call : CallF) (n : Nat) : f19_P16 f19_b call n = f19_L16 call n := by
 rw [f19_l16, f19_e18]; rfl
def f19_T12 (call : CallF) (n : Nat) (j16 : LB → LB → Bool → S_api_Cmd → OR) (x0 x1 : LB) (x2 : S_api_Cmd) : OR :=
 j16 x0 x1 (x2.fVerb == (4 : Int)) x2
theorem f19_o12 (X0 : Code) (call : CallF) (n : Nat) (B : Code) (hB : B = (hole f19_b [1, 1, 1, 0, 1, 0, 1, 1, 0, 1] X0)) : f19_P12 B call n = f19_T12 call n (f19_P16 B call n) := by
 subst hB; funext x0 x1 x2; kernel_rfl
theorem f19_l12 (call : CallF) (n : Nat) : f19_P12 f19_b call n = f19_T12 call n (f19_P16 f19_b call n) :=
 f19_o12 (piece [1, 1, 1, 0, 1, 0, 1, 1, 0, 1] f19_b) call n _ (by kernel_rfl)
def f19_L12 (call : CallF) (n : Nat) : LB → LB → S_api_Cmd → OR :=
 f19_T12 call n (f19_L16 call n)
theorem f19_e12 (call : CallF) (n : Nat) : f19_P12 f19_b call n = f19_L12 call n := by
 rw [f19_l12, f19_e16]; rfl
def f19_T9 (call : CallF) (n : Nat) (j11 : LB → Int → OR) (j12 : LB → LB → S_api_Cmd → OR) (x0 x1 : LB) (x2 : Bool) (x3 : S_api_Cmd) : OR :=
 bif x2 then (
  j11 ([] : List UInt8) (3 : Int)) else (
  j12 x0 x1 x3)
theorem f19_o9 (X0 X1 : Code) (call : CallF) (n : Nat) (B : Code) (hB : B = (hole (hole f19_b [1, 1, 1, 0, 1, 0, 1, 0, 1, 0, 1] X0) [1, 1, 1, 0, 1, 0, 1, 1] X1)) : f19_P9 B call n = f19_T9 call n (f19_P11 B call n) (f19_P12 B call n) := by
 subst hB; funext x0 x1 x2 x3; cases x2 <;> kernel_rfl
theorem f19_l9 (call : CallF) (n : Nat) : f19_P9 f19_b call n = f19_T9 call n (f19_P11 f19_b call n) (f19_P12 f19_b call n) :=
 f19_o9 (piece [1, 1, 1, 0, 1, 0, 1, 0, 1, 0, 1] f19_b) (piece [1, 1, 1, 0, 1, 0, 1, 1] f19_b) call n _ (by kernel_rfl)
def f19_L9 (call : CallF) (n : Nat) : LB → LB → Bool → S_api_Cmd → OR :=
 f19_T9 call n (f19_L11 call n) (f19_L12 call n)
theorem f19_e9 (call : CallF) (n : Nat) : f19_P9 f19_b call n = f19_L9 call n := by
 rw [f19_l9, f19_e11, f19_e12]; rfl
def f19_T7 (call : CallF) (n : Nat) (j9 : LB → LB → Bool → S_api_Cmd → OR) (x0 x1 : LB) (x2 : Int) (x3 : S_api_Cmd) : OR :=
 j9 x0 x1 (x2 != (0 : Int)) x3
theorem f19_o7 (X0 : Code) (call : CallF) (n : Nat) (B : Code) (hB : B = (hole f19_b [1, 1, 1, 0, 1, 0, 1, 0, 1] X0)) : f19_P7 B call n = f19_T7 call n (f19_P9 B call n) := by
 subst hB; funext x0 x1 x2 x3; kernel_rfl
theorem f19_l7 (call : CallF) (n : Nat) : f19_P7 f19_b call n = f19_T7 call n (f19_P9 f19_b call n) :=
 f19_o7 (piece [1, 1, 1, 0, 1, 0, 1, 0, 1] f19_b) call n _ (by kernel_rfl)
def f19_L7 (call : CallF) (n : Nat) : LB → LB → Int → S_api_Cmd → OR :=
 f19_T7 call n (f19_L9 call n)
theorem f19_e7 (call : CallF) (n : Nat) : f19_P7 f19_b call n = f19_L7 call n := by
 rw [f19_l7, f19_e9]; rfl
def f19_T5 (call : CallF) (n : Nat) (j7 : LB → LB → Int → S_api_Cmd → OR) (j8 : LB → S_api_Cmd → OR) (x0 : LB) (x1 : Bool) (x2 : S_api_Cmd) : OR :=
 bif x1 then (
  primK pRPath [.agg [.str x2.fPath_Local, .str x2.fPath_Domain]] fun v1 =>
  castTup v1 fun v2 =>
  zS v2 fun s3 r4 =>
  zI .i64 r4 fun n5 r6 =>
  nilK r6 (
   j7 x0 s3 n5 x2)) else (
  bif (!(x2.fArg == ([] : List UInt8))) then (
   bif decide ((x0).length + (([32] : List UInt8)).length ≤ strLim) then (
    bif decide (((x0 ++ ([32] : List UInt8))).length + (x2.fArg).length ≤ strLim) then (
     j8 ((x0 ++ ([32] : List UInt8)) ++ x2.fArg) x2) else none) else none) else (
   j8 x0 x2))
theorem f19_o5 (X0 X1 : Code) (call : CallF) (n : Nat) (B : Code) (hB : B = (hole (hole f19_b [1, 1, 1, 0, 1, 0, 1] X0) [1, 1, 1, 1] X1)) : f19_P5 B call n = f19_T5 call n (f19_P7 B call n) (f19_P8 B call n) := by
 subst hB; funext x0 x1 x2; cases x1 <;> kernel_rfl
theorem f19_l5 (call : CallF) (n : Nat) : f19_P5 f19_b call n = f19_T5 call n (f19_P7 f19_b call n) (f19_P8 f19_b call n) :=
 f19_o5 (piece [1, 1, 1, 0, 1, 0, 1] f19_b) (piece [1, 1, 1, 1] f19_b) call n _ (by kernel_rfl)
def f19_L5 (call : CallF) (n : Nat) : LB → Bool → S_api_Cmd → OR :=
 f19_T5 call n (f19_L7 call n) (f19_L8 call n)
theorem f19_e5 (call : CallF) (n : Nat) : f19_P5 f19_b call n = f19_L5 call n := by
 rw [f19_l5, f19_e7, f19_e8]; rfl
def f19_T1 (call : CallF) (n : Nat) (j4 : LB → Int → OR) (j5 : LB → Bool → S_api_Cmd → OR) (x0 : Bool) (x1 : S_api_Cmd) : OR :=
 bif x0 then (
  j4 ([] : List UInt8) (16 : Int)) else (
  callK call 44 [.one (.int .i64 x1.fVerb)] fun v1 =>
  oS v1 fun s2 =>
  bif (x1.fVerb == (4 : Int)) then (
   j5 s2 true x1) else (
   j5 s2 (x1.fVerb == (5 : Int)) x1))
theorem f19_o1 (X0 X1 : Code) (call : CallF) (n : Nat) (B : Code) (hB : B = (hole (hole f19_b [1, 0, 1, 0, 1] X0) [1, 1, 1, 0, 1] X1)) : f19_P1 B call n = f19_T1 call n (f19_P4 B call n) (f19_P5 B call n) := by
 subst hB; funext x0 x1; cases x0 <;> kernel_rfl
theorem f19_l1 (call : CallF) (n : Nat) : f19_P1 f19_b call n = f19_T1 call n (f19_P4 f19_b call n) (f19_P5 f19_b call n) :=
 f19_o1 (piece [1, 0, 1, 0, 1] f19_b) (piece [1, 1, 1, 0, 1] f19_b) call n _ (by kernel_rfl)
def f19_L1 (call : CallF) (n : Nat) : Bool → S_api_Cmd → OR :=
 f19_T1 call n (f19_L4 call n) (f19_L5 call n)
theorem f19_e1 (call : CallF) (n : Nat) : f19_P1 f19_b call n = f19_L1 call n := by
 rw [f19_l1, f19_e4, f19_e5]; rfl
def f19_T (call : CallF) (n : Nat) (j1 : Bool → S_api_Cmd → OR) (a0 : S_api_Cmd) : OR :=
 bif (decide (a0.fVerb < (1 : Int))) then (
  j1 true a0) else (
  j1 (decide (a0.fVerb > (11 : Int))) a0)
def f19_L (call : CallF) (n : Nat) (a0 : S_api_Cmd) : OR :=
 f19_T call n (f19_L1 call n) a0
theorem f19_o (X0 : Code) (call : CallF) (n : Nat) (B : Code) (hB : B = (hole f19_b [1, 0, 1] X0)) : f19_P B call n = f19_T call n (f19_P1 B call n) := by
 subst hB; funext a0; kernel_rfl
theorem f19_l (call : CallF) (n : Nat) : f19_P f19_b call n = f19_T call n (f19_P1 f19_b call n) :=
 f19_o (piece [1, 0, 1] f19_b) call n _ (by kernel_rfl)
theorem f19_e (call : CallF) (n : Nat) : f19_P f19_b call n = f19_L call n := by
 rw [f19_l, f19_e1]; rfl
theorem f19_eq (n : Nat) (a0 : S_api_Cmd) : acall AXE AXF (n + 1) 19 [.agg a0.cells] [] = f19_L (acall AXE AXF n) (n + 1) a0 :=
 (show _ = f19_P f19_b (acall AXE AXF n) (n + 1) a0 by kernel_rfl).trans (by rw [f19_e])
def f33_P10 (B : Code) (call : CallF) (n : Nat) (m0 : Nat) (x0 : Bool) : OR :=
 f33_x B call n [1, 0, 1, 0, 0, 1, 1, 0, 0, 1, 1, 0, 1] (kBlk 1 (kSeq (f33_x B call n [1, 0, 1, 0, 0, 1, 1, 1]) (kSeq (fun k => prK 1000002 (pruneAt f33_h 1000002) (aloop 1000002 (pruneAt f33_h 1000002) (f33_x B call n [1, 0, 1, 0, 0]) k m0)) (kBlk 0 (kSeq (f33_x B call n [1, 1]) (kEnd AXE 0 f33_r)))))) ⟨[(2, .one (.bool x0))], []⟩
def f33_P8 (B : Code) (call : CallF) (n : Nat) (m0 : Nat) (x0 : LC) (x1 x2 : Int) (x3 : Bool) : OR :=
 f33_x B call n [1, 0, 1, 0, 0, 1, 1, 0, 0, 1, 1] (kBlk 1 (kSeq (f33_x B call n [1, 0, 1, 0, 0, 1, 1, 1]) (kSeq (fun k => prK 1000002 (pruneAt f33_h 1000002) (aloop 1000002 (pruneAt f33_h 1000002) (f33_x B call n [1, 0, 1, 0, 0]) k m0)) (kBlk 0 (kSeq (f33_x B call n [1, 1]) (kEnd AXE 0 f33_r)))))) ⟨[(6, .one (.sl none 1 x0)), (7, .one (.int .i64 x1)), (8, .one (.int .i64 x2)), (17, .one (.bool x3))], []⟩
def f33_P2 (B : Code) (call : CallF) (n : Nat) (m0 : Nat) (x0 : LC) (x1 x2 : Int) : OR :=
 aloop 1000002 (pruneAt f33_h 1000002) (f33_x B call n [1, 0, 1, 0, 0]) (kBlk 0 (kSeq (f33_x B call n [1, 1]) (kEnd AXE 0 f33_r))) m0 ⟨[(6, .one (.sl none 1 x0)), (7, .one (.int .i64 x1)), (8, .one (.int .i64 x2))], []⟩
def f33_P (B : Code) (call : CallF) (n : Nat) (a0 : LB) : OR :=
 f33_x B call n [] (kEnd AXE 0 f33_r) ⟨[(0, .one (.str a0))], []⟩
def f33_T10 (call : CallF) (n : Nat) (x0 : Bool) : OR :=
 some (.one (.bool x0), [])
theorem f33_o10 (call : CallF) (n : Nat) (m0 : Nat) (B : Code) (hB : B = f33_b) : f33_P10 B call n m0 = f33_T10 call n := by
 subst hB; funext x0; kernel_rfl
theorem f33_l10 (call : CallF) (n : Nat) (m0 : Nat) : f33_P10 f33_b call n m0 = f33_T10 call n :=
 f33_o10 call n m0 _ (by kernel_rfl)
def f33_L10 (call : CallF) (n : Nat) (h_m0 : LC → Int → Int → OR) : Bool → OR :=
 f33_T10 call n
theorem f33_e10 (call : CallF) (n : Nat) (m0 : Nat) : f33_P10 f33_b call n m0 = f33_L10 call n (f33_P2 f33_b call n m0) := by
 rw [f33_l10]; rfl
def f33_T8 (call : CallF) (n : Nat) (j10 : Bool → OR) (j2m : LC → Int → Int → OR) (x0 : LC) (x1 x2 : Int) (x3 : Bool) : OR :=
 bif x3 then (
  j10 false) else (
  j2m x0 x1 (IntKind.wrap .i64 (x2 + (1 : Int))))
theorem f33_o8 (X0 : Code) (call : CallF) (n : Nat) (m0 : Nat) (B : Code) (hB : B = (hole f33_b [1, 0, 1, 0, 0, 1, 1, 0, 0, 1, 1, 0, 1] X0)) : f33_P8 B call n m0 = f33_T8 call n (f33_P10 B call n m0) (f33_P2 B call n m0) := by
 subst hB; funext x0 x1 x2 x3; cases x3 <;> kernel_rfl
theorem f33_l8 (call : CallF) (n : Nat) (m0 : Nat) : f33_P8 f33_b call n m0 = f33_T8 call n (f33_P10 f33_b call n m0) (f33_P2 f33_b call n m0) :=
 f33_o8 (piece [1, 0, 1, 0, 0, 1, 1, 0, 0, 1, 1, 0, 1] f33_b) call n m0 _ (by kernel_rfl)
def f33_L8 (call : CallF) (n : Nat) (h_m0 : LC → Int → Int → OR) : LC → Int → Int → Bool → OR :=
 f33_T8 call n (f33_L10 call n h_m0) h_m0
theorem f33_e8 (call : CallF) (n : Nat) (m0 : Nat) : f33_P8 f33_b call n m0 = f33_L8 call n (f33_P2 f33_b call n m0) := by
 rw [f33_l8, f33_e10]; rfl
def f33_T2 (call : CallF) (n : Nat) (j8 : LC → Int → Int → Bool → OR) (x0 : LC) (x1 x2 : Int) : OR :=
 bif (decide (x2 < x1)) then (
  itemK x0 x2 fun c1 =>
  castI .u8 c1 fun n2 =>
  bif (decide (n2 < (32 : Int))) then (
   j8 x0 x1 x2 true) else (
   j8 x0 x1 x2 (decide (n2 > (126 : Int))))) else (
  some (.one (.bool true), []))
theorem f33_o2 (X0 : Code) (call : CallF) (n : Nat) (m0 : Nat) (B : Code) (hB : B = (hole f33_b [1, 0, 1, 0, 0, 1, 1, 0, 0, 1, 1] X0)) : f33_P2 B call n (m0 + 1) = f33_T2 call n (f33_P8 B call n m0) := by
 subst hB; funext x0 x1 x2; kernel_rfl
theorem f33_l2 (call : CallF) (n : Nat) (m0 : Nat) : f33_P2 f33_b call n (m0 + 1) = f33_T2 call n (f33_P8 f33_b call n m0) :=
 f33_o2 (piece [1, 0, 1, 0, 0, 1, 1, 0, 0, 1, 1] f33_b) call n m0 _ (by kernel_rfl)
def f33_L2 (call : CallF) (n : Nat) : Nat → LC → Int → Int → OR
 | 0 => fun _ _ _ => none
 | m0 + 1 => f33_T2 call n (f33_L8 call n (f33_L2 call n m0))
theorem f33_e2 (call : CallF) (n : Nat) : ∀ m0 : Nat, f33_P2 f33_b call n m0 = f33_L2 call n m0
 | 0 => by funext x0 x1 x2; kernel_rfl
 | m0 + 1 => by rw [f33_l2, f33_e8, f33_e2 call n m0]; rfl
def f33_T (call : CallF) (n : Nat) (j2n : LC → Int → Int → OR) (a0 : LB) : OR :=
 j2n (byteCells a0) ((((byteCells a0)).length / 1 : Nat) : Int) (0 : Int)
def f33_L (call : CallF) (n : Nat) (a0 : LB) : OR :=
 f33_T call n (f33_L2 call n n) a0
theorem f33_o (call : CallF) (n : Nat) (B : Code) (hB : B = f33_b) : f33_P B call n = f33_T call n (f33_P2 B call n n) := by
 subst hB; funext a0; kernel_rfl
theorem f33_l (call : CallF) (n : Nat) : f33_P f33_b call n = f33_T call n (f33_P2 f33_b call n n) :=
 f33_o call n _ (by kernel_rfl)
theorem f33_e (call : CallF) (n : Nat) : f33_P f33_b call n = f33_L call n := by
 rw [f33_l, f33_e2]; rfl
theorem f33_eq (n : Nat) (a0 : LB) : acall AXE AXF (n + 1) 33 [.one (.str a0)] [] = f33_L (acall AXE AXF n) (n + 1) a0 :=
 (show _ = f33_P f33_b (acall AXE AXF n) (n + 1) a0 by kernel_rfl).trans (by rw [f33_e])
def f34_P (B : Code) (call : CallF) (n : Nat) (a0 : Bool) : OR :=
 f34_x B call n [] (kEnd AXE 0 f34_r) ⟨[(0, .one (.bool a0))], []⟩
def f34_T (call : CallF) (n : Nat) (a0 : Bool) : OR :=
 bif a0 then (
  some (.one (.int .i64 (0 : Int)), [])) else (
  some (.one (.int .i64 (501 : Int)), []))
def f34_L (call : CallF) (n : Nat) (a0 : Bool) : OR :=
 f34_T call n a0
theorem f34_o (call : CallF) (n : Nat) (B : Code) (hB : B = f34_b) : f34_P B call n = f34_T call n := by
 subst hB; funext a0; kernel_rfl
theorem f34_l (call : CallF) (n : Nat) : f34_P f34_b call n = f34_T call n :=
 f34_o call n _ (by kernel_rfl)
theorem f34_e (call : CallF) (n : Nat) : f34_P f34_b call n = f34_L call n := by
 rw [f34_l]; rfl
theorem f34_eq (n : Nat) (a0 : Bool) : acall AXE AXF (n + 1) 34 [.one (.bool a0)] [] = f34_L (acall AXE AXF n) (n + 1) a0 :=
 (show _ = f34_P f34_b (acall AXE AXF n) (n + 1) a0 by kernel_rfl).trans (by rw [f34_e])
end
end AX
end Go.Proofs.YtfbicbgdfcbhpaaGreatDoor
