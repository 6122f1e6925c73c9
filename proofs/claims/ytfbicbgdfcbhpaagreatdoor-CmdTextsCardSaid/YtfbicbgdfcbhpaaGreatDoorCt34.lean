/-
  CxFun2.
-/
import Derived.Test.YtfbicbgdfcbhpaaGreatDoorCt32
set_option maxRecDepth 20000
set_option linter.unusedVariables false
set_option linter.unusedSimpArgs false
set_option linter.unusedSectionVars false
namespace Go.Proofs.YtfbicbgdfcbhpaaGreatDoor
namespace AX
set_option linter.unusedVariables false
noncomputable section
def f36_P4 (B : Code) (call : CallF) (n : Nat) (x0 : Bool) : OR :=
 f36_x B call n [1, 0, 1, 0, 1] (kSeq (f36_x B call n [1, 1]) (kEnd AXE 0 f36_r)) ⟨[(2, .one (.bool x0))], []⟩
def f36_P1 (B : Code) (call : CallF) (n : Nat) (x0 : LB) (x1 : Bool) : OR :=
 f36_x B call n [1, 0, 1] (kSeq (f36_x B call n [1, 1]) (kEnd AXE 0 f36_r)) ⟨[(0, .one (.str x0)), (18, .one (.bool x1))], []⟩
def f36_P (B : Code) (call : CallF) (n : Nat) (a0 : LB) : OR :=
 f36_x B call n [] (kEnd AXE 0 f36_r) ⟨[(0, .one (.str a0))], []⟩
def f36_T4 (call : CallF) (n : Nat) (x0 : Bool) : OR :=
 some (.one (.bool x0), [])
theorem f36_o4 (call : CallF) (n : Nat) (B : Code) (hB : B = f36_b) : f36_P4 B call n = f36_T4 call n := by
 subst hB; funext x0; kernel_rfl
theorem f36_l4 (call : CallF) (n : Nat) : f36_P4 f36_b call n = f36_T4 call n :=
 f36_o4 call n _ (by kernel_rfl)
def f36_L4 (call : CallF) (n : Nat) : Bool → OR :=
 f36_T4 call n
theorem f36_e4 (call : CallF) (n : Nat) : f36_P4 f36_b call n = f36_L4 call n := by
 rw [f36_l4]; rfl
def f36_T1 (call : CallF) (n : Nat) (j4 : Bool → OR) (x0 : LB) (x1 : Bool) : OR :=
 bif x1 then (
  j4 false) else (
  bif decide (0 ≤ (1 : Int) ∧ (1 : Int) ≤ (IntKind.wrap .i64 (((x0).length : Int) - (1 : Int))) ∧ (Int.toNat (IntKind.wrap .i64 (((x0).length : Int) - (1 : Int)))) ≤ (x0).length) then (
   primK pContains [.one (.str ((x0.take (Int.toNat (IntKind.wrap .i64 (((x0).length : Int) - (1 : Int))))).drop (Int.toNat (1 : Int)))), .one (.str ([91, 93, 92, 32] : List UInt8))] fun v1 =>
   oB v1 fun b2 =>
   some (.one (.bool (!b2)), [])) else none)
theorem f36_o1 (X0 : Code) (call : CallF) (n : Nat) (B : Code) (hB : B = (hole f36_b [1, 0, 1, 0, 1] X0)) : f36_P1 B call n = f36_T1 call n (f36_P4 B call n) := by
 subst hB; funext x0 x1; cases x1 <;> kernel_rfl
theorem f36_l1 (call : CallF) (n : Nat) : f36_P1 f36_b call n = f36_T1 call n (f36_P4 f36_b call n) :=
 f36_o1 (piece [1, 0, 1, 0, 1] f36_b) call n _ (by kernel_rfl)
def f36_L1 (call : CallF) (n : Nat) : LB → Bool → OR :=
 f36_T1 call n (f36_L4 call n)
theorem f36_e1 (call : CallF) (n : Nat) : f36_P1 f36_b call n = f36_L1 call n := by
 rw [f36_l1, f36_e4]; rfl
def f36_T (call : CallF) (n : Nat) (j1 : LB → Bool → OR) (a0 : LB) : OR :=
 bif (decide (((a0).length : Int) < (3 : Int))) then (
  j1 a0 true) else (
  itemK a0 (0 : Int) fun u5 =>
  bif ((UInt8.toNat u5 : Int) != (91 : Int)) then (
   j1 a0 true) else (
   itemK a0 (IntKind.wrap .i64 (((a0).length : Int) - (1 : Int))) fun u6 =>
   j1 a0 ((UInt8.toNat u6 : Int) != (93 : Int))))
def f36_L (call : CallF) (n : Nat) (a0 : LB) : OR :=
 f36_T call n (f36_L1 call n) a0
theorem f36_o (X0 : Code) (call : CallF) (n : Nat) (B : Code) (hB : B = (hole f36_b [1, 0, 1] X0)) : f36_P B call n = f36_T call n (f36_P1 B call n) := by
 subst hB; funext a0; kernel_rfl
theorem f36_l (call : CallF) (n : Nat) : f36_P f36_b call n = f36_T call n (f36_P1 f36_b call n) :=
 f36_o (piece [1, 0, 1] f36_b) call n _ (by kernel_rfl)
theorem f36_e (call : CallF) (n : Nat) : f36_P f36_b call n = f36_L call n := by
 rw [f36_l, f36_e1]; rfl
theorem f36_eq (n : Nat) (a0 : LB) : acall AXE AXF (n + 1) 36 [.one (.str a0)] [] = f36_L (acall AXE AXF n) (n + 1) a0 :=
 (show _ = f36_P f36_b (acall AXE AXF n) (n + 1) a0 by kernel_rfl).trans (by rw [f36_e])
def f37_P17 (B : Code) (call : CallF) (n : Nat) (x0 : Int) (x1 : S_api_Cmd) : OR :=
 f37_x B call n [1, 0, 1, 0, 1] (kSeq (f37_x B call n [1, 1]) (kEnd AXE 1 f37_r)) ⟨[(8, .one (.int .i64 x0))], [x1.cells]⟩
def f37_P1 (B : Code) (call : CallF) (n : Nat) (x0 x1 : LB) (x2 x3 : Bool) (x4 : S_api_Cmd) : OR :=
 f37_x B call n [1, 0, 1] (kSeq (f37_x B call n [1, 1]) (kEnd AXE 1 f37_r)) ⟨[(0, .one (.ptr 0 0)), (1, .one (.str x0)), (2, .one (.str x1)), (3, .one (.bool x2)), (25, .one (.bool x3))], [x4.cells]⟩
def f37_P (B : Code) (call : CallF) (n : Nat) (a0 : S_api_Cmd) (a1 a2 : LB) (a3 : Bool) : OR :=
 f37_x B call n [] (kEnd AXE 1 f37_r) ⟨[(0, .one (.ptr 0 0)), (1, .one (.str a1)), (2, .one (.str a2)), (3, .one (.bool a3))], [a0.cells]⟩
def f37_T17 (call : CallF) (n : Nat) (x0 : Int) (x1 : S_api_Cmd) : OR :=
 some (.one (.int .i64 x0), [x1.cells])
theorem f37_o17 (call : CallF) (n : Nat) (B : Code) (hB : B = f37_b) : f37_P17 B call n = f37_T17 call n := by
 subst hB; funext x0 x1; kernel_rfl
theorem f37_l17 (call : CallF) (n : Nat) : f37_P17 f37_b call n = f37_T17 call n :=
 f37_o17 call n _ (by kernel_rfl)
def f37_L17 (call : CallF) (n : Nat) : Int → S_api_Cmd → OR :=
 f37_T17 call n
theorem f37_e17 (call : CallF) (n : Nat) : f37_P17 f37_b call n = f37_L17 call n := by
 rw [f37_l17]; rfl
def f37_T1 (call : CallF) (n : Nat) (j17 : Int → S_api_Cmd → OR) (x0 x1 : LB) (x2 x3 : Bool) (x4 : S_api_Cmd) : OR :=
 bif x3 then (
  j17 (501 : Int) x4) else (
  bif decide (0 ≤ ((x1).length : Int) ∧ (Int.toNat ((x1).length : Int)) ≤ (x0).length) then (
   primK pARead [.one (.str ((x0.take (x0).length).drop (Int.toNat ((x1).length : Int)))), .one (.bool x2)] fun v1 =>
   castTup v1 fun v2 =>
   consK v2 fun z3 r4 =>
   aggV z3 fun r5 =>
   cS r5 fun s6 r7 =>
   cS r7 fun s8 r9 =>
   nilK r9 (
    zI .i64 r4 fun n10 r11 =>
    zI .i64 r11 fun n12 r13 =>
    nilK r13 (
     bif (n12 != (0 : Int)) then (
      some (.one (.int .i64 (501 : Int)), [x4.cells])) else (
      bif decide (0 ≤ n10 ∧ (Int.toNat n10) ≤ (((x0.take (x0).length).drop (Int.toNat ((x1).length : Int)))).length) then (
       bif (((((x0.take (x0).length).drop (Int.toNat ((x1).length : Int))).take (((x0.take (x0).length).drop (Int.toNat ((x1).length : Int)))).length).drop (Int.toNat n10)) == ([] : List UInt8)) then (
        some (.one (.int .i64 (0 : Int)), [({ x4 with fPath_Local := s6, fPath_Domain := s8, fNull := ((s6 == ([] : List UInt8)) && ((s8 == ([] : List UInt8)) && true)) } : S_api_Cmd).cells])) else (
        itemK ((((x0.take (x0).length).drop (Int.toNat ((x1).length : Int))).take (((x0.take (x0).length).drop (Int.toNat ((x1).length : Int)))).length).drop (Int.toNat n10)) (0 : Int) fun u14 =>
        bif ((UInt8.toNat u14 : Int) != (32 : Int)) then (
         some (.one (.int .i64 (501 : Int)), [({ x4 with fPath_Local := s6, fPath_Domain := s8, fNull := ((s6 == ([] : List UInt8)) && ((s8 == ([] : List UInt8)) && true)) } : S_api_Cmd).cells])) else (
         bif decide (0 ≤ (1 : Int) ∧ (Int.toNat (1 : Int)) ≤ (((((x0.take (x0).length).drop (Int.toNat ((x1).length : Int))).take (((x0.take (x0).length).drop (Int.toNat ((x1).length : Int)))).length).drop (Int.toNat n10))).length) then (
          primK pSplit [.one (.str ((((((x0.take (x0).length).drop (Int.toNat ((x1).length : Int))).take (((x0.take (x0).length).drop (Int.toNat ((x1).length : Int)))).length).drop (Int.toNat n10)).take (((((x0.take (x0).length).drop (Int.toNat ((x1).length : Int))).take (((x0.take (x0).length).drop (Int.toNat ((x1).length : Int)))).length).drop (Int.toNat n10))).length).drop (Int.toNat (1 : Int)))), .one (.str ([32] : List UInt8))] fun v15 =>
          oL 1 v15 fun l16 =>
          callRK call 72 [.one (.ptr 0 0), .one (.sl none 1 l16)] [({ x4 with fPath_Local := s6, fPath_Domain := s8, fNull := ((s6 == ([] : List UInt8)) && ((s8 == ([] : List UInt8)) && true)) } : S_api_Cmd).cells] fun v17 h18 =>
          consK h18 fun r19 h20 =>
          takeS_api_Cmd r19 fun w21 r22 =>
          nilK r22 (
           nilK h20 (
            oI .i64 v17 fun n23 =>
            some (.one (.int .i64 n23), [w21.cells])))) else none))) else none)))) else none)
theorem f37_o1 (X0 : Code) (call : CallF) (n : Nat) (B : Code) (hB : B = (hole f37_b [1, 0, 1, 0, 1] X0)) : f37_P1 B call n = f37_T1 call n (f37_P17 B call n) := by
 subst hB; funext x0 x1 x2 x3 x4; cases x3 <;> kernel_rfl
theorem f37_l1 (call : CallF) (n : Nat) : f37_P1 f37_b call n = f37_T1 call n (f37_P17 f37_b call n) :=
 f37_o1 (piece [1, 0, 1, 0, 1] f37_b) call n _ (by kernel_rfl)
def f37_L1 (call : CallF) (n : Nat) : LB → LB → Bool → Bool → S_api_Cmd → OR :=
 f37_T1 call n (f37_L17 call n)
theorem f37_e1 (call : CallF) (n : Nat) : f37_P1 f37_b call n = f37_L1 call n := by
 rw [f37_l1, f37_e17]; rfl
def f37_T (call : CallF) (n : Nat) (j1 : LB → LB → Bool → Bool → S_api_Cmd → OR) (a0 : S_api_Cmd) (a1 a2 : LB) (a3 : Bool) : OR :=
 bif (decide (((a1).length : Int) < ((a2).length : Int))) then (
  j1 a1 a2 a3 true a0) else (
  bif decide (0 ≤ ((a2).length : Int) ∧ (Int.toNat ((a2).length : Int)) ≤ (a1).length) then (
   callK call 42 [.one (.str ((a1.take (Int.toNat ((a2).length : Int))).drop 0))] fun v26 =>
   oS v26 fun s27 =>
   j1 a1 a2 a3 (!(s27 == a2)) a0) else none)
def f37_L (call : CallF) (n : Nat) (a0 : S_api_Cmd) (a1 a2 : LB) (a3 : Bool) : OR :=
 f37_T call n (f37_L1 call n) a0 a1 a2 a3
theorem f37_o (X0 : Code) (call : CallF) (n : Nat) (B : Code) (hB : B = (hole f37_b [1, 0, 1] X0)) : f37_P B call n = f37_T call n (f37_P1 B call n) := by
 subst hB; funext a0 a1 a2 a3; kernel_rfl
theorem f37_l (call : CallF) (n : Nat) : f37_P f37_b call n = f37_T call n (f37_P1 f37_b call n) :=
 f37_o (piece [1, 0, 1] f37_b) call n _ (by kernel_rfl)
theorem f37_e (call : CallF) (n : Nat) : f37_P f37_b call n = f37_L call n := by
 rw [f37_l, f37_e1]; rfl
theorem f37_eq (n : Nat) (a0 : S_api_Cmd) (a1 a2 : LB) (a3 : Bool) : acall AXE AXF (n + 1) 37 [.one (.ptr 0 0), .one (.str a1), .one (.str a2), .one (.bool a3)] [a0.cells] = f37_L (acall AXE AXF n) (n + 1) a0 a1 a2 a3 :=
 (show _ = f37_P f37_b (acall AXE AXF n) (n + 1) a0 a1 a2 a3 by kernel_rfl).trans (by rw [f37_e])
def f38_P3 (B : Code) (call : CallF) (n : Nat) (m0 : Nat) (x0 : LB) (x1 x2 : Int) : OR :=
 f38_x B call n [1, 0, 0, 0, 1] (kSeq (fun k => prK 1000001 (pruneAt f38_h 1000001) (aloop 1000001 (pruneAt f38_h 1000001) (f38_x B call n [1, 0, 0, 0]) k m0)) (kBlk 0 (kSeq (f38_x B call n [1, 1]) (kEnd AXE 0 f38_r)))) ⟨[(0, .one (.str x0)), (1, .one (.int .i64 x1)), (2, .one (.int .u8 x2))], []⟩
def f38_P5 (B : Code) (call : CallF) (n : Nat) (x0 : Int) : OR :=
 f38_x B call n [1, 1, 1] (kEnd AXE 0 f38_r) ⟨[(6, .one (.int .i64 x0))], []⟩
def f38_P4 (B : Code) (call : CallF) (n : Nat) (x0 : LB) (x1 x2 : Int) : OR :=
 f38_x B call n [1, 1] (kEnd AXE 0 f38_r) ⟨[(0, .one (.str x0)), (1, .one (.int .i64 x1)), (2, .one (.int .u8 x2))], []⟩
def f38_P2 (B : Code) (call : CallF) (n : Nat) (m0 : Nat) (x0 : LB) (x1 x2 : Int) (x3 : Bool) : OR :=
 f38_x B call n [1, 0, 0, 0, 0, 1] (kSeq (f38_x B call n [1, 0, 0, 0, 1]) (kSeq (fun k => prK 1000001 (pruneAt f38_h 1000001) (aloop 1000001 (pruneAt f38_h 1000001) (f38_x B call n [1, 0, 0, 0]) k m0)) (kBlk 0 (kSeq (f38_x B call n [1, 1]) (kEnd AXE 0 f38_r))))) ⟨[(0, .one (.str x0)), (1, .one (.int .i64 x1)), (2, .one (.int .u8 x2)), (17, .one (.bool x3))], []⟩
def f38_P1 (B : Code) (call : CallF) (n : Nat) (m0 : Nat) (x0 : LB) (x1 x2 : Int) : OR :=
 aloop 1000001 (pruneAt f38_h 1000001) (f38_x B call n [1, 0, 0, 0]) (kBlk 0 (kSeq (f38_x B call n [1, 1]) (kEnd AXE 0 f38_r))) m0 ⟨[(0, .one (.str x0)), (1, .one (.int .i64 x1)), (2, .one (.int .u8 x2))], []⟩
def f38_P (B : Code) (call : CallF) (n : Nat) (a0 : LB) (a1 a2 : Int) : OR :=
 f38_x B call n [] (kEnd AXE 0 f38_r) ⟨[(0, .one (.str a0)), (1, .one (.int .i64 a1)), (2, .one (.int .u8 a2))], []⟩
def f38_T3 (call : CallF) (n : Nat) (j1m : LB → Int → Int → OR) (x0 : LB) (x1 x2 : Int) : OR :=
 j1m x0 (IntKind.wrap .i64 (x1 + (1 : Int))) x2
theorem f38_o3 (call : CallF) (n : Nat) (m0 : Nat) (B : Code) (hB : B = f38_b) : f38_P3 B call n m0 = f38_T3 call n (f38_P1 B call n m0) := by
 subst hB; funext x0 x1 x2; kernel_rfl
theorem f38_l3 (call : CallF) (n : Nat) (m0 : Nat) : f38_P3 f38_b call n m0 = f38_T3 call n (f38_P1 f38_b call n m0) :=
 f38_o3 call n m0 _ (by kernel_rfl)
def f38_L3 (call : CallF) (n : Nat) (h_m0 : LB → Int → Int → OR) : LB → Int → Int → OR :=
 f38_T3 call n h_m0
theorem f38_e3 (call : CallF) (n : Nat) (m0 : Nat) : f38_P3 f38_b call n m0 = f38_L3 call n (f38_P1 f38_b call n m0) := by
 rw [f38_l3]; rfl
def f38_T5 (call : CallF) (n : Nat) (x0 : Int) : OR :=
 some (.one (.int .i64 x0), [])
theorem f38_o5 (call : CallF) (n : Nat) (B : Code) (hB : B = f38_b) : f38_P5 B call n = f38_T5 call n := by
 subst hB; funext x0; kernel_rfl
theorem f38_l5 (call : CallF) (n : Nat) : f38_P5 f38_b call n = f38_T5 call n :=
 f38_o5 call n _ (by kernel_rfl)
def f38_L5 (call : CallF) (n : Nat) : Int → OR :=
 f38_T5 call n
theorem f38_e5 (call : CallF) (n : Nat) : f38_P5 f38_b call n = f38_L5 call n := by
 rw [f38_l5]; rfl
def f38_T4 (call : CallF) (n : Nat) (j5 : Int → OR) (x0 : LB) (x1 x2 : Int) : OR :=
 j5 x1
theorem f38_o4 (X0 : Code) (call : CallF) (n : Nat) (B : Code) (hB : B = (hole f38_b [1, 1, 1] X0)) : f38_P4 B call n = f38_T4 call n (f38_P5 B call n) := by
 subst hB; funext x0 x1 x2; kernel_rfl
theorem f38_l4 (call : CallF) (n : Nat) : f38_P4 f38_b call n = f38_T4 call n (f38_P5 f38_b call n) :=
 f38_o4 (piece [1, 1, 1] f38_b) call n _ (by kernel_rfl)
def f38_L4 (call : CallF) (n : Nat) : LB → Int → Int → OR :=
 f38_T4 call n (f38_L5 call n)
theorem f38_e4 (call : CallF) (n : Nat) : f38_P4 f38_b call n = f38_L4 call n := by
 rw [f38_l4, f38_e5]; rfl
def f38_T2 (call : CallF) (n : Nat) (j3 : LB → Int → Int → OR) (j4 : LB → Int → Int → OR) (x0 : LB) (x1 x2 : Int) (x3 : Bool) : OR :=
 bif x3 then (
  j3 x0 x1 x2) else (
  j4 x0 x1 x2)
theorem f38_o2 (X0 X1 : Code) (call : CallF) (n : Nat) (m0 : Nat) (B : Code) (hB : B = (hole (hole f38_b [1, 0, 0, 0, 1] X0) [1, 1] X1)) : f38_P2 B call n m0 = f38_T2 call n (f38_P3 B call n m0) (f38_P4 B call n) := by
 subst hB; funext x0 x1 x2 x3; cases x3 <;> kernel_rfl
theorem f38_l2 (call : CallF) (n : Nat) (m0 : Nat) : f38_P2 f38_b call n m0 = f38_T2 call n (f38_P3 f38_b call n m0) (f38_P4 f38_b call n) :=
 f38_o2 (piece [1, 0, 0, 0, 1] f38_b) (piece [1, 1] f38_b) call n m0 _ (by kernel_rfl)
def f38_L2 (call : CallF) (n : Nat) (h_m0 : LB → Int → Int → OR) : LB → Int → Int → Bool → OR :=
 f38_T2 call n (f38_L3 call n h_m0) (f38_L4 call n)
theorem f38_e2 (call : CallF) (n : Nat) (m0 : Nat) : f38_P2 f38_b call n m0 = f38_L2 call n (f38_P1 f38_b call n m0) := by
 rw [f38_l2, f38_e3, f38_e4]; rfl
def f38_T1 (call : CallF) (n : Nat) (j2 : LB → Int → Int → Bool → OR) (x0 : LB) (x1 x2 : Int) : OR :=
 bif (decide (x1 < ((x0).length : Int))) then (
  itemK x0 x1 fun u1 =>
  j2 x0 x1 x2 ((UInt8.toNat u1 : Int) != x2)) else (
  j2 x0 x1 x2 false)
theorem f38_o1 (X0 : Code) (call : CallF) (n : Nat) (m0 : Nat) (B : Code) (hB : B = (hole f38_b [1, 0, 0, 0, 0, 1] X0)) : f38_P1 B call n (m0 + 1) = f38_T1 call n (f38_P2 B call n m0) := by
 subst hB; funext x0 x1 x2; kernel_rfl
theorem f38_l1 (call : CallF) (n : Nat) (m0 : Nat) : f38_P1 f38_b call n (m0 + 1) = f38_T1 call n (f38_P2 f38_b call n m0) :=
 f38_o1 (piece [1, 0, 0, 0, 0, 1] f38_b) call n m0 _ (by kernel_rfl)
def f38_L1 (call : CallF) (n : Nat) : Nat → LB → Int → Int → OR
 | 0 => fun _ _ _ => none
 | m0 + 1 => f38_T1 call n (f38_L2 call n (f38_L1 call n m0))
theorem f38_e1 (call : CallF) (n : Nat) : ∀ m0 : Nat, f38_P1 f38_b call n m0 = f38_L1 call n m0
 | 0 => by funext x0 x1 x2; kernel_rfl
 | m0 + 1 => by rw [f38_l1, f38_e2, f38_e1 call n m0]; rfl
def f38_T (call : CallF) (n : Nat) (j1n : LB → Int → Int → OR) (a0 : LB) (a1 a2 : Int) : OR :=
 j1n a0 a1 a2
def f38_L (call : CallF) (n : Nat) (a0 : LB) (a1 a2 : Int) : OR :=
 f38_T call n (f38_L1 call n n) a0 a1 a2
theorem f38_o (call : CallF) (n : Nat) (B : Code) (hB : B = f38_b) : f38_P B call n = f38_T call n (f38_P1 B call n n) := by
 subst hB; funext a0 a1 a2; kernel_rfl
theorem f38_l (call : CallF) (n : Nat) : f38_P f38_b call n = f38_T call n (f38_P1 f38_b call n n) :=
 f38_o call n _ (by kernel_rfl)
theorem f38_e (call : CallF) (n : Nat) : f38_P f38_b call n = f38_L call n := by
 rw [f38_l, f38_e1]; rfl
theorem f38_eq (n : Nat) (a0 : LB) (a1 a2 : Int) : acall AXE AXF (n + 1) 38 [.one (.str a0), .one (.int .i64 a1), .one (.int .u8 a2)] [] = f38_L (acall AXE AXF n) (n + 1) a0 a1 a2 :=
 (show _ = f38_P f38_b (acall AXE AXF n) (n + 1) a0 a1 a2 by kernel_rfl).trans (by rw [f38_e])
def f40_P4 (B : Code) (call : CallF) (n : Nat) (x0 : Bool) : OR :=
 f40_x B call n [1, 0, 1, 0, 1] (kSeq (f40_x B call n [1, 1]) (kEnd AXE 0 f40_r)) ⟨[(2, .one (.bool x0))], []⟩
def f40_P13 (B : Code) (call : CallF) (n : Nat) (m0 : Nat) (x0 : Bool) : OR :=
 f40_x B call n [1, 1, 0, 1, 0, 0, 1, 0, 0, 1, 1, 0, 1] (kBlk 1 (kSeq (f40_x B call n [1, 1, 0, 1, 0, 0, 1, 1]) (kSeq (fun k => prK 1000004 (pruneAt f40_h 1000004) (aloop 1000004 (pruneAt f40_h 1000004) (f40_x B call n [1, 1, 0, 1, 0, 0]) k m0)) (kBlk 0 (kSeq (f40_x B call n [1, 1, 1]) (kEnd AXE 0 f40_r)))))) ⟨[(2, .one (.bool x0))], []⟩
def f40_P11 (B : Code) (call : CallF) (n : Nat) (m0 : Nat) (x0 : LB) (x1 : Int) (x2 : Bool) : OR :=
 f40_x B call n [1, 1, 0, 1, 0, 0, 1, 0, 0, 1, 1] (kBlk 1 (kSeq (f40_x B call n [1, 1, 0, 1, 0, 0, 1, 1]) (kSeq (fun k => prK 1000004 (pruneAt f40_h 1000004) (aloop 1000004 (pruneAt f40_h 1000004) (f40_x B call n [1, 1, 0, 1, 0, 0]) k m0)) (kBlk 0 (kSeq (f40_x B call n [1, 1, 1]) (kEnd AXE 0 f40_r)))))) ⟨[(0, .one (.str x0)), (3, .one (.int .i64 x1)), (48, .one (.bool x2))], []⟩
def f40_P5 (B : Code) (call : CallF) (n : Nat) (m0 : Nat) (x0 : LB) (x1 : Int) : OR :=
 aloop 1000004 (pruneAt f40_h 1000004) (f40_x B call n [1, 1, 0, 1, 0, 0]) (kBlk 0 (kSeq (f40_x B call n [1, 1, 1]) (kEnd AXE 0 f40_r))) m0 ⟨[(0, .one (.str x0)), (3, .one (.int .i64 x1))], []⟩
def f40_P1 (B : Code) (call : CallF) (n : Nat) (x0 : LB) (x1 : Bool) : OR :=
 f40_x B call n [1, 0, 1] (kSeq (f40_x B call n [1, 1]) (kEnd AXE 0 f40_r)) ⟨[(0, .one (.str x0)), (20, .one (.bool x1))], []⟩
def f40_P (B : Code) (call : CallF) (n : Nat) (a0 : LB) : OR :=
 f40_x B call n [] (kEnd AXE 0 f40_r) ⟨[(0, .one (.str a0))], []⟩
def f40_T4 (call : CallF) (n : Nat) (x0 : Bool) : OR :=
 some (.one (.bool x0), [])
theorem f40_o4 (call : CallF) (n : Nat) (B : Code) (hB : B = f40_b) : f40_P4 B call n = f40_T4 call n := by
 subst hB; funext x0; kernel_rfl
theorem f40_l4 (call : CallF) (n : Nat) : f40_P4 f40_b call n = f40_T4 call n :=
 f40_o4 call n _ (by kernel_rfl)
def f40_L4 (call : CallF) (n : Nat) : Bool → OR :=
 f40_T4 call n
theorem f40_e4 (call : CallF) (n : Nat) : f40_P4 f40_b call n = f40_L4 call n := by
 rw [f40_l4]; rfl
def f40_T13 (call : CallF) (n : Nat) (x0 : Bool) : OR :=
 some (.one (.bool x0), [])
theorem f40_o13 (call : CallF) (n : Nat) (m0 : Nat) (B : Code) (hB : B = f40_b) : f40_P13 B call n m0 = f40_T13 call n := by
 subst hB; funext x0; kernel_rfl
theorem f40_l13 (call : CallF) (n : Nat) (m0 : Nat) : f40_P13 f40_b call n m0 = f40_T13 call n :=
 f40_o13 call n m0 _ (by kernel_rfl)
def f40_L13 (call : CallF) (n : Nat) (h_m0 : LB → Int → OR) : Bool → OR :=
 f40_T13 call n
theorem f40_e13 (call : CallF) (n : Nat) (m0 : Nat) : f40_P13 f40_b call n m0 = f40_L13 call n (f40_P5 f40_b call n m0) := by
 rw [f40_l13]; rfl
def f40_T11 (call : CallF) (n : Nat) (j13 : Bool → OR) (j5m : LB → Int → OR) (x0 : LB) (x1 : Int) (x2 : Bool) : OR :=
 bif x2 then (
  j13 false) else (
  j5m x0 (IntKind.wrap .i64 (x1 + (1 : Int))))
theorem f40_o11 (X0 : Code) (call : CallF) (n : Nat) (m0 : Nat) (B : Code) (hB : B = (hole f40_b [1, 1, 0, 1, 0, 0, 1, 0, 0, 1, 1, 0, 1] X0)) : f40_P11 B call n m0 = f40_T11 call n (f40_P13 B call n m0) (f40_P5 B call n m0) := by
 subst hB; funext x0 x1 x2; cases x2 <;> kernel_rfl
theorem f40_l11 (call : CallF) (n : Nat) (m0 : Nat) : f40_P11 f40_b call n m0 = f40_T11 call n (f40_P13 f40_b call n m0) (f40_P5 f40_b call n m0) :=
 f40_o11 (piece [1, 1, 0, 1, 0, 0, 1, 0, 0, 1, 1, 0, 1] f40_b) call n m0 _ (by kernel_rfl)
def f40_L11 (call : CallF) (n : Nat) (h_m0 : LB → Int → OR) : LB → Int → Bool → OR :=
 f40_T11 call n (f40_L13 call n h_m0) h_m0
theorem f40_e11 (call : CallF) (n : Nat) (m0 : Nat) : f40_P11 f40_b call n m0 = f40_L11 call n (f40_P5 f40_b call n m0) := by
 rw [f40_l11, f40_e13]; rfl
def f40_T5 (call : CallF) (n : Nat) (j11 : LB → Int → Bool → OR) (x0 : LB) (x1 : Int) : OR :=
 bif (decide (x1 < (IntKind.wrap .i64 (((x0).length : Int) - (1 : Int))))) then (
  itemK x0 x1 fun u1 =>
  bif (decide ((UInt8.toNat u1 : Int) < (33 : Int))) then (
   j11 x0 x1 true) else (
   bif (decide ((UInt8.toNat u1 : Int) > (126 : Int))) then (
    j11 x0 x1 true) else (
    bif ((UInt8.toNat u1 : Int) == (91 : Int)) then (
     j11 x0 x1 true) else (
     bif ((UInt8.toNat u1 : Int) == (93 : Int)) then (
      j11 x0 x1 true) else (
      j11 x0 x1 ((UInt8.toNat u1 : Int) == (92 : Int))))))) else (
  some (.one (.bool true), []))
theorem f40_o5 (X0 : Code) (call : CallF) (n : Nat) (m0 : Nat) (B : Code) (hB : B = (hole f40_b [1, 1, 0, 1, 0, 0, 1, 0, 0, 1, 1] X0)) : f40_P5 B call n (m0 + 1) = f40_T5 call n (f40_P11 B call n m0) := by
 subst hB; funext x0 x1; kernel_rfl
theorem f40_l5 (call : CallF) (n : Nat) (m0 : Nat) : f40_P5 f40_b call n (m0 + 1) = f40_T5 call n (f40_P11 f40_b call n m0) :=
 f40_o5 (piece [1, 1, 0, 1, 0, 0, 1, 0, 0, 1, 1] f40_b) call n m0 _ (by kernel_rfl)
def f40_L5 (call : CallF) (n : Nat) : Nat → LB → Int → OR
 | 0 => fun _ _ => none
 | m0 + 1 => f40_T5 call n (f40_L11 call n (f40_L5 call n m0))
theorem f40_e5 (call : CallF) (n : Nat) : ∀ m0 : Nat, f40_P5 f40_b call n m0 = f40_L5 call n m0
 | 0 => by funext x0 x1; kernel_rfl
 | m0 + 1 => by rw [f40_l5, f40_e11, f40_e5 call n m0]; rfl
def f40_T1 (call : CallF) (n : Nat) (j4 : Bool → OR) (j5n : LB → Int → OR) (x0 : LB) (x1 : Bool) : OR :=
 bif x1 then (
  j4 false) else (
  j5n x0 (1 : Int))
theorem f40_o1 (X0 : Code) (call : CallF) (n : Nat) (B : Code) (hB : B = (hole f40_b [1, 0, 1, 0, 1] X0)) : f40_P1 B call n = f40_T1 call n (f40_P4 B call n) (f40_P5 B call n n) := by
 subst hB; funext x0 x1; cases x1 <;> kernel_rfl
theorem f40_l1 (call : CallF) (n : Nat) : f40_P1 f40_b call n = f40_T1 call n (f40_P4 f40_b call n) (f40_P5 f40_b call n n) :=
 f40_o1 (piece [1, 0, 1, 0, 1] f40_b) call n _ (by kernel_rfl)
def f40_L1 (call : CallF) (n : Nat) : LB → Bool → OR :=
 f40_T1 call n (f40_L4 call n) (f40_L5 call n n)
theorem f40_e1 (call : CallF) (n : Nat) : f40_P1 f40_b call n = f40_L1 call n := by
 rw [f40_l1, f40_e4, f40_e5]; rfl
def f40_T (call : CallF) (n : Nat) (j1 : LB → Bool → OR) (a0 : LB) : OR :=
 bif (decide (((a0).length : Int) < (3 : Int))) then (
  j1 a0 true) else (
  itemK a0 (0 : Int) fun u4 =>
  bif ((UInt8.toNat u4 : Int) != (91 : Int)) then (
   j1 a0 true) else (
   itemK a0 (IntKind.wrap .i64 (((a0).length : Int) - (1 : Int))) fun u5 =>
   j1 a0 ((UInt8.toNat u5 : Int) != (93 : Int))))
def f40_L (call : CallF) (n : Nat) (a0 : LB) : OR :=
 f40_T call n (f40_L1 call n) a0
theorem f40_o (X0 : Code) (call : CallF) (n : Nat) (B : Code) (hB : B = (hole f40_b [1, 0, 1] X0)) : f40_P B call n = f40_T call n (f40_P1 B call n) := by
 subst hB; funext a0; kernel_rfl
theorem f40_l (call : CallF) (n : Nat) : f40_P f40_b call n = f40_T call n (f40_P1 f40_b call n) :=
 f40_o (piece [1, 0, 1] f40_b) call n _ (by kernel_rfl)
theorem f40_e (call : CallF) (n : Nat) : f40_P f40_b call n = f40_L call n := by
 rw [f40_l, f40_e1]; rfl
theorem f40_eq (n : Nat) (a0 : LB) : acall AXE AXF (n + 1) 40 [.one (.str a0)] [] = f40_L (acall AXE AXF n) (n + 1) a0 :=
 (show _ = f40_P f40_b (acall AXE AXF n) (n + 1) a0 by kernel_rfl).trans (by rw [f40_e])
def f41_P9 (B : Code) (call : CallF) (n : Nat) (x0 : S_api_Cmd) (x1 : S_ref06_Got) : OR :=
 f41_x B call n [1, 1, 0, 1, 0, 1] (kSeq (f41_x B call n [1, 1, 1]) (kEnd AXE 0 f41_r)) ⟨[(6, .one (.ptr 1 0))], [x0.cells, x1.cells]⟩
def f41_P11 (B : Code) (call : CallF) (n : Nat) (x0 : S_api_Cmd) (x1 : S_ref06_Got) : OR :=
 f41_x B call n [1, 1, 1, 1, 1, 1, 1, 1] (kEnd AXE 0 f41_r) ⟨[(6, .one (.ptr 1 0))], [x0.cells, x1.cells]⟩
def f41_P10 (B : Code) (call : CallF) (n : Nat) (x0 : LB) (x1 : Int) (x2 : S_api_Cmd) (x3 : S_ref06_Got) (x4 : S_ref05_Got) : OR :=
 f41_x B call n [1, 1, 1, 1, 1, 1, 1] (kEnd AXE 0 f41_r) ⟨[(1, .one (.str x0)), (3, .one (.ptr 0 0)), (6, .one (.ptr 1 0)), (7, .one (.int .i64 x1)), (8, .one (.ptr 2 0))], [x2.cells, x3.cells, x4.cells]⟩
def f41_P2 (B : Code) (call : CallF) (n : Nat) (x0 : LB) (x1 : Int) (x2 : Bool) (x3 : S_api_Cmd) (x4 : S_ref06_Got) : OR :=
 f41_x B call n [1, 1, 0, 1] (kSeq (f41_x B call n [1, 1, 1]) (kEnd AXE 0 f41_r)) ⟨[(1, .one (.str x0)), (3, .one (.ptr 0 0)), (6, .one (.ptr 1 0)), (7, .one (.int .i64 x1)), (22, .one (.bool x2))], [x3.cells, x4.cells]⟩
def f41_P (B : Code) (call : CallF) (n : Nat) (a0 : S_api_Cmd) (a1 a2 : LB) : OR :=
 f41_x B call n [] (kEnd AXE 0 f41_r) ⟨[(0, .agg a0.cells), (1, .one (.str a1)), (2, .one (.str a2))], []⟩
def f41_T9 (call : CallF) (n : Nat) (x0 : S_api_Cmd) (x1 : S_ref06_Got) : OR :=
 some (.agg x1.cells, [])
theorem f41_o9 (call : CallF) (n : Nat) (B : Code) (hB : B = f41_b) : f41_P9 B call n = f41_T9 call n := by
 subst hB; funext x0 x1; kernel_rfl
theorem f41_l9 (call : CallF) (n : Nat) : f41_P9 f41_b call n = f41_T9 call n :=
 f41_o9 call n _ (by kernel_rfl)
def f41_L9 (call : CallF) (n : Nat) : S_api_Cmd → S_ref06_Got → OR :=
 f41_T9 call n
theorem f41_e9 (call : CallF) (n : Nat) : f41_P9 f41_b call n = f41_L9 call n := by
 rw [f41_l9]; rfl
def f41_T11 (call : CallF) (n : Nat) (x0 : S_api_Cmd) (x1 : S_ref06_Got) : OR :=
 some (.agg x1.cells, [])
theorem f41_o11 (call : CallF) (n : Nat) (B : Code) (hB : B = f41_b) : f41_P11 B call n = f41_T11 call n := by
 subst hB; funext x0 x1; kernel_rfl
theorem f41_l11 (call : CallF) (n : Nat) : f41_P11 f41_b call n = f41_T11 call n :=
 f41_o11 call n _ (by kernel_rfl)
def f41_L11 (call : CallF) (n : Nat) : S_api_Cmd → S_ref06_Got → OR :=
 f41_T11 call n
theorem f41_e11 (call : CallF) (n : Nat) : f41_P11 f41_b call n = f41_L11 call n := by
 rw [f41_l11]; rfl
def f41_T10 (call : CallF) (n : Nat) (j11 : S_api_Cmd → S_ref06_Got → OR) (x0 : LB) (x1 : Int) (x2 : S_api_Cmd) (x3 : S_ref06_Got) (x4 : S_ref05_Got) : OR :=
 bif decide (0 ≤ (IntKind.wrap .i64 (x1 + x4.fN)) ∧ (Int.toNat (IntKind.wrap .i64 (x1 + x4.fN))) ≤ (x0).length) then (
  callK call 75 [.agg x2.cells, .one (.str ((x0.take (x0).length).drop (Int.toNat (IntKind.wrap .i64 (x1 + x4.fN)))))] fun v1 =>
  castAgg v1 fun r2 =>
  takeS_ref06_Got r2 fun w3 r4 =>
  nilK r4 (
   j11 x2 w3)) else none
theorem f41_o10 (X0 : Code) (call : CallF) (n : Nat) (B : Code) (hB : B = (hole f41_b [1, 1, 1, 1, 1, 1, 1, 1] X0)) : f41_P10 B call n = f41_T10 call n (f41_P11 B call n) := by
 subst hB; funext x0 x1 x2 x3 x4; kernel_rfl
theorem f41_l10 (call : CallF) (n : Nat) : f41_P10 f41_b call n = f41_T10 call n (f41_P11 f41_b call n) :=
 f41_o10 (piece [1, 1, 1, 1, 1, 1, 1, 1] f41_b) call n _ (by kernel_rfl)
def f41_L10 (call : CallF) (n : Nat) : LB → Int → S_api_Cmd → S_ref06_Got → S_ref05_Got → OR :=
 f41_T10 call n (f41_L11 call n)
theorem f41_e10 (call : CallF) (n : Nat) : f41_P10 f41_b call n = f41_L10 call n := by
 rw [f41_l10, f41_e11]; rfl
def f41_T2 (call : CallF) (n : Nat) (j9 : S_api_Cmd → S_ref06_Got → OR) (j10 : LB → Int → S_api_Cmd → S_ref06_Got → S_ref05_Got → OR) (x0 : LB) (x1 : Int) (x2 : Bool) (x3 : S_api_Cmd) (x4 : S_ref06_Got) : OR :=
 bif x2 then (
  j9 x3 (⟨(⟨(0 : Int), ([] : List UInt8), ([] : List UInt8), ([] : List UInt8), false, (0 : Int), (0 : Int)⟩ : S_api_Cmd), (501 : Int)⟩ : S_ref06_Got)) else (
  bif decide (0 ≤ x1 ∧ (Int.toNat x1) ≤ (x0).length) then (
   primK pRRead [.one (.str ((x0.take (x0).length).drop (Int.toNat x1))), .one (.bool (x3.fVerb == (4 : Int)))] fun v1 =>
   castAgg v1 fun r2 =>
   takeS_ref05_Got r2 fun w3 r4 =>
   nilK r4 (
    bif (w3.fE != (0 : Int)) then (
     some (.agg (⟨(⟨(0 : Int), ([] : List UInt8), ([] : List UInt8), ([] : List UInt8), false, (0 : Int), (0 : Int)⟩ : S_api_Cmd), (501 : Int)⟩ : S_ref06_Got).cells, [])) else (
     bif (w3.fA_Local == ([] : List UInt8)) then (
      j10 x0 x1 ({ x3 with fPath_Local := w3.fA_Local, fPath_Domain := w3.fA_Domain, fNull := (w3.fA_Domain == ([] : List UInt8)) } : S_api_Cmd) x4 w3) else (
      j10 x0 x1 ({ x3 with fPath_Local := w3.fA_Local, fPath_Domain := w3.fA_Domain, fNull := false } : S_api_Cmd) x4 w3)))) else none)
theorem f41_o2 (X0 X1 : Code) (call : CallF) (n : Nat) (B : Code) (hB : B = (hole (hole f41_b [1, 1, 1, 1, 1, 1, 1] X0) [1, 1, 0, 1, 0, 1] X1)) : f41_P2 B call n = f41_T2 call n (f41_P9 B call n) (f41_P10 B call n) := by
 subst hB; funext x0 x1 x2 x3 x4; cases x2 <;> kernel_rfl
theorem f41_l2 (call : CallF) (n : Nat) : f41_P2 f41_b call n = f41_T2 call n (f41_P9 f41_b call n) (f41_P10 f41_b call n) :=
 f41_o2 (piece [1, 1, 1, 1, 1, 1, 1] f41_b) (piece [1, 1, 0, 1, 0, 1] f41_b) call n _ (by kernel_rfl)
def f41_L2 (call : CallF) (n : Nat) : LB → Int → Bool → S_api_Cmd → S_ref06_Got → OR :=
 f41_T2 call n (f41_L9 call n) (f41_L10 call n)
theorem f41_e2 (call : CallF) (n : Nat) : f41_P2 f41_b call n = f41_L2 call n := by
 rw [f41_l2, f41_e9, f41_e10]; rfl
def f41_T (call : CallF) (n : Nat) (j2 : LB → Int → Bool → S_api_Cmd → S_ref06_Got → OR) (a0 : S_api_Cmd) (a1 a2 : LB) : OR :=
 bif (decide (((a1).length : Int) < ((a2).length : Int))) then (
  j2 a1 ((a2).length : Int) true a0 (⟨(⟨(0 : Int), ([] : List UInt8), ([] : List UInt8), ([] : List UInt8), false, (0 : Int), (0 : Int)⟩ : S_api_Cmd), (0 : Int)⟩ : S_ref06_Got)) else (
  bif decide (0 ≤ ((a2).length : Int) ∧ (Int.toNat ((a2).length : Int)) ≤ (a1).length) then (
   callK call 45 [.one (.str ((a1.take (Int.toNat ((a2).length : Int))).drop 0))] fun v11 =>
   oS v11 fun s12 =>
   j2 a1 ((a2).length : Int) (!(s12 == a2)) a0 (⟨(⟨(0 : Int), ([] : List UInt8), ([] : List UInt8), ([] : List UInt8), false, (0 : Int), (0 : Int)⟩ : S_api_Cmd), (0 : Int)⟩ : S_ref06_Got)) else none)
def f41_L (call : CallF) (n : Nat) (a0 : S_api_Cmd) (a1 a2 : LB) : OR :=
 f41_T call n (f41_L2 call n) a0 a1 a2
theorem f41_o (X0 : Code) (call : CallF) (n : Nat) (B : Code) (hB : B = (hole f41_b [1, 1, 0, 1] X0)) : f41_P B call n = f41_T call n (f41_P2 B call n) := by
 subst hB; funext a0 a1 a2; kernel_rfl
theorem f41_l (call : CallF) (n : Nat) : f41_P f41_b call n = f41_T call n (f41_P2 f41_b call n) :=
 f41_o (piece [1, 1, 0, 1] f41_b) call n _ (by kernel_rfl)
theorem f41_e (call : CallF) (n : Nat) : f41_P f41_b call n = f41_L call n := by
 rw [f41_l, f41_e2]; rfl
theorem f41_eq (n : Nat) (a0 : S_api_Cmd) (a1 a2 : LB) : acall AXE AXF (n + 1) 41 [.agg a0.cells, .one (.str a1), .one (.str a2)] [] = f41_L (acall AXE AXF n) (n + 1) a0 a1 a2 :=
 (show _ = f41_P f41_b (acall AXE AXF n) (n + 1) a0 a1 a2 by kernel_rfl).trans (by rw [f41_e])
def f42_P10 (B : Code) (call : CallF) (n : Nat) (m0 : Nat) (x0 x1 : Nat) (x2 x3 : Int) (x4 : LC) : OR :=
 f42_x B call n [1, 1, 0, 1, 0, 0, 1, 1, 1] (kSeq (fun k => prK 1000003 (pruneAt f42_h 1000003) (aloop 1000003 (pruneAt f42_h 1000003) (f42_x B call n [1, 1, 0, 1, 0, 0]) k m0)) (kBlk 0 (kSeq (f42_x B call n [1, 1, 1]) (kEnd AXE 0 f42_r)))) ⟨[(3, .one (.bsl 0 1 x0)), (8, .one (.bsl 0 1 x1)), (9, .one (.int .i64 x2)), (10, .one (.int .i64 x3))], [[.row x4]]⟩
def f42_P11 (B : Code) (call : CallF) (n : Nat) (m0 : Nat) (x0 : Nat) (x1 x2 : Int) (x3 : Nat) (x4 x5 : Int) (x6 : LC) : OR :=
 f42_x B call n [1, 1, 0, 1, 0, 0, 1, 1, 1] (kSeq (fun k => prK 1000003 (pruneAt f42_h 1000003) (aloop 1000003 (pruneAt f42_h 1000003) (f42_x B call n [1, 1, 0, 1, 0, 0]) k m0)) (kBlk 0 (kSeq (f42_x B call n [1, 1, 1]) (kEnd AXE 0 f42_r)))) ⟨[(3, .one (.bsl 0 1 x0)), (4, .one (.int .i64 x1)), (5, .one (.int .u8 x2)), (8, .one (.bsl 0 1 x3)), (9, .one (.int .i64 x4)), (10, .one (.int .i64 x5))], [[.row x6]]⟩
def f42_P9 (B : Code) (call : CallF) (n : Nat) (m0 : Nat) (x0 : Nat) (x1 x2 : Int) (x3 : Nat) (x4 x5 : Int) (x6 : Bool) (x7 : LC) : OR :=
 f42_x B call n [1, 1, 0, 1, 0, 0, 1, 1, 0, 0, 1, 1] (kBlk 1 (kSeq (f42_x B call n [1, 1, 0, 1, 0, 0, 1, 1, 1]) (kSeq (fun k => prK 1000003 (pruneAt f42_h 1000003) (aloop 1000003 (pruneAt f42_h 1000003) (f42_x B call n [1, 1, 0, 1, 0, 0]) k m0)) (kBlk 0 (kSeq (f42_x B call n [1, 1, 1]) (kEnd AXE 0 f42_r)))))) ⟨[(3, .one (.bsl 0 1 x0)), (4, .one (.int .i64 x1)), (5, .one (.int .u8 x2)), (8, .one (.bsl 0 1 x3)), (9, .one (.int .i64 x4)), (10, .one (.int .i64 x5)), (20, .one (.bool x6))], [[.row x7]]⟩
def f42_P3 (B : Code) (call : CallF) (n : Nat) (m0 : Nat) (x0 x1 : Nat) (x2 x3 : Int) (x4 : LC) : OR :=
 aloop 1000003 (pruneAt f42_h 1000003) (f42_x B call n [1, 1, 0, 1, 0, 0]) (kBlk 0 (kSeq (f42_x B call n [1, 1, 1]) (kEnd AXE 0 f42_r))) m0 ⟨[(3, .one (.bsl 0 1 x0)), (8, .one (.bsl 0 1 x1)), (9, .one (.int .i64 x2)), (10, .one (.int .i64 x3))], [[.row x4]]⟩
def f42_P (B : Code) (call : CallF) (n : Nat) (a0 : LB) : OR :=
 f42_x B call n [] (kEnd AXE 0 f42_r) ⟨[(0, .one (.str a0))], []⟩
def f42_T10 (call : CallF) (n : Nat) (j3m : Nat → Nat → Int → Int → LC → OR) (x0 x1 : Nat) (x2 x3 : Int) (x4 : LC) : OR :=
 j3m x0 x1 x2 (IntKind.wrap .i64 (x3 + (1 : Int))) x4
theorem f42_o10 (call : CallF) (n : Nat) (m0 : Nat) (B : Code) (hB : B = f42_b) : f42_P10 B call n m0 = f42_T10 call n (f42_P3 B call n m0) := by
 subst hB; funext x0 x1 x2 x3 x4; kernel_rfl
theorem f42_l10 (call : CallF) (n : Nat) (m0 : Nat) : f42_P10 f42_b call n m0 = f42_T10 call n (f42_P3 f42_b call n m0) :=
 f42_o10 call n m0 _ (by kernel_rfl)
def f42_L10 (call : CallF) (n : Nat) (h_m0 : Nat → Nat → Int → Int → LC → OR) : Nat → Nat → Int → Int → LC → OR :=
 f42_T10 call n h_m0
theorem f42_e10 (call : CallF) (n : Nat) (m0 : Nat) : f42_P10 f42_b call n m0 = f42_L10 call n (f42_P3 f42_b call n m0) := by
 rw [f42_l10]; rfl
def f42_T11 (call : CallF) (n : Nat) (j3m : Nat → Nat → Int → Int → LC → OR) (x0 : Nat) (x1 x2 : Int) (x3 : Nat) (x4 x5 : Int) (x6 : LC) : OR :=
 j3m x0 x3 x4 (IntKind.wrap .i64 (x5 + (1 : Int))) x6
theorem f42_o11 (call : CallF) (n : Nat) (m0 : Nat) (B : Code) (hB : B = f42_b) : f42_P11 B call n m0 = f42_T11 call n (f42_P3 B call n m0) := by
 subst hB; funext x0 x1 x2 x3 x4 x5 x6; kernel_rfl
theorem f42_l11 (call : CallF) (n : Nat) (m0 : Nat) : f42_P11 f42_b call n m0 = f42_T11 call n (f42_P3 f42_b call n m0) :=
 f42_o11 call n m0 _ (by kernel_rfl)
def f42_L11 (call : CallF) (n : Nat) (h_m0 : Nat → Nat → Int → Int → LC → OR) : Nat → Int → Int → Nat → Int → Int → LC → OR :=
 f42_T11 call n h_m0
theorem f42_e11 (call : CallF) (n : Nat) (m0 : Nat) : f42_P11 f42_b call n m0 = f42_L11 call n (f42_P3 f42_b call n m0) := by
 rw [f42_l11]; rfl
def f42_T9 (call : CallF) (n : Nat) (j10 : Nat → Nat → Int → Int → LC → OR) (j11 : Nat → Int → Int → Nat → Int → Int → LC → OR) (x0 : Nat) (x1 x2 : Int) (x3 : Nat) (x4 x5 : Int) (x6 : Bool) (x7 : LC) : OR :=
 bif x6 then (
  guardB (decide (0 ≤ x1) && decide (Int.toNat x1 < x0)) (
   bif Nat.blt ((Int.toNat x1) * 1) x7.length then (
    j10 x0 x3 x4 x5 (x7.set ((Int.toNat x1) * 1) (.int .u8 (IntKind.wrap .u8 ((BitVec.toNat ((BitVec.ofInt (IntKind.bits .u8) x2) &&& ~~~(BitVec.ofInt (IntKind.bits .u8) (32 : Int))) : Nat) : Int))))) else none)) else (
  j11 x0 x1 x2 x3 x4 x5 x7)
theorem f42_o9 (X0 : Code) (call : CallF) (n : Nat) (m0 : Nat) (B : Code) (hB : B = (hole f42_b [1, 1, 0, 1, 0, 0, 1, 1, 1] X0)) : f42_P9 B call n m0 = f42_T9 call n (f42_P10 B call n m0) (f42_P11 B call n m0) := by
 subst hB; funext x0 x1 x2 x3 x4 x5 x6 x7; cases x6 <;> kernel_rfl
theorem f42_l9 (call : CallF) (n : Nat) (m0 : Nat) : f42_P9 f42_b call n m0 = f42_T9 call n (f42_P10 f42_b call n m0) (f42_P11 f42_b call n m0) :=
 f42_o9 (piece [1, 1, 0, 1, 0, 0, 1, 1, 1] f42_b) call n m0 _ (by kernel_rfl)
def f42_L9 (call : CallF) (n : Nat) (h_m0 : Nat → Nat → Int → Int → LC → OR) : Nat → Int → Int → Nat → Int → Int → Bool → LC → OR :=
 f42_T9 call n (f42_L10 call n h_m0) (f42_L11 call n h_m0)
theorem f42_e9 (call : CallF) (n : Nat) (m0 : Nat) : f42_P9 f42_b call n m0 = f42_L9 call n (f42_P3 f42_b call n m0) := by
 rw [f42_l9, f42_e10, f42_e11]; rfl
def f42_T3 (call : CallF) (n : Nat) (j9 : Nat → Int → Int → Nat → Int → Int → Bool → LC → OR) (x0 x1 : Nat) (x2 x3 : Int) (x4 : LC) : OR :=
 bif (decide (x3 < x2)) then (
  guardB (decide (0 ≤ x3) && decide (Int.toNat x3 < x1)) (
   rowAt x4 ((Int.toNat x3) * 1) fun c1 =>
   castI .u8 c1 fun n2 =>
   bif (decide (n2 ≥ (97 : Int))) then (
    j9 x0 x3 n2 x1 x2 x3 (decide (n2 ≤ (122 : Int))) x4) else (
    j9 x0 x3 n2 x1 x2 x3 false x4))) else (
  bif Nat.ble x0 x4.length then (
   bytesK (x4.take x0) fun s3 =>
   some (.one (.str s3), [])) else none)
theorem f42_o3 (X0 : Code) (call : CallF) (n : Nat) (m0 : Nat) (B : Code) (hB : B = (hole f42_b [1, 1, 0, 1, 0, 0, 1, 1, 0, 0, 1, 1] X0)) : f42_P3 B call n (m0 + 1) = f42_T3 call n (f42_P9 B call n m0) := by
 subst hB; funext x0 x1 x2 x3 x4; kernel_rfl
theorem f42_l3 (call : CallF) (n : Nat) (m0 : Nat) : f42_P3 f42_b call n (m0 + 1) = f42_T3 call n (f42_P9 f42_b call n m0) :=
 f42_o3 (piece [1, 1, 0, 1, 0, 0, 1, 1, 0, 0, 1, 1] f42_b) call n m0 _ (by kernel_rfl)
def f42_L3 (call : CallF) (n : Nat) : Nat → Nat → Nat → Int → Int → LC → OR
 | 0 => fun _ _ _ _ _ => none
 | m0 + 1 => f42_T3 call n (f42_L9 call n (f42_L3 call n m0))
theorem f42_e3 (call : CallF) (n : Nat) : ∀ m0 : Nat, f42_P3 f42_b call n m0 = f42_L3 call n m0
 | 0 => by funext x0 x1 x2 x3 x4; kernel_rfl
 | m0 + 1 => by rw [f42_l3, f42_e9, f42_e3 call n m0]; rfl
def f42_T (call : CallF) (n : Nat) (j3n : Nat → Nat → Int → Int → LC → OR) (a0 : LB) : OR :=
 j3n (a0.length) (a0.length) ((a0.length) : Int) (0 : Int) (byteCells a0)
def f42_L (call : CallF) (n : Nat) (a0 : LB) : OR :=
 f42_T call n (f42_L3 call n n) a0
theorem f42_o (call : CallF) (n : Nat) (B : Code) (hB : B = f42_b) : f42_P B call n = f42_T call n (f42_P3 B call n n) := by
 subst hB; funext a0; kernel_rfl
theorem f42_l (call : CallF) (n : Nat) : f42_P f42_b call n = f42_T call n (f42_P3 f42_b call n n) :=
 f42_o call n _ (by kernel_rfl)
theorem f42_e (call : CallF) (n : Nat) : f42_P f42_b call n = f42_L call n := by
 rw [f42_l, f42_e3]; rfl
theorem f42_eq (n : Nat) (a0 : LB) : acall AXE AXF (n + 1) 42 [.one (.str a0)] [] = f42_L (acall AXE AXF n) (n + 1) a0 :=
 (show _ = f42_P f42_b (acall AXE AXF n) (n + 1) a0 by kernel_rfl).trans (by rw [f42_e])
def f43_P (B : Code) (call : CallF) (n : Nat) : OR :=
 f43_x B call n [] (kEnd AXE 0 f43_r) ⟨[], []⟩
def f43_T (call : CallF) (n : Nat) : OR :=
 some (.one (.sl (some ⟨0, 0, 9⟩) 1 ([.str ([] : List UInt8), .str ([72, 69, 76, 79] : List UInt8), .str ([69, 72, 76, 79] : List UInt8), .str ([76, 72, 76, 79] : List UInt8), .str ([77, 65, 73, 76] : List UInt8), .str ([82, 67, 80, 84] : List UInt8), .str ([68, 65, 84, 65] : List UInt8), .str ([82, 83, 69, 84] : List UInt8), .str ([78, 79, 79, 80] : List UInt8), .str ([81, 85, 73, 84] : List UInt8), .str ([86, 82, 70, 89] : List UInt8), .str ([72, 69, 76, 80] : List UInt8)] : List Cell)), [])
def f43_L (call : CallF) (n : Nat) : OR :=
 f43_T call n
theorem f43_o (call : CallF) (n : Nat) (B : Code) (hB : B = f43_b) : f43_P B call n = f43_T call n := by
 subst hB; kernel_rfl
theorem f43_l (call : CallF) (n : Nat) : f43_P f43_b call n = f43_T call n :=
 f43_o call n _ (by kernel_rfl)
theorem f43_e (call : CallF) (n : Nat) : f43_P f43_b call n = f43_L call n := by
 rw [f43_l]; rfl
theorem f43_eq (n : Nat) : acall AXE AXF (n + 1) 43 [] [] = f43_L (acall AXE AXF n) (n + 1) :=
 (show _ = f43_P f43_b (acall AXE AXF n) (n + 1) by kernel_rfl).trans (by rw [f43_e])
def f44_P (B : Code) (call : CallF) (n : Nat) (a0 : Int) : OR :=
 f44_x B call n [] (kEnd AXE 0 f44_r) ⟨[(0, .one (.int .i64 a0))], []⟩
def f44_T (call : CallF) (n : Nat) (a0 : Int) : OR :=
 itemK ([.str ([] : List UInt8), .str ([72, 69, 76, 79] : List UInt8), .str ([69, 72, 76, 79] : List UInt8), .str ([76, 72, 76, 79] : List UInt8), .str ([77, 65, 73, 76] : List UInt8), .str ([82, 67, 80, 84] : List UInt8), .str ([68, 65, 84, 65] : List UInt8), .str ([82, 83, 69, 84] : List UInt8), .str ([78, 79, 79, 80] : List UInt8), .str ([81, 85, 73, 84] : List UInt8), .str ([86, 82, 70, 89] : List UInt8), .str ([72, 69, 76, 80] : List UInt8)] : List Cell) a0 fun c3 =>
 castS c3 fun s4 =>
 some (.one (.str s4), [])
def f44_L (call : CallF) (n : Nat) (a0 : Int) : OR :=
 f44_T call n a0
theorem f44_o (call : CallF) (n : Nat) (B : Code) (hB : B = f44_b) : f44_P B call n = f44_T call n := by
 subst hB; funext a0; kernel_rfl
theorem f44_l (call : CallF) (n : Nat) : f44_P f44_b call n = f44_T call n :=
 f44_o call n _ (by kernel_rfl)
theorem f44_e (call : CallF) (n : Nat) : f44_P f44_b call n = f44_L call n := by
 rw [f44_l]; rfl
theorem f44_eq (n : Nat) (a0 : Int) : acall AXE AXF (n + 1) 44 [.one (.int .i64 a0)] [] = f44_L (acall AXE AXF n) (n + 1) a0 :=
 (show _ = f44_P f44_b (acall AXE AXF n) (n + 1) a0 by kernel_rfl).trans (by rw [f44_e])
def f45_P11 (B : Code) (call : CallF) (n : Nat) (m0 : Nat) (x0 : LB) (x1 : LC) (x2 : Int) : OR :=
 f45_x B call n [1, 1, 0, 1, 0, 0, 1, 1] (kSeq (fun k => prK 1000003 (pruneAt f45_h 1000003) (aloop 1000003 (pruneAt f45_h 1000003) (f45_x B call n [1, 1, 0, 1, 0, 0]) k m0)) (kBlk 0 (kSeq (f45_x B call n [1, 1, 1]) (kEnd AXE 0 f45_r)))) ⟨[(0, .one (.str x0)), (3, .one (.sl (some ⟨3, 0, 5⟩) 1 x1)), (4, .one (.int .i64 x2))], []⟩
def f45_P10 (B : Code) (call : CallF) (n : Nat) (m0 : Nat) (x0 : LB) (x1 : LC) (x2 x3 : Int) : OR :=
 f45_x B call n [1, 1, 0, 1, 0, 0, 1, 0, 0, 1, 1] (kBlk 1 (kSeq (f45_x B call n [1, 1, 0, 1, 0, 0, 1, 1]) (kSeq (fun k => prK 1000003 (pruneAt f45_h 1000003) (aloop 1000003 (pruneAt f45_h 1000003) (f45_x B call n [1, 1, 0, 1, 0, 0]) k m0)) (kBlk 0 (kSeq (f45_x B call n [1, 1, 1]) (kEnd AXE 0 f45_r)))))) ⟨[(0, .one (.str x0)), (3, .one (.sl (some ⟨3, 0, 5⟩) 1 x1)), (4, .one (.int .i64 x2)), (5, .one (.int .u8 x3))], []⟩
def f45_P9 (B : Code) (call : CallF) (n : Nat) (m0 : Nat) (x0 : LB) (x1 : LC) (x2 x3 : Int) (x4 : Bool) : OR :=
 f45_x B call n [1, 1, 0, 1, 0, 0, 1, 0, 0, 1, 0, 1] (kSeq (f45_x B call n [1, 1, 0, 1, 0, 0, 1, 0, 0, 1, 1]) (kBlk 1 (kSeq (f45_x B call n [1, 1, 0, 1, 0, 0, 1, 1]) (kSeq (fun k => prK 1000003 (pruneAt f45_h 1000003) (aloop 1000003 (pruneAt f45_h 1000003) (f45_x B call n [1, 1, 0, 1, 0, 0]) k m0)) (kBlk 0 (kSeq (f45_x B call n [1, 1, 1]) (kEnd AXE 0 f45_r))))))) ⟨[(0, .one (.str x0)), (3, .one (.sl (some ⟨3, 0, 5⟩) 1 x1)), (4, .one (.int .i64 x2)), (5, .one (.int .u8 x3)), (20, .one (.bool x4))], []⟩
def f45_P3 (B : Code) (call : CallF) (n : Nat) (m0 : Nat) (x0 : LB) (x1 : LC) (x2 : Int) : OR :=
 aloop 1000003 (pruneAt f45_h 1000003) (f45_x B call n [1, 1, 0, 1, 0, 0]) (kBlk 0 (kSeq (f45_x B call n [1, 1, 1]) (kEnd AXE 0 f45_r))) m0 ⟨[(0, .one (.str x0)), (3, .one (.sl (some ⟨3, 0, 5⟩) 1 x1)), (4, .one (.int .i64 x2))], []⟩
def f45_P (B : Code) (call : CallF) (n : Nat) (a0 : LB) : OR :=
 f45_x B call n [] (kEnd AXE 0 f45_r) ⟨[(0, .one (.str a0))], []⟩
def f45_T11 (call : CallF) (n : Nat) (j3m : LB → LC → Int → OR) (x0 : LB) (x1 : LC) (x2 : Int) : OR :=
 j3m x0 x1 (IntKind.wrap .i64 (x2 + (1 : Int)))
theorem f45_o11 (call : CallF) (n : Nat) (m0 : Nat) (B : Code) (hB : B = f45_b) : f45_P11 B call n m0 = f45_T11 call n (f45_P3 B call n m0) := by
 subst hB; funext x0 x1 x2; kernel_rfl
theorem f45_l11 (call : CallF) (n : Nat) (m0 : Nat) : f45_P11 f45_b call n m0 = f45_T11 call n (f45_P3 f45_b call n m0) :=
 f45_o11 call n m0 _ (by kernel_rfl)
def f45_L11 (call : CallF) (n : Nat) (h_m0 : LB → LC → Int → OR) : LB → LC → Int → OR :=
 f45_T11 call n h_m0
theorem f45_e11 (call : CallF) (n : Nat) (m0 : Nat) : f45_P11 f45_b call n m0 = f45_L11 call n (f45_P3 f45_b call n m0) := by
 rw [f45_l11]; rfl
def f45_T10 (call : CallF) (n : Nat) (j11 : LB → LC → Int → OR) (x0 : LB) (x1 : LC) (x2 x3 : Int) : OR :=
 guardB (decide (((x1).length + (([.int .u8 x3] : List Cell)).length) * 1000 ≤ rowLim)) (
  j11 x0 (x1 ++ ([.int .u8 x3] : List Cell)) x2)
theorem f45_o10 (X0 : Code) (call : CallF) (n : Nat) (m0 : Nat) (B : Code) (hB : B = (hole f45_b [1, 1, 0, 1, 0, 0, 1, 1] X0)) : f45_P10 B call n m0 = f45_T10 call n (f45_P11 B call n m0) := by
 subst hB; funext x0 x1 x2 x3; kernel_rfl
theorem f45_l10 (call : CallF) (n : Nat) (m0 : Nat) : f45_P10 f45_b call n m0 = f45_T10 call n (f45_P11 f45_b call n m0) :=
 f45_o10 (piece [1, 1, 0, 1, 0, 0, 1, 1] f45_b) call n m0 _ (by kernel_rfl)
def f45_L10 (call : CallF) (n : Nat) (h_m0 : LB → LC → Int → OR) : LB → LC → Int → Int → OR :=
 f45_T10 call n (f45_L11 call n h_m0)
theorem f45_e10 (call : CallF) (n : Nat) (m0 : Nat) : f45_P10 f45_b call n m0 = f45_L10 call n (f45_P3 f45_b call n m0) := by
 rw [f45_l10, f45_e11]; rfl
def f45_T9 (call : CallF) (n : Nat) (j10 : LB → LC → Int → Int → OR) (x0 : LB) (x1 : LC) (x2 x3 : Int) (x4 : Bool) : OR :=
 bif x4 then (
  j10 x0 x1 x2 (IntKind.wrap .u8 (x3 - (32 : Int)))) else (
  j10 x0 x1 x2 x3)
theorem f45_o9 (X0 : Code) (call : CallF) (n : Nat) (m0 : Nat) (B : Code) (hB : B = (hole f45_b [1, 1, 0, 1, 0, 0, 1, 0, 0, 1, 1] X0)) : f45_P9 B call n m0 = f45_T9 call n (f45_P10 B call n m0) := by
 subst hB; funext x0 x1 x2 x3 x4; cases x4 <;> kernel_rfl
theorem f45_l9 (call : CallF) (n : Nat) (m0 : Nat) : f45_P9 f45_b call n m0 = f45_T9 call n (f45_P10 f45_b call n m0) :=
 f45_o9 (piece [1, 1, 0, 1, 0, 0, 1, 0, 0, 1, 1] f45_b) call n m0 _ (by kernel_rfl)
def f45_L9 (call : CallF) (n : Nat) (h_m0 : LB → LC → Int → OR) : LB → LC → Int → Int → Bool → OR :=
 f45_T9 call n (f45_L10 call n h_m0)
theorem f45_e9 (call : CallF) (n : Nat) (m0 : Nat) : f45_P9 f45_b call n m0 = f45_L9 call n (f45_P3 f45_b call n m0) := by
 rw [f45_l9, f45_e10]; rfl
def f45_T3 (call : CallF) (n : Nat) (j9 : LB → LC → Int → Int → Bool → OR) (x0 : LB) (x1 : LC) (x2 : Int) : OR :=
 bif (decide (x2 < ((x0).length : Int))) then (
  itemK x0 x2 fun u1 =>
  bif (decide ((UInt8.toNat u1 : Int) ≥ (97 : Int))) then (
   j9 x0 x1 x2 (UInt8.toNat u1 : Int) (decide ((UInt8.toNat u1 : Int) ≤ (122 : Int)))) else (
   j9 x0 x1 x2 (UInt8.toNat u1 : Int) false)) else (
  bytesK x1 fun s2 =>
  some (.one (.str s2), []))
theorem f45_o3 (X0 : Code) (call : CallF) (n : Nat) (m0 : Nat) (B : Code) (hB : B = (hole f45_b [1, 1, 0, 1, 0, 0, 1, 0, 0, 1, 0, 1] X0)) : f45_P3 B call n (m0 + 1) = f45_T3 call n (f45_P9 B call n m0) := by
 subst hB; funext x0 x1 x2; kernel_rfl
theorem f45_l3 (call : CallF) (n : Nat) (m0 : Nat) : f45_P3 f45_b call n (m0 + 1) = f45_T3 call n (f45_P9 f45_b call n m0) :=
 f45_o3 (piece [1, 1, 0, 1, 0, 0, 1, 0, 0, 1, 0, 1] f45_b) call n m0 _ (by kernel_rfl)
def f45_L3 (call : CallF) (n : Nat) : Nat → LB → LC → Int → OR
 | 0 => fun _ _ _ => none
 | m0 + 1 => f45_T3 call n (f45_L9 call n (f45_L3 call n m0))
theorem f45_e3 (call : CallF) (n : Nat) : ∀ m0 : Nat, f45_P3 f45_b call n m0 = f45_L3 call n m0
 | 0 => by funext x0 x1 x2; kernel_rfl
 | m0 + 1 => by rw [f45_l3, f45_e9, f45_e3 call n m0]; rfl
def f45_T (call : CallF) (n : Nat) (j3n : LB → LC → Int → OR) (a0 : LB) : OR :=
 j3n a0 ([] : List Cell) (0 : Int)
def f45_L (call : CallF) (n : Nat) (a0 : LB) : OR :=
 f45_T call n (f45_L3 call n n) a0
theorem f45_o (call : CallF) (n : Nat) (B : Code) (hB : B = f45_b) : f45_P B call n = f45_T call n (f45_P3 B call n n) := by
 subst hB; funext a0; kernel_rfl
theorem f45_l (call : CallF) (n : Nat) : f45_P f45_b call n = f45_T call n (f45_P3 f45_b call n n) :=
 f45_o call n _ (by kernel_rfl)
theorem f45_e (call : CallF) (n : Nat) : f45_P f45_b call n = f45_L call n := by
 rw [f45_l, f45_e3]; rfl
theorem f45_eq (n : Nat) (a0 : LB) : acall AXE AXF (n + 1) 45 [.one (.str a0)] [] = f45_L (acall AXE AXF n) (n + 1) a0 :=
 (show _ = f45_P f45_b (acall AXE AXF n) (n + 1) a0 by kernel_rfl).trans (by rw [f45_e])
def f49_P5 (B : Code) (call : CallF) (n : Nat) (m0 : Nat) (x0 : Int) (x1 : LB) : OR :=
 aloop 1000004 (pruneAt f49_h 1000004) (f49_x B call n [1, 1, 1, 0, 0, 0]) (kBlk 0 (kSeq (f49_x B call n [1, 1, 1, 1]) (kEnd AXE 0 f49_r))) m0 ⟨[(0, .one (.int .i64 x0)), (3, .one (.str x1))], []⟩
def f49_P (B : Code) (call : CallF) (n : Nat) (a0 : Int) : OR :=
 f49_x B call n [] (kEnd AXE 0 f49_r) ⟨[(0, .one (.int .i64 a0))], []⟩
def f49_T5 (call : CallF) (n : Nat) (j5m : Int → LB → OR) (x0 : Int) (x1 : LB) : OR :=
 bif (decide (x0 ≥ (10 : Int))) then (
  bytesK ([.int .u8 (IntKind.wrap .u8 (IntKind.wrap .i64 ((48 : Int) + (Int.tmod (IntKind.wrap .i64 (Int.tdiv x0 (10 : Int))) (10 : Int)))))] : List Cell) fun s1 =>
  bif decide ((s1).length + (x1).length ≤ strLim) then (
   j5m (IntKind.wrap .i64 (Int.tdiv x0 (10 : Int))) (s1 ++ x1)) else none) else (
  some (.one (.str x1), []))
theorem f49_o5 (call : CallF) (n : Nat) (m0 : Nat) (B : Code) (hB : B = f49_b) : f49_P5 B call n (m0 + 1) = f49_T5 call n (f49_P5 B call n m0) := by
 subst hB; funext x0 x1; kernel_rfl
theorem f49_l5 (call : CallF) (n : Nat) (m0 : Nat) : f49_P5 f49_b call n (m0 + 1) = f49_T5 call n (f49_P5 f49_b call n m0) :=
 f49_o5 call n m0 _ (by kernel_rfl)
def f49_L5 (call : CallF) (n : Nat) : Nat → Int → LB → OR
 | 0 => fun _ _ => none
 | m0 + 1 => f49_T5 call n (f49_L5 call n m0)
theorem f49_e5 (call : CallF) (n : Nat) : ∀ m0 : Nat, f49_P5 f49_b call n m0 = f49_L5 call n m0
 | 0 => by funext x0 x1; kernel_rfl
 | m0 + 1 => by rw [f49_l5, f49_e5 call n m0]; rfl
def f49_T (call : CallF) (n : Nat) (j5n : Int → LB → OR) (a0 : Int) : OR :=
 bif (decide (a0 < (0 : Int))) then (
  some (.one (.str ([45] : List UInt8)), [])) else (
  bytesK ([.int .u8 (IntKind.wrap .u8 (IntKind.wrap .i64 ((48 : Int) + (Int.tmod a0 (10 : Int)))))] : List Cell) fun s3 =>
  j5n a0 s3)
def f49_L (call : CallF) (n : Nat) (a0 : Int) : OR :=
 f49_T call n (f49_L5 call n n) a0
theorem f49_o (call : CallF) (n : Nat) (B : Code) (hB : B = f49_b) : f49_P B call n = f49_T call n (f49_P5 B call n n) := by
 subst hB; funext a0; kernel_rfl
theorem f49_l (call : CallF) (n : Nat) : f49_P f49_b call n = f49_T call n (f49_P5 f49_b call n n) :=
 f49_o call n _ (by kernel_rfl)
theorem f49_e (call : CallF) (n : Nat) : f49_P f49_b call n = f49_L call n := by
 rw [f49_l, f49_e5]; rfl
theorem f49_eq (n : Nat) (a0 : Int) : acall AXE AXF (n + 1) 49 [.one (.int .i64 a0)] [] = f49_L (acall AXE AXF n) (n + 1) a0 :=
 (show _ = f49_P f49_b (acall AXE AXF n) (n + 1) a0 by kernel_rfl).trans (by rw [f49_e])
def f72_P18 (B : Code) (call : CallF) (n : Nat) (m0 : Nat) (x0 : Int) (x1 : S_api_Cmd) : OR :=
 f72_x B call n [1, 1, 0, 1, 0, 0, 1, 1, 0, 0, 1, 1, 1, 0, 1, 0, 1] (kSeq (f72_x B call n [1, 1, 0, 1, 0, 0, 1, 1, 0, 0, 1, 1, 1, 1]) (kBlk 1 (kSeq (f72_x B call n [1, 1, 0, 1, 0, 0, 1, 1, 1]) (kSeq (fun k => prK 1000003 (pruneAt f72_h 1000003) (aloop 1000003 (pruneAt f72_h 1000003) (f72_x B call n [1, 1, 0, 1, 0, 0]) k m0)) (kBlk 0 (kSeq (f72_x B call n [1, 1, 1]) (kEnd AXE 1 f72_r))))))) ⟨[(4, .one (.int .i64 x0))], [x1.cells]⟩
def f72_P20 (B : Code) (call : CallF) (n : Nat) (m0 : Nat) (x0 : Int) (x1 : S_api_Cmd) : OR :=
 f72_x B call n [1, 1, 0, 1, 0, 0, 1, 1, 0, 0, 1, 1, 1, 1, 1, 1, 1, 1, 0, 1] (kBlk 1 (kSeq (f72_x B call n [1, 1, 0, 1, 0, 0, 1, 1, 1]) (kSeq (fun k => prK 1000003 (pruneAt f72_h 1000003) (aloop 1000003 (pruneAt f72_h 1000003) (f72_x B call n [1, 1, 0, 1, 0, 0]) k m0)) (kBlk 0 (kSeq (f72_x B call n [1, 1, 1]) (kEnd AXE 1 f72_r)))))) ⟨[(4, .one (.int .i64 x0))], [x1.cells]⟩
def f72_P21 (B : Code) (call : CallF) (n : Nat) (m0 : Nat) (x0 : Int) (x1 : LC) (x2 x3 : Int) (x4 : S_api_Cmd) (x5 : Nat) (x6 : List (Cell × Cell × Nat)) : OR :=
 f72_x B call n [1, 1, 0, 1, 0, 0, 1, 1, 1] (kSeq (fun k => prK 1000003 (pruneAt f72_h 1000003) (aloop 1000003 (pruneAt f72_h 1000003) (f72_x B call n [1, 1, 0, 1, 0, 0]) k m0)) (kBlk 0 (kSeq (f72_x B call n [1, 1, 1]) (kEnd AXE 1 f72_r)))) ⟨[(0, .one (.ptr 0 0)), (5, .one (.mapr 1)), (11, .one (.int .i64 x0)), (13, .one (.sl none 1 x1)), (14, .one (.int .i64 x2)), (15, .one (.int .i64 x3))], [x4.cells, [.map x5 x6]]⟩
def f72_P19 (B : Code) (call : CallF) (n : Nat) (m0 : Nat) (x0 : Int) (x1 : LC) (x2 x3 : Int) (x4 : Bool) (x5 : S_api_Cmd) (x6 : Nat) (x7 : List (Cell × Cell × Nat)) : OR :=
 f72_x B call n [1, 1, 0, 1, 0, 0, 1, 1, 0, 0, 1, 1, 1, 1, 1, 1, 1, 1] (kBlk 1 (kSeq (f72_x B call n [1, 1, 0, 1, 0, 0, 1, 1, 1]) (kSeq (fun k => prK 1000003 (pruneAt f72_h 1000003) (aloop 1000003 (pruneAt f72_h 1000003) (f72_x B call n [1, 1, 0, 1, 0, 0]) k m0)) (kBlk 0 (kSeq (f72_x B call n [1, 1, 1]) (kEnd AXE 1 f72_r)))))) ⟨[(0, .one (.ptr 0 0)), (5, .one (.mapr 1)), (11, .one (.int .i64 x0)), (13, .one (.sl none 1 x1)), (14, .one (.int .i64 x2)), (15, .one (.int .i64 x3)), (58, .one (.bool x4))], [x5.cells, [.map x6 x7]]⟩
def f72_P11 (B : Code) (call : CallF) (n : Nat) (m0 : Nat) (x0 x1 : LB) (x2 : LC) (x3 x4 : Int) (x5 : Bool) (x6 : S_api_Cmd) (x7 : Nat) (x8 : List (Cell × Cell × Nat)) : OR :=
 f72_x B call n [1, 1, 0, 1, 0, 0, 1, 1, 0, 0, 1, 1, 1, 0, 1] (kSeq (f72_x B call n [1, 1, 0, 1, 0, 0, 1, 1, 0, 0, 1, 1, 1, 1]) (kBlk 1 (kSeq (f72_x B call n [1, 1, 0, 1, 0, 0, 1, 1, 1]) (kSeq (fun k => prK 1000003 (pruneAt f72_h 1000003) (aloop 1000003 (pruneAt f72_h 1000003) (f72_x B call n [1, 1, 0, 1, 0, 0]) k m0)) (kBlk 0 (kSeq (f72_x B call n [1, 1, 1]) (kEnd AXE 1 f72_r))))))) ⟨[(0, .one (.ptr 0 0)), (5, .one (.mapr 1)), (8, .one (.str x0)), (9, .one (.str x1)), (13, .one (.sl none 1 x2)), (14, .one (.int .i64 x3)), (15, .one (.int .i64 x4)), (43, .one (.bool x5))], [x6.cells, [.map x7 x8]]⟩
def f72_P3 (B : Code) (call : CallF) (n : Nat) (m0 : Nat) (x0 : LC) (x1 x2 : Int) (x3 : S_api_Cmd) (x4 : Nat) (x5 : List (Cell × Cell × Nat)) : OR :=
 aloop 1000003 (pruneAt f72_h 1000003) (f72_x B call n [1, 1, 0, 1, 0, 0]) (kBlk 0 (kSeq (f72_x B call n [1, 1, 1]) (kEnd AXE 1 f72_r))) m0 ⟨[(0, .one (.ptr 0 0)), (5, .one (.mapr 1)), (13, .one (.sl none 1 x0)), (14, .one (.int .i64 x1)), (15, .one (.int .i64 x2))], [x3.cells, [.map x4 x5]]⟩
def f72_P (B : Code) (call : CallF) (n : Nat) (a0 : S_api_Cmd) (a1 : LC) : OR :=
 f72_x B call n [] (kEnd AXE 1 f72_r) ⟨[(0, .one (.ptr 0 0)), (1, .one (.sl none 1 a1))], [a0.cells]⟩
def f72_T18 (call : CallF) (n : Nat) (x0 : Int) (x1 : S_api_Cmd) : OR :=
 some (.one (.int .i64 x0), [x1.cells])
theorem f72_o18 (call : CallF) (n : Nat) (m0 : Nat) (B : Code) (hB : B = f72_b) : f72_P18 B call n m0 = f72_T18 call n := by
 subst hB; funext x0 x1; kernel_rfl
theorem f72_l18 (call : CallF) (n : Nat) (m0 : Nat) : f72_P18 f72_b call n m0 = f72_T18 call n :=
 f72_o18 call n m0 _ (by kernel_rfl)
def f72_L18 (call : CallF) (n : Nat) (h_m0 : LC → Int → Int → S_api_Cmd → Nat → List (Cell × Cell × Nat) → OR) : Int → S_api_Cmd → OR :=
 f72_T18 call n
theorem f72_e18 (call : CallF) (n : Nat) (m0 : Nat) : f72_P18 f72_b call n m0 = f72_L18 call n (f72_P3 f72_b call n m0) := by
 rw [f72_l18]; rfl
def f72_T20 (call : CallF) (n : Nat) (x0 : Int) (x1 : S_api_Cmd) : OR :=
 some (.one (.int .i64 x0), [x1.cells])
theorem f72_o20 (call : CallF) (n : Nat) (m0 : Nat) (B : Code) (hB : B = f72_b) : f72_P20 B call n m0 = f72_T20 call n := by
 subst hB; funext x0 x1; kernel_rfl
theorem f72_l20 (call : CallF) (n : Nat) (m0 : Nat) : f72_P20 f72_b call n m0 = f72_T20 call n :=
 f72_o20 call n m0 _ (by kernel_rfl)
def f72_L20 (call : CallF) (n : Nat) (h_m0 : LC → Int → Int → S_api_Cmd → Nat → List (Cell × Cell × Nat) → OR) : Int → S_api_Cmd → OR :=
 f72_T20 call n
theorem f72_e20 (call : CallF) (n : Nat) (m0 : Nat) : f72_P20 f72_b call n m0 = f72_L20 call n (f72_P3 f72_b call n m0) := by
 rw [f72_l20]; rfl
def f72_T21 (call : CallF) (n : Nat) (j3m : LC → Int → Int → S_api_Cmd → Nat → List (Cell × Cell × Nat) → OR) (x0 : Int) (x1 : LC) (x2 x3 : Int) (x4 : S_api_Cmd) (x5 : Nat) (x6 : List (Cell × Cell × Nat)) : OR :=
 j3m x1 x2 (IntKind.wrap .i64 (x3 + (1 : Int))) x4 x5 x6
theorem f72_o21 (call : CallF) (n : Nat) (m0 : Nat) (B : Code) (hB : B = f72_b) : f72_P21 B call n m0 = f72_T21 call n (f72_P3 B call n m0) := by
 subst hB; funext x0 x1 x2 x3 x4 x5 x6; kernel_rfl
theorem f72_l21 (call : CallF) (n : Nat) (m0 : Nat) : f72_P21 f72_b call n m0 = f72_T21 call n (f72_P3 f72_b call n m0) :=
 f72_o21 call n m0 _ (by kernel_rfl)
def f72_L21 (call : CallF) (n : Nat) (h_m0 : LC → Int → Int → S_api_Cmd → Nat → List (Cell × Cell × Nat) → OR) : Int → LC → Int → Int → S_api_Cmd → Nat → List (Cell × Cell × Nat) → OR :=
 f72_T21 call n h_m0
theorem f72_e21 (call : CallF) (n : Nat) (m0 : Nat) : f72_P21 f72_b call n m0 = f72_L21 call n (f72_P3 f72_b call n m0) := by
 rw [f72_l21]; rfl
def f72_T19 (call : CallF) (n : Nat) (j20 : Int → S_api_Cmd → OR) (j21 : Int → LC → Int → Int → S_api_Cmd → Nat → List (Cell × Cell × Nat) → OR) (x0 : Int) (x1 : LC) (x2 x3 : Int) (x4 : Bool) (x5 : S_api_Cmd) (x6 : Nat) (x7 : List (Cell × Cell × Nat)) : OR :=
 bif x4 then (
  j20 x0 x5) else (
  j21 x0 x1 x2 x3 x5 x6 x7)
theorem f72_o19 (X0 X1 : Code) (call : CallF) (n : Nat) (m0 : Nat) (B : Code) (hB : B = (hole (hole f72_b [1, 1, 0, 1, 0, 0, 1, 1, 0, 0, 1, 1, 1, 1, 1, 1, 1, 1, 0, 1] X0) [1, 1, 0, 1, 0, 0, 1, 1, 1] X1)) : f72_P19 B call n m0 = f72_T19 call n (f72_P20 B call n m0) (f72_P21 B call n m0) := by
 subst hB; funext x0 x1 x2 x3 x4 x5 x6 x7; cases x4 <;> kernel_rfl
theorem f72_l19 (call : CallF) (n : Nat) (m0 : Nat) : f72_P19 f72_b call n m0 = f72_T19 call n (f72_P20 f72_b call n m0) (f72_P21 f72_b call n m0) :=
 f72_o19 (piece [1, 1, 0, 1, 0, 0, 1, 1, 0, 0, 1, 1, 1, 1, 1, 1, 1, 1, 0, 1] f72_b) (piece [1, 1, 0, 1, 0, 0, 1, 1, 1] f72_b) call n m0 _ (by kernel_rfl)
def f72_L19 (call : CallF) (n : Nat) (h_m0 : LC → Int → Int → S_api_Cmd → Nat → List (Cell × Cell × Nat) → OR) : Int → LC → Int → Int → Bool → S_api_Cmd → Nat → List (Cell × Cell × Nat) → OR :=
 f72_T19 call n (f72_L20 call n h_m0) (f72_L21 call n h_m0)
theorem f72_e19 (call : CallF) (n : Nat) (m0 : Nat) : f72_P19 f72_b call n m0 = f72_L19 call n (f72_P3 f72_b call n m0) := by
 rw [f72_l19, f72_e20, f72_e21]; rfl
def f72_T11 (call : CallF) (n : Nat) (j18 : Int → S_api_Cmd → OR) (j19 : Int → LC → Int → Int → Bool → S_api_Cmd → Nat → List (Cell × Cell × Nat) → OR) (x0 x1 : LB) (x2 : LC) (x3 x4 : Int) (x5 : Bool) (x6 : S_api_Cmd) (x7 : Nat) (x8 : List (Cell × Cell × Nat)) : OR :=
 bif x5 then (
  j18 (501 : Int) x6) else (
  lookK (.str x0) x8 (.int .i64 (0 : Int)) fun c1 t2 =>
  castI .i64 c1 fun n3 =>
  updK (.str x0) (.int .i64 (IntKind.wrap .i64 (n3 + (1 : Int)))) x7 x8 fun k4 m5 =>
  bif (x6.fVerb == (4 : Int)) then (
   callRK call 101 [.one (.ptr 0 0), .one (.str x0), .one (.str x1)] [x6.cells] fun v6 h7 =>
   consK h7 fun r8 h9 =>
   takeS_api_Cmd r8 fun w10 r11 =>
   nilK r11 (
    nilK h9 (
     oI .i64 v6 fun n12 =>
     j19 n12 x2 x3 x4 (n12 != (0 : Int)) w10 k4 m5))) else (
   j19 (555 : Int) x2 x3 x4 true x6 k4 m5))
theorem f72_o11 (X0 X1 : Code) (call : CallF) (n : Nat) (m0 : Nat) (B : Code) (hB : B = (hole (hole f72_b [1, 1, 0, 1, 0, 0, 1, 1, 0, 0, 1, 1, 1, 1, 1, 1, 1, 1] X0) [1, 1, 0, 1, 0, 0, 1, 1, 0, 0, 1, 1, 1, 0, 1, 0, 1] X1)) : f72_P11 B call n m0 = f72_T11 call n (f72_P18 B call n m0) (f72_P19 B call n m0) := by
 subst hB; funext x0 x1 x2 x3 x4 x5 x6 x7 x8; cases x5 <;> kernel_rfl
theorem f72_l11 (call : CallF) (n : Nat) (m0 : Nat) : f72_P11 f72_b call n m0 = f72_T11 call n (f72_P18 f72_b call n m0) (f72_P19 f72_b call n m0) :=
 f72_o11 (piece [1, 1, 0, 1, 0, 0, 1, 1, 0, 0, 1, 1, 1, 1, 1, 1, 1, 1] f72_b) (piece [1, 1, 0, 1, 0, 0, 1, 1, 0, 0, 1, 1, 1, 0, 1, 0, 1] f72_b) call n m0 _ (by kernel_rfl)
def f72_L11 (call : CallF) (n : Nat) (h_m0 : LC → Int → Int → S_api_Cmd → Nat → List (Cell × Cell × Nat) → OR) : LB → LB → LC → Int → Int → Bool → S_api_Cmd → Nat → List (Cell × Cell × Nat) → OR :=
 f72_T11 call n (f72_L18 call n h_m0) (f72_L19 call n h_m0)
theorem f72_e11 (call : CallF) (n : Nat) (m0 : Nat) : f72_P11 f72_b call n m0 = f72_L11 call n (f72_P3 f72_b call n m0) := by
 rw [f72_l11, f72_e18, f72_e19]; rfl
def f72_T3 (call : CallF) (n : Nat) (j11 : LB → LB → LC → Int → Int → Bool → S_api_Cmd → Nat → List (Cell × Cell × Nat) → OR) (x0 : LC) (x1 x2 : Int) (x3 : S_api_Cmd) (x4 : Nat) (x5 : List (Cell × Cell × Nat)) : OR :=
 bif (decide (x2 < x1)) then (
  itemK x0 x2 fun c1 =>
  castS c1 fun s2 =>
  primK pCut [.one (.str s2), .one (.str ([61] : List UInt8))] fun v3 =>
  castTup v3 fun v4 =>
  zS v4 fun s5 r6 =>
  zS r6 fun s7 r8 =>
  zB r8 fun b9 r10 =>
  nilK r10 (
   callK call 42 [.one (.str s5)] fun v11 =>
   oS v11 fun s12 =>
   callK call 99 [.one (.str s12)] fun v13 =>
   oB v13 fun b14 =>
   bif (!b14) then (
    j11 s12 s7 x0 x1 x2 true x3 x4 x5) else (
    bif b9 then (
     callK call 100 [.one (.str s7)] fun v15 =>
     oB v15 fun b16 =>
     bif (!b16) then (
      j11 s12 s7 x0 x1 x2 true x3 x4 x5) else (
      lookK (.str s12) x5 (.int .i64 (0 : Int)) fun c17 t18 =>
      castI .i64 c17 fun n19 =>
      j11 s12 s7 x0 x1 x2 (decide (n19 > (0 : Int))) x3 x4 x5)) else (
     lookK (.str s12) x5 (.int .i64 (0 : Int)) fun c20 t21 =>
     castI .i64 c20 fun n22 =>
     j11 s12 s7 x0 x1 x2 (decide (n22 > (0 : Int))) x3 x4 x5)))) else (
  some (.one (.int .i64 (0 : Int)), [x3.cells]))
theorem f72_o3 (X0 : Code) (call : CallF) (n : Nat) (m0 : Nat) (B : Code) (hB : B = (hole f72_b [1, 1, 0, 1, 0, 0, 1, 1, 0, 0, 1, 1, 1, 0, 1] X0)) : f72_P3 B call n (m0 + 1) = f72_T3 call n (f72_P11 B call n m0) := by
 subst hB; funext x0 x1 x2 x3 x4 x5; kernel_rfl
theorem f72_l3 (call : CallF) (n : Nat) (m0 : Nat) : f72_P3 f72_b call n (m0 + 1) = f72_T3 call n (f72_P11 f72_b call n m0) :=
 f72_o3 (piece [1, 1, 0, 1, 0, 0, 1, 1, 0, 0, 1, 1, 1, 0, 1] f72_b) call n m0 _ (by kernel_rfl)
def f72_L3 (call : CallF) (n : Nat) : Nat → LC → Int → Int → S_api_Cmd → Nat → List (Cell × Cell × Nat) → OR
 | 0 => fun _ _ _ _ _ _ => none
 | m0 + 1 => f72_T3 call n (f72_L11 call n (f72_L3 call n m0))
theorem f72_e3 (call : CallF) (n : Nat) : ∀ m0 : Nat, f72_P3 f72_b call n m0 = f72_L3 call n m0
 | 0 => by funext x0 x1 x2 x3 x4 x5; kernel_rfl
 | m0 + 1 => by rw [f72_l3, f72_e11, f72_e3 call n m0]; rfl
def f72_T (call : CallF) (n : Nat) (j3n : LC → Int → Int → S_api_Cmd → Nat → List (Cell × Cell × Nat) → OR) (a0 : S_api_Cmd) (a1 : LC) : OR :=
 j3n a1 (((a1).length / 1 : Nat) : Int) (0 : Int) a0 0 ([] : List (Cell × Cell × Nat))
def f72_L (call : CallF) (n : Nat) (a0 : S_api_Cmd) (a1 : LC) : OR :=
 f72_T call n (f72_L3 call n n) a0 a1
theorem f72_o (call : CallF) (n : Nat) (B : Code) (hB : B = f72_b) : f72_P B call n = f72_T call n (f72_P3 B call n n) := by
 subst hB; funext a0 a1; kernel_rfl
theorem f72_l (call : CallF) (n : Nat) : f72_P f72_b call n = f72_T call n (f72_P3 f72_b call n n) :=
 f72_o call n _ (by kernel_rfl)
theorem f72_e (call : CallF) (n : Nat) : f72_P f72_b call n = f72_L call n := by
 rw [f72_l, f72_e3]; rfl
theorem f72_eq (n : Nat) (a0 : S_api_Cmd) (a1 : LC) : acall AXE AXF (n + 1) 72 [.one (.ptr 0 0), .one (.sl none 1 a1)] [a0.cells] = f72_L (acall AXE AXF n) (n + 1) a0 a1 :=
 (show _ = f72_P f72_b (acall AXE AXF n) (n + 1) a0 a1 by kernel_rfl).trans (by rw [f72_e])
def f75_P23 (B : Code) (call : CallF) (n : Nat) (m0 : Nat) (x0 : S_api_Cmd) (x1 : S_ref06_Got) : OR :=
 f75_x B call n [1, 1, 1, 0, 0, 0, 1, 0, 1, 1, 1, 1, 1, 1, 1, 0, 1, 0, 1, 1, 0, 1] (kSeq (f75_x B call n [1, 1, 1, 0, 0, 0, 1, 0, 1, 1, 1, 1, 1, 1, 1, 1]) (kBlk 1 (kSeq (fun k => prK 1000003 (pruneAt f75_h 1000003) (aloop 1000003 (pruneAt f75_h 1000003) (f75_x B call n [1, 1, 1, 0, 0, 0]) k m0)) (kBlk 0 (kSeq (f75_x B call n [1, 1, 1, 1]) (kEnd AXE 0 f75_r)))))) ⟨[(4, .one (.ptr 1 0))], [x0.cells, x1.cells]⟩
def f75_P24 (B : Code) (call : CallF) (n : Nat) (m0 : Nat) (x0 : S_api_Cmd) (x1 : S_ref06_Got) : OR :=
 f75_x B call n [1, 1, 1, 0, 0, 0, 1, 0, 1, 1, 1, 1, 1, 1, 1, 1, 0, 1, 0, 1] (kSeq (f75_x B call n [1, 1, 1, 0, 0, 0, 1, 0, 1, 1, 1, 1, 1, 1, 1, 1, 1]) (kBlk 1 (kSeq (fun k => prK 1000003 (pruneAt f75_h 1000003) (aloop 1000003 (pruneAt f75_h 1000003) (f75_x B call n [1, 1, 1, 0, 0, 0]) k m0)) (kBlk 0 (kSeq (f75_x B call n [1, 1, 1, 1]) (kEnd AXE 0 f75_r)))))) ⟨[(4, .one (.ptr 1 0))], [x0.cells, x1.cells]⟩
def f75_P44 (B : Code) (call : CallF) (n : Nat) (m0 : Nat) (x0 : S_api_Cmd) (x1 : S_ref06_Got) : OR :=
 f75_x B call n [1, 1, 1, 0, 0, 0, 1, 0, 1, 1, 1, 1, 1, 1, 1, 1, 1, 1, 1, 0, 1, 0, 1] (kSeq (f75_x B call n [1, 1, 1, 0, 0, 0, 1, 0, 1, 1, 1, 1, 1, 1, 1, 1, 1, 1, 1, 1]) (kBlk 1 (kSeq (fun k => prK 1000003 (pruneAt f75_h 1000003) (aloop 1000003 (pruneAt f75_h 1000003) (f75_x B call n [1, 1, 1, 0, 0, 0]) k m0)) (kBlk 0 (kSeq (f75_x B call n [1, 1, 1, 1]) (kEnd AXE 0 f75_r)))))) ⟨[(4, .one (.ptr 1 0))], [x0.cells, x1.cells]⟩
def f75_P35 (B : Code) (call : CallF) (n : Nat) (m0 : Nat) (x0 : LB) (x1 : Int) (x2 : LC) (x3 x4 : LB) (x5 : Bool) (x6 : S_api_Cmd) (x7 : S_ref06_Got) : OR :=
 f75_x B call n [1, 1, 1, 0, 0, 0, 1, 0, 1, 1, 1, 1, 1, 1, 1, 1, 1, 1, 1, 0, 1] (kSeq (f75_x B call n [1, 1, 1, 0, 0, 0, 1, 0, 1, 1, 1, 1, 1, 1, 1, 1, 1, 1, 1, 1]) (kBlk 1 (kSeq (fun k => prK 1000003 (pruneAt f75_h 1000003) (aloop 1000003 (pruneAt f75_h 1000003) (f75_x B call n [1, 1, 1, 0, 0, 0]) k m0)) (kBlk 0 (kSeq (f75_x B call n [1, 1, 1, 1]) (kEnd AXE 0 f75_r)))))) ⟨[(1, .one (.str x0)), (2, .one (.ptr 0 0)), (4, .one (.ptr 1 0)), (5, .one (.int .i64 x1)), (6, .one (.sl (some ⟨6, 0, 9⟩) 1 x2)), (10, .one (.str x3)), (11, .one (.str x4)), (87, .one (.bool x5))], [x6.cells, x7.cells]⟩
def f75_P27 (B : Code) (call : CallF) (n : Nat) (m0 : Nat) (m1 : Nat) (x0 : LB) (x1 : Int) (x2 : LC) (x3 x4 : LB) (x5 : Int) (x6 : S_api_Cmd) (x7 : S_ref06_Got) : OR :=
 aloop 1000019 (pruneAt f75_h 1000019) (f75_x B call n [1, 1, 1, 0, 0, 0, 1, 0, 1, 1, 1, 1, 1, 1, 1, 1, 1, 0, 1, 0, 0]) (kBlk 2 (kSeq (f75_x B call n [1, 1, 1, 0, 0, 0, 1, 0, 1, 1, 1, 1, 1, 1, 1, 1, 1, 1]) (kBlk 1 (kSeq (fun k => prK 1000003 (pruneAt f75_h 1000003) (aloop 1000003 (pruneAt f75_h 1000003) (f75_x B call n [1, 1, 1, 0, 0, 0]) k m0)) (kBlk 0 (kSeq (f75_x B call n [1, 1, 1, 1]) (kEnd AXE 0 f75_r))))))) m1 ⟨[(1, .one (.str x0)), (2, .one (.ptr 0 0)), (4, .one (.ptr 1 0)), (5, .one (.int .i64 x1)), (6, .one (.sl (some ⟨6, 0, 9⟩) 1 x2)), (10, .one (.str x3)), (11, .one (.str x4)), (12, .one (.int .i64 x5))], [x6.cells, x7.cells]⟩
def f75_P26 (B : Code) (call : CallF) (n : Nat) (m0 : Nat) (x0 : LB) (x1 : Int) (x2 : LC) (x3 x4 : LB) (x5 : Int) (x6 : S_api_Cmd) (x7 : S_ref06_Got) : OR :=
 f75_x B call n [1, 1, 1, 0, 0, 0, 1, 0, 1, 1, 1, 1, 1, 1, 1, 1, 1, 0, 1] (kSeq (f75_x B call n [1, 1, 1, 0, 0, 0, 1, 0, 1, 1, 1, 1, 1, 1, 1, 1, 1, 1]) (kBlk 1 (kSeq (fun k => prK 1000003 (pruneAt f75_h 1000003) (aloop 1000003 (pruneAt f75_h 1000003) (f75_x B call n [1, 1, 1, 0, 0, 0]) k m0)) (kBlk 0 (kSeq (f75_x B call n [1, 1, 1, 1]) (kEnd AXE 0 f75_r)))))) ⟨[(1, .one (.str x0)), (2, .one (.ptr 0 0)), (4, .one (.ptr 1 0)), (5, .one (.int .i64 x1)), (6, .one (.sl (some ⟨6, 0, 9⟩) 1 x2)), (10, .one (.str x3)), (11, .one (.str x4)), (12, .one (.int .i64 x5))], [x6.cells, x7.cells]⟩
def f75_P25 (B : Code) (call : CallF) (n : Nat) (m0 : Nat) (x0 : LB) (x1 : Int) (x2 : LC) (x3 x4 : LB) (x5 : S_api_Cmd) (x6 : S_ref06_Got) : OR :=
 f75_x B call n [1, 1, 1, 0, 0, 0, 1, 0, 1, 1, 1, 1, 1, 1, 1, 1, 1] (kBlk 1 (kSeq (fun k => prK 1000003 (pruneAt f75_h 1000003) (aloop 1000003 (pruneAt f75_h 1000003) (f75_x B call n [1, 1, 1, 0, 0, 0]) k m0)) (kBlk 0 (kSeq (f75_x B call n [1, 1, 1, 1]) (kEnd AXE 0 f75_r))))) ⟨[(1, .one (.str x0)), (2, .one (.ptr 0 0)), (4, .one (.ptr 1 0)), (5, .one (.int .i64 x1)), (6, .one (.sl (some ⟨6, 0, 9⟩) 1 x2)), (10, .one (.str x3)), (11, .one (.str x4))], [x5.cells, x6.cells]⟩
def f75_P22 (B : Code) (call : CallF) (n : Nat) (m0 : Nat) (x0 : LB) (x1 : Int) (x2 : LC) (x3 x4 : LB) (x5 : Bool) (x6 : S_api_Cmd) (x7 : S_ref06_Got) : OR :=
 f75_x B call n [1, 1, 1, 0, 0, 0, 1, 0, 1, 1, 1, 1, 1, 1, 1, 1, 0, 1] (kSeq (f75_x B call n [1, 1, 1, 0, 0, 0, 1, 0, 1, 1, 1, 1, 1, 1, 1, 1, 1]) (kBlk 1 (kSeq (fun k => prK 1000003 (pruneAt f75_h 1000003) (aloop 1000003 (pruneAt f75_h 1000003) (f75_x B call n [1, 1, 1, 0, 0, 0]) k m0)) (kBlk 0 (kSeq (f75_x B call n [1, 1, 1, 1]) (kEnd AXE 0 f75_r)))))) ⟨[(1, .one (.str x0)), (2, .one (.ptr 0 0)), (4, .one (.ptr 1 0)), (5, .one (.int .i64 x1)), (6, .one (.sl (some ⟨6, 0, 9⟩) 1 x2)), (10, .one (.str x3)), (11, .one (.str x4)), (58, .one (.bool x5))], [x6.cells, x7.cells]⟩
def f75_P20 (B : Code) (call : CallF) (n : Nat) (m0 : Nat) (x0 : LB) (x1 : Int) (x2 : LC) (x3 x4 : LB) (x5 : Bool) (x6 : S_api_Cmd) (x7 : S_ref06_Got) : OR :=
 f75_x B call n [1, 1, 1, 0, 0, 0, 1, 0, 1, 1, 1, 1, 1, 1, 1, 0, 1, 0, 1, 1] (kSeq (f75_x B call n [1, 1, 1, 0, 0, 0, 1, 0, 1, 1, 1, 1, 1, 1, 1, 1]) (kBlk 1 (kSeq (fun k => prK 1000003 (pruneAt f75_h 1000003) (aloop 1000003 (pruneAt f75_h 1000003) (f75_x B call n [1, 1, 1, 0, 0, 0]) k m0)) (kBlk 0 (kSeq (f75_x B call n [1, 1, 1, 1]) (kEnd AXE 0 f75_r)))))) ⟨[(1, .one (.str x0)), (2, .one (.ptr 0 0)), (4, .one (.ptr 1 0)), (5, .one (.int .i64 x1)), (6, .one (.sl (some ⟨6, 0, 9⟩) 1 x2)), (10, .one (.str x3)), (11, .one (.str x4)), (54, .one (.bool x5))], [x6.cells, x7.cells]⟩
def f75_P3 (B : Code) (call : CallF) (n : Nat) (m0 : Nat) (x0 : LB) (x1 : Int) (x2 : LC) (x3 : S_api_Cmd) (x4 : S_ref06_Got) : OR :=
 aloop 1000003 (pruneAt f75_h 1000003) (f75_x B call n [1, 1, 1, 0, 0, 0]) (kBlk 0 (kSeq (f75_x B call n [1, 1, 1, 1]) (kEnd AXE 0 f75_r))) m0 ⟨[(1, .one (.str x0)), (2, .one (.ptr 0 0)), (4, .one (.ptr 1 0)), (5, .one (.int .i64 x1)), (6, .one (.sl (some ⟨6, 0, 9⟩) 1 x2))], [x3.cells, x4.cells]⟩
def f75_P (B : Code) (call : CallF) (n : Nat) (a0 : S_api_Cmd) (a1 : LB) : OR :=
 f75_x B call n [] (kEnd AXE 0 f75_r) ⟨[(0, .agg a0.cells), (1, .one (.str a1))], []⟩
def f75_T23 (call : CallF) (n : Nat) (x0 : S_api_Cmd) (x1 : S_ref06_Got) : OR :=
 some (.agg x1.cells, [])
theorem f75_o23 (call : CallF) (n : Nat) (m0 : Nat) (B : Code) (hB : B = f75_b) : f75_P23 B call n m0 = f75_T23 call n := by
 subst hB; funext x0 x1; kernel_rfl
theorem f75_l23 (call : CallF) (n : Nat) (m0 : Nat) : f75_P23 f75_b call n m0 = f75_T23 call n :=
 f75_o23 call n m0 _ (by kernel_rfl)
def f75_L23 (call : CallF) (n : Nat) (h_m0 : LB → Int → LC → S_api_Cmd → S_ref06_Got → OR) : S_api_Cmd → S_ref06_Got → OR :=
 f75_T23 call n
theorem f75_e23 (call : CallF) (n : Nat) (m0 : Nat) : f75_P23 f75_b call n m0 = f75_L23 call n (f75_P3 f75_b call n m0) := by
 rw [f75_l23]; rfl
def f75_T24 (call : CallF) (n : Nat) (x0 : S_api_Cmd) (x1 : S_ref06_Got) : OR :=
 some (.agg x1.cells, [])
theorem f75_o24 (call : CallF) (n : Nat) (m0 : Nat) (B : Code) (hB : B = f75_b) : f75_P24 B call n m0 = f75_T24 call n := by
 subst hB; funext x0 x1; kernel_rfl
theorem f75_l24 (call : CallF) (n : Nat) (m0 : Nat) : f75_P24 f75_b call n m0 = f75_T24 call n :=
 f75_o24 call n m0 _ (by kernel_rfl)
def f75_L24 (call : CallF) (n : Nat) (h_m0 : LB → Int → LC → S_api_Cmd → S_ref06_Got → OR) : S_api_Cmd → S_ref06_Got → OR :=
 f75_T24 call n
theorem f75_e24 (call : CallF) (n : Nat) (m0 : Nat) : f75_P24 f75_b call n m0 = f75_L24 call n (f75_P3 f75_b call n m0) := by
 rw [f75_l24]; rfl
def f75_T44 (call : CallF) (n : Nat) (x0 : S_api_Cmd) (x1 : S_ref06_Got) : OR :=
 some (.agg x1.cells, [])
theorem f75_o44 (call : CallF) (n : Nat) (m0 : Nat) (B : Code) (hB : B = f75_b) : f75_P44 B call n m0 = f75_T44 call n := by
 subst hB; funext x0 x1; kernel_rfl
theorem f75_l44 (call : CallF) (n : Nat) (m0 : Nat) : f75_P44 f75_b call n m0 = f75_T44 call n :=
 f75_o44 call n m0 _ (by kernel_rfl)
def f75_L44 (call : CallF) (n : Nat) (h_m0 : LB → Int → LC → S_api_Cmd → S_ref06_Got → OR) : S_api_Cmd → S_ref06_Got → OR :=
 f75_T44 call n
theorem f75_e44 (call : CallF) (n : Nat) (m0 : Nat) : f75_P44 f75_b call n m0 = f75_L44 call n (f75_P3 f75_b call n m0) := by
 rw [f75_l44]; rfl
def f75_T35 (call : CallF) (n : Nat) (j44 : S_api_Cmd → S_ref06_Got → OR) (j3m : LB → Int → LC → S_api_Cmd → S_ref06_Got → OR) (x0 : LB) (x1 : Int) (x2 : LC) (x3 x4 : LB) (x5 : Bool) (x6 : S_api_Cmd) (x7 : S_ref06_Got) : OR :=
 bif x5 then (
  j44 x6 (⟨(⟨(0 : Int), ([] : List UInt8), ([] : List UInt8), ([] : List UInt8), false, (0 : Int), (0 : Int)⟩ : S_api_Cmd), (555 : Int)⟩ : S_ref06_Got)) else (
  bif (x3 == ([83, 73, 90, 69] : List UInt8)) then (
   callK call 107 [.one (.str x4)] fun v1 =>
   oI .i64 v1 fun n2 =>
   bif (decide (n2 < (0 : Int))) then (
    some (.agg (⟨(⟨(0 : Int), ([] : List UInt8), ([] : List UInt8), ([] : List UInt8), false, (0 : Int), (0 : Int)⟩ : S_api_Cmd), (501 : Int)⟩ : S_ref06_Got).cells, [])) else (
    j3m x0 x1 x2 ({ x6 with fSize := n2 } : S_api_Cmd) x7)) else (
   callK call 45 [.one (.str x4)] fun v3 =>
   oS v3 fun s4 =>
   bif (s4 == ([55, 66, 73, 84] : List UInt8)) then (
    j3m x0 x1 x2 ({ x6 with fBody := (7 : Int) } : S_api_Cmd) x7) else (
    callK call 45 [.one (.str x4)] fun v5 =>
    oS v5 fun s6 =>
    bif (s6 == ([56, 66, 73, 84, 77, 73, 77, 69] : List UInt8)) then (
     j3m x0 x1 x2 ({ x6 with fBody := (8 : Int) } : S_api_Cmd) x7) else (
     some (.agg (⟨(⟨(0 : Int), ([] : List UInt8), ([] : List UInt8), ([] : List UInt8), false, (0 : Int), (0 : Int)⟩ : S_api_Cmd), (501 : Int)⟩ : S_ref06_Got).cells, [])))))
theorem f75_o35 (X0 : Code) (call : CallF) (n : Nat) (m0 : Nat) (B : Code) (hB : B = (hole f75_b [1, 1, 1, 0, 0, 0, 1, 0, 1, 1, 1, 1, 1, 1, 1, 1, 1, 1, 1, 0, 1, 0, 1] X0)) : f75_P35 B call n m0 = f75_T35 call n (f75_P44 B call n m0) (f75_P3 B call n m0) := by
 subst hB; funext x0 x1 x2 x3 x4 x5 x6 x7; cases x5 <;> kernel_rfl
theorem f75_l35 (call : CallF) (n : Nat) (m0 : Nat) : f75_P35 f75_b call n m0 = f75_T35 call n (f75_P44 f75_b call n m0) (f75_P3 f75_b call n m0) :=
 f75_o35 (piece [1, 1, 1, 0, 0, 0, 1, 0, 1, 1, 1, 1, 1, 1, 1, 1, 1, 1, 1, 0, 1, 0, 1] f75_b) call n m0 _ (by kernel_rfl)
def f75_L35 (call : CallF) (n : Nat) (h_m0 : LB → Int → LC → S_api_Cmd → S_ref06_Got → OR) : LB → Int → LC → LB → LB → Bool → S_api_Cmd → S_ref06_Got → OR :=
 f75_T35 call n (f75_L44 call n h_m0) h_m0
theorem f75_e35 (call : CallF) (n : Nat) (m0 : Nat) : f75_P35 f75_b call n m0 = f75_L35 call n (f75_P3 f75_b call n m0) := by
 rw [f75_l35, f75_e44]; rfl
def f75_T27 (call : CallF) (n : Nat) (j27m : LB → Int → LC → LB → LB → Int → S_api_Cmd → S_ref06_Got → OR) (j35 : LB → Int → LC → LB → LB → Bool → S_api_Cmd → S_ref06_Got → OR) (x0 : LB) (x1 : Int) (x2 : LC) (x3 x4 : LB) (x5 : Int) (x6 : S_api_Cmd) (x7 : S_ref06_Got) : OR :=
 bif (decide (x5 < (((x2).length / 1 : Nat) : Int))) then (
  itemK x2 x5 fun c1 =>
  castS c1 fun s2 =>
  bif (s2 == x3) then (
   some (.agg (⟨(⟨(0 : Int), ([] : List UInt8), ([] : List UInt8), ([] : List UInt8), false, (0 : Int), (0 : Int)⟩ : S_api_Cmd), (501 : Int)⟩ : S_ref06_Got).cells, [])) else (
   j27m x0 x1 x2 x3 x4 (IntKind.wrap .i64 (x5 + (1 : Int))) x6 x7)) else (
  guardB (decide (((x2).length + (([.str x3] : List Cell)).length) * 1000 ≤ rowLim)) (
   bif (x6.fVerb != (4 : Int)) then (
    j35 x0 x1 (x2 ++ ([.str x3] : List Cell)) x3 x4 true x6 x7) else (
    bif (!(x3 == ([83, 73, 90, 69] : List UInt8))) then (
     j35 x0 x1 (x2 ++ ([.str x3] : List Cell)) x3 x4 (!(x3 == ([66, 79, 68, 89] : List UInt8))) x6 x7) else (
     j35 x0 x1 (x2 ++ ([.str x3] : List Cell)) x3 x4 false x6 x7))))
theorem f75_o27 (X0 : Code) (call : CallF) (n : Nat) (m0 : Nat) (m1 : Nat) (B : Code) (hB : B = (hole f75_b [1, 1, 1, 0, 0, 0, 1, 0, 1, 1, 1, 1, 1, 1, 1, 1, 1, 1, 1, 0, 1] X0)) : f75_P27 B call n m0 (m1 + 1) = f75_T27 call n (f75_P27 B call n m0 m1) (f75_P35 B call n m0) := by
 subst hB; funext x0 x1 x2 x3 x4 x5 x6 x7; kernel_rfl
theorem f75_l27 (call : CallF) (n : Nat) (m0 : Nat) (m1 : Nat) : f75_P27 f75_b call n m0 (m1 + 1) = f75_T27 call n (f75_P27 f75_b call n m0 m1) (f75_P35 f75_b call n m0) :=
 f75_o27 (piece [1, 1, 1, 0, 0, 0, 1, 0, 1, 1, 1, 1, 1, 1, 1, 1, 1, 1, 1, 0, 1] f75_b) call n m0 m1 _ (by kernel_rfl)
def f75_L27 (call : CallF) (n : Nat) (h_m0 : LB → Int → LC → S_api_Cmd → S_ref06_Got → OR) : Nat → LB → Int → LC → LB → LB → Int → S_api_Cmd → S_ref06_Got → OR
 | 0 => fun _ _ _ _ _ _ _ _ => none
 | m1 + 1 => f75_T27 call n (f75_L27 call n h_m0 m1) (f75_L35 call n h_m0)
theorem f75_e27 (call : CallF) (n : Nat) (m0 : Nat) : ∀ m1 : Nat, f75_P27 f75_b call n m0 m1 = f75_L27 call n (f75_P3 f75_b call n m0) m1
 | 0 => by funext x0 x1 x2 x3 x4 x5 x6 x7; kernel_rfl
 | m1 + 1 => by rw [f75_l27, f75_e35, f75_e27 call n m0 m1]; rfl
def f75_T26 (call : CallF) (n : Nat) (j27n : LB → Int → LC → LB → LB → Int → S_api_Cmd → S_ref06_Got → OR) (x0 : LB) (x1 : Int) (x2 : LC) (x3 x4 : LB) (x5 : Int) (x6 : S_api_Cmd) (x7 : S_ref06_Got) : OR :=
 j27n x0 x1 x2 x3 x4 x5 x6 x7
theorem f75_o26 (call : CallF) (n : Nat) (m0 : Nat) (B : Code) (hB : B = f75_b) : f75_P26 B call n m0 = f75_T26 call n (f75_P27 B call n m0 n) := by
 subst hB; funext x0 x1 x2 x3 x4 x5 x6 x7; kernel_rfl
theorem f75_l26 (call : CallF) (n : Nat) (m0 : Nat) : f75_P26 f75_b call n m0 = f75_T26 call n (f75_P27 f75_b call n m0 n) :=
 f75_o26 call n m0 _ (by kernel_rfl)
def f75_L26 (call : CallF) (n : Nat) (h_m0 : LB → Int → LC → S_api_Cmd → S_ref06_Got → OR) : LB → Int → LC → LB → LB → Int → S_api_Cmd → S_ref06_Got → OR :=
 f75_T26 call n (f75_L27 call n h_m0 n)
theorem f75_e26 (call : CallF) (n : Nat) (m0 : Nat) : f75_P26 f75_b call n m0 = f75_L26 call n (f75_P3 f75_b call n m0) := by
 rw [f75_l26, f75_e27]; rfl
def f75_T25 (call : CallF) (n : Nat) (j26 : LB → Int → LC → LB → LB → Int → S_api_Cmd → S_ref06_Got → OR) (x0 : LB) (x1 : Int) (x2 : LC) (x3 x4 : LB) (x5 : S_api_Cmd) (x6 : S_ref06_Got) : OR :=
 j26 x0 x1 x2 x3 x4 (0 : Int) x5 x6
theorem f75_o25 (X0 : Code) (call : CallF) (n : Nat) (m0 : Nat) (B : Code) (hB : B = (hole f75_b [1, 1, 1, 0, 0, 0, 1, 0, 1, 1, 1, 1, 1, 1, 1, 1, 1, 0, 1] X0)) : f75_P25 B call n m0 = f75_T25 call n (f75_P26 B call n m0) := by
 subst hB; funext x0 x1 x2 x3 x4 x5 x6; kernel_rfl
theorem f75_l25 (call : CallF) (n : Nat) (m0 : Nat) : f75_P25 f75_b call n m0 = f75_T25 call n (f75_P26 f75_b call n m0) :=
 f75_o25 (piece [1, 1, 1, 0, 0, 0, 1, 0, 1, 1, 1, 1, 1, 1, 1, 1, 1, 0, 1] f75_b) call n m0 _ (by kernel_rfl)
def f75_L25 (call : CallF) (n : Nat) (h_m0 : LB → Int → LC → S_api_Cmd → S_ref06_Got → OR) : LB → Int → LC → LB → LB → S_api_Cmd → S_ref06_Got → OR :=
 f75_T25 call n (f75_L26 call n h_m0)
theorem f75_e25 (call : CallF) (n : Nat) (m0 : Nat) : f75_P25 f75_b call n m0 = f75_L25 call n (f75_P3 f75_b call n m0) := by
 rw [f75_l25, f75_e26]; rfl
def f75_T22 (call : CallF) (n : Nat) (j24 : S_api_Cmd → S_ref06_Got → OR) (j25 : LB → Int → LC → LB → LB → S_api_Cmd → S_ref06_Got → OR) (x0 : LB) (x1 : Int) (x2 : LC) (x3 x4 : LB) (x5 : Bool) (x6 : S_api_Cmd) (x7 : S_ref06_Got) : OR :=
 bif x5 then (
  j24 x6 (⟨(⟨(0 : Int), ([] : List UInt8), ([] : List UInt8), ([] : List UInt8), false, (0 : Int), (0 : Int)⟩ : S_api_Cmd), (501 : Int)⟩ : S_ref06_Got)) else (
  j25 x0 x1 x2 x3 x4 x6 x7)
theorem f75_o22 (X0 X1 : Code) (call : CallF) (n : Nat) (m0 : Nat) (B : Code) (hB : B = (hole (hole f75_b [1, 1, 1, 0, 0, 0, 1, 0, 1, 1, 1, 1, 1, 1, 1, 1, 0, 1, 0, 1] X0) [1, 1, 1, 0, 0, 0, 1, 0, 1, 1, 1, 1, 1, 1, 1, 1, 1] X1)) : f75_P22 B call n m0 = f75_T22 call n (f75_P24 B call n m0) (f75_P25 B call n m0) := by
 subst hB; funext x0 x1 x2 x3 x4 x5 x6 x7; cases x5 <;> kernel_rfl
theorem f75_l22 (call : CallF) (n : Nat) (m0 : Nat) : f75_P22 f75_b call n m0 = f75_T22 call n (f75_P24 f75_b call n m0) (f75_P25 f75_b call n m0) :=
 f75_o22 (piece [1, 1, 1, 0, 0, 0, 1, 0, 1, 1, 1, 1, 1, 1, 1, 1, 0, 1, 0, 1] f75_b) (piece [1, 1, 1, 0, 0, 0, 1, 0, 1, 1, 1, 1, 1, 1, 1, 1, 1] f75_b) call n m0 _ (by kernel_rfl)
def f75_L22 (call : CallF) (n : Nat) (h_m0 : LB → Int → LC → S_api_Cmd → S_ref06_Got → OR) : LB → Int → LC → LB → LB → Bool → S_api_Cmd → S_ref06_Got → OR :=
 f75_T22 call n (f75_L24 call n h_m0) (f75_L25 call n h_m0)
theorem f75_e22 (call : CallF) (n : Nat) (m0 : Nat) : f75_P22 f75_b call n m0 = f75_L22 call n (f75_P3 f75_b call n m0) := by
 rw [f75_l22, f75_e24, f75_e25]; rfl
def f75_T20 (call : CallF) (n : Nat) (j23 : S_api_Cmd → S_ref06_Got → OR) (j22 : LB → Int → LC → LB → LB → Bool → S_api_Cmd → S_ref06_Got → OR) (x0 : LB) (x1 : Int) (x2 : LC) (x3 x4 : LB) (x5 : Bool) (x6 : S_api_Cmd) (x7 : S_ref06_Got) : OR :=
 bif x5 then (
  j23 x6 (⟨(⟨(0 : Int), ([] : List UInt8), ([] : List UInt8), ([] : List UInt8), false, (0 : Int), (0 : Int)⟩ : S_api_Cmd), (501 : Int)⟩ : S_ref06_Got)) else (
  callK call 106 [.one (.str x3)] fun v1 =>
  oB v1 fun b2 =>
  j22 x0 x1 x2 x3 x4 (!b2) x6 x7)
theorem f75_o20 (X0 X1 : Code) (call : CallF) (n : Nat) (m0 : Nat) (B : Code) (hB : B = (hole (hole f75_b [1, 1, 1, 0, 0, 0, 1, 0, 1, 1, 1, 1, 1, 1, 1, 0, 1, 0, 1, 1, 0, 1] X0) [1, 1, 1, 0, 0, 0, 1, 0, 1, 1, 1, 1, 1, 1, 1, 1, 0, 1] X1)) : f75_P20 B call n m0 = f75_T20 call n (f75_P23 B call n m0) (f75_P22 B call n m0) := by
 subst hB; funext x0 x1 x2 x3 x4 x5 x6 x7; cases x5 <;> kernel_rfl
theorem f75_l20 (call : CallF) (n : Nat) (m0 : Nat) : f75_P20 f75_b call n m0 = f75_T20 call n (f75_P23 f75_b call n m0) (f75_P22 f75_b call n m0) :=
 f75_o20 (piece [1, 1, 1, 0, 0, 0, 1, 0, 1, 1, 1, 1, 1, 1, 1, 0, 1, 0, 1, 1, 0, 1] f75_b) (piece [1, 1, 1, 0, 0, 0, 1, 0, 1, 1, 1, 1, 1, 1, 1, 1, 0, 1] f75_b) call n m0 _ (by kernel_rfl)
def f75_L20 (call : CallF) (n : Nat) (h_m0 : LB → Int → LC → S_api_Cmd → S_ref06_Got → OR) : LB → Int → LC → LB → LB → Bool → S_api_Cmd → S_ref06_Got → OR :=
 f75_T20 call n (f75_L23 call n h_m0) (f75_L22 call n h_m0)
theorem f75_e20 (call : CallF) (n : Nat) (m0 : Nat) : f75_P20 f75_b call n m0 = f75_L20 call n (f75_P3 f75_b call n m0) := by
 rw [f75_l20, f75_e23, f75_e22]; rfl
def f75_T3 (call : CallF) (n : Nat) (j20 : LB → Int → LC → LB → LB → Bool → S_api_Cmd → S_ref06_Got → OR) (j22 : LB → Int → LC → LB → LB → Bool → S_api_Cmd → S_ref06_Got → OR) (x0 : LB) (x1 : Int) (x2 : LC) (x3 : S_api_Cmd) (x4 : S_ref06_Got) : OR :=
 bif (decide (x1 < ((x0).length : Int))) then (
  itemK x0 x1 fun u1 =>
  bif ((UInt8.toNat u1 : Int) != (32 : Int)) then (
   some (.agg (⟨(⟨(0 : Int), ([] : List UInt8), ([] : List UInt8), ([] : List UInt8), false, (0 : Int), (0 : Int)⟩ : S_api_Cmd), (501 : Int)⟩ : S_ref06_Got).cells, [])) else (
   callK call 38 [.one (.str x0), .one (.int .i64 (IntKind.wrap .i64 (x1 + (1 : Int)))), .one (.int .u8 (32 : Int))] fun v2 =>
   oI .i64 v2 fun n3 =>
   bif decide (0 ≤ (IntKind.wrap .i64 (x1 + (1 : Int))) ∧ (IntKind.wrap .i64 (x1 + (1 : Int))) ≤ n3 ∧ (Int.toNat n3) ≤ (x0).length) then (
    callK call 38 [.one (.str ((x0.take (Int.toNat n3)).drop (Int.toNat (IntKind.wrap .i64 (x1 + (1 : Int)))))), .one (.int .i64 (0 : Int)), .one (.int .u8 (61 : Int))] fun v4 =>
    oI .i64 v4 fun n5 =>
    bif decide (0 ≤ n5 ∧ (Int.toNat n5) ≤ (((x0.take (Int.toNat n3)).drop (Int.toNat (IntKind.wrap .i64 (x1 + (1 : Int)))))).length) then (
     callK call 45 [.one (.str ((((x0.take (Int.toNat n3)).drop (Int.toNat (IntKind.wrap .i64 (x1 + (1 : Int))))).take (Int.toNat n5)).drop 0))] fun v6 =>
     oS v6 fun s7 =>
     bif (decide (n5 < ((((x0.take (Int.toNat n3)).drop (Int.toNat (IntKind.wrap .i64 (x1 + (1 : Int)))))).length : Int))) then (
      bif decide (0 ≤ (IntKind.wrap .i64 (n5 + (1 : Int))) ∧ (Int.toNat (IntKind.wrap .i64 (n5 + (1 : Int)))) ≤ (((x0.take (Int.toNat n3)).drop (Int.toNat (IntKind.wrap .i64 (x1 + (1 : Int)))))).length) then (
       bif (((((x0.take (Int.toNat n3)).drop (Int.toNat (IntKind.wrap .i64 (x1 + (1 : Int))))).take (((x0.take (Int.toNat n3)).drop (Int.toNat (IntKind.wrap .i64 (x1 + (1 : Int)))))).length).drop (Int.toNat (IntKind.wrap .i64 (n5 + (1 : Int))))) == ([] : List UInt8)) then (
        j20 x0 n3 x2 s7 ((((x0.take (Int.toNat n3)).drop (Int.toNat (IntKind.wrap .i64 (x1 + (1 : Int))))).take (((x0.take (Int.toNat n3)).drop (Int.toNat (IntKind.wrap .i64 (x1 + (1 : Int)))))).length).drop (Int.toNat (IntKind.wrap .i64 (n5 + (1 : Int))))) true x3 x4) else (
        callK call 38 [.one (.str ((((x0.take (Int.toNat n3)).drop (Int.toNat (IntKind.wrap .i64 (x1 + (1 : Int))))).take (((x0.take (Int.toNat n3)).drop (Int.toNat (IntKind.wrap .i64 (x1 + (1 : Int)))))).length).drop (Int.toNat (IntKind.wrap .i64 (n5 + (1 : Int)))))), .one (.int .i64 (0 : Int)), .one (.int .u8 (61 : Int))] fun v8 =>
        oI .i64 v8 fun n9 =>
        j20 x0 n3 x2 s7 ((((x0.take (Int.toNat n3)).drop (Int.toNat (IntKind.wrap .i64 (x1 + (1 : Int))))).take (((x0.take (Int.toNat n3)).drop (Int.toNat (IntKind.wrap .i64 (x1 + (1 : Int)))))).length).drop (Int.toNat (IntKind.wrap .i64 (n5 + (1 : Int))))) (decide (n9 < ((((((x0.take (Int.toNat n3)).drop (Int.toNat (IntKind.wrap .i64 (x1 + (1 : Int))))).take (((x0.take (Int.toNat n3)).drop (Int.toNat (IntKind.wrap .i64 (x1 + (1 : Int)))))).length).drop (Int.toNat (IntKind.wrap .i64 (n5 + (1 : Int)))))).length : Int))) x3 x4)) else none) else (
      callK call 106 [.one (.str s7)] fun v10 =>
      oB v10 fun b11 =>
      j22 x0 n3 x2 s7 ([] : List UInt8) (!b11) x3 x4)) else none) else none)) else (
  some (.agg (⟨x3, (0 : Int)⟩ : S_ref06_Got).cells, []))
theorem f75_o3 (X0 X1 : Code) (call : CallF) (n : Nat) (m0 : Nat) (B : Code) (hB : B = (hole (hole f75_b [1, 1, 1, 0, 0, 0, 1, 0, 1, 1, 1, 1, 1, 1, 1, 0, 1, 0, 1, 1] X0) [1, 1, 1, 0, 0, 0, 1, 0, 1, 1, 1, 1, 1, 1, 1, 1, 0, 1] X1)) : f75_P3 B call n (m0 + 1) = f75_T3 call n (f75_P20 B call n m0) (f75_P22 B call n m0) := by
 subst hB; funext x0 x1 x2 x3 x4; kernel_rfl
theorem f75_l3 (call : CallF) (n : Nat) (m0 : Nat) : f75_P3 f75_b call n (m0 + 1) = f75_T3 call n (f75_P20 f75_b call n m0) (f75_P22 f75_b call n m0) :=
 f75_o3 (piece [1, 1, 1, 0, 0, 0, 1, 0, 1, 1, 1, 1, 1, 1, 1, 0, 1, 0, 1, 1] f75_b) (piece [1, 1, 1, 0, 0, 0, 1, 0, 1, 1, 1, 1, 1, 1, 1, 1, 0, 1] f75_b) call n m0 _ (by kernel_rfl)
def f75_L3 (call : CallF) (n : Nat) : Nat → LB → Int → LC → S_api_Cmd → S_ref06_Got → OR
 | 0 => fun _ _ _ _ _ => none
 | m0 + 1 => f75_T3 call n (f75_L20 call n (f75_L3 call n m0)) (f75_L22 call n (f75_L3 call n m0))
theorem f75_e3 (call : CallF) (n : Nat) : ∀ m0 : Nat, f75_P3 f75_b call n m0 = f75_L3 call n m0
 | 0 => by funext x0 x1 x2 x3 x4; kernel_rfl
 | m0 + 1 => by rw [f75_l3, f75_e20, f75_e22, f75_e3 call n m0]; rfl
def f75_T (call : CallF) (n : Nat) (j3n : LB → Int → LC → S_api_Cmd → S_ref06_Got → OR) (a0 : S_api_Cmd) (a1 : LB) : OR :=
 j3n a1 (0 : Int) ([] : List Cell) a0 (⟨(⟨(0 : Int), ([] : List UInt8), ([] : List UInt8), ([] : List UInt8), false, (0 : Int), (0 : Int)⟩ : S_api_Cmd), (0 : Int)⟩ : S_ref06_Got)
def f75_L (call : CallF) (n : Nat) (a0 : S_api_Cmd) (a1 : LB) : OR :=
 f75_T call n (f75_L3 call n n) a0 a1
theorem f75_o (call : CallF) (n : Nat) (B : Code) (hB : B = f75_b) : f75_P B call n = f75_T call n (f75_P3 B call n n) := by
 subst hB; funext a0 a1; kernel_rfl
theorem f75_l (call : CallF) (n : Nat) : f75_P f75_b call n = f75_T call n (f75_P3 f75_b call n n) :=
 f75_o call n _ (by kernel_rfl)
theorem f75_e (call : CallF) (n : Nat) : f75_P f75_b call n = f75_L call n := by
 rw [f75_l, f75_e3]; rfl
theorem f75_eq (n : Nat) (a0 : S_api_Cmd) (a1 : LB) : acall AXE AXF (n + 1) 75 [.agg a0.cells, .one (.str a1)] [] = f75_L (acall AXE AXF n) (n + 1) a0 a1 :=
 (show _ = f75_P f75_b (acall AXE AXF n) (n + 1) a0 a1 by kernel_rfl).trans (by rw [f75_e])
def f99_P9 (B : Code) (call : CallF) (n : Nat) (m0 : Nat) (x0 : Bool) : OR :=
 f99_x B call n [1, 0, 1, 0, 0, 1, 1, 0, 0, 1, 1, 0, 1] (kBlk 1 (kSeq (f99_x B call n [1, 0, 1, 0, 0, 1, 1, 1]) (kSeq (fun k => prK 1000002 (pruneAt f99_h 1000002) (aloop 1000002 (pruneAt f99_h 1000002) (f99_x B call n [1, 0, 1, 0, 0]) k m0)) (kBlk 0 (kSeq (f99_x B call n [1, 1]) (kEnd AXE 0 f99_r)))))) ⟨[(2, .one (.bool x0))], []⟩
def f99_P10 (B : Code) (call : CallF) (n : Nat) (m0 : Nat) (x0 : LB) (x1 : LC) (x2 x3 : Int) : OR :=
 f99_x B call n [1, 0, 1, 0, 0, 1, 1, 1] (kSeq (fun k => prK 1000002 (pruneAt f99_h 1000002) (aloop 1000002 (pruneAt f99_h 1000002) (f99_x B call n [1, 0, 1, 0, 0]) k m0)) (kBlk 0 (kSeq (f99_x B call n [1, 1]) (kEnd AXE 0 f99_r)))) ⟨[(0, .one (.str x0)), (6, .one (.sl none 1 x1)), (7, .one (.int .i64 x2)), (8, .one (.int .i64 x3))], []⟩
def f99_P8 (B : Code) (call : CallF) (n : Nat) (m0 : Nat) (x0 : LB) (x1 : LC) (x2 x3 : Int) (x4 : Bool) : OR :=
 f99_x B call n [1, 0, 1, 0, 0, 1, 1, 0, 0, 1, 1] (kBlk 1 (kSeq (f99_x B call n [1, 0, 1, 0, 0, 1, 1, 1]) (kSeq (fun k => prK 1000002 (pruneAt f99_h 1000002) (aloop 1000002 (pruneAt f99_h 1000002) (f99_x B call n [1, 0, 1, 0, 0]) k m0)) (kBlk 0 (kSeq (f99_x B call n [1, 1]) (kEnd AXE 0 f99_r)))))) ⟨[(0, .one (.str x0)), (6, .one (.sl none 1 x1)), (7, .one (.int .i64 x2)), (8, .one (.int .i64 x3)), (29, .one (.bool x4))], []⟩
def f99_P2 (B : Code) (call : CallF) (n : Nat) (m0 : Nat) (x0 : LB) (x1 : LC) (x2 x3 : Int) : OR :=
 aloop 1000002 (pruneAt f99_h 1000002) (f99_x B call n [1, 0, 1, 0, 0]) (kBlk 0 (kSeq (f99_x B call n [1, 1]) (kEnd AXE 0 f99_r))) m0 ⟨[(0, .one (.str x0)), (6, .one (.sl none 1 x1)), (7, .one (.int .i64 x2)), (8, .one (.int .i64 x3))], []⟩
def f99_P (B : Code) (call : CallF) (n : Nat) (a0 : LB) : OR :=
 f99_x B call n [] (kEnd AXE 0 f99_r) ⟨[(0, .one (.str a0))], []⟩
def f99_T9 (call : CallF) (n : Nat) (x0 : Bool) : OR :=
 some (.one (.bool x0), [])
theorem f99_o9 (call : CallF) (n : Nat) (m0 : Nat) (B : Code) (hB : B = f99_b) : f99_P9 B call n m0 = f99_T9 call n := by
 subst hB; funext x0; kernel_rfl
theorem f99_l9 (call : CallF) (n : Nat) (m0 : Nat) : f99_P9 f99_b call n m0 = f99_T9 call n :=
 f99_o9 call n m0 _ (by kernel_rfl)
def f99_L9 (call : CallF) (n : Nat) (h_m0 : LB → LC → Int → Int → OR) : Bool → OR :=
 f99_T9 call n
theorem f99_e9 (call : CallF) (n : Nat) (m0 : Nat) : f99_P9 f99_b call n m0 = f99_L9 call n (f99_P2 f99_b call n m0) := by
 rw [f99_l9]; rfl
def f99_T10 (call : CallF) (n : Nat) (j2m : LB → LC → Int → Int → OR) (x0 : LB) (x1 : LC) (x2 x3 : Int) : OR :=
 j2m x0 x1 x2 (IntKind.wrap .i64 (x3 + (1 : Int)))
theorem f99_o10 (call : CallF) (n : Nat) (m0 : Nat) (B : Code) (hB : B = f99_b) : f99_P10 B call n m0 = f99_T10 call n (f99_P2 B call n m0) := by
 subst hB; funext x0 x1 x2 x3; kernel_rfl
theorem f99_l10 (call : CallF) (n : Nat) (m0 : Nat) : f99_P10 f99_b call n m0 = f99_T10 call n (f99_P2 f99_b call n m0) :=
 f99_o10 call n m0 _ (by kernel_rfl)
def f99_L10 (call : CallF) (n : Nat) (h_m0 : LB → LC → Int → Int → OR) : LB → LC → Int → Int → OR :=
 f99_T10 call n h_m0
theorem f99_e10 (call : CallF) (n : Nat) (m0 : Nat) : f99_P10 f99_b call n m0 = f99_L10 call n (f99_P2 f99_b call n m0) := by
 rw [f99_l10]; rfl
def f99_T8 (call : CallF) (n : Nat) (j9 : Bool → OR) (j10 : LB → LC → Int → Int → OR) (x0 : LB) (x1 : LC) (x2 x3 : Int) (x4 : Bool) : OR :=
 bif x4 then (
  j9 false) else (
  j10 x0 x1 x2 x3)
theorem f99_o8 (X0 X1 : Code) (call : CallF) (n : Nat) (m0 : Nat) (B : Code) (hB : B = (hole (hole f99_b [1, 0, 1, 0, 0, 1, 1, 0, 0, 1, 1, 0, 1] X0) [1, 0, 1, 0, 0, 1, 1, 1] X1)) : f99_P8 B call n m0 = f99_T8 call n (f99_P9 B call n m0) (f99_P10 B call n m0) := by
 subst hB; funext x0 x1 x2 x3 x4; cases x4 <;> kernel_rfl
theorem f99_l8 (call : CallF) (n : Nat) (m0 : Nat) : f99_P8 f99_b call n m0 = f99_T8 call n (f99_P9 f99_b call n m0) (f99_P10 f99_b call n m0) :=
 f99_o8 (piece [1, 0, 1, 0, 0, 1, 1, 0, 0, 1, 1, 0, 1] f99_b) (piece [1, 0, 1, 0, 0, 1, 1, 1] f99_b) call n m0 _ (by kernel_rfl)
def f99_L8 (call : CallF) (n : Nat) (h_m0 : LB → LC → Int → Int → OR) : LB → LC → Int → Int → Bool → OR :=
 f99_T8 call n (f99_L9 call n h_m0) (f99_L10 call n h_m0)
theorem f99_e8 (call : CallF) (n : Nat) (m0 : Nat) : f99_P8 f99_b call n m0 = f99_L8 call n (f99_P2 f99_b call n m0) := by
 rw [f99_l8, f99_e9, f99_e10]; rfl
def f99_T2 (call : CallF) (n : Nat) (j8 : LB → LC → Int → Int → Bool → OR) (x0 : LB) (x1 : LC) (x2 x3 : Int) : OR :=
 bif (decide (x3 < x2)) then (
  itemK x1 x3 fun c1 =>
  castI .u8 c1 fun n2 =>
  bif (decide (n2 < (65 : Int))) then (
   bif (decide (n2 < (48 : Int))) then (
    j8 x0 x1 x2 x3 (n2 != (45 : Int))) else (
    bif (decide (n2 > (57 : Int))) then (
     j8 x0 x1 x2 x3 (n2 != (45 : Int))) else (
     j8 x0 x1 x2 x3 false))) else (
   bif (decide (n2 > (90 : Int))) then (
    bif (decide (n2 < (48 : Int))) then (
     j8 x0 x1 x2 x3 (n2 != (45 : Int))) else (
     bif (decide (n2 > (57 : Int))) then (
      j8 x0 x1 x2 x3 (n2 != (45 : Int))) else (
      j8 x0 x1 x2 x3 false))) else (
    j8 x0 x1 x2 x3 false))) else (
  some (.one (.bool (!(x0 == ([] : List UInt8)))), []))
theorem f99_o2 (X0 : Code) (call : CallF) (n : Nat) (m0 : Nat) (B : Code) (hB : B = (hole f99_b [1, 0, 1, 0, 0, 1, 1, 0, 0, 1, 1] X0)) : f99_P2 B call n (m0 + 1) = f99_T2 call n (f99_P8 B call n m0) := by
 subst hB; funext x0 x1 x2 x3; kernel_rfl
theorem f99_l2 (call : CallF) (n : Nat) (m0 : Nat) : f99_P2 f99_b call n (m0 + 1) = f99_T2 call n (f99_P8 f99_b call n m0) :=
 f99_o2 (piece [1, 0, 1, 0, 0, 1, 1, 0, 0, 1, 1] f99_b) call n m0 _ (by kernel_rfl)
def f99_L2 (call : CallF) (n : Nat) : Nat → LB → LC → Int → Int → OR
 | 0 => fun _ _ _ _ => none
 | m0 + 1 => f99_T2 call n (f99_L8 call n (f99_L2 call n m0))
theorem f99_e2 (call : CallF) (n : Nat) : ∀ m0 : Nat, f99_P2 f99_b call n m0 = f99_L2 call n m0
 | 0 => by funext x0 x1 x2 x3; kernel_rfl
 | m0 + 1 => by rw [f99_l2, f99_e8, f99_e2 call n m0]; rfl
def f99_T (call : CallF) (n : Nat) (j2n : LB → LC → Int → Int → OR) (a0 : LB) : OR :=
 j2n a0 (byteCells a0) ((((byteCells a0)).length / 1 : Nat) : Int) (0 : Int)
def f99_L (call : CallF) (n : Nat) (a0 : LB) : OR :=
 f99_T call n (f99_L2 call n n) a0
theorem f99_o (call : CallF) (n : Nat) (B : Code) (hB : B = f99_b) : f99_P B call n = f99_T call n (f99_P2 B call n n) := by
 subst hB; funext a0; kernel_rfl
theorem f99_l (call : CallF) (n : Nat) : f99_P f99_b call n = f99_T call n (f99_P2 f99_b call n n) :=
 f99_o call n _ (by kernel_rfl)
theorem f99_e (call : CallF) (n : Nat) : f99_P f99_b call n = f99_L call n := by
 rw [f99_l, f99_e2]; rfl
theorem f99_eq (n : Nat) (a0 : LB) : acall AXE AXF (n + 1) 99 [.one (.str a0)] [] = f99_L (acall AXE AXF n) (n + 1) a0 :=
 (show _ = f99_P f99_b (acall AXE AXF n) (n + 1) a0 by kernel_rfl).trans (by rw [f99_e])
def f100_P1 (B : Code) (call : CallF) (n : Nat) (x0 : Bool) : OR :=
 f100_x B call n [1, 1] (kEnd AXE 0 f100_r) ⟨[(2, .one (.bool x0))], []⟩
def f100_P (B : Code) (call : CallF) (n : Nat) (a0 : LB) : OR :=
 f100_x B call n [] (kEnd AXE 0 f100_r) ⟨[(0, .one (.str a0))], []⟩
def f100_T1 (call : CallF) (n : Nat) (x0 : Bool) : OR :=
 some (.one (.bool x0), [])
theorem f100_o1 (call : CallF) (n : Nat) (B : Code) (hB : B = f100_b) : f100_P1 B call n = f100_T1 call n := by
 subst hB; funext x0; kernel_rfl
theorem f100_l1 (call : CallF) (n : Nat) : f100_P1 f100_b call n = f100_T1 call n :=
 f100_o1 call n _ (by kernel_rfl)
def f100_L1 (call : CallF) (n : Nat) : Bool → OR :=
 f100_T1 call n
theorem f100_e1 (call : CallF) (n : Nat) : f100_P1 f100_b call n = f100_L1 call n := by
 rw [f100_l1]; rfl
def f100_T (call : CallF) (n : Nat) (j1 : Bool → OR) (a0 : LB) : OR :=
 bif (!(a0 == ([] : List UInt8))) then (
  primK pContains [.one (.str a0), .one (.str ([61, 32] : List UInt8))] fun v3 =>
  oB v3 fun b4 =>
  j1 (!b4)) else (
  j1 false)
def f100_L (call : CallF) (n : Nat) (a0 : LB) : OR :=
 f100_T call n (f100_L1 call n) a0
theorem f100_o (X0 : Code) (call : CallF) (n : Nat) (B : Code) (hB : B = (hole f100_b [1, 1] X0)) : f100_P B call n = f100_T call n (f100_P1 B call n) := by
 subst hB; funext a0; kernel_rfl
theorem f100_l (call : CallF) (n : Nat) : f100_P f100_b call n = f100_T call n (f100_P1 f100_b call n) :=
 f100_o (piece [1, 1] f100_b) call n _ (by kernel_rfl)
theorem f100_e (call : CallF) (n : Nat) : f100_P f100_b call n = f100_L call n := by
 rw [f100_l, f100_e1]; rfl
theorem f100_eq (n : Nat) (a0 : LB) : acall AXE AXF (n + 1) 100 [.one (.str a0)] [] = f100_L (acall AXE AXF n) (n + 1) a0 :=
 (show _ = f100_P f100_b (acall AXE AXF n) (n + 1) a0 by kernel_rfl).trans (by rw [f100_e])
def f101_P13 (B : Code) (call : CallF) (n : Nat) (x0 : Int) (x1 : S_api_Cmd) : OR :=
 f101_x B call n [1, 0, 1, 0, 1, 0, 1, 0, 1, 0, 1] (kSeq (f101_x B call n [1, 0, 1, 0, 1, 0, 1, 1]) (kBlk 0 (kSeq (f101_x B call n [1, 1]) (kEnd AXE 1 f101_r)))) ⟨[(6, .one (.int .i64 x0))], [x1.cells]⟩
def f101_P9 (B : Code) (call : CallF) (n : Nat) (x0 : Int) (x1 : Bool) (x2 : S_api_Cmd) : OR :=
 f101_x B call n [1, 0, 1, 0, 1, 0, 1, 0, 1] (kSeq (f101_x B call n [1, 0, 1, 0, 1, 0, 1, 1]) (kBlk 0 (kSeq (f101_x B call n [1, 1]) (kEnd AXE 1 f101_r)))) ⟨[(0, .one (.ptr 0 0)), (7, .one (.int .u64 x0)), (27, .one (.bool x1))], [x2.cells]⟩
def f101_P (B : Code) (call : CallF) (n : Nat) (a0 : S_api_Cmd) (a1 a2 : LB) : OR :=
 f101_x B call n [] (kEnd AXE 1 f101_r) ⟨[(0, .one (.ptr 0 0)), (1, .one (.str a1)), (2, .one (.str a2))], [a0.cells]⟩
def f101_T13 (call : CallF) (n : Nat) (x0 : Int) (x1 : S_api_Cmd) : OR :=
 some (.one (.int .i64 x0), [x1.cells])
theorem f101_o13 (call : CallF) (n : Nat) (B : Code) (hB : B = f101_b) : f101_P13 B call n = f101_T13 call n := by
 subst hB; funext x0 x1; kernel_rfl
theorem f101_l13 (call : CallF) (n : Nat) : f101_P13 f101_b call n = f101_T13 call n :=
 f101_o13 call n _ (by kernel_rfl)
def f101_L13 (call : CallF) (n : Nat) : Int → S_api_Cmd → OR :=
 f101_T13 call n
theorem f101_e13 (call : CallF) (n : Nat) : f101_P13 f101_b call n = f101_L13 call n := by
 rw [f101_l13]; rfl
def f101_T9 (call : CallF) (n : Nat) (j13 : Int → S_api_Cmd → OR) (x0 : Int) (x1 : Bool) (x2 : S_api_Cmd) : OR :=
 bif x1 then (
  j13 (501 : Int) x2) else (
  some (.one (.int .i64 (0 : Int)), [({ x2 with fSize := (IntKind.wrap .i64 x0) } : S_api_Cmd).cells]))
theorem f101_o9 (X0 : Code) (call : CallF) (n : Nat) (B : Code) (hB : B = (hole f101_b [1, 0, 1, 0, 1, 0, 1, 0, 1, 0, 1] X0)) : f101_P9 B call n = f101_T9 call n (f101_P13 B call n) := by
 subst hB; funext x0 x1 x2; cases x1 <;> kernel_rfl
theorem f101_l9 (call : CallF) (n : Nat) : f101_P9 f101_b call n = f101_T9 call n (f101_P13 f101_b call n) :=
 f101_o9 (piece [1, 0, 1, 0, 1, 0, 1, 0, 1, 0, 1] f101_b) call n _ (by kernel_rfl)
def f101_L9 (call : CallF) (n : Nat) : Int → Bool → S_api_Cmd → OR :=
 f101_T9 call n (f101_L13 call n)
theorem f101_e9 (call : CallF) (n : Nat) : f101_P9 f101_b call n = f101_L9 call n := by
 rw [f101_l9, f101_e13]; rfl
def f101_T (call : CallF) (n : Nat) (j9 : Int → Bool → S_api_Cmd → OR) (a0 : S_api_Cmd) (a1 a2 : LB) : OR :=
 bif (a1 == ([83, 73, 90, 69] : List UInt8)) then (
  primK pParseU [.one (.str a2), .one (.int .i64 (10 : Int)), .one (.int .i64 (64 : Int))] fun v18 =>
  castTup v18 fun v19 =>
  zI .u64 v19 fun n20 r21 =>
  zE r21 fun b22 r23 =>
  nilK r23 (
   bif b22 then (
    j9 n20 true a0) else (
    bif (decide (((a2).length : Int) > (20 : Int))) then (
     j9 n20 true a0) else (
     j9 n20 (decide (n20 > (9007199254740992 : Int))) a0)))) else (
  bif (a1 == ([66, 79, 68, 89] : List UInt8)) then (
   updK (.str ([55, 66, 73, 84] : List UInt8)) (.int .i64 (7 : Int)) 0 ([] : List (Cell × Cell × Nat)) fun k24 m25 =>
   updK (.str ([56, 66, 73, 84, 77, 73, 77, 69] : List UInt8)) (.int .i64 (8 : Int)) k24 m25 fun k26 m27 =>
   callK call 42 [.one (.str a2)] fun v28 =>
   oS v28 fun s29 =>
   lookK (.str s29) m27 (.int .i64 (0 : Int)) fun c30 t31 =>
   castI .i64 c30 fun n32 =>
   callK call 34 [.one (.bool (decide (n32 > (0 : Int))))] fun v33 =>
   oI .i64 v33 fun n34 =>
   some (.one (.int .i64 n34), [({ a0 with fBody := n32 } : S_api_Cmd).cells])) else (
   some (.one (.int .i64 (555 : Int)), [a0.cells])))
def f101_L (call : CallF) (n : Nat) (a0 : S_api_Cmd) (a1 a2 : LB) : OR :=
 f101_T call n (f101_L9 call n) a0 a1 a2
theorem f101_o (X0 : Code) (call : CallF) (n : Nat) (B : Code) (hB : B = (hole f101_b [1, 0, 1, 0, 1, 0, 1, 0, 1] X0)) : f101_P B call n = f101_T call n (f101_P9 B call n) := by
 subst hB; funext a0 a1 a2; kernel_rfl
theorem f101_l (call : CallF) (n : Nat) : f101_P f101_b call n = f101_T call n (f101_P9 f101_b call n) :=
 f101_o (piece [1, 0, 1, 0, 1, 0, 1, 0, 1] f101_b) call n _ (by kernel_rfl)
theorem f101_e (call : CallF) (n : Nat) : f101_P f101_b call n = f101_L call n := by
 rw [f101_l, f101_e9]; rfl
theorem f101_eq (n : Nat) (a0 : S_api_Cmd) (a1 a2 : LB) : acall AXE AXF (n + 1) 101 [.one (.ptr 0 0), .one (.str a1), .one (.str a2)] [a0.cells] = f101_L (acall AXE AXF n) (n + 1) a0 a1 a2 :=
 (show _ = f101_P f101_b (acall AXE AXF n) (n + 1) a0 a1 a2 by kernel_rfl).trans (by rw [f101_e])
def f106_P9 (B : Code) (call : CallF) (n : Nat) (m0 : Nat) (x0 : Bool) : OR :=
 f106_x B call n [1, 0, 1, 0, 0, 1, 0, 0, 1, 1, 0, 1] (kBlk 1 (kSeq (f106_x B call n [1, 0, 1, 0, 0, 1, 1]) (kSeq (fun k => prK 1000002 (pruneAt f106_h 1000002) (aloop 1000002 (pruneAt f106_h 1000002) (f106_x B call n [1, 0, 1, 0, 0]) k m0)) (kBlk 0 (kSeq (f106_x B call n [1, 1]) (kEnd AXE 0 f106_r)))))) ⟨[(2, .one (.bool x0))], []⟩
def f106_P10 (B : Code) (call : CallF) (n : Nat) (m0 : Nat) (x0 : LB) (x1 : Int) : OR :=
 f106_x B call n [1, 0, 1, 0, 0, 1, 1] (kSeq (fun k => prK 1000002 (pruneAt f106_h 1000002) (aloop 1000002 (pruneAt f106_h 1000002) (f106_x B call n [1, 0, 1, 0, 0]) k m0)) (kBlk 0 (kSeq (f106_x B call n [1, 1]) (kEnd AXE 0 f106_r)))) ⟨[(0, .one (.str x0)), (3, .one (.int .i64 x1))], []⟩
def f106_P8 (B : Code) (call : CallF) (n : Nat) (m0 : Nat) (x0 : LB) (x1 : Int) (x2 : Bool) : OR :=
 f106_x B call n [1, 0, 1, 0, 0, 1, 0, 0, 1, 1] (kBlk 1 (kSeq (f106_x B call n [1, 0, 1, 0, 0, 1, 1]) (kSeq (fun k => prK 1000002 (pruneAt f106_h 1000002) (aloop 1000002 (pruneAt f106_h 1000002) (f106_x B call n [1, 0, 1, 0, 0]) k m0)) (kBlk 0 (kSeq (f106_x B call n [1, 1]) (kEnd AXE 0 f106_r)))))) ⟨[(0, .one (.str x0)), (3, .one (.int .i64 x1)), (33, .one (.bool x2))], []⟩
def f106_P2 (B : Code) (call : CallF) (n : Nat) (m0 : Nat) (x0 : LB) (x1 : Int) : OR :=
 aloop 1000002 (pruneAt f106_h 1000002) (f106_x B call n [1, 0, 1, 0, 0]) (kBlk 0 (kSeq (f106_x B call n [1, 1]) (kEnd AXE 0 f106_r))) m0 ⟨[(0, .one (.str x0)), (3, .one (.int .i64 x1))], []⟩
def f106_P (B : Code) (call : CallF) (n : Nat) (a0 : LB) : OR :=
 f106_x B call n [] (kEnd AXE 0 f106_r) ⟨[(0, .one (.str a0))], []⟩
def f106_T9 (call : CallF) (n : Nat) (x0 : Bool) : OR :=
 some (.one (.bool x0), [])
theorem f106_o9 (call : CallF) (n : Nat) (m0 : Nat) (B : Code) (hB : B = f106_b) : f106_P9 B call n m0 = f106_T9 call n := by
 subst hB; funext x0; kernel_rfl
theorem f106_l9 (call : CallF) (n : Nat) (m0 : Nat) : f106_P9 f106_b call n m0 = f106_T9 call n :=
 f106_o9 call n m0 _ (by kernel_rfl)
def f106_L9 (call : CallF) (n : Nat) (h_m0 : LB → Int → OR) : Bool → OR :=
 f106_T9 call n
theorem f106_e9 (call : CallF) (n : Nat) (m0 : Nat) : f106_P9 f106_b call n m0 = f106_L9 call n (f106_P2 f106_b call n m0) := by
 rw [f106_l9]; rfl
def f106_T10 (call : CallF) (n : Nat) (j2m : LB → Int → OR) (x0 : LB) (x1 : Int) : OR :=
 j2m x0 (IntKind.wrap .i64 (x1 + (1 : Int)))
theorem f106_o10 (call : CallF) (n : Nat) (m0 : Nat) (B : Code) (hB : B = f106_b) : f106_P10 B call n m0 = f106_T10 call n (f106_P2 B call n m0) := by
 subst hB; funext x0 x1; kernel_rfl
theorem f106_l10 (call : CallF) (n : Nat) (m0 : Nat) : f106_P10 f106_b call n m0 = f106_T10 call n (f106_P2 f106_b call n m0) :=
 f106_o10 call n m0 _ (by kernel_rfl)
def f106_L10 (call : CallF) (n : Nat) (h_m0 : LB → Int → OR) : LB → Int → OR :=
 f106_T10 call n h_m0
theorem f106_e10 (call : CallF) (n : Nat) (m0 : Nat) : f106_P10 f106_b call n m0 = f106_L10 call n (f106_P2 f106_b call n m0) := by
 rw [f106_l10]; rfl
def f106_T8 (call : CallF) (n : Nat) (j9 : Bool → OR) (j10 : LB → Int → OR) (x0 : LB) (x1 : Int) (x2 : Bool) : OR :=
 bif x2 then (
  j9 false) else (
  j10 x0 x1)
theorem f106_o8 (X0 X1 : Code) (call : CallF) (n : Nat) (m0 : Nat) (B : Code) (hB : B = (hole (hole f106_b [1, 0, 1, 0, 0, 1, 0, 0, 1, 1, 0, 1] X0) [1, 0, 1, 0, 0, 1, 1] X1)) : f106_P8 B call n m0 = f106_T8 call n (f106_P9 B call n m0) (f106_P10 B call n m0) := by
 subst hB; funext x0 x1 x2; cases x2 <;> kernel_rfl
theorem f106_l8 (call : CallF) (n : Nat) (m0 : Nat) : f106_P8 f106_b call n m0 = f106_T8 call n (f106_P9 f106_b call n m0) (f106_P10 f106_b call n m0) :=
 f106_o8 (piece [1, 0, 1, 0, 0, 1, 0, 0, 1, 1, 0, 1] f106_b) (piece [1, 0, 1, 0, 0, 1, 1] f106_b) call n m0 _ (by kernel_rfl)
def f106_L8 (call : CallF) (n : Nat) (h_m0 : LB → Int → OR) : LB → Int → Bool → OR :=
 f106_T8 call n (f106_L9 call n h_m0) (f106_L10 call n h_m0)
theorem f106_e8 (call : CallF) (n : Nat) (m0 : Nat) : f106_P8 f106_b call n m0 = f106_L8 call n (f106_P2 f106_b call n m0) := by
 rw [f106_l8, f106_e9, f106_e10]; rfl
def f106_T2 (call : CallF) (n : Nat) (j8 : LB → Int → Bool → OR) (x0 : LB) (x1 : Int) : OR :=
 bif (decide (x1 < ((x0).length : Int))) then (
  itemK x0 x1 fun u1 =>
  bif (decide ((UInt8.toNat u1 : Int) ≥ (65 : Int))) then (
   bif (!(decide ((UInt8.toNat u1 : Int) ≤ (90 : Int)))) then (
    bif (decide ((UInt8.toNat u1 : Int) ≥ (48 : Int))) then (
     bif (!(decide ((UInt8.toNat u1 : Int) ≤ (57 : Int)))) then (
      j8 x0 x1 ((UInt8.toNat u1 : Int) != (45 : Int))) else (
      j8 x0 x1 false)) else (
     j8 x0 x1 ((UInt8.toNat u1 : Int) != (45 : Int)))) else (
    j8 x0 x1 false)) else (
   bif (decide ((UInt8.toNat u1 : Int) ≥ (48 : Int))) then (
    bif (!(decide ((UInt8.toNat u1 : Int) ≤ (57 : Int)))) then (
     j8 x0 x1 ((UInt8.toNat u1 : Int) != (45 : Int))) else (
     j8 x0 x1 false)) else (
    j8 x0 x1 ((UInt8.toNat u1 : Int) != (45 : Int))))) else (
  some (.one (.bool (decide (((x0).length : Int) > (0 : Int)))), []))
theorem f106_o2 (X0 : Code) (call : CallF) (n : Nat) (m0 : Nat) (B : Code) (hB : B = (hole f106_b [1, 0, 1, 0, 0, 1, 0, 0, 1, 1] X0)) : f106_P2 B call n (m0 + 1) = f106_T2 call n (f106_P8 B call n m0) := by
 subst hB; funext x0 x1; kernel_rfl
theorem f106_l2 (call : CallF) (n : Nat) (m0 : Nat) : f106_P2 f106_b call n (m0 + 1) = f106_T2 call n (f106_P8 f106_b call n m0) :=
 f106_o2 (piece [1, 0, 1, 0, 0, 1, 0, 0, 1, 1] f106_b) call n m0 _ (by kernel_rfl)
def f106_L2 (call : CallF) (n : Nat) : Nat → LB → Int → OR
 | 0 => fun _ _ => none
 | m0 + 1 => f106_T2 call n (f106_L8 call n (f106_L2 call n m0))
theorem f106_e2 (call : CallF) (n : Nat) : ∀ m0 : Nat, f106_P2 f106_b call n m0 = f106_L2 call n m0
 | 0 => by funext x0 x1; kernel_rfl
 | m0 + 1 => by rw [f106_l2, f106_e8, f106_e2 call n m0]; rfl
def f106_T (call : CallF) (n : Nat) (j2n : LB → Int → OR) (a0 : LB) : OR :=
 j2n a0 (0 : Int)
def f106_L (call : CallF) (n : Nat) (a0 : LB) : OR :=
 f106_T call n (f106_L2 call n n) a0
theorem f106_o (call : CallF) (n : Nat) (B : Code) (hB : B = f106_b) : f106_P B call n = f106_T call n (f106_P2 B call n n) := by
 subst hB; funext a0; kernel_rfl
theorem f106_l (call : CallF) (n : Nat) : f106_P f106_b call n = f106_T call n (f106_P2 f106_b call n n) :=
 f106_o call n _ (by kernel_rfl)
theorem f106_e (call : CallF) (n : Nat) : f106_P f106_b call n = f106_L call n := by
 rw [f106_l, f106_e2]; rfl
theorem f106_eq (n : Nat) (a0 : LB) : acall AXE AXF (n + 1) 106 [.one (.str a0)] [] = f106_L (acall AXE AXF n) (n + 1) a0 :=
 (show _ = f106_P f106_b (acall AXE AXF n) (n + 1) a0 by kernel_rfl).trans (by rw [f106_e])
def f107_P5 (B : Code) (call : CallF) (n : Nat) (x0 : Int) : OR :=
 f107_x B call n [1, 0, 1, 0, 1] (kSeq (f107_x B call n [1, 1]) (kEnd AXE 0 f107_r)) ⟨[(2, .one (.int .i64 x0))], []⟩
def f107_P17 (B : Code) (call : CallF) (n : Nat) (m0 : Nat) (x0 : Int) : OR :=
 f107_x B call n [1, 1, 1, 0, 1, 0, 0, 1, 0, 0, 0, 1, 0, 1] (kSeq (f107_x B call n [1, 1, 1, 0, 1, 0, 0, 1, 0, 0, 1]) (kBlk 1 (kSeq (f107_x B call n [1, 1, 1, 0, 1, 0, 0, 1, 1]) (kSeq (fun k => prK 1000005 (pruneAt f107_h 1000005) (aloop 1000005 (pruneAt f107_h 1000005) (f107_x B call n [1, 1, 1, 0, 1, 0, 0]) k m0)) (kBlk 0 (kSeq (f107_x B call n [1, 1, 1, 1]) (kEnd AXE 0 f107_r))))))) ⟨[(2, .one (.int .i64 x0))], []⟩
def f107_P11 (B : Code) (call : CallF) (n : Nat) (m0 : Nat) (x0 : LB) (x1 x2 : Int) (x3 : Bool) : OR :=
 f107_x B call n [1, 1, 1, 0, 1, 0, 0, 1, 0, 0, 0, 1] (kSeq (f107_x B call n [1, 1, 1, 0, 1, 0, 0, 1, 0, 0, 1]) (kBlk 1 (kSeq (f107_x B call n [1, 1, 1, 0, 1, 0, 0, 1, 1]) (kSeq (fun k => prK 1000005 (pruneAt f107_h 1000005) (aloop 1000005 (pruneAt f107_h 1000005) (f107_x B call n [1, 1, 1, 0, 1, 0, 0]) k m0)) (kBlk 0 (kSeq (f107_x B call n [1, 1, 1, 1]) (kEnd AXE 0 f107_r))))))) ⟨[(0, .one (.str x0)), (3, .one (.int .i64 x1)), (4, .one (.int .i64 x2)), (28, .one (.bool x3))], []⟩
def f107_P6 (B : Code) (call : CallF) (n : Nat) (m0 : Nat) (x0 : LB) (x1 x2 : Int) : OR :=
 aloop 1000005 (pruneAt f107_h 1000005) (f107_x B call n [1, 1, 1, 0, 1, 0, 0]) (kBlk 0 (kSeq (f107_x B call n [1, 1, 1, 1]) (kEnd AXE 0 f107_r))) m0 ⟨[(0, .one (.str x0)), (3, .one (.int .i64 x1)), (4, .one (.int .i64 x2))], []⟩
def f107_P1 (B : Code) (call : CallF) (n : Nat) (x0 : LB) (x1 : Bool) : OR :=
 f107_x B call n [1, 0, 1] (kSeq (f107_x B call n [1, 1]) (kEnd AXE 0 f107_r)) ⟨[(0, .one (.str x0)), (12, .one (.bool x1))], []⟩
def f107_P (B : Code) (call : CallF) (n : Nat) (a0 : LB) : OR :=
 f107_x B call n [] (kEnd AXE 0 f107_r) ⟨[(0, .one (.str a0))], []⟩
def f107_T5 (call : CallF) (n : Nat) (x0 : Int) : OR :=
 some (.one (.int .i64 x0), [])
theorem f107_o5 (call : CallF) (n : Nat) (B : Code) (hB : B = f107_b) : f107_P5 B call n = f107_T5 call n := by
 subst hB; funext x0; kernel_rfl
theorem f107_l5 (call : CallF) (n : Nat) : f107_P5 f107_b call n = f107_T5 call n :=
 f107_o5 call n _ (by kernel_rfl)
def f107_L5 (call : CallF) (n : Nat) : Int → OR :=
 f107_T5 call n
theorem f107_e5 (call : CallF) (n : Nat) : f107_P5 f107_b call n = f107_L5 call n := by
 rw [f107_l5]; rfl
def f107_T17 (call : CallF) (n : Nat) (x0 : Int) : OR :=
 some (.one (.int .i64 x0), [])
theorem f107_o17 (call : CallF) (n : Nat) (m0 : Nat) (B : Code) (hB : B = f107_b) : f107_P17 B call n m0 = f107_T17 call n := by
 subst hB; funext x0; kernel_rfl
theorem f107_l17 (call : CallF) (n : Nat) (m0 : Nat) : f107_P17 f107_b call n m0 = f107_T17 call n :=
 f107_o17 call n m0 _ (by kernel_rfl)
def f107_L17 (call : CallF) (n : Nat) (h_m0 : LB → Int → Int → OR) : Int → OR :=
 f107_T17 call n
theorem f107_e17 (call : CallF) (n : Nat) (m0 : Nat) : f107_P17 f107_b call n m0 = f107_L17 call n (f107_P6 f107_b call n m0) := by
 rw [f107_l17]; rfl
def f107_T11 (call : CallF) (n : Nat) (j17 : Int → OR) (j6m : LB → Int → Int → OR) (x0 : LB) (x1 x2 : Int) (x3 : Bool) : OR :=
 bif x3 then (
  j17 (-1 : Int)) else (
  itemK x0 x2 fun u1 =>
  bif (decide ((IntKind.wrap .i64 ((IntKind.wrap .i64 ((IntKind.wrap .i64 ((10 : Int) * x1)) + (IntKind.wrap .i64 (UInt8.toNat u1 : Int)))) - (48 : Int))) > (9007199254740992 : Int))) then (
   some (.one (.int .i64 (-1 : Int)), [])) else (
   j6m x0 (IntKind.wrap .i64 ((IntKind.wrap .i64 ((IntKind.wrap .i64 ((10 : Int) * x1)) + (IntKind.wrap .i64 (UInt8.toNat u1 : Int)))) - (48 : Int))) (IntKind.wrap .i64 (x2 + (1 : Int)))))
theorem f107_o11 (X0 : Code) (call : CallF) (n : Nat) (m0 : Nat) (B : Code) (hB : B = (hole f107_b [1, 1, 1, 0, 1, 0, 0, 1, 0, 0, 0, 1, 0, 1] X0)) : f107_P11 B call n m0 = f107_T11 call n (f107_P17 B call n m0) (f107_P6 B call n m0) := by
 subst hB; funext x0 x1 x2 x3; cases x3 <;> kernel_rfl
theorem f107_l11 (call : CallF) (n : Nat) (m0 : Nat) : f107_P11 f107_b call n m0 = f107_T11 call n (f107_P17 f107_b call n m0) (f107_P6 f107_b call n m0) :=
 f107_o11 (piece [1, 1, 1, 0, 1, 0, 0, 1, 0, 0, 0, 1, 0, 1] f107_b) call n m0 _ (by kernel_rfl)
def f107_L11 (call : CallF) (n : Nat) (h_m0 : LB → Int → Int → OR) : LB → Int → Int → Bool → OR :=
 f107_T11 call n (f107_L17 call n h_m0) h_m0
theorem f107_e11 (call : CallF) (n : Nat) (m0 : Nat) : f107_P11 f107_b call n m0 = f107_L11 call n (f107_P6 f107_b call n m0) := by
 rw [f107_l11, f107_e17]; rfl
def f107_T6 (call : CallF) (n : Nat) (j11 : LB → Int → Int → Bool → OR) (x0 : LB) (x1 x2 : Int) : OR :=
 bif (decide (x2 < ((x0).length : Int))) then (
  itemK x0 x2 fun u1 =>
  bif (decide ((UInt8.toNat u1 : Int) < (48 : Int))) then (
   j11 x0 x1 x2 true) else (
   itemK x0 x2 fun u2 =>
   j11 x0 x1 x2 (decide ((UInt8.toNat u2 : Int) > (57 : Int))))) else (
  some (.one (.int .i64 x1), []))
theorem f107_o6 (X0 : Code) (call : CallF) (n : Nat) (m0 : Nat) (B : Code) (hB : B = (hole f107_b [1, 1, 1, 0, 1, 0, 0, 1, 0, 0, 0, 1] X0)) : f107_P6 B call n (m0 + 1) = f107_T6 call n (f107_P11 B call n m0) := by
 subst hB; funext x0 x1 x2; kernel_rfl
theorem f107_l6 (call : CallF) (n : Nat) (m0 : Nat) : f107_P6 f107_b call n (m0 + 1) = f107_T6 call n (f107_P11 f107_b call n m0) :=
 f107_o6 (piece [1, 1, 1, 0, 1, 0, 0, 1, 0, 0, 0, 1] f107_b) call n m0 _ (by kernel_rfl)
def f107_L6 (call : CallF) (n : Nat) : Nat → LB → Int → Int → OR
 | 0 => fun _ _ _ => none
 | m0 + 1 => f107_T6 call n (f107_L11 call n (f107_L6 call n m0))
theorem f107_e6 (call : CallF) (n : Nat) : ∀ m0 : Nat, f107_P6 f107_b call n m0 = f107_L6 call n m0
 | 0 => by funext x0 x1 x2; kernel_rfl
 | m0 + 1 => by rw [f107_l6, f107_e11, f107_e6 call n m0]; rfl
def f107_T1 (call : CallF) (n : Nat) (j5 : Int → OR) (j6n : LB → Int → Int → OR) (x0 : LB) (x1 : Bool) : OR :=
 bif x1 then (
  j5 (-1 : Int)) else (
  j6n x0 (0 : Int) (0 : Int))
theorem f107_o1 (X0 : Code) (call : CallF) (n : Nat) (B : Code) (hB : B = (hole f107_b [1, 0, 1, 0, 1] X0)) : f107_P1 B call n = f107_T1 call n (f107_P5 B call n) (f107_P6 B call n n) := by
 subst hB; funext x0 x1; cases x1 <;> kernel_rfl
theorem f107_l1 (call : CallF) (n : Nat) : f107_P1 f107_b call n = f107_T1 call n (f107_P5 f107_b call n) (f107_P6 f107_b call n n) :=
 f107_o1 (piece [1, 0, 1, 0, 1] f107_b) call n _ (by kernel_rfl)
def f107_L1 (call : CallF) (n : Nat) : LB → Bool → OR :=
 f107_T1 call n (f107_L5 call n) (f107_L6 call n n)
theorem f107_e1 (call : CallF) (n : Nat) : f107_P1 f107_b call n = f107_L1 call n := by
 rw [f107_l1, f107_e5, f107_e6]; rfl
def f107_T (call : CallF) (n : Nat) (j1 : LB → Bool → OR) (a0 : LB) : OR :=
 bif (decide (((a0).length : Int) < (1 : Int))) then (
  j1 a0 true) else (
  j1 a0 (decide (((a0).length : Int) > (20 : Int))))
def f107_L (call : CallF) (n : Nat) (a0 : LB) : OR :=
 f107_T call n (f107_L1 call n) a0
theorem f107_o (X0 : Code) (call : CallF) (n : Nat) (B : Code) (hB : B = (hole f107_b [1, 0, 1] X0)) : f107_P B call n = f107_T call n (f107_P1 B call n) := by
 subst hB; funext a0; kernel_rfl
theorem f107_l (call : CallF) (n : Nat) : f107_P f107_b call n = f107_T call n (f107_P1 f107_b call n) :=
 f107_o (piece [1, 0, 1] f107_b) call n _ (by kernel_rfl)
theorem f107_e (call : CallF) (n : Nat) : f107_P f107_b call n = f107_L call n := by
 rw [f107_l, f107_e1]; rfl
theorem f107_eq (n : Nat) (a0 : LB) : acall AXE AXF (n + 1) 107 [.one (.str a0)] [] = f107_L (acall AXE AXF n) (n + 1) a0 :=
 (show _ = f107_P f107_b (acall AXE AXF n) (n + 1) a0 by kernel_rfl).trans (by rw [f107_e])
end
end AX
end Go.Proofs.YtfbicbgdfcbhpaaGreatDoor
