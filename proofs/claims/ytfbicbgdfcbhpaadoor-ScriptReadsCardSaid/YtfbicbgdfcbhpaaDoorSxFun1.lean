/-
  The functions, printed, and that they are the reckoning.
-/
import Derived.Test.YtfbicbgdfcbhpaaDoorSxTab
set_option maxRecDepth 20000
set_option linter.unusedVariables false
set_option linter.unusedSimpArgs false
set_option linter.unusedSectionVars false
namespace Go.Proofs.YtfbicbgdfcbhpaaDoor
namespace AX
set_option linter.unusedVariables false
noncomputable section
def f3_P8 (B : Code) (call : CallF) (n : Nat) (x0 : Bool) : OR :=
  f3_x B call n [1, 1, 0, 1, 0, 1] (kSeq (f3_x B call n [1, 1, 1]) (kEnd AXE 0 f3_r)) ⟨[(4, .one (.bool x0))], []⟩
def f3_P14 (B : Code) (call : CallF) (n : Nat) (x0 : Bool) : OR :=
  f3_x B call n [1, 1, 1, 1, 1, 0, 1, 0, 1] (kSeq (f3_x B call n [1, 1, 1, 1, 1, 1]) (kEnd AXE 0 f3_r)) ⟨[(4, .one (.bool x0))], []⟩
def f3_P18 (B : Code) (call : CallF) (n : Nat) (x0 : Bool) : OR :=
  f3_x B call n [1, 1, 1, 1, 1, 1, 0, 1, 0, 1, 1, 0, 1] (kSeq (f3_x B call n [1, 1, 1, 1, 1, 1, 1]) (kEnd AXE 0 f3_r)) ⟨[(4, .one (.bool x0))], []⟩
def f3_P23 (B : Code) (call : CallF) (n : Nat) (x0 : Bool) : OR :=
  f3_x B call n [1, 1, 1, 1, 1, 1, 1, 1, 1, 0, 1, 0, 1] (kSeq (f3_x B call n [1, 1, 1, 1, 1, 1, 1, 1, 1, 1]) (kEnd AXE 0 f3_r)) ⟨[(4, .one (.bool x0))], []⟩
def f3_P24 (B : Code) (call : CallF) (n : Nat) (m0 : Nat) (x0 : LC) (x1 : Int) (x2 : S_ref31_Events) : OR :=
  aloop 1000018 (pruneAt f3_h 1000018) (f3_x B call n [1, 1, 1, 1, 1, 1, 1, 1, 1, 1, 0, 1, 0, 0]) (kBlk 0 (kSeq (f3_x B call n [1, 1, 1, 1, 1, 1, 1, 1, 1, 1, 1]) (kEnd AXE 0 f3_r))) m0 ⟨[(10, .one (.sl none 12 x0)), (13, .one (.ptr 0 0)), (14, .one (.int .i64 x1))], [x2.cells]⟩
def f3_P20 (B : Code) (call : CallF) (n : Nat) (x0 : LC) (x1 : Bool) (x2 : S_ref31_Events) : OR :=
  f3_x B call n [1, 1, 1, 1, 1, 1, 1, 1, 1, 0, 1] (kSeq (f3_x B call n [1, 1, 1, 1, 1, 1, 1, 1, 1, 1]) (kEnd AXE 0 f3_r)) ⟨[(10, .one (.sl none 12 x0)), (13, .one (.ptr 0 0)), (82, .one (.bool x1))], [x2.cells]⟩
def f3_P19 (B : Code) (call : CallF) (n : Nat) (x0 : LC) (x1 x2 : Int) (x3 : S_ref31_Events) : OR :=
  f3_x B call n [1, 1, 1, 1, 1, 1, 1, 1, 1] (kEnd AXE 0 f3_r) ⟨[(10, .one (.sl none 12 x0)), (11, .one (.int .i64 x1)), (12, .one (.int .i64 x2)), (13, .one (.ptr 0 0))], [x3.cells]⟩
def f3_P17 (B : Code) (call : CallF) (n : Nat) (x0 : LB) (x1 : LC) (x2 x3 : Int) : OR :=
  f3_x B call n [1, 1, 1, 1, 1, 1, 1, 1] (kEnd AXE 0 f3_r) ⟨[(1, .one (.str x0)), (10, .one (.sl none 12 x1)), (11, .one (.int .i64 x2)), (12, .one (.int .i64 x3))], []⟩
def f3_P15 (B : Code) (call : CallF) (n : Nat) (x0 : LB) (x1 : Bool) : OR :=
  f3_x B call n [1, 1, 1, 1, 1, 1, 0, 1, 0, 1, 1] (kSeq (f3_x B call n [1, 1, 1, 1, 1, 1, 1]) (kEnd AXE 0 f3_r)) ⟨[(1, .one (.str x0)), (56, .one (.bool x1))], []⟩
def f3_P9 (B : Code) (call : CallF) (n : Nat) (x0 x1 : LB) (x2 : Int) (x3 : Bool) (x4 : S_api_Event) : OR :=
  f3_x B call n [1, 1, 1, 1, 1, 0, 1] (kSeq (f3_x B call n [1, 1, 1, 1, 1, 1]) (kEnd AXE 0 f3_r)) ⟨[(0, .one (.str x0)), (1, .one (.str x1)), (5, .one (.ptr 0 0)), (6, .one (.int .i64 x2)), (42, .one (.bool x3))], [x4.cells]⟩
def f3_P4 (B : Code) (call : CallF) (n : Nat) (x0 x1 : LB) (x2 : Bool) : OR :=
  f3_x B call n [1, 1, 0, 1] (kSeq (f3_x B call n [1, 1, 1]) (kEnd AXE 0 f3_r)) ⟨[(0, .one (.str x0)), (1, .one (.str x1)), (24, .one (.bool x2))], []⟩
def f3_P (B : Code) (call : CallF) (n : Nat) (a0 a1 : LB) : OR :=
  f3_x B call n [] (kEnd AXE 0 f3_r) ⟨[(0, .one (.str a0)), (1, .one (.str a1))], []⟩
def f3_T8 (call : CallF) (n : Nat) (x0 : Bool) : OR :=
  some (.one (.bool x0), [])
theorem f3_o8 (call : CallF) (n : Nat) (B : Code) (hB : B = f3_b) : f3_P8 B call n = f3_T8 call n := by
  subst hB; funext x0; kernel_rfl
theorem f3_l8 (call : CallF) (n : Nat) : f3_P8 f3_b call n = f3_T8 call n :=
  f3_o8 call n _ (by kernel_rfl)
def f3_L8 (call : CallF) (n : Nat) : Bool → OR :=
  f3_T8 call n
theorem f3_e8 (call : CallF) (n : Nat) : f3_P8 f3_b call n = f3_L8 call n := by
  rw [f3_l8]; rfl
def f3_T14 (call : CallF) (n : Nat) (x0 : Bool) : OR :=
  some (.one (.bool x0), [])
theorem f3_o14 (call : CallF) (n : Nat) (B : Code) (hB : B = f3_b) : f3_P14 B call n = f3_T14 call n := by
  subst hB; funext x0; kernel_rfl
theorem f3_l14 (call : CallF) (n : Nat) : f3_P14 f3_b call n = f3_T14 call n :=
  f3_o14 call n _ (by kernel_rfl)
def f3_L14 (call : CallF) (n : Nat) : Bool → OR :=
  f3_T14 call n
theorem f3_e14 (call : CallF) (n : Nat) : f3_P14 f3_b call n = f3_L14 call n := by
  rw [f3_l14]; rfl
def f3_T18 (call : CallF) (n : Nat) (x0 : Bool) : OR :=
  some (.one (.bool x0), [])
theorem f3_o18 (call : CallF) (n : Nat) (B : Code) (hB : B = f3_b) : f3_P18 B call n = f3_T18 call n := by
  subst hB; funext x0; kernel_rfl
theorem f3_l18 (call : CallF) (n : Nat) : f3_P18 f3_b call n = f3_T18 call n :=
  f3_o18 call n _ (by kernel_rfl)
def f3_L18 (call : CallF) (n : Nat) : Bool → OR :=
  f3_T18 call n
theorem f3_e18 (call : CallF) (n : Nat) : f3_P18 f3_b call n = f3_L18 call n := by
  rw [f3_l18]; rfl
def f3_T23 (call : CallF) (n : Nat) (x0 : Bool) : OR :=
  some (.one (.bool x0), [])
theorem f3_o23 (call : CallF) (n : Nat) (B : Code) (hB : B = f3_b) : f3_P23 B call n = f3_T23 call n := by
  subst hB; funext x0; kernel_rfl
theorem f3_l23 (call : CallF) (n : Nat) : f3_P23 f3_b call n = f3_T23 call n :=
  f3_o23 call n _ (by kernel_rfl)
def f3_L23 (call : CallF) (n : Nat) : Bool → OR :=
  f3_T23 call n
theorem f3_e23 (call : CallF) (n : Nat) : f3_P23 f3_b call n = f3_L23 call n := by
  rw [f3_l23]; rfl
def f3_T24 (call : CallF) (n : Nat) (j24m : LC → Int → S_ref31_Events → OR) (x0 : LC) (x1 : Int) (x2 : S_ref31_Events) : OR :=
  bif (decide (x1 < (((x0).length / 12 : Nat) : Int))) then (
    guardB (decide (0 ≤ x1) && decide ((Int.toNat x1) * 12 + 12 ≤ x0.length)) (
      takeS_api_Event ((x0.drop ((Int.toNat x1) * 12)).take 12) fun w1 r2 =>
      guardB (decide (0 ≤ x1) && decide ((Int.toNat x1) * 12 + 12 ≤ x2.fL.length)) (
        takeS_api_Event ((x2.fL.drop ((Int.toNat x1) * 12)).take 12) fun w3 r4 =>
        callK call 10 [.agg w1.cells, .agg w3.cells] fun v5 =>
        oB v5 fun b6 =>
        bif (!b6) then (
          some (.one (.bool false), [])) else (
          j24m x0 (IntKind.wrap .i64 (x1 + (1 : Int))) x2)))) else (
    some (.one (.bool true), []))
theorem f3_o24 (call : CallF) (n : Nat) (m0 : Nat) (B : Code) (hB : B = f3_b) : f3_P24 B call n (m0 + 1) = f3_T24 call n (f3_P24 B call n m0) := by
  subst hB; funext x0 x1 x2; kernel_rfl
theorem f3_l24 (call : CallF) (n : Nat) (m0 : Nat) : f3_P24 f3_b call n (m0 + 1) = f3_T24 call n (f3_P24 f3_b call n m0) :=
  f3_o24 call n m0 _ (by kernel_rfl)
def f3_L24 (call : CallF) (n : Nat) : Nat → LC → Int → S_ref31_Events → OR
  | 0 => fun _ _ _ => none
  | m0 + 1 => f3_T24 call n (f3_L24 call n m0)
theorem f3_e24 (call : CallF) (n : Nat) : ∀ m0 : Nat, f3_P24 f3_b call n m0 = f3_L24 call n m0
  | 0 => by funext x0 x1 x2; kernel_rfl
  | m0 + 1 => by rw [f3_l24, f3_e24 call n m0]; rfl
def f3_T20 (call : CallF) (n : Nat) (j23 : Bool → OR) (j24n : LC → Int → S_ref31_Events → OR) (x0 : LC) (x1 : Bool) (x2 : S_ref31_Events) : OR :=
  bif x1 then (
    j23 false) else (
    j24n x0 (0 : Int) x2)
theorem f3_o20 (X0 : Code) (call : CallF) (n : Nat) (B : Code) (hB : B = (hole f3_b [1, 1, 1, 1, 1, 1, 1, 1, 1, 0, 1, 0, 1] X0)) : f3_P20 B call n = f3_T20 call n (f3_P23 B call n) (f3_P24 B call n n) := by
  subst hB; funext x0 x1 x2; cases x1 <;> kernel_rfl
theorem f3_l20 (call : CallF) (n : Nat) : f3_P20 f3_b call n = f3_T20 call n (f3_P23 f3_b call n) (f3_P24 f3_b call n n) :=
  f3_o20 (piece [1, 1, 1, 1, 1, 1, 1, 1, 1, 0, 1, 0, 1] f3_b) call n _ (by kernel_rfl)
def f3_L20 (call : CallF) (n : Nat) : LC → Bool → S_ref31_Events → OR :=
  f3_T20 call n (f3_L23 call n) (f3_L24 call n n)
theorem f3_e20 (call : CallF) (n : Nat) : f3_P20 f3_b call n = f3_L20 call n := by
  rw [f3_l20, f3_e23, f3_e24]; rfl
def f3_T19 (call : CallF) (n : Nat) (j20 : LC → Bool → S_ref31_Events → OR) (x0 : LC) (x1 x2 : Int) (x3 : S_ref31_Events) : OR :=
  bif ((((x0).length / 12 : Nat) : Int) != (((x3.fL).length / 12 : Nat) : Int)) then (
    j20 x0 true x3) else (
    bif (x1 != x3.fAt) then (
      j20 x0 true x3) else (
      j20 x0 (x2 != x3.fE) x3))
theorem f3_o19 (X0 : Code) (call : CallF) (n : Nat) (B : Code) (hB : B = (hole f3_b [1, 1, 1, 1, 1, 1, 1, 1, 1, 0, 1] X0)) : f3_P19 B call n = f3_T19 call n (f3_P20 B call n) := by
  subst hB; funext x0 x1 x2 x3; kernel_rfl
theorem f3_l19 (call : CallF) (n : Nat) : f3_P19 f3_b call n = f3_T19 call n (f3_P20 f3_b call n) :=
  f3_o19 (piece [1, 1, 1, 1, 1, 1, 1, 1, 1, 0, 1] f3_b) call n _ (by kernel_rfl)
def f3_L19 (call : CallF) (n : Nat) : LC → Int → Int → S_ref31_Events → OR :=
  f3_T19 call n (f3_L20 call n)
theorem f3_e19 (call : CallF) (n : Nat) : f3_P19 f3_b call n = f3_L19 call n := by
  rw [f3_l19, f3_e20]; rfl
def f3_T17 (call : CallF) (n : Nat) (j19 : LC → Int → Int → S_ref31_Events → OR) (x0 : LB) (x1 : LC) (x2 x3 : Int) : OR :=
  callK call 13 [.one (.str x0)] fun v1 =>
  castAgg v1 fun r2 =>
  takeS_ref31_Events r2 fun w3 r4 =>
  nilK r4 (
    j19 x1 x2 x3 w3)
theorem f3_o17 (X0 : Code) (call : CallF) (n : Nat) (B : Code) (hB : B = (hole f3_b [1, 1, 1, 1, 1, 1, 1, 1, 1] X0)) : f3_P17 B call n = f3_T17 call n (f3_P19 B call n) := by
  subst hB; funext x0 x1 x2 x3; kernel_rfl
theorem f3_l17 (call : CallF) (n : Nat) : f3_P17 f3_b call n = f3_T17 call n (f3_P19 f3_b call n) :=
  f3_o17 (piece [1, 1, 1, 1, 1, 1, 1, 1, 1] f3_b) call n _ (by kernel_rfl)
def f3_L17 (call : CallF) (n : Nat) : LB → LC → Int → Int → OR :=
  f3_T17 call n (f3_L19 call n)
theorem f3_e17 (call : CallF) (n : Nat) : f3_P17 f3_b call n = f3_L17 call n := by
  rw [f3_l17, f3_e19]; rfl
def f3_T15 (call : CallF) (n : Nat) (j18 : Bool → OR) (j17 : LB → LC → Int → Int → OR) (x0 : LB) (x1 : Bool) : OR :=
  bif x1 then (
    j18 false) else (
    callK call 12 [.one (.str x0)] fun v1 =>
    castTup v1 fun v2 =>
    zL 12 v2 fun l3 r4 =>
    zI .i64 r4 fun n5 r6 =>
    zI .i64 r6 fun n7 r8 =>
    nilK r8 (
      j17 x0 l3 n5 n7))
theorem f3_o15 (X0 X1 : Code) (call : CallF) (n : Nat) (B : Code) (hB : B = (hole (hole f3_b [1, 1, 1, 1, 1, 1, 0, 1, 0, 1, 1, 0, 1] X0) [1, 1, 1, 1, 1, 1, 1, 1] X1)) : f3_P15 B call n = f3_T15 call n (f3_P18 B call n) (f3_P17 B call n) := by
  subst hB; funext x0 x1; cases x1 <;> kernel_rfl
theorem f3_l15 (call : CallF) (n : Nat) : f3_P15 f3_b call n = f3_T15 call n (f3_P18 f3_b call n) (f3_P17 f3_b call n) :=
  f3_o15 (piece [1, 1, 1, 1, 1, 1, 0, 1, 0, 1, 1, 0, 1] f3_b) (piece [1, 1, 1, 1, 1, 1, 1, 1] f3_b) call n _ (by kernel_rfl)
def f3_L15 (call : CallF) (n : Nat) : LB → Bool → OR :=
  f3_T15 call n (f3_L18 call n) (f3_L17 call n)
theorem f3_e15 (call : CallF) (n : Nat) : f3_P15 f3_b call n = f3_L15 call n := by
  rw [f3_l15, f3_e18, f3_e17]; rfl
def f3_T9 (call : CallF) (n : Nat) (j14 : Bool → OR) (j15 : LB → Bool → OR) (j17 : LB → LC → Int → Int → OR) (x0 x1 : LB) (x2 : Int) (x3 : Bool) (x4 : S_api_Event) : OR :=
  bif x3 then (
    j14 false) else (
    bif (x2 == (0 : Int)) then (
      callK call 11 [.agg x4.cells] fun v1 =>
      castTup v1 fun v2 =>
      zS v2 fun s3 r4 =>
      zB r4 fun b5 r6 =>
      nilK r6 (
        bif (!(s3 == x0)) then (
          j15 x1 true) else (
          j15 x1 (!b5)))) else (
      callK call 12 [.one (.str x1)] fun v7 =>
      castTup v7 fun v8 =>
      zL 12 v8 fun l9 r10 =>
      zI .i64 r10 fun n11 r12 =>
      zI .i64 r12 fun n13 r14 =>
      nilK r14 (
        j17 x1 l9 n11 n13)))
theorem f3_o9 (X0 X1 X2 : Code) (call : CallF) (n : Nat) (B : Code) (hB : B = (hole (hole (hole f3_b [1, 1, 1, 1, 1, 1, 0, 1, 0, 1, 1] X0) [1, 1, 1, 1, 1, 0, 1, 0, 1] X1) [1, 1, 1, 1, 1, 1, 1, 1] X2)) : f3_P9 B call n = f3_T9 call n (f3_P14 B call n) (f3_P15 B call n) (f3_P17 B call n) := by
  subst hB; funext x0 x1 x2 x3 x4; cases x3 <;> kernel_rfl
theorem f3_l9 (call : CallF) (n : Nat) : f3_P9 f3_b call n = f3_T9 call n (f3_P14 f3_b call n) (f3_P15 f3_b call n) (f3_P17 f3_b call n) :=
  f3_o9 (piece [1, 1, 1, 1, 1, 1, 0, 1, 0, 1, 1] f3_b) (piece [1, 1, 1, 1, 1, 0, 1, 0, 1] f3_b) (piece [1, 1, 1, 1, 1, 1, 1, 1] f3_b) call n _ (by kernel_rfl)
def f3_L9 (call : CallF) (n : Nat) : LB → LB → Int → Bool → S_api_Event → OR :=
  f3_T9 call n (f3_L14 call n) (f3_L15 call n) (f3_L17 call n)
theorem f3_e9 (call : CallF) (n : Nat) : f3_P9 f3_b call n = f3_L9 call n := by
  rw [f3_l9, f3_e14, f3_e15, f3_e17]; rfl
def f3_T4 (call : CallF) (n : Nat) (j8 : Bool → OR) (j9 : LB → LB → Int → Bool → S_api_Event → OR) (x0 x1 : LB) (x2 : Bool) : OR :=
  bif x2 then (
    j8 true) else (
    callK call 8 [.one (.str x0)] fun v1 =>
    castTup v1 fun v2 =>
    consK v2 fun z3 r4 =>
    aggV z3 fun r5 =>
    takeS_api_Event r5 fun w6 r7 =>
    nilK r7 (
      zI .i64 r4 fun n8 r9 =>
      nilK r9 (
        callK call 9 [.one (.str x0)] fun v10 =>
        castAgg v10 fun r11 =>
        takeS_ref31_Got r11 fun w12 r13 =>
        nilK r13 (
          callK call 10 [.agg w6.cells, .agg w12.fE.cells] fun v14 =>
          oB v14 fun b15 =>
          bif (!b15) then (
            j9 x0 x1 n8 true w6) else (
            j9 x0 x1 n8 (n8 != w12.fErr) w6)))))
theorem f3_o4 (X0 X1 : Code) (call : CallF) (n : Nat) (B : Code) (hB : B = (hole (hole f3_b [1, 1, 1, 1, 1, 0, 1] X0) [1, 1, 0, 1, 0, 1] X1)) : f3_P4 B call n = f3_T4 call n (f3_P8 B call n) (f3_P9 B call n) := by
  subst hB; funext x0 x1 x2; cases x2 <;> kernel_rfl
theorem f3_l4 (call : CallF) (n : Nat) : f3_P4 f3_b call n = f3_T4 call n (f3_P8 f3_b call n) (f3_P9 f3_b call n) :=
  f3_o4 (piece [1, 1, 1, 1, 1, 0, 1] f3_b) (piece [1, 1, 0, 1, 0, 1] f3_b) call n _ (by kernel_rfl)
def f3_L4 (call : CallF) (n : Nat) : LB → LB → Bool → OR :=
  f3_T4 call n (f3_L8 call n) (f3_L9 call n)
theorem f3_e4 (call : CallF) (n : Nat) : f3_P4 f3_b call n = f3_L4 call n := by
  rw [f3_l4, f3_e8, f3_e9]; rfl
/-- pigeonhole/pigeonholelaw31.ScriptReads -/
def f3_T (call : CallF) (n : Nat) (j4 : LB → LB → Bool → OR) (a0 a1 : LB) : OR :=
  callK call 7 [] fun v50 =>
  oB v50 fun b51 =>
  bif (!b51) then (
    some (.one (.bool false), [])) else (
    bif (decide (((a0).length : Int) > (2000 : Int))) then (
      j4 a0 a1 true) else (
      j4 a0 a1 (decide (((a1).length : Int) > (2000 : Int)))))
def f3_L (call : CallF) (n : Nat) (a0 a1 : LB) : OR :=
  f3_T call n (f3_L4 call n) a0 a1
theorem f3_o (X0 : Code) (call : CallF) (n : Nat) (B : Code) (hB : B = (hole f3_b [1, 1, 0, 1] X0)) : f3_P B call n = f3_T call n (f3_P4 B call n) := by
  subst hB; funext a0 a1; kernel_rfl
theorem f3_l (call : CallF) (n : Nat) : f3_P f3_b call n = f3_T call n (f3_P4 f3_b call n) :=
  f3_o (piece [1, 1, 0, 1] f3_b) call n _ (by kernel_rfl)
theorem f3_e (call : CallF) (n : Nat) : f3_P f3_b call n = f3_L call n := by
  rw [f3_l, f3_e4]; rfl
theorem f3_eq (n : Nat) (a0 a1 : LB) : acall AXE AXF (n + 1) 3 [.one (.str a0), .one (.str a1)] [] = f3_L (acall AXE AXF n) (n + 1) a0 a1 :=
  (show _ = f3_P f3_b (acall AXE AXF n) (n + 1) a0 a1 by kernel_rfl).trans (by rw [f3_e])
def f15_P (B : Code) (call : CallF) (n : Nat) (a0 : S_api_Event) : OR :=
  f15_x B call n [] (kEnd AXE 0 f15_r) ⟨[(0, .agg a0.cells)], []⟩
/-- pigeonhole/script.Check -/
def f15_T (call : CallF) (n : Nat) (a0 : S_api_Event) : OR :=
  callK call 11 [.agg a0.cells] fun v7 =>
  castTup v7 fun v8 =>
  zS v8 fun s9 r10 =>
  zB r10 fun b11 r12 =>
  nilK r12 (
    some (.one (.bool b11), []))
def f15_L (call : CallF) (n : Nat) (a0 : S_api_Event) : OR :=
  f15_T call n a0
theorem f15_o (call : CallF) (n : Nat) (B : Code) (hB : B = f15_b) : f15_P B call n = f15_T call n := by
  subst hB; funext a0; kernel_rfl
theorem f15_l (call : CallF) (n : Nat) : f15_P f15_b call n = f15_T call n :=
  f15_o call n _ (by kernel_rfl)
theorem f15_e (call : CallF) (n : Nat) : f15_P f15_b call n = f15_L call n := by
  rw [f15_l]; rfl
theorem f15_eq (n : Nat) (a0 : S_api_Event) : acall AXE AXF (n + 1) 15 [.agg a0.cells] [] = f15_L (acall AXE AXF n) (n + 1) a0 :=
  (show _ = f15_P f15_b (acall AXE AXF n) (n + 1) a0 by kernel_rfl).trans (by rw [f15_e])
def f14_P4 (B : Code) (call : CallF) (n : Nat) (x0 : Bool) : OR :=
  f14_x B call n [1, 0, 1, 0, 1] (kSeq (f14_x B call n [1, 1]) (kEnd AXE 0 f14_r)) ⟨[(2, .one (.bool x0))], []⟩
def f14_P5 (B : Code) (call : CallF) (n : Nat) (m0 : Nat) (x0 : Int) (x1 : S_api_Event) : OR :=
  aloop 1000004 (pruneAt f14_h 1000004) (f14_x B call n [1, 1, 0, 1, 0, 0]) (kBlk 0 (kSeq (f14_x B call n [1, 1, 1]) (kEnd AXE 0 f14_r))) m0 ⟨[(1, .one (.ptr 0 0)), (3, .one (.int .i64 x0))], [x1.cells]⟩
def f14_P1 (B : Code) (call : CallF) (n : Nat) (x0 : Bool) (x1 : S_api_Event) : OR :=
  f14_x B call n [1, 0, 1] (kSeq (f14_x B call n [1, 1]) (kEnd AXE 0 f14_r)) ⟨[(1, .one (.ptr 0 0)), (25, .one (.bool x0))], [x1.cells]⟩
def f14_P (B : Code) (call : CallF) (n : Nat) (a0 : S_api_Event) : OR :=
  f14_x B call n [] (kEnd AXE 0 f14_r) ⟨[(0, .agg a0.cells)], []⟩
def f14_T4 (call : CallF) (n : Nat) (x0 : Bool) : OR :=
  some (.one (.bool x0), [])
theorem f14_o4 (call : CallF) (n : Nat) (B : Code) (hB : B = f14_b) : f14_P4 B call n = f14_T4 call n := by
  subst hB; funext x0; kernel_rfl
theorem f14_l4 (call : CallF) (n : Nat) : f14_P4 f14_b call n = f14_T4 call n :=
  f14_o4 call n _ (by kernel_rfl)
def f14_L4 (call : CallF) (n : Nat) : Bool → OR :=
  f14_T4 call n
theorem f14_e4 (call : CallF) (n : Nat) : f14_P4 f14_b call n = f14_L4 call n := by
  rw [f14_l4]; rfl
def f14_T5 (call : CallF) (n : Nat) (j5m : Int → S_api_Event → OR) (x0 : Int) (x1 : S_api_Event) : OR :=
  bif (decide (x0 < (((x1.fTo).length / 1 : Nat) : Int))) then (
    itemK x1.fTo x0 fun c1 =>
    castS c1 fun s2 =>
    bif (decide (((s2).length : Int) > (100 : Int))) then (
      some (.one (.bool false), [])) else (
      j5m (IntKind.wrap .i64 (x0 + (1 : Int))) x1)) else (
    some (.one (.bool true), []))
theorem f14_o5 (call : CallF) (n : Nat) (m0 : Nat) (B : Code) (hB : B = f14_b) : f14_P5 B call n (m0 + 1) = f14_T5 call n (f14_P5 B call n m0) := by
  subst hB; funext x0 x1; kernel_rfl
theorem f14_l5 (call : CallF) (n : Nat) (m0 : Nat) : f14_P5 f14_b call n (m0 + 1) = f14_T5 call n (f14_P5 f14_b call n m0) :=
  f14_o5 call n m0 _ (by kernel_rfl)
def f14_L5 (call : CallF) (n : Nat) : Nat → Int → S_api_Event → OR
  | 0 => fun _ _ => none
  | m0 + 1 => f14_T5 call n (f14_L5 call n m0)
theorem f14_e5 (call : CallF) (n : Nat) : ∀ m0 : Nat, f14_P5 f14_b call n m0 = f14_L5 call n m0
  | 0 => by funext x0 x1; kernel_rfl
  | m0 + 1 => by rw [f14_l5, f14_e5 call n m0]; rfl
def f14_T1 (call : CallF) (n : Nat) (j4 : Bool → OR) (j5n : Int → S_api_Event → OR) (x0 : Bool) (x1 : S_api_Event) : OR :=
  bif x0 then (
    j4 false) else (
    j5n (0 : Int) x1)
theorem f14_o1 (X0 : Code) (call : CallF) (n : Nat) (B : Code) (hB : B = (hole f14_b [1, 0, 1, 0, 1] X0)) : f14_P1 B call n = f14_T1 call n (f14_P4 B call n) (f14_P5 B call n n) := by
  subst hB; funext x0 x1; cases x0 <;> kernel_rfl
theorem f14_l1 (call : CallF) (n : Nat) : f14_P1 f14_b call n = f14_T1 call n (f14_P4 f14_b call n) (f14_P5 f14_b call n n) :=
  f14_o1 (piece [1, 0, 1, 0, 1] f14_b) call n _ (by kernel_rfl)
def f14_L1 (call : CallF) (n : Nat) : Bool → S_api_Event → OR :=
  f14_T1 call n (f14_L4 call n) (f14_L5 call n n)
theorem f14_e1 (call : CallF) (n : Nat) : f14_P1 f14_b call n = f14_L1 call n := by
  rw [f14_l1, f14_e4, f14_e5]; rfl
/-- pigeonhole/pigeonholeref31.Light -/
def f14_T (call : CallF) (n : Nat) (j1 : Bool → S_api_Event → OR) (a0 : S_api_Event) : OR :=
  bif (decide ((((a0.fData).length / 1 : Nat) : Int) > (1000 : Int))) then (
    j1 true a0) else (
    bif (decide (((a0.fName).length : Int) > (100 : Int))) then (
      j1 true a0) else (
      bif (decide ((((a0.fTo).length / 1 : Nat) : Int) > (20 : Int))) then (
        j1 true a0) else (
        j1 (decide ((((a0.fKeep).length / 1 : Nat) : Int) > (60 : Int))) a0)))
def f14_L (call : CallF) (n : Nat) (a0 : S_api_Event) : OR :=
  f14_T call n (f14_L1 call n) a0
theorem f14_o (X0 : Code) (call : CallF) (n : Nat) (B : Code) (hB : B = (hole f14_b [1, 0, 1] X0)) : f14_P B call n = f14_T call n (f14_P1 B call n) := by
  subst hB; funext a0; kernel_rfl
theorem f14_l (call : CallF) (n : Nat) : f14_P f14_b call n = f14_T call n (f14_P1 f14_b call n) :=
  f14_o (piece [1, 0, 1] f14_b) call n _ (by kernel_rfl)
theorem f14_e (call : CallF) (n : Nat) : f14_P f14_b call n = f14_L call n := by
  rw [f14_l, f14_e1]; rfl
theorem f14_eq (n : Nat) (a0 : S_api_Event) : acall AXE AXF (n + 1) 14 [.agg a0.cells] [] = f14_L (acall AXE AXF n) (n + 1) a0 :=
  (show _ = f14_P f14_b (acall AXE AXF n) (n + 1) a0 by kernel_rfl).trans (by rw [f14_e])
def f7_P5 (B : Code) (call : CallF) (n : Nat) (x0 : Bool) : OR :=
  f7_x B call n [1, 1, 1, 1, 1, 1] (kEnd AXE 0 f7_r) ⟨[(0, .one (.bool x0))], []⟩
def f7_P (B : Code) (call : CallF) (n : Nat) : OR :=
  f7_x B call n [] (kEnd AXE 0 f7_r) ⟨[], []⟩
def f7_T5 (call : CallF) (n : Nat) (x0 : Bool) : OR :=
  some (.one (.bool x0), [])
theorem f7_o5 (call : CallF) (n : Nat) (B : Code) (hB : B = f7_b) : f7_P5 B call n = f7_T5 call n := by
  subst hB; funext x0; kernel_rfl
theorem f7_l5 (call : CallF) (n : Nat) : f7_P5 f7_b call n = f7_T5 call n :=
  f7_o5 call n _ (by kernel_rfl)
def f7_L5 (call : CallF) (n : Nat) : Bool → OR :=
  f7_T5 call n
theorem f7_e5 (call : CallF) (n : Nat) : f7_P5 f7_b call n = f7_L5 call n := by
  rw [f7_l5]; rfl
/-- pigeonhole/pigeonholelaw31.awake -/
def f7_T (call : CallF) (n : Nat) (j5 : Bool → OR) : OR :=
  callK call 8 [.one (.str ([98, 121, 116, 101, 115, 32, 48, 32, 34, 78, 79, 79, 80, 92, 114, 92, 110, 34] : List UInt8))] fun v39 =>
  castTup v39 fun v40 =>
  consK v40 fun z41 r42 =>
  aggV z41 fun r43 =>
  takeS_api_Event r43 fun w44 r45 =>
  nilK r45 (
    zI .i64 r42 fun n46 r47 =>
    nilK r47 (
      callK call 11 [.agg (⟨(10 : Int), (0 : Int), (1 : Int), (0 : Int), false, ([] : List UInt8), (0 : Int), (0 : Int), ([] : List Cell), ([] : List Cell), (0 : Int), ([] : List Cell)⟩ : S_api_Event).cells] fun v48 =>
      castTup v48 fun v49 =>
      zS v49 fun s50 r51 =>
      zB r51 fun b52 r53 =>
      nilK r53 (
        callK call 12 [.one (.str ([35, 32, 97, 10, 117, 115, 101, 114, 32, 97, 110, 110, 32, 49, 48, 48, 32, 45, 49, 10, 10, 114, 117, 110] : List UInt8))] fun v54 =>
        castTup v54 fun v55 =>
        zL 12 v55 fun l56 r57 =>
        zI .i64 r57 fun n58 r59 =>
        zI .i64 r59 fun n60 r61 =>
        nilK r61 (
          callK call 12 [.one (.str ([114, 117, 110, 10, 102, 108, 121, 32, 49] : List UInt8))] fun v62 =>
          castTup v62 fun v63 =>
          zL 12 v63 fun l64 r65 =>
          zI .i64 r65 fun n66 r67 =>
          zI .i64 r67 fun n68 r69 =>
          nilK r69 (
            bif (n46 == (0 : Int)) then (
              bif (w44.fKind == (2 : Int)) then (
                bytesK w44.fData fun s70 =>
                bif (s70 == ([78, 79, 79, 80, 13, 10] : List UInt8)) then (
                  bif (s50 == ([101, 120, 112, 117, 110, 103, 101, 32, 42, 32, 49] : List UInt8)) then (
                    bif b52 then (
                      bif (n60 == (0 : Int)) then (
                        bif (n58 == (0 : Int)) then (
                          bif ((((l56).length / 12 : Nat) : Int) == (2 : Int)) then (
                            guardB (decide (0 ≤ (0 : Int)) && decide ((Int.toNat (0 : Int)) * 12 + 12 ≤ l56.length)) (
                              cI .i64 ((((l56.drop ((Int.toNat (0 : Int)) * 12)).take 12).drop 6).take 2) fun n71 r72 =>
                              cI .i64 r72 fun n73 r74 =>
                              bif ((n71 == (100 : Int)) && ((n73 == (-1 : Int)) && true)) then (
                                bif (n66 == (2 : Int)) then (
                                  bif (n68 == (15 : Int)) then (
                                    callK call 15 [.agg w44.cells] fun v75 =>
                                    oB v75 fun b76 =>
                                    j5 b76) else (
                                    j5 false)) else (
                                  j5 false)) else (
                                j5 false))) else (
                            j5 false)) else (
                          j5 false)) else (
                        j5 false)) else (
                      j5 false)) else (
                    j5 false)) else (
                  j5 false)) else (
                j5 false)) else (
              j5 false))))))
def f7_L (call : CallF) (n : Nat) : OR :=
  f7_T call n (f7_L5 call n)
theorem f7_o (X0 : Code) (call : CallF) (n : Nat) (B : Code) (hB : B = (hole f7_b [1, 1, 1, 1, 1, 1] X0)) : f7_P B call n = f7_T call n (f7_P5 B call n) := by
  subst hB; kernel_rfl
theorem f7_l (call : CallF) (n : Nat) : f7_P f7_b call n = f7_T call n (f7_P5 f7_b call n) :=
  f7_o (piece [1, 1, 1, 1, 1, 1] f7_b) call n _ (by kernel_rfl)
theorem f7_e (call : CallF) (n : Nat) : f7_P f7_b call n = f7_L call n := by
  rw [f7_l, f7_e5]; rfl
theorem f7_eq (n : Nat) : acall AXE AXF (n + 1) 7 [] [] = f7_L (acall AXE AXF n) (n + 1) :=
  (show _ = f7_P f7_b (acall AXE AXF n) (n + 1) by kernel_rfl).trans (by rw [f7_e])
def f8_P17 (B : Code) (call : CallF) (n : Nat) (m0 : Nat) (x0 x1 : LB) (x2 : Bool) (x3 : LC) (x4 x5 : Int) (x6 x7 : S_api_Event) : OR :=
  f8_x B call n [1, 1, 1, 0, 1, 0, 0, 1, 1, 1] (kSeq (fun k => prK 1000004 (pruneAt f8_h 1000004) (aloop 1000004 (pruneAt f8_h 1000004) (f8_x B call n [1, 1, 1, 0, 1, 0, 0]) k m0)) (kBlk 0 (kSeq (f8_x B call n [1, 1, 1, 1]) (kEnd AXE 0 f8_r)))) ⟨[(2, .one (.ptr 0 0)), (4, .one (.str x0)), (5, .one (.str x1)), (6, .one (.bool x2)), (7, .one (.ptr 1 0)), (16, .one (.sl none 1 x3)), (17, .one (.int .i64 x4)), (18, .one (.int .i64 x5))], [[.int .i64 x6.fKind, .int .i64 x6.fSlot, .int .i64 x6.fN, .int .i64 x6.fK, .bool x6.fLmtp, .str x6.fName, .int .i64 x6.fLimit_Bytes, .int .i64 x6.fLimit_Count, .sl (some ⟨1000000, 8, 9⟩) 1 x6.fTo, .sl (some ⟨1000000, 9, 5⟩) 1 x6.fData, .int .i64 x6.fCode, .sl (some ⟨1000000, 11, 3⟩) 1 x6.fKeep], [.int .i64 x7.fKind, .int .i64 x7.fSlot, .int .i64 x7.fN, .int .i64 x7.fK, .bool x7.fLmtp, .str x7.fName, .int .i64 x7.fLimit_Bytes, .int .i64 x7.fLimit_Count, .sl (some ⟨1000001, 8, 9⟩) 1 x7.fTo, .sl (some ⟨1000001, 9, 5⟩) 1 x7.fData, .int .i64 x7.fCode, .sl (some ⟨1000001, 11, 3⟩) 1 x7.fKeep]]⟩
def f8_P18 (B : Code) (call : CallF) (n : Nat) (m0 : Nat) (x0 x1 : LB) (x2 : Bool) (x3 : Int) (x4 : LC) (x5 x6 : Int) (x7 x8 : S_api_Event) : OR :=
  f8_x B call n [1, 1, 1, 0, 1, 0, 0, 1, 1, 1] (kSeq (fun k => prK 1000004 (pruneAt f8_h 1000004) (aloop 1000004 (pruneAt f8_h 1000004) (f8_x B call n [1, 1, 1, 0, 1, 0, 0]) k m0)) (kBlk 0 (kSeq (f8_x B call n [1, 1, 1, 1]) (kEnd AXE 0 f8_r)))) ⟨[(2, .one (.ptr 0 0)), (4, .one (.str x0)), (5, .one (.str x1)), (6, .one (.bool x2)), (7, .one (.ptr 1 0)), (8, .one (.int .i64 x3)), (16, .one (.sl none 1 x4)), (17, .one (.int .i64 x5)), (18, .one (.int .i64 x6))], [[.int .i64 x7.fKind, .int .i64 x7.fSlot, .int .i64 x7.fN, .int .i64 x7.fK, .bool x7.fLmtp, .str x7.fName, .int .i64 x7.fLimit_Bytes, .int .i64 x7.fLimit_Count, .sl (some ⟨1000000, 8, 9⟩) 1 x7.fTo, .sl (some ⟨1000000, 9, 5⟩) 1 x7.fData, .int .i64 x7.fCode, .sl (some ⟨1000000, 11, 3⟩) 1 x7.fKeep], [.int .i64 x8.fKind, .int .i64 x8.fSlot, .int .i64 x8.fN, .int .i64 x8.fK, .bool x8.fLmtp, .str x8.fName, .int .i64 x8.fLimit_Bytes, .int .i64 x8.fLimit_Count, .sl (some ⟨1000001, 8, 9⟩) 1 x8.fTo, .sl (some ⟨1000001, 9, 5⟩) 1 x8.fData, .int .i64 x8.fCode, .sl (some ⟨1000001, 11, 3⟩) 1 x8.fKeep]]⟩
def f8_P16 (B : Code) (call : CallF) (n : Nat) (m0 : Nat) (x0 x1 : LB) (x2 : Bool) (x3 : Int) (x4 : LC) (x5 x6 : Int) (x7 : Bool) (x8 x9 : S_api_Event) : OR :=
  f8_x B call n [1, 1, 1, 0, 1, 0, 0, 1, 1, 0, 0, 1, 1] (kBlk 1 (kSeq (f8_x B call n [1, 1, 1, 0, 1, 0, 0, 1, 1, 1]) (kSeq (fun k => prK 1000004 (pruneAt f8_h 1000004) (aloop 1000004 (pruneAt f8_h 1000004) (f8_x B call n [1, 1, 1, 0, 1, 0, 0]) k m0)) (kBlk 0 (kSeq (f8_x B call n [1, 1, 1, 1]) (kEnd AXE 0 f8_r)))))) ⟨[(2, .one (.ptr 0 0)), (4, .one (.str x0)), (5, .one (.str x1)), (6, .one (.bool x2)), (7, .one (.ptr 1 0)), (8, .one (.int .i64 x3)), (16, .one (.sl none 1 x4)), (17, .one (.int .i64 x5)), (18, .one (.int .i64 x6)), (29, .one (.bool x7))], [[.int .i64 x8.fKind, .int .i64 x8.fSlot, .int .i64 x8.fN, .int .i64 x8.fK, .bool x8.fLmtp, .str x8.fName, .int .i64 x8.fLimit_Bytes, .int .i64 x8.fLimit_Count, .sl (some ⟨1000000, 8, 9⟩) 1 x8.fTo, .sl (some ⟨1000000, 9, 5⟩) 1 x8.fData, .int .i64 x8.fCode, .sl (some ⟨1000000, 11, 3⟩) 1 x8.fKeep], [.int .i64 x9.fKind, .int .i64 x9.fSlot, .int .i64 x9.fN, .int .i64 x9.fK, .bool x9.fLmtp, .str x9.fName, .int .i64 x9.fLimit_Bytes, .int .i64 x9.fLimit_Count, .sl (some ⟨1000001, 8, 9⟩) 1 x9.fTo, .sl (some ⟨1000001, 9, 5⟩) 1 x9.fData, .int .i64 x9.fCode, .sl (some ⟨1000001, 11, 3⟩) 1 x9.fKeep]]⟩
def f8_P4 (B : Code) (call : CallF) (n : Nat) (m0 : Nat) (x0 x1 : LB) (x2 : Bool) (x3 : LC) (x4 x5 : Int) (x6 x7 : S_api_Event) : OR :=
  aloop 1000004 (pruneAt f8_h 1000004) (f8_x B call n [1, 1, 1, 0, 1, 0, 0]) (kBlk 0 (kSeq (f8_x B call n [1, 1, 1, 1]) (kEnd AXE 0 f8_r))) m0 ⟨[(2, .one (.ptr 0 0)), (4, .one (.str x0)), (5, .one (.str x1)), (6, .one (.bool x2)), (7, .one (.ptr 1 0)), (16, .one (.sl none 1 x3)), (17, .one (.int .i64 x4)), (18, .one (.int .i64 x5))], [[.int .i64 x6.fKind, .int .i64 x6.fSlot, .int .i64 x6.fN, .int .i64 x6.fK, .bool x6.fLmtp, .str x6.fName, .int .i64 x6.fLimit_Bytes, .int .i64 x6.fLimit_Count, .sl (some ⟨1000000, 8, 9⟩) 1 x6.fTo, .sl (some ⟨1000000, 9, 5⟩) 1 x6.fData, .int .i64 x6.fCode, .sl (some ⟨1000000, 11, 3⟩) 1 x6.fKeep], [.int .i64 x7.fKind, .int .i64 x7.fSlot, .int .i64 x7.fN, .int .i64 x7.fK, .bool x7.fLmtp, .str x7.fName, .int .i64 x7.fLimit_Bytes, .int .i64 x7.fLimit_Count, .sl (some ⟨1000001, 8, 9⟩) 1 x7.fTo, .sl (some ⟨1000001, 9, 5⟩) 1 x7.fData, .int .i64 x7.fCode, .sl (some ⟨1000001, 11, 3⟩) 1 x7.fKeep]]⟩
def f8_P (B : Code) (call : CallF) (n : Nat) (a0 : LB) : OR :=
  f8_x B call n [] (kEnd AXE 0 f8_r) ⟨[(0, .one (.str a0))], []⟩
def f8_T17 (call : CallF) (n : Nat) (j4m : LB → LB → Bool → LC → Int → Int → S_api_Event → S_api_Event → OR) (x0 x1 : LB) (x2 : Bool) (x3 : LC) (x4 x5 : Int) (x6 x7 : S_api_Event) : OR :=
  j4m x0 x1 x2 x3 x4 (IntKind.wrap .i64 (x5 + (1 : Int))) x6 x7
theorem f8_o17 (call : CallF) (n : Nat) (m0 : Nat) (B : Code) (hB : B = f8_b) : f8_P17 B call n m0 = f8_T17 call n (f8_P4 B call n m0) := by
  subst hB; funext x0 x1 x2 x3 x4 x5 x6 x7; kernel_rfl
theorem f8_l17 (call : CallF) (n : Nat) (m0 : Nat) : f8_P17 f8_b call n m0 = f8_T17 call n (f8_P4 f8_b call n m0) :=
  f8_o17 call n m0 _ (by kernel_rfl)
def f8_L17 (call : CallF) (n : Nat) (h_m0 : LB → LB → Bool → LC → Int → Int → S_api_Event → S_api_Event → OR) : LB → LB → Bool → LC → Int → Int → S_api_Event → S_api_Event → OR :=
  f8_T17 call n h_m0
theorem f8_e17 (call : CallF) (n : Nat) (m0 : Nat) : f8_P17 f8_b call n m0 = f8_L17 call n (f8_P4 f8_b call n m0) := by
  rw [f8_l17]; rfl
def f8_T18 (call : CallF) (n : Nat) (j4m : LB → LB → Bool → LC → Int → Int → S_api_Event → S_api_Event → OR) (x0 x1 : LB) (x2 : Bool) (x3 : Int) (x4 : LC) (x5 x6 : Int) (x7 x8 : S_api_Event) : OR :=
  j4m x0 x1 x2 x4 x5 (IntKind.wrap .i64 (x6 + (1 : Int))) x7 x8
theorem f8_o18 (call : CallF) (n : Nat) (m0 : Nat) (B : Code) (hB : B = f8_b) : f8_P18 B call n m0 = f8_T18 call n (f8_P4 B call n m0) := by
  subst hB; funext x0 x1 x2 x3 x4 x5 x6 x7 x8; kernel_rfl
theorem f8_l18 (call : CallF) (n : Nat) (m0 : Nat) : f8_P18 f8_b call n m0 = f8_T18 call n (f8_P4 f8_b call n m0) :=
  f8_o18 call n m0 _ (by kernel_rfl)
def f8_L18 (call : CallF) (n : Nat) (h_m0 : LB → LB → Bool → LC → Int → Int → S_api_Event → S_api_Event → OR) : LB → LB → Bool → Int → LC → Int → Int → S_api_Event → S_api_Event → OR :=
  f8_T18 call n h_m0
theorem f8_e18 (call : CallF) (n : Nat) (m0 : Nat) : f8_P18 f8_b call n m0 = f8_L18 call n (f8_P4 f8_b call n m0) := by
  rw [f8_l18]; rfl
def f8_T16 (call : CallF) (n : Nat) (j17 : LB → LB → Bool → LC → Int → Int → S_api_Event → S_api_Event → OR) (j18 : LB → LB → Bool → Int → LC → Int → Int → S_api_Event → S_api_Event → OR) (x0 x1 : LB) (x2 : Bool) (x3 : Int) (x4 : LC) (x5 x6 : Int) (x7 : Bool) (x8 x9 : S_api_Event) : OR :=
  bif x7 then (
    j17 x0 x1 x2 x4 x5 x6 x8 ({ x9 with fKind := x3 } : S_api_Event)) else (
    j18 x0 x1 x2 x3 x4 x5 x6 x8 x9)
theorem f8_o16 (X0 : Code) (call : CallF) (n : Nat) (m0 : Nat) (B : Code) (hB : B = (hole f8_b [1, 1, 1, 0, 1, 0, 0, 1, 1, 1] X0)) : f8_P16 B call n m0 = f8_T16 call n (f8_P17 B call n m0) (f8_P18 B call n m0) := by
  subst hB; funext x0 x1 x2 x3 x4 x5 x6 x7 x8 x9; cases x7 <;> kernel_rfl
theorem f8_l16 (call : CallF) (n : Nat) (m0 : Nat) : f8_P16 f8_b call n m0 = f8_T16 call n (f8_P17 f8_b call n m0) (f8_P18 f8_b call n m0) :=
  f8_o16 (piece [1, 1, 1, 0, 1, 0, 0, 1, 1, 1] f8_b) call n m0 _ (by kernel_rfl)
def f8_L16 (call : CallF) (n : Nat) (h_m0 : LB → LB → Bool → LC → Int → Int → S_api_Event → S_api_Event → OR) : LB → LB → Bool → Int → LC → Int → Int → Bool → S_api_Event → S_api_Event → OR :=
  f8_T16 call n (f8_L17 call n h_m0) (f8_L18 call n h_m0)
theorem f8_e16 (call : CallF) (n : Nat) (m0 : Nat) : f8_P16 f8_b call n m0 = f8_L16 call n (f8_P4 f8_b call n m0) := by
  rw [f8_l16, f8_e17, f8_e18]; rfl
def f8_T4 (call : CallF) (n : Nat) (j16 : LB → LB → Bool → Int → LC → Int → Int → Bool → S_api_Event → S_api_Event → OR) (x0 x1 : LB) (x2 : Bool) (x3 : LC) (x4 x5 : Int) (x6 x7 : S_api_Event) : OR :=
  bif (decide (x5 < x4)) then (
    itemK x3 x5 fun c1 =>
    castS c1 fun s2 =>
    bif (decide (x5 > (0 : Int))) then (
      j16 x0 x1 x2 x5 x3 x4 x5 (s2 == x0) x6 x7) else (
      j16 x0 x1 x2 x5 x3 x4 x5 false x6 x7)) else (
    bif (x7.fKind == (0 : Int)) then (
      some (.tup [.agg [.int .i64 x7.fKind, .int .i64 x7.fSlot, .int .i64 x7.fN, .int .i64 x7.fK, .bool x7.fLmtp, .str x7.fName, .int .i64 x7.fLimit_Bytes, .int .i64 x7.fLimit_Count, .sl (some ⟨1000000, 8, 9⟩) 1 x7.fTo, .sl (some ⟨1000000, 9, 5⟩) 1 x7.fData, .int .i64 x7.fCode, .sl (some ⟨1000000, 11, 3⟩) 1 x7.fKeep], .one (.int .i64 (15 : Int))], [])) else (
      callRK call 22 [.one (.ptr 0 0), .one (.str x1), .one (.bool x2)] [[.int .i64 x7.fKind, .int .i64 x7.fSlot, .int .i64 x7.fN, .int .i64 x7.fK, .bool x7.fLmtp, .str x7.fName, .int .i64 x7.fLimit_Bytes, .int .i64 x7.fLimit_Count, .sl none 1 x7.fTo, .sl none 1 x7.fData, .int .i64 x7.fCode, .sl (some ⟨1000000, 11, 3⟩) 1 x7.fKeep]] fun v3 h4 =>
      consK h4 fun r5 h6 =>
      consK r5 fun c7 r8 =>
      castI .i64 c7 fun n9 =>
      consK r8 fun c10 r11 =>
      castI .i64 c10 fun n12 =>
      consK r11 fun c13 r14 =>
      castI .i64 c13 fun n15 =>
      consK r14 fun c16 r17 =>
      castI .i64 c16 fun n18 =>
      consK r17 fun c19 r20 =>
      castB c19 fun b21 =>
      consK r20 fun c22 r23 =>
      castS c22 fun s24 =>
      consK r23 fun c25 r26 =>
      castI .i64 c25 fun n27 =>
      consK r26 fun c28 r29 =>
      castI .i64 c28 fun n30 =>
      consK r29 fun c31 r32 =>
      castL 1 c31 fun _ l33 =>
      consK r32 fun c34 r35 =>
      castL 1 c34 fun _ l36 =>
      consK r35 fun c37 r38 =>
      castI .i64 c37 fun n39 =>
      consK r38 fun c40 r41 =>
      castN 3 1 c40 fun l42 =>
      nilK r41 (
        nilK h6 (
          oB v3 fun b43 =>
          bif (!b43) then (
            some (.tup [.agg [.int .i64 (0 : Int), .int .i64 (0 : Int), .int .i64 (0 : Int), .int .i64 (0 : Int), .bool false, .str ([] : List UInt8), .int .i64 (0 : Int), .int .i64 (0 : Int), .sl (some ⟨1000000, 8, 9⟩) 1 ([] : List Cell), .sl (some ⟨1000000, 9, 5⟩) 1 ([] : List Cell), .int .i64 (0 : Int), .sl (some ⟨1000000, 11, 3⟩) 1 ([] : List Cell)], .one (.int .i64 (3 : Int))], [])) else (
            some (.tup [.agg [.int .i64 n9, .int .i64 n12, .int .i64 n15, .int .i64 n18, .bool b21, .str s24, .int .i64 n27, .int .i64 n30, .sl none 1 l33, .sl none 1 l36, .int .i64 n39, .sl (some ⟨1000000, 11, 3⟩) 1 l42], .one (.int .i64 (0 : Int))], []))))))
theorem f8_o4 (X0 : Code) (call : CallF) (n : Nat) (m0 : Nat) (B : Code) (hB : B = (hole f8_b [1, 1, 1, 0, 1, 0, 0, 1, 1, 0, 0, 1, 1] X0)) : f8_P4 B call n (m0 + 1) = f8_T4 call n (f8_P16 B call n m0) := by
  subst hB; funext x0 x1 x2 x3 x4 x5 x6 x7; kernel_rfl
theorem f8_l4 (call : CallF) (n : Nat) (m0 : Nat) : f8_P4 f8_b call n (m0 + 1) = f8_T4 call n (f8_P16 f8_b call n m0) :=
  f8_o4 (piece [1, 1, 1, 0, 1, 0, 0, 1, 1, 0, 0, 1, 1] f8_b) call n m0 _ (by kernel_rfl)
def f8_L4 (call : CallF) (n : Nat) : Nat → LB → LB → Bool → LC → Int → Int → S_api_Event → S_api_Event → OR
  | 0 => fun _ _ _ _ _ _ _ _ => none
  | m0 + 1 => f8_T4 call n (f8_L16 call n (f8_L4 call n m0))
theorem f8_e4 (call : CallF) (n : Nat) : ∀ m0 : Nat, f8_P4 f8_b call n m0 = f8_L4 call n m0
  | 0 => by funext x0 x1 x2 x3 x4 x5 x6 x7; kernel_rfl
  | m0 + 1 => by rw [f8_l4, f8_e16, f8_e4 call n m0]; rfl
/-- pigeonhole/script.Read -/
def f8_T (call : CallF) (n : Nat) (j4n : LB → LB → Bool → LC → Int → Int → S_api_Event → S_api_Event → OR) (a0 : LB) : OR :=
  primK pCut [.one (.str a0), .one (.str ([32] : List UInt8))] fun v54 =>
  castTup v54 fun v55 =>
  zS v55 fun s56 r57 =>
  zS r57 fun s58 r59 =>
  zB r59 fun b60 r61 =>
  nilK r61 (
    callK call 21 [] fun v62 =>
    oL 1 v62 fun l63 =>
    j4n s56 s58 b60 l63 (((l63).length / 1 : Nat) : Int) (0 : Int) (⟨(0 : Int), (0 : Int), (0 : Int), (0 : Int), false, ([] : List UInt8), (0 : Int), (0 : Int), ([] : List Cell), ([] : List Cell), (0 : Int), ([] : List Cell)⟩ : S_api_Event) (⟨(0 : Int), (0 : Int), (0 : Int), (0 : Int), false, ([] : List UInt8), (0 : Int), (0 : Int), ([] : List Cell), ([] : List Cell), (0 : Int), ([] : List Cell)⟩ : S_api_Event))
def f8_L (call : CallF) (n : Nat) (a0 : LB) : OR :=
  f8_T call n (f8_L4 call n n) a0
theorem f8_o (call : CallF) (n : Nat) (B : Code) (hB : B = f8_b) : f8_P B call n = f8_T call n (f8_P4 B call n n) := by
  subst hB; funext a0; kernel_rfl
theorem f8_l (call : CallF) (n : Nat) : f8_P f8_b call n = f8_T call n (f8_P4 f8_b call n n) :=
  f8_o call n _ (by kernel_rfl)
theorem f8_e (call : CallF) (n : Nat) : f8_P f8_b call n = f8_L call n := by
  rw [f8_l, f8_e4]; rfl
theorem f8_eq (n : Nat) (a0 : LB) : acall AXE AXF (n + 1) 8 [.one (.str a0)] [] = f8_L (acall AXE AXF n) (n + 1) a0 :=
  (show _ = f8_P f8_b (acall AXE AXF n) (n + 1) a0 by kernel_rfl).trans (by rw [f8_e])
def f9_P17 (B : Code) (call : CallF) (n : Nat) (m0 : Nat) (x0 : LB) (x1 : LC) (x2 : Int) (x3 : S_ref31_Got) (x4 : S_api_Event) : OR :=
  f9_x B call n [1, 1, 1, 0, 1, 0, 0, 1, 1] (kSeq (fun k => prK 1000004 (pruneAt f9_h 1000004) (aloop 1000004 (pruneAt f9_h 1000004) (f9_x B call n [1, 1, 1, 0, 1, 0, 0]) k m0)) (kBlk 0 (kSeq (f9_x B call n [1, 1, 1, 1]) (kEnd AXE 0 f9_r)))) ⟨[(0, .one (.str x0)), (2, .one (.ptr 0 0)), (3, .one (.sl none 1 x1)), (4, .one (.ptr 1 0)), (5, .one (.int .i64 x2))], [[.int .i64 x3.fE.fKind, .int .i64 x3.fE.fSlot, .int .i64 x3.fE.fN, .int .i64 x3.fE.fK, .bool x3.fE.fLmtp, .str x3.fE.fName, .int .i64 x3.fE.fLimit_Bytes, .int .i64 x3.fE.fLimit_Count, .sl (some ⟨1000000, 8, 9⟩) 1 x3.fE.fTo, .sl (some ⟨1000000, 9, 5⟩) 1 x3.fE.fData, .int .i64 x3.fE.fCode, .sl (some ⟨1000000, 11, 3⟩) 1 x3.fE.fKeep, .int .i64 x3.fErr], [.int .i64 x4.fKind, .int .i64 x4.fSlot, .int .i64 x4.fN, .int .i64 x4.fK, .bool x4.fLmtp, .str x4.fName, .int .i64 x4.fLimit_Bytes, .int .i64 x4.fLimit_Count, .sl (some ⟨1000001, 8, 9⟩) 1 x4.fTo, .sl (some ⟨1000001, 9, 5⟩) 1 x4.fData, .int .i64 x4.fCode, .sl (some ⟨1000001, 11, 3⟩) 1 x4.fKeep]]⟩
def f9_P21 (B : Code) (call : CallF) (n : Nat) (x0 : S_ref31_Got) : OR :=
  f9_x B call n [1, 1, 1, 1, 1, 1, 1, 1, 0, 1, 0, 0, 1, 0, 1] (kSeq (f9_x B call n [1, 1, 1, 1, 1, 1, 1, 1, 0, 1, 0, 1]) (kSeq (f9_x B call n [1, 1, 1, 1, 1, 1, 1, 1, 1]) (kEnd AXE 0 f9_r))) ⟨[(2, .one (.ptr 0 0))], [x0.cells]⟩
def f9_P29 (B : Code) (call : CallF) (n : Nat) (x0 : S_ref31_Got) : OR :=
  f9_x B call n [1, 1, 1, 1, 1, 1, 1, 1, 0, 1, 0, 1, 1, 0, 1, 0, 1] (kSeq (f9_x B call n [1, 1, 1, 1, 1, 1, 1, 1, 0, 1, 0, 1, 1, 1]) (kSeq (f9_x B call n [1, 1, 1, 1, 1, 1, 1, 1, 1]) (kEnd AXE 0 f9_r))) ⟨[(2, .one (.ptr 0 0))], [x0.cells]⟩
def f9_P52 (B : Code) (call : CallF) (n : Nat) (x0 : S_ref31_Got) : OR :=
  f9_x B call n [1, 1, 1, 1, 1, 1, 1, 1, 0, 1, 0, 1, 1, 1, 1, 1, 1, 0, 0, 1, 0, 1] (kSeq (f9_x B call n [1, 1, 1, 1, 1, 1, 1, 1, 0, 1, 0, 1, 1, 1, 1, 1, 1, 0, 1]) (kSeq (f9_x B call n [1, 1, 1, 1, 1, 1, 1, 1, 1]) (kEnd AXE 0 f9_r))) ⟨[(2, .one (.ptr 0 0))], [x0.cells]⟩
def f9_P62 (B : Code) (call : CallF) (n : Nat) (x0 : S_ref31_Got) : OR :=
  f9_x B call n [1, 1, 1, 1, 1, 1, 1, 1, 0, 1, 0, 1, 1, 1, 1, 1, 1, 0, 1, 1, 1] (kSeq (f9_x B call n [1, 1, 1, 1, 1, 1, 1, 1, 1]) (kEnd AXE 0 f9_r)) ⟨[(2, .one (.ptr 0 0))], [[.int .i64 x0.fE.fKind, .int .i64 x0.fE.fSlot, .int .i64 x0.fE.fN, .int .i64 x0.fE.fK, .bool x0.fE.fLmtp, .str x0.fE.fName, .int .i64 x0.fE.fLimit_Bytes, .int .i64 x0.fE.fLimit_Count, .sl none 1 x0.fE.fTo, .sl (some ⟨1000000, 9, 5⟩) 1 x0.fE.fData, .int .i64 x0.fE.fCode, .sl (some ⟨1000000, 11, 3⟩) 1 x0.fE.fKeep, .int .i64 x0.fErr]]⟩
def f9_P58 (B : Code) (call : CallF) (n : Nat) (x0 : S_ref31_Got) (x1 : S_api_Event) : OR :=
  f9_x B call n [1, 1, 1, 1, 1, 1, 1, 1, 0, 1, 0, 1, 1, 1, 1, 1, 1, 0, 1, 1] (kSeq (f9_x B call n [1, 1, 1, 1, 1, 1, 1, 1, 1]) (kEnd AXE 0 f9_r)) ⟨[(2, .one (.ptr 0 0)), (4, .one (.ptr 1 0))], [[.int .i64 x0.fE.fKind, .int .i64 x0.fE.fSlot, .int .i64 x0.fE.fN, .int .i64 x0.fE.fK, .bool x0.fE.fLmtp, .str x0.fE.fName, .int .i64 x0.fE.fLimit_Bytes, .int .i64 x0.fE.fLimit_Count, .sl (some ⟨1000000, 8, 9⟩) 1 x0.fE.fTo, .sl (some ⟨1000000, 9, 5⟩) 1 x0.fE.fData, .int .i64 x0.fE.fCode, .sl (some ⟨1000000, 11, 3⟩) 1 x0.fE.fKeep, .int .i64 x0.fErr], [.int .i64 x1.fKind, .int .i64 x1.fSlot, .int .i64 x1.fN, .int .i64 x1.fK, .bool x1.fLmtp, .str x1.fName, .int .i64 x1.fLimit_Bytes, .int .i64 x1.fLimit_Count, .sl none 1 x1.fTo, .sl (some ⟨1000001, 9, 5⟩) 1 x1.fData, .int .i64 x1.fCode, .sl (some ⟨1000001, 11, 3⟩) 1 x1.fKeep]]⟩
def f9_P53 (B : Code) (call : CallF) (n : Nat) (x0 : LC) (x1 : S_ref31_Got) (x2 : S_api_Event) : OR :=
  f9_x B call n [1, 1, 1, 1, 1, 1, 1, 1, 0, 1, 0, 1, 1, 1, 1, 1, 1, 0, 1] (kSeq (f9_x B call n [1, 1, 1, 1, 1, 1, 1, 1, 1]) (kEnd AXE 0 f9_r)) ⟨[(2, .one (.ptr 0 0)), (4, .one (.ptr 1 0)), (6, .one (.sl none 1 x0))], [[.int .i64 x1.fE.fKind, .int .i64 x1.fE.fSlot, .int .i64 x1.fE.fN, .int .i64 x1.fE.fK, .bool x1.fE.fLmtp, .str x1.fE.fName, .int .i64 x1.fE.fLimit_Bytes, .int .i64 x1.fE.fLimit_Count, .sl (some ⟨1000000, 8, 9⟩) 1 x1.fE.fTo, .sl (some ⟨1000000, 9, 5⟩) 1 x1.fE.fData, .int .i64 x1.fE.fCode, .sl (some ⟨1000000, 11, 3⟩) 1 x1.fE.fKeep, .int .i64 x1.fErr], [.int .i64 x2.fKind, .int .i64 x2.fSlot, .int .i64 x2.fN, .int .i64 x2.fK, .bool x2.fLmtp, .str x2.fName, .int .i64 x2.fLimit_Bytes, .int .i64 x2.fLimit_Count, .sl (some ⟨1000001, 8, 9⟩) 1 x2.fTo, .sl (some ⟨1000001, 9, 5⟩) 1 x2.fData, .int .i64 x2.fCode, .sl (some ⟨1000001, 11, 3⟩) 1 x2.fKeep]]⟩
def f9_P49 (B : Code) (call : CallF) (n : Nat) (x0 : LC) (x1 : Bool) (x2 : S_ref31_Got) (x3 : S_api_Event) : OR :=
  f9_x B call n [1, 1, 1, 1, 1, 1, 1, 1, 0, 1, 0, 1, 1, 1, 1, 1, 1, 0, 0, 1] (kSeq (f9_x B call n [1, 1, 1, 1, 1, 1, 1, 1, 0, 1, 0, 1, 1, 1, 1, 1, 1, 0, 1]) (kSeq (f9_x B call n [1, 1, 1, 1, 1, 1, 1, 1, 1]) (kEnd AXE 0 f9_r))) ⟨[(2, .one (.ptr 0 0)), (4, .one (.ptr 1 0)), (6, .one (.sl none 1 x0)), (76, .one (.bool x1))], [[.int .i64 x2.fE.fKind, .int .i64 x2.fE.fSlot, .int .i64 x2.fE.fN, .int .i64 x2.fE.fK, .bool x2.fE.fLmtp, .str x2.fE.fName, .int .i64 x2.fE.fLimit_Bytes, .int .i64 x2.fE.fLimit_Count, .sl (some ⟨1000000, 8, 9⟩) 1 x2.fE.fTo, .sl (some ⟨1000000, 9, 5⟩) 1 x2.fE.fData, .int .i64 x2.fE.fCode, .sl (some ⟨1000000, 11, 3⟩) 1 x2.fE.fKeep, .int .i64 x2.fErr], [.int .i64 x3.fKind, .int .i64 x3.fSlot, .int .i64 x3.fN, .int .i64 x3.fK, .bool x3.fLmtp, .str x3.fName, .int .i64 x3.fLimit_Bytes, .int .i64 x3.fLimit_Count, .sl (some ⟨1000001, 8, 9⟩) 1 x3.fTo, .sl (some ⟨1000001, 9, 5⟩) 1 x3.fData, .int .i64 x3.fCode, .sl (some ⟨1000001, 11, 3⟩) 1 x3.fKeep]]⟩
def f9_P27 (B : Code) (call : CallF) (n : Nat) (x0 : S_ref31_Got) : OR :=
  f9_x B call n [1, 1, 1, 1, 1, 1, 1, 1, 1, 1, 0, 1, 0, 1] (kSeq (f9_x B call n [1, 1, 1, 1, 1, 1, 1, 1, 1, 1, 1]) (kEnd AXE 0 f9_r)) ⟨[(2, .one (.ptr 0 0))], [x0.cells]⟩
def f9_P42 (B : Code) (call : CallF) (n : Nat) (x0 : S_ref31_Got) : OR :=
  f9_x B call n [1, 1, 1, 1, 1, 1, 1, 1, 1, 1, 1, 1, 0, 1, 0, 1] (kSeq (f9_x B call n [1, 1, 1, 1, 1, 1, 1, 1, 1, 1, 1, 1, 1]) (kEnd AXE 0 f9_r)) ⟨[(2, .one (.ptr 0 0))], [x0.cells]⟩
def f9_P47 (B : Code) (call : CallF) (n : Nat) (x0 : S_ref31_Got) : OR :=
  f9_x B call n [1, 1, 1, 1, 1, 1, 1, 1, 1, 1, 1, 1, 1, 1, 1] (kEnd AXE 0 f9_r) ⟨[(2, .one (.ptr 0 0))], [[.int .i64 x0.fE.fKind, .int .i64 x0.fE.fSlot, .int .i64 x0.fE.fN, .int .i64 x0.fE.fK, .bool x0.fE.fLmtp, .str x0.fE.fName, .int .i64 x0.fE.fLimit_Bytes, .int .i64 x0.fE.fLimit_Count, .sl (some ⟨1000000, 8, 9⟩) 1 x0.fE.fTo, .sl (some ⟨1000000, 9, 5⟩) 1 x0.fE.fData, .int .i64 x0.fE.fCode, .sl (some ⟨1000000, 11, 3⟩) 1 x0.fE.fKeep, .int .i64 x0.fErr]]⟩
def f9_P43 (B : Code) (call : CallF) (n : Nat) (x0 : S_ref31_Got) (x1 : S_api_Event) : OR :=
  f9_x B call n [1, 1, 1, 1, 1, 1, 1, 1, 1, 1, 1, 1, 1, 1] (kEnd AXE 0 f9_r) ⟨[(2, .one (.ptr 0 0)), (4, .one (.ptr 1 0))], [[.int .i64 x0.fE.fKind, .int .i64 x0.fE.fSlot, .int .i64 x0.fE.fN, .int .i64 x0.fE.fK, .bool x0.fE.fLmtp, .str x0.fE.fName, .int .i64 x0.fE.fLimit_Bytes, .int .i64 x0.fE.fLimit_Count, .sl (some ⟨1000000, 8, 9⟩) 1 x0.fE.fTo, .sl (some ⟨1000000, 9, 5⟩) 1 x0.fE.fData, .int .i64 x0.fE.fCode, .sl (some ⟨1000000, 11, 3⟩) 1 x0.fE.fKeep, .int .i64 x0.fErr], [.int .i64 x1.fKind, .int .i64 x1.fSlot, .int .i64 x1.fN, .int .i64 x1.fK, .bool x1.fLmtp, .str x1.fName, .int .i64 x1.fLimit_Bytes, .int .i64 x1.fLimit_Count, .sl (some ⟨1000001, 8, 9⟩) 1 x1.fTo, .sl (some ⟨1000001, 9, 5⟩) 1 x1.fData, .int .i64 x1.fCode, .sl (some ⟨1000001, 11, 3⟩) 1 x1.fKeep]]⟩
def f9_P50 (B : Code) (call : CallF) (n : Nat) (x0 : LC) (x1 : S_ref31_Got) (x2 : S_api_Event) : OR :=
  f9_x B call n [1, 1, 1, 1, 1, 1, 1, 1, 1, 1, 1, 1, 1, 0, 1, 0, 1, 1, 1, 1, 1, 0, 1] (kBlk 2 (kSeq (f9_x B call n [1, 1, 1, 1, 1, 1, 1, 1, 1, 1, 1, 1, 1, 1]) (kEnd AXE 0 f9_r))) ⟨[(2, .one (.ptr 0 0)), (4, .one (.ptr 1 0)), (10, .one (.sl none 1 x0))], [[.int .i64 x1.fE.fKind, .int .i64 x1.fE.fSlot, .int .i64 x1.fE.fN, .int .i64 x1.fE.fK, .bool x1.fE.fLmtp, .str x1.fE.fName, .int .i64 x1.fE.fLimit_Bytes, .int .i64 x1.fE.fLimit_Count, .sl (some ⟨1000000, 8, 9⟩) 1 x1.fE.fTo, .sl (some ⟨1000000, 9, 5⟩) 1 x1.fE.fData, .int .i64 x1.fE.fCode, .sl (some ⟨1000000, 11, 3⟩) 1 x1.fE.fKeep, .int .i64 x1.fErr], [.int .i64 x2.fKind, .int .i64 x2.fSlot, .int .i64 x2.fN, .int .i64 x2.fK, .bool x2.fLmtp, .str x2.fName, .int .i64 x2.fLimit_Bytes, .int .i64 x2.fLimit_Count, .sl (some ⟨1000001, 8, 9⟩) 1 x2.fTo, .sl (some ⟨1000001, 9, 5⟩) 1 x2.fData, .int .i64 x2.fCode, .sl (some ⟨1000001, 11, 3⟩) 1 x2.fKeep]]⟩
def f9_P59 (B : Code) (call : CallF) (n : Nat) (x0 : S_ref31_Got) : OR :=
  f9_x B call n [1, 1, 1, 1, 1, 1, 1, 1, 1, 1, 1, 1, 1, 0, 1, 0, 1, 1, 1, 1, 1, 1, 1, 0, 0, 1, 0, 1] (kSeq (f9_x B call n [1, 1, 1, 1, 1, 1, 1, 1, 1, 1, 1, 1, 1, 0, 1, 0, 1, 1, 1, 1, 1, 1, 1, 0, 1]) (kBlk 2 (kSeq (f9_x B call n [1, 1, 1, 1, 1, 1, 1, 1, 1, 1, 1, 1, 1, 1]) (kEnd AXE 0 f9_r)))) ⟨[(2, .one (.ptr 0 0))], [x0.cells]⟩
def f9_P54 (B : Code) (call : CallF) (n : Nat) (x0 : LC) (x1 : Bool) (x2 : S_ref31_Got) (x3 : S_api_Event) : OR :=
  f9_x B call n [1, 1, 1, 1, 1, 1, 1, 1, 1, 1, 1, 1, 1, 0, 1, 0, 1, 1, 1, 1, 1, 1, 1, 0, 0, 1] (kSeq (f9_x B call n [1, 1, 1, 1, 1, 1, 1, 1, 1, 1, 1, 1, 1, 0, 1, 0, 1, 1, 1, 1, 1, 1, 1, 0, 1]) (kBlk 2 (kSeq (f9_x B call n [1, 1, 1, 1, 1, 1, 1, 1, 1, 1, 1, 1, 1, 1]) (kEnd AXE 0 f9_r)))) ⟨[(2, .one (.ptr 0 0)), (4, .one (.ptr 1 0)), (10, .one (.sl none 1 x0)), (156, .one (.bool x1))], [[.int .i64 x2.fE.fKind, .int .i64 x2.fE.fSlot, .int .i64 x2.fE.fN, .int .i64 x2.fE.fK, .bool x2.fE.fLmtp, .str x2.fE.fName, .int .i64 x2.fE.fLimit_Bytes, .int .i64 x2.fE.fLimit_Count, .sl (some ⟨1000000, 8, 9⟩) 1 x2.fE.fTo, .sl (some ⟨1000000, 9, 5⟩) 1 x2.fE.fData, .int .i64 x2.fE.fCode, .sl (some ⟨1000000, 11, 3⟩) 1 x2.fE.fKeep, .int .i64 x2.fErr], [.int .i64 x3.fKind, .int .i64 x3.fSlot, .int .i64 x3.fN, .int .i64 x3.fK, .bool x3.fLmtp, .str x3.fName, .int .i64 x3.fLimit_Bytes, .int .i64 x3.fLimit_Count, .sl (some ⟨1000001, 8, 9⟩) 1 x3.fTo, .sl (some ⟨1000001, 9, 5⟩) 1 x3.fData, .int .i64 x3.fCode, .sl (some ⟨1000001, 11, 3⟩) 1 x3.fKeep]]⟩
def f9_P64 (B : Code) (call : CallF) (n : Nat) (x0 : S_ref31_Got) : OR :=
  f9_x B call n [1, 1, 1, 1, 1, 1, 1, 1, 1, 1, 1, 1, 1, 1, 1] (kEnd AXE 0 f9_r) ⟨[(2, .one (.ptr 0 0))], [[.int .i64 x0.fE.fKind, .int .i64 x0.fE.fSlot, .int .i64 x0.fE.fN, .int .i64 x0.fE.fK, .bool x0.fE.fLmtp, .str x0.fE.fName, .int .i64 x0.fE.fLimit_Bytes, .int .i64 x0.fE.fLimit_Count, .sl (some ⟨1000000, 8, 9⟩) 1 x0.fE.fTo, .sl (some ⟨1000000, 9, 5⟩) 1 x0.fE.fData, .int .i64 x0.fE.fCode, .sl none 1 x0.fE.fKeep, .int .i64 x0.fErr]]⟩
def f9_P63 (B : Code) (call : CallF) (n : Nat) (x0 : S_ref31_Got) (x1 : S_api_Event) : OR :=
  f9_x B call n [1, 1, 1, 1, 1, 1, 1, 1, 1, 1, 1, 1, 1, 1] (kEnd AXE 0 f9_r) ⟨[(2, .one (.ptr 0 0)), (4, .one (.ptr 1 0))], [[.int .i64 x0.fE.fKind, .int .i64 x0.fE.fSlot, .int .i64 x0.fE.fN, .int .i64 x0.fE.fK, .bool x0.fE.fLmtp, .str x0.fE.fName, .int .i64 x0.fE.fLimit_Bytes, .int .i64 x0.fE.fLimit_Count, .sl (some ⟨1000000, 8, 9⟩) 1 x0.fE.fTo, .sl (some ⟨1000000, 9, 5⟩) 1 x0.fE.fData, .int .i64 x0.fE.fCode, .sl (some ⟨1000000, 11, 3⟩) 1 x0.fE.fKeep, .int .i64 x0.fErr], [.int .i64 x1.fKind, .int .i64 x1.fSlot, .int .i64 x1.fN, .int .i64 x1.fK, .bool x1.fLmtp, .str x1.fName, .int .i64 x1.fLimit_Bytes, .int .i64 x1.fLimit_Count, .sl (some ⟨1000001, 8, 9⟩) 1 x1.fTo, .sl (some ⟨1000001, 9, 5⟩) 1 x1.fData, .int .i64 x1.fCode, .sl none 1 x1.fKeep]]⟩
def f9_P60 (B : Code) (call : CallF) (n : Nat) (x0 : LC) (x1 : S_ref31_Got) (x2 : S_api_Event) : OR :=
  f9_x B call n [1, 1, 1, 1, 1, 1, 1, 1, 1, 1, 1, 1, 1, 0, 1, 0, 1, 1, 1, 1, 1, 1, 1, 1, 1, 0, 1] (kBlk 2 (kSeq (f9_x B call n [1, 1, 1, 1, 1, 1, 1, 1, 1, 1, 1, 1, 1, 1]) (kEnd AXE 0 f9_r))) ⟨[(2, .one (.ptr 0 0)), (4, .one (.ptr 1 0)), (10, .one (.sl none 1 x0))], [[.int .i64 x1.fE.fKind, .int .i64 x1.fE.fSlot, .int .i64 x1.fE.fN, .int .i64 x1.fE.fK, .bool x1.fE.fLmtp, .str x1.fE.fName, .int .i64 x1.fE.fLimit_Bytes, .int .i64 x1.fE.fLimit_Count, .sl (some ⟨1000000, 8, 9⟩) 1 x1.fE.fTo, .sl (some ⟨1000000, 9, 5⟩) 1 x1.fE.fData, .int .i64 x1.fE.fCode, .sl (some ⟨1000000, 11, 3⟩) 1 x1.fE.fKeep, .int .i64 x1.fErr], [.int .i64 x2.fKind, .int .i64 x2.fSlot, .int .i64 x2.fN, .int .i64 x2.fK, .bool x2.fLmtp, .str x2.fName, .int .i64 x2.fLimit_Bytes, .int .i64 x2.fLimit_Count, .sl (some ⟨1000001, 8, 9⟩) 1 x2.fTo, .sl (some ⟨1000001, 9, 5⟩) 1 x2.fData, .int .i64 x2.fCode, .sl (some ⟨1000001, 11, 3⟩) 1 x2.fKeep]]⟩
def f9_P61 (B : Code) (call : CallF) (n : Nat) (x0 : LC) (x1 : S_ref31_Got) (x2 : S_api_Event) : OR :=
  f9_x B call n [1, 1, 1, 1, 1, 1, 1, 1, 1, 1, 1, 1, 1, 1] (kEnd AXE 0 f9_r) ⟨[(2, .one (.ptr 0 0)), (4, .one (.ptr 1 0)), (10, .one (.sl none 1 x0))], [[.int .i64 x1.fE.fKind, .int .i64 x1.fE.fSlot, .int .i64 x1.fE.fN, .int .i64 x1.fE.fK, .bool x1.fE.fLmtp, .str x1.fE.fName, .int .i64 x1.fE.fLimit_Bytes, .int .i64 x1.fE.fLimit_Count, .sl (some ⟨1000000, 8, 9⟩) 1 x1.fE.fTo, .sl (some ⟨1000000, 9, 5⟩) 1 x1.fE.fData, .int .i64 x1.fE.fCode, .sl (some ⟨1000000, 11, 3⟩) 1 x1.fE.fKeep, .int .i64 x1.fErr], [.int .i64 x2.fKind, .int .i64 x2.fSlot, .int .i64 x2.fN, .int .i64 x2.fK, .bool x2.fLmtp, .str x2.fName, .int .i64 x2.fLimit_Bytes, .int .i64 x2.fLimit_Count, .sl (some ⟨1000001, 8, 9⟩) 1 x2.fTo, .sl (some ⟨1000001, 9, 5⟩) 1 x2.fData, .int .i64 x2.fCode, .sl (some ⟨1000001, 11, 3⟩) 1 x2.fKeep]]⟩
def f9_P57 (B : Code) (call : CallF) (n : Nat) (x0 : LC) (x1 : Bool) (x2 : S_ref31_Got) (x3 : S_api_Event) : OR :=
  f9_x B call n [1, 1, 1, 1, 1, 1, 1, 1, 1, 1, 1, 1, 1, 0, 1, 0, 1, 1, 1, 1, 1, 1, 1, 1, 1] (kBlk 2 (kSeq (f9_x B call n [1, 1, 1, 1, 1, 1, 1, 1, 1, 1, 1, 1, 1, 1]) (kEnd AXE 0 f9_r))) ⟨[(2, .one (.ptr 0 0)), (4, .one (.ptr 1 0)), (10, .one (.sl none 1 x0)), (166, .one (.bool x1))], [[.int .i64 x2.fE.fKind, .int .i64 x2.fE.fSlot, .int .i64 x2.fE.fN, .int .i64 x2.fE.fK, .bool x2.fE.fLmtp, .str x2.fE.fName, .int .i64 x2.fE.fLimit_Bytes, .int .i64 x2.fE.fLimit_Count, .sl (some ⟨1000000, 8, 9⟩) 1 x2.fE.fTo, .sl (some ⟨1000000, 9, 5⟩) 1 x2.fE.fData, .int .i64 x2.fE.fCode, .sl (some ⟨1000000, 11, 3⟩) 1 x2.fE.fKeep, .int .i64 x2.fErr], [.int .i64 x3.fKind, .int .i64 x3.fSlot, .int .i64 x3.fN, .int .i64 x3.fK, .bool x3.fLmtp, .str x3.fName, .int .i64 x3.fLimit_Bytes, .int .i64 x3.fLimit_Count, .sl (some ⟨1000001, 8, 9⟩) 1 x3.fTo, .sl (some ⟨1000001, 9, 5⟩) 1 x3.fData, .int .i64 x3.fCode, .sl (some ⟨1000001, 11, 3⟩) 1 x3.fKeep]]⟩
def f9_P51 (B : Code) (call : CallF) (n : Nat) (x0 : LC) (x1 : Int) (x2 : Bool) (x3 : S_ref31_Got) (x4 : S_api_Event) : OR :=
  f9_x B call n [1, 1, 1, 1, 1, 1, 1, 1, 1, 1, 1, 1, 1, 0, 1, 0, 1, 1, 1, 1, 1, 1, 1] (kBlk 2 (kSeq (f9_x B call n [1, 1, 1, 1, 1, 1, 1, 1, 1, 1, 1, 1, 1, 1]) (kEnd AXE 0 f9_r))) ⟨[(2, .one (.ptr 0 0)), (4, .one (.ptr 1 0)), (10, .one (.sl none 1 x0)), (115, .one (.int .i64 x1)), (145, .one (.bool x2))], [[.int .i64 x3.fE.fKind, .int .i64 x3.fE.fSlot, .int .i64 x3.fE.fN, .int .i64 x3.fE.fK, .bool x3.fE.fLmtp, .str x3.fE.fName, .int .i64 x3.fE.fLimit_Bytes, .int .i64 x3.fE.fLimit_Count, .sl (some ⟨1000000, 8, 9⟩) 1 x3.fE.fTo, .sl (some ⟨1000000, 9, 5⟩) 1 x3.fE.fData, .int .i64 x3.fE.fCode, .sl (some ⟨1000000, 11, 3⟩) 1 x3.fE.fKeep, .int .i64 x3.fErr], [.int .i64 x4.fKind, .int .i64 x4.fSlot, .int .i64 x4.fN, .int .i64 x4.fK, .bool x4.fLmtp, .str x4.fName, .int .i64 x4.fLimit_Bytes, .int .i64 x4.fLimit_Count, .sl (some ⟨1000001, 8, 9⟩) 1 x4.fTo, .sl (some ⟨1000001, 9, 5⟩) 1 x4.fData, .int .i64 x4.fCode, .sl (some ⟨1000001, 11, 3⟩) 1 x4.fKeep]]⟩
def f9_P48 (B : Code) (call : CallF) (n : Nat) (x0 : LC) (x1 : Int) (x2 : Bool) (x3 : S_ref31_Got) (x4 : S_api_Event) : OR :=
  f9_x B call n [1, 1, 1, 1, 1, 1, 1, 1, 1, 1, 1, 1, 1, 0, 1, 0, 1, 1, 1, 1, 1] (kBlk 2 (kSeq (f9_x B call n [1, 1, 1, 1, 1, 1, 1, 1, 1, 1, 1, 1, 1, 1]) (kEnd AXE 0 f9_r))) ⟨[(2, .one (.ptr 0 0)), (4, .one (.ptr 1 0)), (10, .one (.sl none 1 x0)), (115, .one (.int .i64 x1)), (135, .one (.bool x2))], [[.int .i64 x3.fE.fKind, .int .i64 x3.fE.fSlot, .int .i64 x3.fE.fN, .int .i64 x3.fE.fK, .bool x3.fE.fLmtp, .str x3.fE.fName, .int .i64 x3.fE.fLimit_Bytes, .int .i64 x3.fE.fLimit_Count, .sl (some ⟨1000000, 8, 9⟩) 1 x3.fE.fTo, .sl (some ⟨1000000, 9, 5⟩) 1 x3.fE.fData, .int .i64 x3.fE.fCode, .sl (some ⟨1000000, 11, 3⟩) 1 x3.fE.fKeep, .int .i64 x3.fErr], [.int .i64 x4.fKind, .int .i64 x4.fSlot, .int .i64 x4.fN, .int .i64 x4.fK, .bool x4.fLmtp, .str x4.fName, .int .i64 x4.fLimit_Bytes, .int .i64 x4.fLimit_Count, .sl (some ⟨1000001, 8, 9⟩) 1 x4.fTo, .sl (some ⟨1000001, 9, 5⟩) 1 x4.fData, .int .i64 x4.fCode, .sl (some ⟨1000001, 11, 3⟩) 1 x4.fKeep]]⟩
def f9_P44 (B : Code) (call : CallF) (n : Nat) (x0 : Bool) (x1 : LC) (x2 : Int) (x3 : S_ref31_Got) (x4 : S_api_Event) : OR :=
  f9_x B call n [1, 1, 1, 1, 1, 1, 1, 1, 1, 1, 1, 1, 1, 0, 1, 0, 1, 1, 1] (kBlk 2 (kSeq (f9_x B call n [1, 1, 1, 1, 1, 1, 1, 1, 1, 1, 1, 1, 1, 1]) (kEnd AXE 0 f9_r))) ⟨[(127, .one (.bool x0)), (2, .one (.ptr 0 0)), (4, .one (.ptr 1 0)), (10, .one (.sl none 1 x1)), (115, .one (.int .i64 x2))], [[.int .i64 x3.fE.fKind, .int .i64 x3.fE.fSlot, .int .i64 x3.fE.fN, .int .i64 x3.fE.fK, .bool x3.fE.fLmtp, .str x3.fE.fName, .int .i64 x3.fE.fLimit_Bytes, .int .i64 x3.fE.fLimit_Count, .sl (some ⟨1000000, 8, 9⟩) 1 x3.fE.fTo, .sl (some ⟨1000000, 9, 5⟩) 1 x3.fE.fData, .int .i64 x3.fE.fCode, .sl (some ⟨1000000, 11, 3⟩) 1 x3.fE.fKeep, .int .i64 x3.fErr], [.int .i64 x4.fKind, .int .i64 x4.fSlot, .int .i64 x4.fN, .int .i64 x4.fK, .bool x4.fLmtp, .str x4.fName, .int .i64 x4.fLimit_Bytes, .int .i64 x4.fLimit_Count, .sl (some ⟨1000001, 8, 9⟩) 1 x4.fTo, .sl (some ⟨1000001, 9, 5⟩) 1 x4.fData, .int .i64 x4.fCode, .sl (some ⟨1000001, 11, 3⟩) 1 x4.fKeep]]⟩
def f9_P45 (B : Code) (call : CallF) (n : Nat) (x0 : LC) (x1 : Int) (x2 : Bool) (x3 : S_ref31_Got) (x4 : S_api_Event) : OR :=
  f9_x B call n [1, 1, 1, 1, 1, 1, 1, 1, 1, 1, 1, 1, 1, 0, 1, 0, 1, 1, 1] (kBlk 2 (kSeq (f9_x B call n [1, 1, 1, 1, 1, 1, 1, 1, 1, 1, 1, 1, 1, 1]) (kEnd AXE 0 f9_r))) ⟨[(2, .one (.ptr 0 0)), (4, .one (.ptr 1 0)), (10, .one (.sl none 1 x0)), (115, .one (.int .i64 x1)), (127, .one (.bool x2))], [[.int .i64 x3.fE.fKind, .int .i64 x3.fE.fSlot, .int .i64 x3.fE.fN, .int .i64 x3.fE.fK, .bool x3.fE.fLmtp, .str x3.fE.fName, .int .i64 x3.fE.fLimit_Bytes, .int .i64 x3.fE.fLimit_Count, .sl (some ⟨1000000, 8, 9⟩) 1 x3.fE.fTo, .sl (some ⟨1000000, 9, 5⟩) 1 x3.fE.fData, .int .i64 x3.fE.fCode, .sl (some ⟨1000000, 11, 3⟩) 1 x3.fE.fKeep, .int .i64 x3.fErr], [.int .i64 x4.fKind, .int .i64 x4.fSlot, .int .i64 x4.fN, .int .i64 x4.fK, .bool x4.fLmtp, .str x4.fName, .int .i64 x4.fLimit_Bytes, .int .i64 x4.fLimit_Count, .sl (some ⟨1000001, 8, 9⟩) 1 x4.fTo, .sl (some ⟨1000001, 9, 5⟩) 1 x4.fData, .int .i64 x4.fCode, .sl (some ⟨1000001, 11, 3⟩) 1 x4.fKeep]]⟩
def f9_P33 (B : Code) (call : CallF) (n : Nat) (x0 : Int) (x1 : LC) (x2 : Bool) (x3 : S_ref31_Got) (x4 : S_api_Event) : OR :=
  f9_x B call n [1, 1, 1, 1, 1, 1, 1, 1, 1, 1, 1, 1, 0, 1] (kSeq (f9_x B call n [1, 1, 1, 1, 1, 1, 1, 1, 1, 1, 1, 1, 1]) (kEnd AXE 0 f9_r)) ⟨[(2, .one (.ptr 0 0)), (4, .one (.ptr 1 0)), (7, .one (.int .i64 x0)), (10, .one (.sl none 1 x1)), (113, .one (.bool x2))], [[.int .i64 x3.fE.fKind, .int .i64 x3.fE.fSlot, .int .i64 x3.fE.fN, .int .i64 x3.fE.fK, .bool x3.fE.fLmtp, .str x3.fE.fName, .int .i64 x3.fE.fLimit_Bytes, .int .i64 x3.fE.fLimit_Count, .sl (some ⟨1000000, 8, 9⟩) 1 x3.fE.fTo, .sl (some ⟨1000000, 9, 5⟩) 1 x3.fE.fData, .int .i64 x3.fE.fCode, .sl (some ⟨1000000, 11, 3⟩) 1 x3.fE.fKeep, .int .i64 x3.fErr], [.int .i64 x4.fKind, .int .i64 x4.fSlot, .int .i64 x4.fN, .int .i64 x4.fK, .bool x4.fLmtp, .str x4.fName, .int .i64 x4.fLimit_Bytes, .int .i64 x4.fLimit_Count, .sl (some ⟨1000001, 8, 9⟩) 1 x4.fTo, .sl (some ⟨1000001, 9, 5⟩) 1 x4.fData, .int .i64 x4.fCode, .sl (some ⟨1000001, 11, 3⟩) 1 x4.fKeep]]⟩
def f9_P31 (B : Code) (call : CallF) (n : Nat) (x0 : Int) (x1 x2 : LC) (x3 : S_ref31_Got) (x4 : S_api_Event) : OR :=
  f9_x B call n [1, 1, 1, 1, 1, 1, 1, 1, 1, 1, 1, 1] (kEnd AXE 0 f9_r) ⟨[(2, .one (.ptr 0 0)), (4, .one (.ptr 1 0)), (7, .one (.int .i64 x0)), (10, .one (.sl none 1 x1)), (12, .one (.sl (some ⟨12, 0, 3⟩) 1 x2))], [[.int .i64 x3.fE.fKind, .int .i64 x3.fE.fSlot, .int .i64 x3.fE.fN, .int .i64 x3.fE.fK, .bool x3.fE.fLmtp, .str x3.fE.fName, .int .i64 x3.fE.fLimit_Bytes, .int .i64 x3.fE.fLimit_Count, .sl (some ⟨1000000, 8, 9⟩) 1 x3.fE.fTo, .sl (some ⟨1000000, 9, 5⟩) 1 x3.fE.fData, .int .i64 x3.fE.fCode, .sl (some ⟨1000000, 11, 3⟩) 1 x3.fE.fKeep, .int .i64 x3.fErr], [.int .i64 x4.fKind, .int .i64 x4.fSlot, .int .i64 x4.fN, .int .i64 x4.fK, .bool x4.fLmtp, .str x4.fName, .int .i64 x4.fLimit_Bytes, .int .i64 x4.fLimit_Count, .sl (some ⟨1000001, 8, 9⟩) 1 x4.fTo, .sl (some ⟨1000001, 9, 5⟩) 1 x4.fData, .int .i64 x4.fCode, .sl (some ⟨1000001, 11, 3⟩) 1 x4.fKeep]]⟩
def f9_P28 (B : Code) (call : CallF) (n : Nat) (x0 : Int) (x1 : LC) (x2 : S_ref31_Got) (x3 : S_api_Event) : OR :=
  f9_x B call n [1, 1, 1, 1, 1, 1, 1, 1, 1, 1, 1] (kEnd AXE 0 f9_r) ⟨[(2, .one (.ptr 0 0)), (4, .one (.ptr 1 0)), (7, .one (.int .i64 x0)), (10, .one (.sl none 1 x1))], [[.int .i64 x2.fE.fKind, .int .i64 x2.fE.fSlot, .int .i64 x2.fE.fN, .int .i64 x2.fE.fK, .bool x2.fE.fLmtp, .str x2.fE.fName, .int .i64 x2.fE.fLimit_Bytes, .int .i64 x2.fE.fLimit_Count, .sl (some ⟨1000000, 8, 9⟩) 1 x2.fE.fTo, .sl (some ⟨1000000, 9, 5⟩) 1 x2.fE.fData, .int .i64 x2.fE.fCode, .sl (some ⟨1000000, 11, 3⟩) 1 x2.fE.fKeep, .int .i64 x2.fErr], [.int .i64 x3.fKind, .int .i64 x3.fSlot, .int .i64 x3.fN, .int .i64 x3.fK, .bool x3.fLmtp, .str x3.fName, .int .i64 x3.fLimit_Bytes, .int .i64 x3.fLimit_Count, .sl (some ⟨1000001, 8, 9⟩) 1 x3.fTo, .sl (some ⟨1000001, 9, 5⟩) 1 x3.fData, .int .i64 x3.fCode, .sl (some ⟨1000001, 11, 3⟩) 1 x3.fKeep]]⟩
def f9_P25 (B : Code) (call : CallF) (n : Nat) (x0 : Int) (x1 : LC) (x2 : Bool) (x3 : S_ref31_Got) (x4 : S_api_Event) : OR :=
  f9_x B call n [1, 1, 1, 1, 1, 1, 1, 1, 1, 1, 0, 1] (kSeq (f9_x B call n [1, 1, 1, 1, 1, 1, 1, 1, 1, 1, 1]) (kEnd AXE 0 f9_r)) ⟨[(2, .one (.ptr 0 0)), (4, .one (.ptr 1 0)), (7, .one (.int .i64 x0)), (10, .one (.sl none 1 x1)), (88, .one (.bool x2))], [[.int .i64 x3.fE.fKind, .int .i64 x3.fE.fSlot, .int .i64 x3.fE.fN, .int .i64 x3.fE.fK, .bool x3.fE.fLmtp, .str x3.fE.fName, .int .i64 x3.fE.fLimit_Bytes, .int .i64 x3.fE.fLimit_Count, .sl (some ⟨1000000, 8, 9⟩) 1 x3.fE.fTo, .sl (some ⟨1000000, 9, 5⟩) 1 x3.fE.fData, .int .i64 x3.fE.fCode, .sl (some ⟨1000000, 11, 3⟩) 1 x3.fE.fKeep, .int .i64 x3.fErr], [.int .i64 x4.fKind, .int .i64 x4.fSlot, .int .i64 x4.fN, .int .i64 x4.fK, .bool x4.fLmtp, .str x4.fName, .int .i64 x4.fLimit_Bytes, .int .i64 x4.fLimit_Count, .sl (some ⟨1000001, 8, 9⟩) 1 x4.fTo, .sl (some ⟨1000001, 9, 5⟩) 1 x4.fData, .int .i64 x4.fCode, .sl (some ⟨1000001, 11, 3⟩) 1 x4.fKeep]]⟩
def f9_P23 (B : Code) (call : CallF) (n : Nat) (x0 : Int) (x1 : LC) (x2 : Bool) (x3 : S_ref31_Got) (x4 : S_api_Event) : OR :=
  f9_x B call n [1, 1, 1, 1, 1, 1, 1, 1, 1, 1] (kEnd AXE 0 f9_r) ⟨[(2, .one (.ptr 0 0)), (4, .one (.ptr 1 0)), (7, .one (.int .i64 x0)), (10, .one (.sl none 1 x1)), (11, .one (.bool x2))], [[.int .i64 x3.fE.fKind, .int .i64 x3.fE.fSlot, .int .i64 x3.fE.fN, .int .i64 x3.fE.fK, .bool x3.fE.fLmtp, .str x3.fE.fName, .int .i64 x3.fE.fLimit_Bytes, .int .i64 x3.fE.fLimit_Count, .sl (some ⟨1000000, 8, 9⟩) 1 x3.fE.fTo, .sl (some ⟨1000000, 9, 5⟩) 1 x3.fE.fData, .int .i64 x3.fE.fCode, .sl (some ⟨1000000, 11, 3⟩) 1 x3.fE.fKeep, .int .i64 x3.fErr], [.int .i64 x4.fKind, .int .i64 x4.fSlot, .int .i64 x4.fN, .int .i64 x4.fK, .bool x4.fLmtp, .str x4.fName, .int .i64 x4.fLimit_Bytes, .int .i64 x4.fLimit_Count, .sl (some ⟨1000001, 8, 9⟩) 1 x4.fTo, .sl (some ⟨1000001, 9, 5⟩) 1 x4.fData, .int .i64 x4.fCode, .sl (some ⟨1000001, 11, 3⟩) 1 x4.fKeep]]⟩
def f9_P20 (B : Code) (call : CallF) (n : Nat) (x0 : LC) (x1 : Int) (x2 : S_ref31_Got) (x3 : S_api_Event) : OR :=
  f9_x B call n [1, 1, 1, 1, 1, 1, 1, 1, 1] (kEnd AXE 0 f9_r) ⟨[(2, .one (.ptr 0 0)), (4, .one (.ptr 1 0)), (6, .one (.sl none 1 x0)), (7, .one (.int .i64 x1))], [[.int .i64 x2.fE.fKind, .int .i64 x2.fE.fSlot, .int .i64 x2.fE.fN, .int .i64 x2.fE.fK, .bool x2.fE.fLmtp, .str x2.fE.fName, .int .i64 x2.fE.fLimit_Bytes, .int .i64 x2.fE.fLimit_Count, .sl (some ⟨1000000, 8, 9⟩) 1 x2.fE.fTo, .sl (some ⟨1000000, 9, 5⟩) 1 x2.fE.fData, .int .i64 x2.fE.fCode, .sl (some ⟨1000000, 11, 3⟩) 1 x2.fE.fKeep, .int .i64 x2.fErr], [.int .i64 x3.fKind, .int .i64 x3.fSlot, .int .i64 x3.fN, .int .i64 x3.fK, .bool x3.fLmtp, .str x3.fName, .int .i64 x3.fLimit_Bytes, .int .i64 x3.fLimit_Count, .sl (some ⟨1000001, 8, 9⟩) 1 x3.fTo, .sl (some ⟨1000001, 9, 5⟩) 1 x3.fData, .int .i64 x3.fCode, .sl (some ⟨1000001, 11, 3⟩) 1 x3.fKeep]]⟩
def f9_P46 (B : Code) (call : CallF) (n : Nat) (x0 : LC) (x1 : Int) (x2 : Bool) (x3 : S_ref31_Got) (x4 : S_api_Event) : OR :=
  f9_x B call n [1, 1, 1, 1, 1, 1, 1, 1, 0, 1, 0, 1, 1, 1, 1, 1, 1] (kSeq (f9_x B call n [1, 1, 1, 1, 1, 1, 1, 1, 1]) (kEnd AXE 0 f9_r)) ⟨[(2, .one (.ptr 0 0)), (4, .one (.ptr 1 0)), (6, .one (.sl none 1 x0)), (7, .one (.int .i64 x1)), (73, .one (.bool x2))], [[.int .i64 x3.fE.fKind, .int .i64 x3.fE.fSlot, .int .i64 x3.fE.fN, .int .i64 x3.fE.fK, .bool x3.fE.fLmtp, .str x3.fE.fName, .int .i64 x3.fE.fLimit_Bytes, .int .i64 x3.fE.fLimit_Count, .sl (some ⟨1000000, 8, 9⟩) 1 x3.fE.fTo, .sl (some ⟨1000000, 9, 5⟩) 1 x3.fE.fData, .int .i64 x3.fE.fCode, .sl (some ⟨1000000, 11, 3⟩) 1 x3.fE.fKeep, .int .i64 x3.fErr], [.int .i64 x4.fKind, .int .i64 x4.fSlot, .int .i64 x4.fN, .int .i64 x4.fK, .bool x4.fLmtp, .str x4.fName, .int .i64 x4.fLimit_Bytes, .int .i64 x4.fLimit_Count, .sl (some ⟨1000001, 8, 9⟩) 1 x4.fTo, .sl (some ⟨1000001, 9, 5⟩) 1 x4.fData, .int .i64 x4.fCode, .sl (some ⟨1000001, 11, 3⟩) 1 x4.fKeep]]⟩
def f9_P41 (B : Code) (call : CallF) (n : Nat) (x0 : LC) (x1 : Int) (x2 : S_ref31_Got) (x3 : S_api_Event) : OR :=
  f9_x B call n [1, 1, 1, 1, 1, 1, 1, 1, 0, 1, 0, 1, 1, 1, 1, 1] (kSeq (f9_x B call n [1, 1, 1, 1, 1, 1, 1, 1, 1]) (kEnd AXE 0 f9_r)) ⟨[(2, .one (.ptr 0 0)), (4, .one (.ptr 1 0)), (6, .one (.sl none 1 x0)), (7, .one (.int .i64 x1))], [[.int .i64 x2.fE.fKind, .int .i64 x2.fE.fSlot, .int .i64 x2.fE.fN, .int .i64 x2.fE.fK, .bool x2.fE.fLmtp, .str x2.fE.fName, .int .i64 x2.fE.fLimit_Bytes, .int .i64 x2.fE.fLimit_Count, .sl (some ⟨1000000, 8, 9⟩) 1 x2.fE.fTo, .sl (some ⟨1000000, 9, 5⟩) 1 x2.fE.fData, .int .i64 x2.fE.fCode, .sl (some ⟨1000000, 11, 3⟩) 1 x2.fE.fKeep, .int .i64 x2.fErr], [.int .i64 x3.fKind, .int .i64 x3.fSlot, .int .i64 x3.fN, .int .i64 x3.fK, .bool x3.fLmtp, .str x3.fName, .int .i64 x3.fLimit_Bytes, .int .i64 x3.fLimit_Count, .sl (some ⟨1000001, 8, 9⟩) 1 x3.fTo, .sl (some ⟨1000001, 9, 5⟩) 1 x3.fData, .int .i64 x3.fCode, .sl (some ⟨1000001, 11, 3⟩) 1 x3.fKeep]]⟩
def f9_P32 (B : Code) (call : CallF) (n : Nat) (x0 : LC) (x1 : Int) (x2 : S_ref31_Got) (x3 : S_api_Event) : OR :=
  f9_x B call n [1, 1, 1, 1, 1, 1, 1, 1, 0, 1, 0, 1, 1, 1, 1] (kSeq (f9_x B call n [1, 1, 1, 1, 1, 1, 1, 1, 1]) (kEnd AXE 0 f9_r)) ⟨[(2, .one (.ptr 0 0)), (4, .one (.ptr 1 0)), (6, .one (.sl none 1 x0)), (7, .one (.int .i64 x1))], [[.int .i64 x2.fE.fKind, .int .i64 x2.fE.fSlot, .int .i64 x2.fE.fN, .int .i64 x2.fE.fK, .bool x2.fE.fLmtp, .str x2.fE.fName, .int .i64 x2.fE.fLimit_Bytes, .int .i64 x2.fE.fLimit_Count, .sl (some ⟨1000000, 8, 9⟩) 1 x2.fE.fTo, .sl (some ⟨1000000, 9, 5⟩) 1 x2.fE.fData, .int .i64 x2.fE.fCode, .sl (some ⟨1000000, 11, 3⟩) 1 x2.fE.fKeep, .int .i64 x2.fErr], [.int .i64 x3.fKind, .int .i64 x3.fSlot, .int .i64 x3.fN, .int .i64 x3.fK, .bool x3.fLmtp, .str x3.fName, .int .i64 x3.fLimit_Bytes, .int .i64 x3.fLimit_Count, .sl (some ⟨1000001, 8, 9⟩) 1 x3.fTo, .sl (some ⟨1000001, 9, 5⟩) 1 x3.fData, .int .i64 x3.fCode, .sl (some ⟨1000001, 11, 3⟩) 1 x3.fKeep]]⟩
def f9_P30 (B : Code) (call : CallF) (n : Nat) (x0 : LC) (x1 : Int) (x2 : LB) (x3 : S_ref31_Got) (x4 : S_api_Event) : OR :=
  f9_x B call n [1, 1, 1, 1, 1, 1, 1, 1, 0, 1, 0, 1, 1, 1] (kSeq (f9_x B call n [1, 1, 1, 1, 1, 1, 1, 1, 1]) (kEnd AXE 0 f9_r)) ⟨[(2, .one (.ptr 0 0)), (4, .one (.ptr 1 0)), (6, .one (.sl none 1 x0)), (7, .one (.int .i64 x1)), (8, .one (.str x2))], [[.int .i64 x3.fE.fKind, .int .i64 x3.fE.fSlot, .int .i64 x3.fE.fN, .int .i64 x3.fE.fK, .bool x3.fE.fLmtp, .str x3.fE.fName, .int .i64 x3.fE.fLimit_Bytes, .int .i64 x3.fE.fLimit_Count, .sl (some ⟨1000000, 8, 9⟩) 1 x3.fE.fTo, .sl (some ⟨1000000, 9, 5⟩) 1 x3.fE.fData, .int .i64 x3.fE.fCode, .sl (some ⟨1000000, 11, 3⟩) 1 x3.fE.fKeep, .int .i64 x3.fErr], [.int .i64 x4.fKind, .int .i64 x4.fSlot, .int .i64 x4.fN, .int .i64 x4.fK, .bool x4.fLmtp, .str x4.fName, .int .i64 x4.fLimit_Bytes, .int .i64 x4.fLimit_Count, .sl (some ⟨1000001, 8, 9⟩) 1 x4.fTo, .sl (some ⟨1000001, 9, 5⟩) 1 x4.fData, .int .i64 x4.fCode, .sl (some ⟨1000001, 11, 3⟩) 1 x4.fKeep]]⟩
def f9_P26 (B : Code) (call : CallF) (n : Nat) (x0 : LC) (x1 : Int) (x2 : LB) (x3 : Bool) (x4 : S_ref31_Got) (x5 : S_api_Event) : OR :=
  f9_x B call n [1, 1, 1, 1, 1, 1, 1, 1, 0, 1, 0, 1, 1, 0, 1] (kSeq (f9_x B call n [1, 1, 1, 1, 1, 1, 1, 1, 0, 1, 0, 1, 1, 1]) (kSeq (f9_x B call n [1, 1, 1, 1, 1, 1, 1, 1, 1]) (kEnd AXE 0 f9_r))) ⟨[(2, .one (.ptr 0 0)), (4, .one (.ptr 1 0)), (6, .one (.sl none 1 x0)), (7, .one (.int .i64 x1)), (8, .one (.str x2)), (66, .one (.bool x3))], [[.int .i64 x4.fE.fKind, .int .i64 x4.fE.fSlot, .int .i64 x4.fE.fN, .int .i64 x4.fE.fK, .bool x4.fE.fLmtp, .str x4.fE.fName, .int .i64 x4.fE.fLimit_Bytes, .int .i64 x4.fE.fLimit_Count, .sl (some ⟨1000000, 8, 9⟩) 1 x4.fE.fTo, .sl (some ⟨1000000, 9, 5⟩) 1 x4.fE.fData, .int .i64 x4.fE.fCode, .sl (some ⟨1000000, 11, 3⟩) 1 x4.fE.fKeep, .int .i64 x4.fErr], [.int .i64 x5.fKind, .int .i64 x5.fSlot, .int .i64 x5.fN, .int .i64 x5.fK, .bool x5.fLmtp, .str x5.fName, .int .i64 x5.fLimit_Bytes, .int .i64 x5.fLimit_Count, .sl (some ⟨1000001, 8, 9⟩) 1 x5.fTo, .sl (some ⟨1000001, 9, 5⟩) 1 x5.fData, .int .i64 x5.fCode, .sl (some ⟨1000001, 11, 3⟩) 1 x5.fKeep]]⟩
def f9_P24 (B : Code) (call : CallF) (n : Nat) (x0 : LC) (x1 : Int) (x2 : LB) (x3 : Bool) (x4 : S_ref31_Got) (x5 : S_api_Event) : OR :=
  f9_x B call n [1, 1, 1, 1, 1, 1, 1, 1, 0, 1, 0, 1, 1] (kSeq (f9_x B call n [1, 1, 1, 1, 1, 1, 1, 1, 1]) (kEnd AXE 0 f9_r)) ⟨[(2, .one (.ptr 0 0)), (4, .one (.ptr 1 0)), (6, .one (.sl none 1 x0)), (7, .one (.int .i64 x1)), (8, .one (.str x2)), (9, .one (.bool x3))], [[.int .i64 x4.fE.fKind, .int .i64 x4.fE.fSlot, .int .i64 x4.fE.fN, .int .i64 x4.fE.fK, .bool x4.fE.fLmtp, .str x4.fE.fName, .int .i64 x4.fE.fLimit_Bytes, .int .i64 x4.fE.fLimit_Count, .sl (some ⟨1000000, 8, 9⟩) 1 x4.fE.fTo, .sl (some ⟨1000000, 9, 5⟩) 1 x4.fE.fData, .int .i64 x4.fE.fCode, .sl (some ⟨1000000, 11, 3⟩) 1 x4.fE.fKeep, .int .i64 x4.fErr], [.int .i64 x5.fKind, .int .i64 x5.fSlot, .int .i64 x5.fN, .int .i64 x5.fK, .bool x5.fLmtp, .str x5.fName, .int .i64 x5.fLimit_Bytes, .int .i64 x5.fLimit_Count, .sl (some ⟨1000001, 8, 9⟩) 1 x5.fTo, .sl (some ⟨1000001, 9, 5⟩) 1 x5.fData, .int .i64 x5.fCode, .sl (some ⟨1000001, 11, 3⟩) 1 x5.fKeep]]⟩
def f9_P22 (B : Code) (call : CallF) (n : Nat) (x0 : LC) (x1 : Int) (x2 : S_ref31_Got) (x3 : S_api_Event) : OR :=
  f9_x B call n [1, 1, 1, 1, 1, 1, 1, 1, 0, 1, 0, 1] (kSeq (f9_x B call n [1, 1, 1, 1, 1, 1, 1, 1, 1]) (kEnd AXE 0 f9_r)) ⟨[(2, .one (.ptr 0 0)), (4, .one (.ptr 1 0)), (6, .one (.sl none 1 x0)), (7, .one (.int .i64 x1))], [[.int .i64 x2.fE.fKind, .int .i64 x2.fE.fSlot, .int .i64 x2.fE.fN, .int .i64 x2.fE.fK, .bool x2.fE.fLmtp, .str x2.fE.fName, .int .i64 x2.fE.fLimit_Bytes, .int .i64 x2.fE.fLimit_Count, .sl (some ⟨1000000, 8, 9⟩) 1 x2.fE.fTo, .sl (some ⟨1000000, 9, 5⟩) 1 x2.fE.fData, .int .i64 x2.fE.fCode, .sl (some ⟨1000000, 11, 3⟩) 1 x2.fE.fKeep, .int .i64 x2.fErr], [.int .i64 x3.fKind, .int .i64 x3.fSlot, .int .i64 x3.fN, .int .i64 x3.fK, .bool x3.fLmtp, .str x3.fName, .int .i64 x3.fLimit_Bytes, .int .i64 x3.fLimit_Count, .sl (some ⟨1000001, 8, 9⟩) 1 x3.fTo, .sl (some ⟨1000001, 9, 5⟩) 1 x3.fData, .int .i64 x3.fCode, .sl (some ⟨1000001, 11, 3⟩) 1 x3.fKeep]]⟩
def f9_P19 (B : Code) (call : CallF) (n : Nat) (x0 : LC) (x1 : Int) (x2 : Bool) (x3 : S_ref31_Got) (x4 : S_api_Event) : OR :=
  f9_x B call n [1, 1, 1, 1, 1, 1, 1, 1, 0, 1, 0, 0, 1] (kSeq (f9_x B call n [1, 1, 1, 1, 1, 1, 1, 1, 0, 1, 0, 1]) (kSeq (f9_x B call n [1, 1, 1, 1, 1, 1, 1, 1, 1]) (kEnd AXE 0 f9_r))) ⟨[(2, .one (.ptr 0 0)), (4, .one (.ptr 1 0)), (6, .one (.sl none 1 x0)), (7, .one (.int .i64 x1)), (50, .one (.bool x2))], [[.int .i64 x3.fE.fKind, .int .i64 x3.fE.fSlot, .int .i64 x3.fE.fN, .int .i64 x3.fE.fK, .bool x3.fE.fLmtp, .str x3.fE.fName, .int .i64 x3.fE.fLimit_Bytes, .int .i64 x3.fE.fLimit_Count, .sl (some ⟨1000000, 8, 9⟩) 1 x3.fE.fTo, .sl (some ⟨1000000, 9, 5⟩) 1 x3.fE.fData, .int .i64 x3.fE.fCode, .sl (some ⟨1000000, 11, 3⟩) 1 x3.fE.fKeep, .int .i64 x3.fErr], [.int .i64 x4.fKind, .int .i64 x4.fSlot, .int .i64 x4.fN, .int .i64 x4.fK, .bool x4.fLmtp, .str x4.fName, .int .i64 x4.fLimit_Bytes, .int .i64 x4.fLimit_Count, .sl (some ⟨1000001, 8, 9⟩) 1 x4.fTo, .sl (some ⟨1000001, 9, 5⟩) 1 x4.fData, .int .i64 x4.fCode, .sl (some ⟨1000001, 11, 3⟩) 1 x4.fKeep]]⟩
def f9_P18 (B : Code) (call : CallF) (n : Nat) (x0 : LC) (x1 : Int) (x2 : Bool) (x3 : S_ref31_Got) (x4 : S_api_Event) : OR :=
  f9_x B call n [1, 1, 1, 1, 1, 1, 1, 1, 0, 1] (kSeq (f9_x B call n [1, 1, 1, 1, 1, 1, 1, 1, 1]) (kEnd AXE 0 f9_r)) ⟨[(2, .one (.ptr 0 0)), (4, .one (.ptr 1 0)), (6, .one (.sl none 1 x0)), (7, .one (.int .i64 x1)), (47, .one (.bool x2))], [[.int .i64 x3.fE.fKind, .int .i64 x3.fE.fSlot, .int .i64 x3.fE.fN, .int .i64 x3.fE.fK, .bool x3.fE.fLmtp, .str x3.fE.fName, .int .i64 x3.fE.fLimit_Bytes, .int .i64 x3.fE.fLimit_Count, .sl (some ⟨1000000, 8, 9⟩) 1 x3.fE.fTo, .sl (some ⟨1000000, 9, 5⟩) 1 x3.fE.fData, .int .i64 x3.fE.fCode, .sl (some ⟨1000000, 11, 3⟩) 1 x3.fE.fKeep, .int .i64 x3.fErr], [.int .i64 x4.fKind, .int .i64 x4.fSlot, .int .i64 x4.fN, .int .i64 x4.fK, .bool x4.fLmtp, .str x4.fName, .int .i64 x4.fLimit_Bytes, .int .i64 x4.fLimit_Count, .sl (some ⟨1000001, 8, 9⟩) 1 x4.fTo, .sl (some ⟨1000001, 9, 5⟩) 1 x4.fData, .int .i64 x4.fCode, .sl (some ⟨1000001, 11, 3⟩) 1 x4.fKeep]]⟩
def f9_P4 (B : Code) (call : CallF) (n : Nat) (m0 : Nat) (x0 : LB) (x1 : LC) (x2 : Int) (x3 : S_ref31_Got) (x4 : S_api_Event) : OR :=
  aloop 1000004 (pruneAt f9_h 1000004) (f9_x B call n [1, 1, 1, 0, 1, 0, 0]) (kBlk 0 (kSeq (f9_x B call n [1, 1, 1, 1]) (kEnd AXE 0 f9_r))) m0 ⟨[(0, .one (.str x0)), (2, .one (.ptr 0 0)), (3, .one (.sl none 1 x1)), (4, .one (.ptr 1 0)), (5, .one (.int .i64 x2))], [[.int .i64 x3.fE.fKind, .int .i64 x3.fE.fSlot, .int .i64 x3.fE.fN, .int .i64 x3.fE.fK, .bool x3.fE.fLmtp, .str x3.fE.fName, .int .i64 x3.fE.fLimit_Bytes, .int .i64 x3.fE.fLimit_Count, .sl (some ⟨1000000, 8, 9⟩) 1 x3.fE.fTo, .sl (some ⟨1000000, 9, 5⟩) 1 x3.fE.fData, .int .i64 x3.fE.fCode, .sl (some ⟨1000000, 11, 3⟩) 1 x3.fE.fKeep, .int .i64 x3.fErr], [.int .i64 x4.fKind, .int .i64 x4.fSlot, .int .i64 x4.fN, .int .i64 x4.fK, .bool x4.fLmtp, .str x4.fName, .int .i64 x4.fLimit_Bytes, .int .i64 x4.fLimit_Count, .sl (some ⟨1000001, 8, 9⟩) 1 x4.fTo, .sl (some ⟨1000001, 9, 5⟩) 1 x4.fData, .int .i64 x4.fCode, .sl (some ⟨1000001, 11, 3⟩) 1 x4.fKeep]]⟩
def f9_P (B : Code) (call : CallF) (n : Nat) (a0 : LB) : OR :=
  f9_x B call n [] (kEnd AXE 0 f9_r) ⟨[(0, .one (.str a0))], []⟩
def f9_T17 (call : CallF) (n : Nat) (j4m : LB → LC → Int → S_ref31_Got → S_api_Event → OR) (x0 : LB) (x1 : LC) (x2 : Int) (x3 : S_ref31_Got) (x4 : S_api_Event) : OR :=
  j4m x0 x1 (IntKind.wrap .i64 (x2 + (1 : Int))) x3 x4
theorem f9_o17 (call : CallF) (n : Nat) (m0 : Nat) (B : Code) (hB : B = f9_b) : f9_P17 B call n m0 = f9_T17 call n (f9_P4 B call n m0) := by
  subst hB; funext x0 x1 x2 x3 x4; kernel_rfl
theorem f9_l17 (call : CallF) (n : Nat) (m0 : Nat) : f9_P17 f9_b call n m0 = f9_T17 call n (f9_P4 f9_b call n m0) :=
  f9_o17 call n m0 _ (by kernel_rfl)
def f9_L17 (call : CallF) (n : Nat) (h_m0 : LB → LC → Int → S_ref31_Got → S_api_Event → OR) : LB → LC → Int → S_ref31_Got → S_api_Event → OR :=
  f9_T17 call n h_m0
theorem f9_e17 (call : CallF) (n : Nat) (m0 : Nat) : f9_P17 f9_b call n m0 = f9_L17 call n (f9_P4 f9_b call n m0) := by
  rw [f9_l17]; rfl
def f9_T21 (call : CallF) (n : Nat) (x0 : S_ref31_Got) : OR :=
  some (.agg x0.cells, [])
theorem f9_o21 (call : CallF) (n : Nat) (B : Code) (hB : B = f9_b) : f9_P21 B call n = f9_T21 call n := by
  subst hB; funext x0; kernel_rfl
theorem f9_l21 (call : CallF) (n : Nat) : f9_P21 f9_b call n = f9_T21 call n :=
  f9_o21 call n _ (by kernel_rfl)
def f9_L21 (call : CallF) (n : Nat) : S_ref31_Got → OR :=
  f9_T21 call n
theorem f9_e21 (call : CallF) (n : Nat) : f9_P21 f9_b call n = f9_L21 call n := by
  rw [f9_l21]; rfl
def f9_T29 (call : CallF) (n : Nat) (x0 : S_ref31_Got) : OR :=
  some (.agg x0.cells, [])
theorem f9_o29 (call : CallF) (n : Nat) (B : Code) (hB : B = f9_b) : f9_P29 B call n = f9_T29 call n := by
  subst hB; funext x0; kernel_rfl
theorem f9_l29 (call : CallF) (n : Nat) : f9_P29 f9_b call n = f9_T29 call n :=
  f9_o29 call n _ (by kernel_rfl)
def f9_L29 (call : CallF) (n : Nat) : S_ref31_Got → OR :=
  f9_T29 call n
theorem f9_e29 (call : CallF) (n : Nat) : f9_P29 f9_b call n = f9_L29 call n := by
  rw [f9_l29]; rfl
def f9_T52 (call : CallF) (n : Nat) (x0 : S_ref31_Got) : OR :=
  some (.agg x0.cells, [])
theorem f9_o52 (call : CallF) (n : Nat) (B : Code) (hB : B = f9_b) : f9_P52 B call n = f9_T52 call n := by
  subst hB; funext x0; kernel_rfl
theorem f9_l52 (call : CallF) (n : Nat) : f9_P52 f9_b call n = f9_T52 call n :=
  f9_o52 call n _ (by kernel_rfl)
def f9_L52 (call : CallF) (n : Nat) : S_ref31_Got → OR :=
  f9_T52 call n
theorem f9_e52 (call : CallF) (n : Nat) : f9_P52 f9_b call n = f9_L52 call n := by
  rw [f9_l52]; rfl
def f9_T62 (call : CallF) (n : Nat) (x0 : S_ref31_Got) : OR :=
  some (.agg [.int .i64 x0.fE.fKind, .int .i64 x0.fE.fSlot, .int .i64 x0.fE.fN, .int .i64 x0.fE.fK, .bool x0.fE.fLmtp, .str x0.fE.fName, .int .i64 x0.fE.fLimit_Bytes, .int .i64 x0.fE.fLimit_Count, .sl none 1 x0.fE.fTo, .sl (some ⟨1000000, 9, 5⟩) 1 x0.fE.fData, .int .i64 x0.fE.fCode, .sl (some ⟨1000000, 11, 3⟩) 1 x0.fE.fKeep, .int .i64 x0.fErr], [])
theorem f9_o62 (call : CallF) (n : Nat) (B : Code) (hB : B = f9_b) : f9_P62 B call n = f9_T62 call n := by
  subst hB; funext x0; kernel_rfl
theorem f9_l62 (call : CallF) (n : Nat) : f9_P62 f9_b call n = f9_T62 call n :=
  f9_o62 call n _ (by kernel_rfl)
def f9_L62 (call : CallF) (n : Nat) : S_ref31_Got → OR :=
  f9_T62 call n
theorem f9_e62 (call : CallF) (n : Nat) : f9_P62 f9_b call n = f9_L62 call n := by
  rw [f9_l62]; rfl
def f9_T58 (call : CallF) (n : Nat) (j62 : S_ref31_Got → OR) (x0 : S_ref31_Got) (x1 : S_api_Event) : OR :=
  j62 (⟨x1, (0 : Int)⟩ : S_ref31_Got)
theorem f9_o58 (X0 : Code) (call : CallF) (n : Nat) (B : Code) (hB : B = (hole f9_b [1, 1, 1, 1, 1, 1, 1, 1, 0, 1, 0, 1, 1, 1, 1, 1, 1, 0, 1, 1, 1] X0)) : f9_P58 B call n = f9_T58 call n (f9_P62 B call n) := by
  subst hB; funext x0 x1; kernel_rfl
theorem f9_l58 (call : CallF) (n : Nat) : f9_P58 f9_b call n = f9_T58 call n (f9_P62 f9_b call n) :=
  f9_o58 (piece [1, 1, 1, 1, 1, 1, 1, 1, 0, 1, 0, 1, 1, 1, 1, 1, 1, 0, 1, 1, 1] f9_b) call n _ (by kernel_rfl)
def f9_L58 (call : CallF) (n : Nat) : S_ref31_Got → S_api_Event → OR :=
  f9_T58 call n (f9_L62 call n)
theorem f9_e58 (call : CallF) (n : Nat) : f9_P58 f9_b call n = f9_L58 call n := by
  rw [f9_l58, f9_e62]; rfl
def f9_T53 (call : CallF) (n : Nat) (j58 : S_ref31_Got → S_api_Event → OR) (x0 : LC) (x1 : S_ref31_Got) (x2 : S_api_Event) : OR :=
  j58 x1 ({ x2 with fTo := x0 } : S_api_Event)
theorem f9_o53 (X0 : Code) (call : CallF) (n : Nat) (B : Code) (hB : B = (hole f9_b [1, 1, 1, 1, 1, 1, 1, 1, 0, 1, 0, 1, 1, 1, 1, 1, 1, 0, 1, 1] X0)) : f9_P53 B call n = f9_T53 call n (f9_P58 B call n) := by
  subst hB; funext x0 x1 x2; kernel_rfl
theorem f9_l53 (call : CallF) (n : Nat) : f9_P53 f9_b call n = f9_T53 call n (f9_P58 f9_b call n) :=
  f9_o53 (piece [1, 1, 1, 1, 1, 1, 1, 1, 0, 1, 0, 1, 1, 1, 1, 1, 1, 0, 1, 1] f9_b) call n _ (by kernel_rfl)
def f9_L53 (call : CallF) (n : Nat) : LC → S_ref31_Got → S_api_Event → OR :=
  f9_T53 call n (f9_L58 call n)
theorem f9_e53 (call : CallF) (n : Nat) : f9_P53 f9_b call n = f9_L53 call n := by
  rw [f9_l53, f9_e58]; rfl
def f9_T49 (call : CallF) (n : Nat) (j52 : S_ref31_Got → OR) (j53 : LC → S_ref31_Got → S_api_Event → OR) (x0 : LC) (x1 : Bool) (x2 : S_ref31_Got) (x3 : S_api_Event) : OR :=
  bif x1 then (
    callK call 26 [] fun v1 =>
    castAgg v1 fun r2 =>
    takeS_ref31_Got r2 fun w3 r4 =>
    nilK r4 (
      j52 w3)) else (
    j53 x0 x2 x3)
theorem f9_o49 (X0 X1 : Code) (call : CallF) (n : Nat) (B : Code) (hB : B = (hole (hole f9_b [1, 1, 1, 1, 1, 1, 1, 1, 0, 1, 0, 1, 1, 1, 1, 1, 1, 0, 0, 1, 0, 1] X0) [1, 1, 1, 1, 1, 1, 1, 1, 0, 1, 0, 1, 1, 1, 1, 1, 1, 0, 1] X1)) : f9_P49 B call n = f9_T49 call n (f9_P52 B call n) (f9_P53 B call n) := by
  subst hB; funext x0 x1 x2 x3; cases x1 <;> kernel_rfl
theorem f9_l49 (call : CallF) (n : Nat) : f9_P49 f9_b call n = f9_T49 call n (f9_P52 f9_b call n) (f9_P53 f9_b call n) :=
  f9_o49 (piece [1, 1, 1, 1, 1, 1, 1, 1, 0, 1, 0, 1, 1, 1, 1, 1, 1, 0, 0, 1, 0, 1] f9_b) (piece [1, 1, 1, 1, 1, 1, 1, 1, 0, 1, 0, 1, 1, 1, 1, 1, 1, 0, 1] f9_b) call n _ (by kernel_rfl)
def f9_L49 (call : CallF) (n : Nat) : LC → Bool → S_ref31_Got → S_api_Event → OR :=
  f9_T49 call n (f9_L52 call n) (f9_L53 call n)
theorem f9_e49 (call : CallF) (n : Nat) : f9_P49 f9_b call n = f9_L49 call n := by
  rw [f9_l49, f9_e52, f9_e53]; rfl
def f9_T27 (call : CallF) (n : Nat) (x0 : S_ref31_Got) : OR :=
  some (.agg x0.cells, [])
theorem f9_o27 (call : CallF) (n : Nat) (B : Code) (hB : B = f9_b) : f9_P27 B call n = f9_T27 call n := by
  subst hB; funext x0; kernel_rfl
theorem f9_l27 (call : CallF) (n : Nat) : f9_P27 f9_b call n = f9_T27 call n :=
  f9_o27 call n _ (by kernel_rfl)
def f9_L27 (call : CallF) (n : Nat) : S_ref31_Got → OR :=
  f9_T27 call n
theorem f9_e27 (call : CallF) (n : Nat) : f9_P27 f9_b call n = f9_L27 call n := by
  rw [f9_l27]; rfl
def f9_T42 (call : CallF) (n : Nat) (x0 : S_ref31_Got) : OR :=
  some (.agg x0.cells, [])
theorem f9_o42 (call : CallF) (n : Nat) (B : Code) (hB : B = f9_b) : f9_P42 B call n = f9_T42 call n := by
  subst hB; funext x0; kernel_rfl
theorem f9_l42 (call : CallF) (n : Nat) : f9_P42 f9_b call n = f9_T42 call n :=
  f9_o42 call n _ (by kernel_rfl)
def f9_L42 (call : CallF) (n : Nat) : S_ref31_Got → OR :=
  f9_T42 call n
theorem f9_e42 (call : CallF) (n : Nat) : f9_P42 f9_b call n = f9_L42 call n := by
  rw [f9_l42]; rfl
def f9_T47 (call : CallF) (n : Nat) (x0 : S_ref31_Got) : OR :=
  some (.agg [.int .i64 x0.fE.fKind, .int .i64 x0.fE.fSlot, .int .i64 x0.fE.fN, .int .i64 x0.fE.fK, .bool x0.fE.fLmtp, .str x0.fE.fName, .int .i64 x0.fE.fLimit_Bytes, .int .i64 x0.fE.fLimit_Count, .sl (some ⟨1000000, 8, 9⟩) 1 x0.fE.fTo, .sl (some ⟨1000000, 9, 5⟩) 1 x0.fE.fData, .int .i64 x0.fE.fCode, .sl (some ⟨1000000, 11, 3⟩) 1 x0.fE.fKeep, .int .i64 x0.fErr], [])
theorem f9_o47 (call : CallF) (n : Nat) (B : Code) (hB : B = f9_b) : f9_P47 B call n = f9_T47 call n := by
  subst hB; funext x0; kernel_rfl
theorem f9_l47 (call : CallF) (n : Nat) : f9_P47 f9_b call n = f9_T47 call n :=
  f9_o47 call n _ (by kernel_rfl)
def f9_L47 (call : CallF) (n : Nat) : S_ref31_Got → OR :=
  f9_T47 call n
theorem f9_e47 (call : CallF) (n : Nat) : f9_P47 f9_b call n = f9_L47 call n := by
  rw [f9_l47]; rfl
def f9_T43 (call : CallF) (n : Nat) (j47 : S_ref31_Got → OR) (x0 : S_ref31_Got) (x1 : S_api_Event) : OR :=
  j47 (⟨x1, (0 : Int)⟩ : S_ref31_Got)
theorem f9_o43 (X0 : Code) (call : CallF) (n : Nat) (B : Code) (hB : B = (hole f9_b [1, 1, 1, 1, 1, 1, 1, 1, 1, 1, 1, 1, 1, 1, 1] X0)) : f9_P43 B call n = f9_T43 call n (f9_P47 B call n) := by
  subst hB; funext x0 x1; kernel_rfl
theorem f9_l43 (call : CallF) (n : Nat) : f9_P43 f9_b call n = f9_T43 call n (f9_P47 f9_b call n) :=
  f9_o43 (piece [1, 1, 1, 1, 1, 1, 1, 1, 1, 1, 1, 1, 1, 1, 1] f9_b) call n _ (by kernel_rfl)
def f9_L43 (call : CallF) (n : Nat) : S_ref31_Got → S_api_Event → OR :=
  f9_T43 call n (f9_L47 call n)
theorem f9_e43 (call : CallF) (n : Nat) : f9_P43 f9_b call n = f9_L43 call n := by
  rw [f9_l43, f9_e47]; rfl
def f9_T50 (call : CallF) (n : Nat) (j43 : S_ref31_Got → S_api_Event → OR) (x0 : LC) (x1 : S_ref31_Got) (x2 : S_api_Event) : OR :=
  itemK x0 (1 : Int) fun c1 =>
  castI .i64 c1 fun n2 =>
  j43 x1 ({ x2 with fK := n2 } : S_api_Event)
theorem f9_o50 (X0 : Code) (call : CallF) (n : Nat) (B : Code) (hB : B = (hole f9_b [1, 1, 1, 1, 1, 1, 1, 1, 1, 1, 1, 1, 1, 1] X0)) : f9_P50 B call n = f9_T50 call n (f9_P43 B call n) := by
  subst hB; funext x0 x1 x2; kernel_rfl
theorem f9_l50 (call : CallF) (n : Nat) : f9_P50 f9_b call n = f9_T50 call n (f9_P43 f9_b call n) :=
  f9_o50 (piece [1, 1, 1, 1, 1, 1, 1, 1, 1, 1, 1, 1, 1, 1] f9_b) call n _ (by kernel_rfl)
def f9_L50 (call : CallF) (n : Nat) : LC → S_ref31_Got → S_api_Event → OR :=
  f9_T50 call n (f9_L43 call n)
theorem f9_e50 (call : CallF) (n : Nat) : f9_P50 f9_b call n = f9_L50 call n := by
  rw [f9_l50, f9_e43]; rfl
def f9_T59 (call : CallF) (n : Nat) (x0 : S_ref31_Got) : OR :=
  some (.agg x0.cells, [])
theorem f9_o59 (call : CallF) (n : Nat) (B : Code) (hB : B = f9_b) : f9_P59 B call n = f9_T59 call n := by
  subst hB; funext x0; kernel_rfl
theorem f9_l59 (call : CallF) (n : Nat) : f9_P59 f9_b call n = f9_T59 call n :=
  f9_o59 call n _ (by kernel_rfl)
def f9_L59 (call : CallF) (n : Nat) : S_ref31_Got → OR :=
  f9_T59 call n
theorem f9_e59 (call : CallF) (n : Nat) : f9_P59 f9_b call n = f9_L59 call n := by
  rw [f9_l59]; rfl
def f9_T54 (call : CallF) (n : Nat) (j59 : S_ref31_Got → OR) (j43 : S_ref31_Got → S_api_Event → OR) (x0 : LC) (x1 : Bool) (x2 : S_ref31_Got) (x3 : S_api_Event) : OR :=
  bif x1 then (
    callK call 26 [] fun v1 =>
    castAgg v1 fun r2 =>
    takeS_ref31_Got r2 fun w3 r4 =>
    nilK r4 (
      j59 w3)) else (
    itemK x0 (0 : Int) fun c5 =>
    castI .i64 c5 fun n6 =>
    itemK x0 (1 : Int) fun c7 =>
    castI .i64 c7 fun n8 =>
    j43 x2 ({ x3 with fN := n6, fCode := n8 } : S_api_Event))
theorem f9_o54 (X0 X1 : Code) (call : CallF) (n : Nat) (B : Code) (hB : B = (hole (hole f9_b [1, 1, 1, 1, 1, 1, 1, 1, 1, 1, 1, 1, 1, 0, 1, 0, 1, 1, 1, 1, 1, 1, 1, 0, 0, 1, 0, 1] X0) [1, 1, 1, 1, 1, 1, 1, 1, 1, 1, 1, 1, 1, 1] X1)) : f9_P54 B call n = f9_T54 call n (f9_P59 B call n) (f9_P43 B call n) := by
  subst hB; funext x0 x1 x2 x3; cases x1 <;> kernel_rfl
theorem f9_l54 (call : CallF) (n : Nat) : f9_P54 f9_b call n = f9_T54 call n (f9_P59 f9_b call n) (f9_P43 f9_b call n) :=
  f9_o54 (piece [1, 1, 1, 1, 1, 1, 1, 1, 1, 1, 1, 1, 1, 0, 1, 0, 1, 1, 1, 1, 1, 1, 1, 0, 0, 1, 0, 1] f9_b) (piece [1, 1, 1, 1, 1, 1, 1, 1, 1, 1, 1, 1, 1, 1] f9_b) call n _ (by kernel_rfl)
def f9_L54 (call : CallF) (n : Nat) : LC → Bool → S_ref31_Got → S_api_Event → OR :=
  f9_T54 call n (f9_L59 call n) (f9_L43 call n)
theorem f9_e54 (call : CallF) (n : Nat) : f9_P54 f9_b call n = f9_L54 call n := by
  rw [f9_l54, f9_e59, f9_e43]; rfl
def f9_T64 (call : CallF) (n : Nat) (x0 : S_ref31_Got) : OR :=
  some (.agg [.int .i64 x0.fE.fKind, .int .i64 x0.fE.fSlot, .int .i64 x0.fE.fN, .int .i64 x0.fE.fK, .bool x0.fE.fLmtp, .str x0.fE.fName, .int .i64 x0.fE.fLimit_Bytes, .int .i64 x0.fE.fLimit_Count, .sl (some ⟨1000000, 8, 9⟩) 1 x0.fE.fTo, .sl (some ⟨1000000, 9, 5⟩) 1 x0.fE.fData, .int .i64 x0.fE.fCode, .sl none 1 x0.fE.fKeep, .int .i64 x0.fErr], [])
theorem f9_o64 (call : CallF) (n : Nat) (B : Code) (hB : B = f9_b) : f9_P64 B call n = f9_T64 call n := by
  subst hB; funext x0; kernel_rfl
theorem f9_l64 (call : CallF) (n : Nat) : f9_P64 f9_b call n = f9_T64 call n :=
  f9_o64 call n _ (by kernel_rfl)
def f9_L64 (call : CallF) (n : Nat) : S_ref31_Got → OR :=
  f9_T64 call n
theorem f9_e64 (call : CallF) (n : Nat) : f9_P64 f9_b call n = f9_L64 call n := by
  rw [f9_l64]; rfl
def f9_T63 (call : CallF) (n : Nat) (j64 : S_ref31_Got → OR) (x0 : S_ref31_Got) (x1 : S_api_Event) : OR :=
  j64 (⟨x1, (0 : Int)⟩ : S_ref31_Got)
theorem f9_o63 (X0 : Code) (call : CallF) (n : Nat) (B : Code) (hB : B = (hole f9_b [1, 1, 1, 1, 1, 1, 1, 1, 1, 1, 1, 1, 1, 1, 1] X0)) : f9_P63 B call n = f9_T63 call n (f9_P64 B call n) := by
  subst hB; funext x0 x1; kernel_rfl
theorem f9_l63 (call : CallF) (n : Nat) : f9_P63 f9_b call n = f9_T63 call n (f9_P64 f9_b call n) :=
  f9_o63 (piece [1, 1, 1, 1, 1, 1, 1, 1, 1, 1, 1, 1, 1, 1, 1] f9_b) call n _ (by kernel_rfl)
def f9_L63 (call : CallF) (n : Nat) : S_ref31_Got → S_api_Event → OR :=
  f9_T63 call n (f9_L64 call n)
theorem f9_e63 (call : CallF) (n : Nat) : f9_P63 f9_b call n = f9_L63 call n := by
  rw [f9_l63, f9_e64]; rfl
def f9_T60 (call : CallF) (n : Nat) (j63 : S_ref31_Got → S_api_Event → OR) (x0 : LC) (x1 : S_ref31_Got) (x2 : S_api_Event) : OR :=
  bif decide (0 ≤ (1 : Int) ∧ (Int.toNat (1 : Int)) ≤ (x0.length / 1)) then (
    j63 x1 ({ x2 with fKeep := ((x0.take ((x0.length / 1) * 1)).drop ((Int.toNat (1 : Int)) * 1)) } : S_api_Event)) else none
theorem f9_o60 (X0 : Code) (call : CallF) (n : Nat) (B : Code) (hB : B = (hole f9_b [1, 1, 1, 1, 1, 1, 1, 1, 1, 1, 1, 1, 1, 1] X0)) : f9_P60 B call n = f9_T60 call n (f9_P63 B call n) := by
  subst hB; funext x0 x1 x2; kernel_rfl
theorem f9_l60 (call : CallF) (n : Nat) : f9_P60 f9_b call n = f9_T60 call n (f9_P63 f9_b call n) :=
  f9_o60 (piece [1, 1, 1, 1, 1, 1, 1, 1, 1, 1, 1, 1, 1, 1] f9_b) call n _ (by kernel_rfl)
def f9_L60 (call : CallF) (n : Nat) : LC → S_ref31_Got → S_api_Event → OR :=
  f9_T60 call n (f9_L63 call n)
theorem f9_e60 (call : CallF) (n : Nat) : f9_P60 f9_b call n = f9_L60 call n := by
  rw [f9_l60, f9_e63]; rfl
def f9_T61 (call : CallF) (n : Nat) (j47 : S_ref31_Got → OR) (x0 : LC) (x1 : S_ref31_Got) (x2 : S_api_Event) : OR :=
  j47 (⟨x2, (0 : Int)⟩ : S_ref31_Got)
theorem f9_o61 (X0 : Code) (call : CallF) (n : Nat) (B : Code) (hB : B = (hole f9_b [1, 1, 1, 1, 1, 1, 1, 1, 1, 1, 1, 1, 1, 1, 1] X0)) : f9_P61 B call n = f9_T61 call n (f9_P47 B call n) := by
  subst hB; funext x0 x1 x2; kernel_rfl
theorem f9_l61 (call : CallF) (n : Nat) : f9_P61 f9_b call n = f9_T61 call n (f9_P47 f9_b call n) :=
  f9_o61 (piece [1, 1, 1, 1, 1, 1, 1, 1, 1, 1, 1, 1, 1, 1, 1] f9_b) call n _ (by kernel_rfl)
def f9_L61 (call : CallF) (n : Nat) : LC → S_ref31_Got → S_api_Event → OR :=
  f9_T61 call n (f9_L47 call n)
theorem f9_e61 (call : CallF) (n : Nat) : f9_P61 f9_b call n = f9_L61 call n := by
  rw [f9_l61, f9_e47]; rfl
def f9_T57 (call : CallF) (n : Nat) (j60 : LC → S_ref31_Got → S_api_Event → OR) (j61 : LC → S_ref31_Got → S_api_Event → OR) (x0 : LC) (x1 : Bool) (x2 : S_ref31_Got) (x3 : S_api_Event) : OR :=
  bif x1 then (
    itemK x0 (0 : Int) fun c1 =>
    castI .i64 c1 fun n2 =>
    j60 x0 x2 ({ x3 with fN := n2 } : S_api_Event)) else (
    j61 x0 x2 x3)
theorem f9_o57 (X0 X1 : Code) (call : CallF) (n : Nat) (B : Code) (hB : B = (hole (hole f9_b [1, 1, 1, 1, 1, 1, 1, 1, 1, 1, 1, 1, 1, 0, 1, 0, 1, 1, 1, 1, 1, 1, 1, 1, 1, 0, 1] X0) [1, 1, 1, 1, 1, 1, 1, 1, 1, 1, 1, 1, 1, 1] X1)) : f9_P57 B call n = f9_T57 call n (f9_P60 B call n) (f9_P61 B call n) := by
  subst hB; funext x0 x1 x2 x3; cases x1 <;> kernel_rfl
theorem f9_l57 (call : CallF) (n : Nat) : f9_P57 f9_b call n = f9_T57 call n (f9_P60 f9_b call n) (f9_P61 f9_b call n) :=
  f9_o57 (piece [1, 1, 1, 1, 1, 1, 1, 1, 1, 1, 1, 1, 1, 0, 1, 0, 1, 1, 1, 1, 1, 1, 1, 1, 1, 0, 1] f9_b) (piece [1, 1, 1, 1, 1, 1, 1, 1, 1, 1, 1, 1, 1, 1] f9_b) call n _ (by kernel_rfl)
def f9_L57 (call : CallF) (n : Nat) : LC → Bool → S_ref31_Got → S_api_Event → OR :=
  f9_T57 call n (f9_L60 call n) (f9_L61 call n)
theorem f9_e57 (call : CallF) (n : Nat) : f9_P57 f9_b call n = f9_L57 call n := by
  rw [f9_l57, f9_e60, f9_e61]; rfl
def f9_T51 (call : CallF) (n : Nat) (j54 : LC → Bool → S_ref31_Got → S_api_Event → OR) (j57 : LC → Bool → S_ref31_Got → S_api_Event → OR) (x0 : LC) (x1 : Int) (x2 : Bool) (x3 : S_ref31_Got) (x4 : S_api_Event) : OR :=
  bif x2 then (
    itemK x0 (1 : Int) fun c1 =>
    castI .i64 c1 fun n2 =>
    bif (decide (n2 < (0 : Int))) then (
      j54 x0 true x3 x4) else (
      itemK x0 (1 : Int) fun c3 =>
      castI .i64 c3 fun n4 =>
      j54 x0 (decide (n4 > (17 : Int))) x3 x4)) else (
    j57 x0 (x1 == (16 : Int)) x3 x4)
theorem f9_o51 (X0 X1 : Code) (call : CallF) (n : Nat) (B : Code) (hB : B = (hole (hole f9_b [1, 1, 1, 1, 1, 1, 1, 1, 1, 1, 1, 1, 1, 0, 1, 0, 1, 1, 1, 1, 1, 1, 1, 0, 0, 1] X0) [1, 1, 1, 1, 1, 1, 1, 1, 1, 1, 1, 1, 1, 0, 1, 0, 1, 1, 1, 1, 1, 1, 1, 1, 1] X1)) : f9_P51 B call n = f9_T51 call n (f9_P54 B call n) (f9_P57 B call n) := by
  subst hB; funext x0 x1 x2 x3 x4; cases x2 <;> kernel_rfl
theorem f9_l51 (call : CallF) (n : Nat) : f9_P51 f9_b call n = f9_T51 call n (f9_P54 f9_b call n) (f9_P57 f9_b call n) :=
  f9_o51 (piece [1, 1, 1, 1, 1, 1, 1, 1, 1, 1, 1, 1, 1, 0, 1, 0, 1, 1, 1, 1, 1, 1, 1, 0, 0, 1] f9_b) (piece [1, 1, 1, 1, 1, 1, 1, 1, 1, 1, 1, 1, 1, 0, 1, 0, 1, 1, 1, 1, 1, 1, 1, 1, 1] f9_b) call n _ (by kernel_rfl)
def f9_L51 (call : CallF) (n : Nat) : LC → Int → Bool → S_ref31_Got → S_api_Event → OR :=
  f9_T51 call n (f9_L54 call n) (f9_L57 call n)
theorem f9_e51 (call : CallF) (n : Nat) : f9_P51 f9_b call n = f9_L51 call n := by
  rw [f9_l51, f9_e54, f9_e57]; rfl
def f9_T48 (call : CallF) (n : Nat) (j50 : LC → S_ref31_Got → S_api_Event → OR) (j51 : LC → Int → Bool → S_ref31_Got → S_api_Event → OR) (x0 : LC) (x1 : Int) (x2 : Bool) (x3 : S_ref31_Got) (x4 : S_api_Event) : OR :=
  bif x2 then (
    itemK x0 (0 : Int) fun c1 =>
    castI .i64 c1 fun n2 =>
    j50 x0 x3 ({ x4 with fN := n2 } : S_api_Event)) else (
    j51 x0 x1 (x1 == (14 : Int)) x3 x4)
theorem f9_o48 (X0 X1 : Code) (call : CallF) (n : Nat) (B : Code) (hB : B = (hole (hole f9_b [1, 1, 1, 1, 1, 1, 1, 1, 1, 1, 1, 1, 1, 0, 1, 0, 1, 1, 1, 1, 1, 0, 1] X0) [1, 1, 1, 1, 1, 1, 1, 1, 1, 1, 1, 1, 1, 0, 1, 0, 1, 1, 1, 1, 1, 1, 1] X1)) : f9_P48 B call n = f9_T48 call n (f9_P50 B call n) (f9_P51 B call n) := by
  subst hB; funext x0 x1 x2 x3 x4; cases x2 <;> kernel_rfl
theorem f9_l48 (call : CallF) (n : Nat) : f9_P48 f9_b call n = f9_T48 call n (f9_P50 f9_b call n) (f9_P51 f9_b call n) :=
  f9_o48 (piece [1, 1, 1, 1, 1, 1, 1, 1, 1, 1, 1, 1, 1, 0, 1, 0, 1, 1, 1, 1, 1, 0, 1] f9_b) (piece [1, 1, 1, 1, 1, 1, 1, 1, 1, 1, 1, 1, 1, 0, 1, 0, 1, 1, 1, 1, 1, 1, 1] f9_b) call n _ (by kernel_rfl)
def f9_L48 (call : CallF) (n : Nat) : LC → Int → Bool → S_ref31_Got → S_api_Event → OR :=
  f9_T48 call n (f9_L50 call n) (f9_L51 call n)
theorem f9_e48 (call : CallF) (n : Nat) : f9_P48 f9_b call n = f9_L48 call n := by
  rw [f9_l48, f9_e50, f9_e51]; rfl
def f9_T44 (call : CallF) (n : Nat) (j43 : S_ref31_Got → S_api_Event → OR) (j48 : LC → Int → Bool → S_ref31_Got → S_api_Event → OR) (x0 : Bool) (x1 : LC) (x2 : Int) (x3 : S_ref31_Got) (x4 : S_api_Event) : OR :=
  bif x0 then (
    itemK x1 (0 : Int) fun c1 =>
    castI .i64 c1 fun n2 =>
    j43 x3 ({ x4 with fN := n2 } : S_api_Event)) else (
    j48 x1 x2 (x2 == (11 : Int)) x3 x4)
theorem f9_o44 (X0 X1 : Code) (call : CallF) (n : Nat) (B : Code) (hB : B = (hole (hole f9_b [1, 1, 1, 1, 1, 1, 1, 1, 1, 1, 1, 1, 1, 0, 1, 0, 1, 1, 1, 1, 1] X0) [1, 1, 1, 1, 1, 1, 1, 1, 1, 1, 1, 1, 1, 1] X1)) : f9_P44 B call n = f9_T44 call n (f9_P43 B call n) (f9_P48 B call n) := by
  subst hB; funext x0 x1 x2 x3 x4; cases x0 <;> kernel_rfl
theorem f9_l44 (call : CallF) (n : Nat) : f9_P44 f9_b call n = f9_T44 call n (f9_P43 f9_b call n) (f9_P48 f9_b call n) :=
  f9_o44 (piece [1, 1, 1, 1, 1, 1, 1, 1, 1, 1, 1, 1, 1, 0, 1, 0, 1, 1, 1, 1, 1] f9_b) (piece [1, 1, 1, 1, 1, 1, 1, 1, 1, 1, 1, 1, 1, 1] f9_b) call n _ (by kernel_rfl)
def f9_L44 (call : CallF) (n : Nat) : Bool → LC → Int → S_ref31_Got → S_api_Event → OR :=
  f9_T44 call n (f9_L43 call n) (f9_L48 call n)
theorem f9_e44 (call : CallF) (n : Nat) : f9_P44 f9_b call n = f9_L44 call n := by
  rw [f9_l44, f9_e43, f9_e48]; rfl
def f9_T45 (call : CallF) (n : Nat) (j43 : S_ref31_Got → S_api_Event → OR) (j48 : LC → Int → Bool → S_ref31_Got → S_api_Event → OR) (x0 : LC) (x1 : Int) (x2 : Bool) (x3 : S_ref31_Got) (x4 : S_api_Event) : OR :=
  bif x2 then (
    itemK x0 (0 : Int) fun c1 =>
    castI .i64 c1 fun n2 =>
    j43 x3 ({ x4 with fN := n2 } : S_api_Event)) else (
    j48 x0 x1 (x1 == (11 : Int)) x3 x4)
theorem f9_o45 (X0 X1 : Code) (call : CallF) (n : Nat) (B : Code) (hB : B = (hole (hole f9_b [1, 1, 1, 1, 1, 1, 1, 1, 1, 1, 1, 1, 1, 0, 1, 0, 1, 1, 1, 1, 1] X0) [1, 1, 1, 1, 1, 1, 1, 1, 1, 1, 1, 1, 1, 1] X1)) : f9_P45 B call n = f9_T45 call n (f9_P43 B call n) (f9_P48 B call n) := by
  subst hB; funext x0 x1 x2 x3 x4; cases x2 <;> kernel_rfl
theorem f9_l45 (call : CallF) (n : Nat) : f9_P45 f9_b call n = f9_T45 call n (f9_P43 f9_b call n) (f9_P48 f9_b call n) :=
  f9_o45 (piece [1, 1, 1, 1, 1, 1, 1, 1, 1, 1, 1, 1, 1, 0, 1, 0, 1, 1, 1, 1, 1] f9_b) (piece [1, 1, 1, 1, 1, 1, 1, 1, 1, 1, 1, 1, 1, 1] f9_b) call n _ (by kernel_rfl)
def f9_L45 (call : CallF) (n : Nat) : LC → Int → Bool → S_ref31_Got → S_api_Event → OR :=
  f9_T45 call n (f9_L43 call n) (f9_L48 call n)
theorem f9_e45 (call : CallF) (n : Nat) : f9_P45 f9_b call n = f9_L45 call n := by
  rw [f9_l45, f9_e43, f9_e48]; rfl
def f9_T33 (call : CallF) (n : Nat) (j42 : S_ref31_Got → OR) (j43 : S_ref31_Got → S_api_Event → OR) (j44 : Bool → LC → Int → S_ref31_Got → S_api_Event → OR) (j45 : LC → Int → Bool → S_ref31_Got → S_api_Event → OR) (x0 : Int) (x1 : LC) (x2 : Bool) (x3 : S_ref31_Got) (x4 : S_api_Event) : OR :=
  bif x2 then (
    callK call 26 [] fun v1 =>
    castAgg v1 fun r2 =>
    takeS_ref31_Got r2 fun w3 r4 =>
    nilK r4 (
      j42 w3)) else (
    bif (x0 == (6 : Int)) then (
      itemK x1 (0 : Int) fun c5 =>
      castI .i64 c5 fun n6 =>
      itemK x1 (1 : Int) fun c7 =>
      castI .i64 c7 fun n8 =>
      j43 x3 ({ x4 with fLimit_Bytes := n6, fLimit_Count := n8 } : S_api_Event)) else (
      bif (x0 == (7 : Int)) then (
        itemK x1 (0 : Int) fun c9 =>
        castI .i64 c9 fun n10 =>
        itemK x1 (1 : Int) fun c11 =>
        castI .i64 c11 fun n12 =>
        j43 x3 ({ x4 with fLimit_Bytes := n10, fLimit_Count := n12 } : S_api_Event)) else (
        bif (x0 == (4 : Int)) then (
          j44 true x1 x0 x3 x4) else (
          bif (x0 == (10 : Int)) then (
            j44 true x1 x0 x3 x4) else (
            j45 x1 x0 (x0 == (15 : Int)) x3 x4)))))
theorem f9_o33 (X0 X1 X2 : Code) (call : CallF) (n : Nat) (B : Code) (hB : B = (hole (hole (hole f9_b [1, 1, 1, 1, 1, 1, 1, 1, 1, 1, 1, 1, 1, 0, 1, 0, 1, 1, 1] X0) [1, 1, 1, 1, 1, 1, 1, 1, 1, 1, 1, 1, 0, 1, 0, 1] X1) [1, 1, 1, 1, 1, 1, 1, 1, 1, 1, 1, 1, 1, 1] X2)) : f9_P33 B call n = f9_T33 call n (f9_P42 B call n) (f9_P43 B call n) (f9_P44 B call n) (f9_P45 B call n) := by
  subst hB; funext x0 x1 x2 x3 x4; cases x2 <;> kernel_rfl
theorem f9_l33 (call : CallF) (n : Nat) : f9_P33 f9_b call n = f9_T33 call n (f9_P42 f9_b call n) (f9_P43 f9_b call n) (f9_P44 f9_b call n) (f9_P45 f9_b call n) :=
  f9_o33 (piece [1, 1, 1, 1, 1, 1, 1, 1, 1, 1, 1, 1, 1, 0, 1, 0, 1, 1, 1] f9_b) (piece [1, 1, 1, 1, 1, 1, 1, 1, 1, 1, 1, 1, 0, 1, 0, 1] f9_b) (piece [1, 1, 1, 1, 1, 1, 1, 1, 1, 1, 1, 1, 1, 1] f9_b) call n _ (by kernel_rfl)
def f9_L33 (call : CallF) (n : Nat) : Int → LC → Bool → S_ref31_Got → S_api_Event → OR :=
  f9_T33 call n (f9_L42 call n) (f9_L43 call n) (f9_L44 call n) (f9_L45 call n)
theorem f9_e33 (call : CallF) (n : Nat) : f9_P33 f9_b call n = f9_L33 call n := by
  rw [f9_l33, f9_e42, f9_e43, f9_e44, f9_e45]; rfl
def f9_T31 (call : CallF) (n : Nat) (j33 : Int → LC → Bool → S_ref31_Got → S_api_Event → OR) (x0 : Int) (x1 x2 : LC) (x3 : S_ref31_Got) (x4 : S_api_Event) : OR :=
  itemK x2 x0 fun c1 =>
  castI .i64 c1 fun n2 =>
  bif (decide (n2 ≥ (0 : Int))) then (
    itemK x2 x0 fun c3 =>
    castI .i64 c3 fun n4 =>
    bif ((((x1).length / 1 : Nat) : Int) != n4) then (
      j33 x0 x1 true x3 x4) else (
      bif (x0 == (16 : Int)) then (
        j33 x0 x1 (decide ((((x1).length / 1 : Nat) : Int) < (1 : Int))) x3 x4) else (
        j33 x0 x1 false x3 x4))) else (
    bif (x0 == (16 : Int)) then (
      j33 x0 x1 (decide ((((x1).length / 1 : Nat) : Int) < (1 : Int))) x3 x4) else (
      j33 x0 x1 false x3 x4))
theorem f9_o31 (X0 : Code) (call : CallF) (n : Nat) (B : Code) (hB : B = (hole f9_b [1, 1, 1, 1, 1, 1, 1, 1, 1, 1, 1, 1, 0, 1] X0)) : f9_P31 B call n = f9_T31 call n (f9_P33 B call n) := by
  subst hB; funext x0 x1 x2 x3 x4; kernel_rfl
theorem f9_l31 (call : CallF) (n : Nat) : f9_P31 f9_b call n = f9_T31 call n (f9_P33 f9_b call n) :=
  f9_o31 (piece [1, 1, 1, 1, 1, 1, 1, 1, 1, 1, 1, 1, 0, 1] f9_b) call n _ (by kernel_rfl)
def f9_L31 (call : CallF) (n : Nat) : Int → LC → LC → S_ref31_Got → S_api_Event → OR :=
  f9_T31 call n (f9_L33 call n)
theorem f9_e31 (call : CallF) (n : Nat) : f9_P31 f9_b call n = f9_L31 call n := by
  rw [f9_l31, f9_e33]; rfl
def f9_T28 (call : CallF) (n : Nat) (j31 : Int → LC → LC → S_ref31_Got → S_api_Event → OR) (x0 : Int) (x1 : LC) (x2 : S_ref31_Got) (x3 : S_api_Event) : OR :=
  j31 x0 x1 ([.int .i64 (0 : Int), .int .i64 (0 : Int), .int .i64 (0 : Int), .int .i64 (0 : Int), .int .i64 (1 : Int), .int .i64 (0 : Int), .int .i64 (2 : Int), .int .i64 (2 : Int), .int .i64 (0 : Int), .int .i64 (0 : Int), .int .i64 (1 : Int), .int .i64 (2 : Int), .int .i64 (0 : Int), .int .i64 (0 : Int), .int .i64 (2 : Int), .int .i64 (1 : Int), .int .i64 (-1 : Int), .int .i64 (0 : Int)] : List Cell) x2 x3
theorem f9_o28 (X0 : Code) (call : CallF) (n : Nat) (B : Code) (hB : B = (hole f9_b [1, 1, 1, 1, 1, 1, 1, 1, 1, 1, 1, 1] X0)) : f9_P28 B call n = f9_T28 call n (f9_P31 B call n) := by
  subst hB; funext x0 x1 x2 x3; kernel_rfl
theorem f9_l28 (call : CallF) (n : Nat) : f9_P28 f9_b call n = f9_T28 call n (f9_P31 f9_b call n) :=
  f9_o28 (piece [1, 1, 1, 1, 1, 1, 1, 1, 1, 1, 1, 1] f9_b) call n _ (by kernel_rfl)
def f9_L28 (call : CallF) (n : Nat) : Int → LC → S_ref31_Got → S_api_Event → OR :=
  f9_T28 call n (f9_L31 call n)
theorem f9_e28 (call : CallF) (n : Nat) : f9_P28 f9_b call n = f9_L28 call n := by
  rw [f9_l28, f9_e31]; rfl
def f9_T25 (call : CallF) (n : Nat) (j27 : S_ref31_Got → OR) (j28 : Int → LC → S_ref31_Got → S_api_Event → OR) (x0 : Int) (x1 : LC) (x2 : Bool) (x3 : S_ref31_Got) (x4 : S_api_Event) : OR :=
  bif x2 then (
    callK call 26 [] fun v1 =>
    castAgg v1 fun r2 =>
    takeS_ref31_Got r2 fun w3 r4 =>
    nilK r4 (
      j27 w3)) else (
    j28 x0 x1 x3 x4)
theorem f9_o25 (X0 X1 : Code) (call : CallF) (n : Nat) (B : Code) (hB : B = (hole (hole f9_b [1, 1, 1, 1, 1, 1, 1, 1, 1, 1, 0, 1, 0, 1] X0) [1, 1, 1, 1, 1, 1, 1, 1, 1, 1, 1] X1)) : f9_P25 B call n = f9_T25 call n (f9_P27 B call n) (f9_P28 B call n) := by
  subst hB; funext x0 x1 x2 x3 x4; cases x2 <;> kernel_rfl
theorem f9_l25 (call : CallF) (n : Nat) : f9_P25 f9_b call n = f9_T25 call n (f9_P27 f9_b call n) (f9_P28 f9_b call n) :=
  f9_o25 (piece [1, 1, 1, 1, 1, 1, 1, 1, 1, 1, 0, 1, 0, 1] f9_b) (piece [1, 1, 1, 1, 1, 1, 1, 1, 1, 1, 1] f9_b) call n _ (by kernel_rfl)
def f9_L25 (call : CallF) (n : Nat) : Int → LC → Bool → S_ref31_Got → S_api_Event → OR :=
  f9_T25 call n (f9_L27 call n) (f9_L28 call n)
theorem f9_e25 (call : CallF) (n : Nat) : f9_P25 f9_b call n = f9_L25 call n := by
  rw [f9_l25, f9_e27, f9_e28]; rfl
def f9_T23 (call : CallF) (n : Nat) (j25 : Int → LC → Bool → S_ref31_Got → S_api_Event → OR) (x0 : Int) (x1 : LC) (x2 : Bool) (x3 : S_ref31_Got) (x4 : S_api_Event) : OR :=
  j25 x0 x1 (!x2) x3 x4
theorem f9_o23 (X0 : Code) (call : CallF) (n : Nat) (B : Code) (hB : B = (hole f9_b [1, 1, 1, 1, 1, 1, 1, 1, 1, 1, 0, 1] X0)) : f9_P23 B call n = f9_T23 call n (f9_P25 B call n) := by
  subst hB; funext x0 x1 x2 x3 x4; kernel_rfl
theorem f9_l23 (call : CallF) (n : Nat) : f9_P23 f9_b call n = f9_T23 call n (f9_P25 f9_b call n) :=
  f9_o23 (piece [1, 1, 1, 1, 1, 1, 1, 1, 1, 1, 0, 1] f9_b) call n _ (by kernel_rfl)
def f9_L23 (call : CallF) (n : Nat) : Int → LC → Bool → S_ref31_Got → S_api_Event → OR :=
  f9_T23 call n (f9_L25 call n)
theorem f9_e23 (call : CallF) (n : Nat) : f9_P23 f9_b call n = f9_L23 call n := by
  rw [f9_l23, f9_e25]; rfl
def f9_T20 (call : CallF) (n : Nat) (j23 : Int → LC → Bool → S_ref31_Got → S_api_Event → OR) (x0 : LC) (x1 : Int) (x2 : S_ref31_Got) (x3 : S_api_Event) : OR :=
  callK call 29 [.one (.sl none 1 x0)] fun v1 =>
  castTup v1 fun v2 =>
  zL 1 v2 fun l3 r4 =>
  zB r4 fun b5 r6 =>
  nilK r6 (
    j23 x1 l3 b5 x2 x3)
theorem f9_o20 (X0 : Code) (call : CallF) (n : Nat) (B : Code) (hB : B = (hole f9_b [1, 1, 1, 1, 1, 1, 1, 1, 1, 1] X0)) : f9_P20 B call n = f9_T20 call n (f9_P23 B call n) := by
  subst hB; funext x0 x1 x2 x3; kernel_rfl
theorem f9_l20 (call : CallF) (n : Nat) : f9_P20 f9_b call n = f9_T20 call n (f9_P23 f9_b call n) :=
  f9_o20 (piece [1, 1, 1, 1, 1, 1, 1, 1, 1, 1] f9_b) call n _ (by kernel_rfl)
def f9_L20 (call : CallF) (n : Nat) : LC → Int → S_ref31_Got → S_api_Event → OR :=
  f9_T20 call n (f9_L23 call n)
theorem f9_e20 (call : CallF) (n : Nat) : f9_P20 f9_b call n = f9_L20 call n := by
  rw [f9_l20, f9_e23]; rfl
def f9_T46 (call : CallF) (n : Nat) (j49 : LC → Bool → S_ref31_Got → S_api_Event → OR) (j20 : LC → Int → S_ref31_Got → S_api_Event → OR) (x0 : LC) (x1 : Int) (x2 : Bool) (x3 : S_ref31_Got) (x4 : S_api_Event) : OR :=
  bif x2 then (
    callK call 28 [.one (.sl none 1 x0)] fun v1 =>
    oB v1 fun b2 =>
    j49 x0 (!b2) x3 x4) else (
    j20 x0 x1 x3 x4)
theorem f9_o46 (X0 X1 : Code) (call : CallF) (n : Nat) (B : Code) (hB : B = (hole (hole f9_b [1, 1, 1, 1, 1, 1, 1, 1, 0, 1, 0, 1, 1, 1, 1, 1, 1, 0, 0, 1] X0) [1, 1, 1, 1, 1, 1, 1, 1, 1] X1)) : f9_P46 B call n = f9_T46 call n (f9_P49 B call n) (f9_P20 B call n) := by
  subst hB; funext x0 x1 x2 x3 x4; cases x2 <;> kernel_rfl
theorem f9_l46 (call : CallF) (n : Nat) : f9_P46 f9_b call n = f9_T46 call n (f9_P49 f9_b call n) (f9_P20 f9_b call n) :=
  f9_o46 (piece [1, 1, 1, 1, 1, 1, 1, 1, 0, 1, 0, 1, 1, 1, 1, 1, 1, 0, 0, 1] f9_b) (piece [1, 1, 1, 1, 1, 1, 1, 1, 1] f9_b) call n _ (by kernel_rfl)
def f9_L46 (call : CallF) (n : Nat) : LC → Int → Bool → S_ref31_Got → S_api_Event → OR :=
  f9_T46 call n (f9_L49 call n) (f9_L20 call n)
theorem f9_e46 (call : CallF) (n : Nat) : f9_P46 f9_b call n = f9_L46 call n := by
  rw [f9_l46, f9_e49, f9_e20]; rfl
def f9_T41 (call : CallF) (n : Nat) (j46 : LC → Int → Bool → S_ref31_Got → S_api_Event → OR) (x0 : LC) (x1 : Int) (x2 : S_ref31_Got) (x3 : S_api_Event) : OR :=
  j46 x0 x1 (x1 == (8 : Int)) x2 x3
theorem f9_o41 (X0 : Code) (call : CallF) (n : Nat) (B : Code) (hB : B = (hole f9_b [1, 1, 1, 1, 1, 1, 1, 1, 0, 1, 0, 1, 1, 1, 1, 1, 1] X0)) : f9_P41 B call n = f9_T41 call n (f9_P46 B call n) := by
  subst hB; funext x0 x1 x2 x3; kernel_rfl
theorem f9_l41 (call : CallF) (n : Nat) : f9_P41 f9_b call n = f9_T41 call n (f9_P46 f9_b call n) :=
  f9_o41 (piece [1, 1, 1, 1, 1, 1, 1, 1, 0, 1, 0, 1, 1, 1, 1, 1, 1] f9_b) call n _ (by kernel_rfl)
def f9_L41 (call : CallF) (n : Nat) : LC → Int → S_ref31_Got → S_api_Event → OR :=
  f9_T41 call n (f9_L46 call n)
theorem f9_e41 (call : CallF) (n : Nat) : f9_P41 f9_b call n = f9_L41 call n := by
  rw [f9_l41, f9_e46]; rfl
def f9_T32 (call : CallF) (n : Nat) (j41 : LC → Int → S_ref31_Got → S_api_Event → OR) (x0 : LC) (x1 : Int) (x2 : S_ref31_Got) (x3 : S_api_Event) : OR :=
  bif decide (0 ≤ (1 : Int) ∧ (Int.toNat (1 : Int)) ≤ (x0.length / 1)) then (
    j41 ((x0.take ((x0.length / 1) * 1)).drop ((Int.toNat (1 : Int)) * 1)) x1 x2 x3) else none
theorem f9_o32 (X0 : Code) (call : CallF) (n : Nat) (B : Code) (hB : B = (hole f9_b [1, 1, 1, 1, 1, 1, 1, 1, 0, 1, 0, 1, 1, 1, 1, 1] X0)) : f9_P32 B call n = f9_T32 call n (f9_P41 B call n) := by
  subst hB; funext x0 x1 x2 x3; kernel_rfl
theorem f9_l32 (call : CallF) (n : Nat) : f9_P32 f9_b call n = f9_T32 call n (f9_P41 f9_b call n) :=
  f9_o32 (piece [1, 1, 1, 1, 1, 1, 1, 1, 0, 1, 0, 1, 1, 1, 1, 1] f9_b) call n _ (by kernel_rfl)
def f9_L32 (call : CallF) (n : Nat) : LC → Int → S_ref31_Got → S_api_Event → OR :=
  f9_T32 call n (f9_L41 call n)
theorem f9_e32 (call : CallF) (n : Nat) : f9_P32 f9_b call n = f9_L32 call n := by
  rw [f9_l32, f9_e41]; rfl
def f9_T30 (call : CallF) (n : Nat) (j32 : LC → Int → S_ref31_Got → S_api_Event → OR) (x0 : LC) (x1 : Int) (x2 : LB) (x3 : S_ref31_Got) (x4 : S_api_Event) : OR :=
  j32 x0 x1 x3 ({ x4 with fName := x2 } : S_api_Event)
theorem f9_o30 (X0 : Code) (call : CallF) (n : Nat) (B : Code) (hB : B = (hole f9_b [1, 1, 1, 1, 1, 1, 1, 1, 0, 1, 0, 1, 1, 1, 1] X0)) : f9_P30 B call n = f9_T30 call n (f9_P32 B call n) := by
  subst hB; funext x0 x1 x2 x3 x4; kernel_rfl
theorem f9_l30 (call : CallF) (n : Nat) : f9_P30 f9_b call n = f9_T30 call n (f9_P32 f9_b call n) :=
  f9_o30 (piece [1, 1, 1, 1, 1, 1, 1, 1, 0, 1, 0, 1, 1, 1, 1] f9_b) call n _ (by kernel_rfl)
def f9_L30 (call : CallF) (n : Nat) : LC → Int → LB → S_ref31_Got → S_api_Event → OR :=
  f9_T30 call n (f9_L32 call n)
theorem f9_e30 (call : CallF) (n : Nat) : f9_P30 f9_b call n = f9_L30 call n := by
  rw [f9_l30, f9_e32]; rfl
def f9_T26 (call : CallF) (n : Nat) (j29 : S_ref31_Got → OR) (j30 : LC → Int → LB → S_ref31_Got → S_api_Event → OR) (x0 : LC) (x1 : Int) (x2 : LB) (x3 : Bool) (x4 : S_ref31_Got) (x5 : S_api_Event) : OR :=
  bif x3 then (
    callK call 26 [] fun v1 =>
    castAgg v1 fun r2 =>
    takeS_ref31_Got r2 fun w3 r4 =>
    nilK r4 (
      j29 w3)) else (
    j30 x0 x1 x2 x4 x5)
theorem f9_o26 (X0 X1 : Code) (call : CallF) (n : Nat) (B : Code) (hB : B = (hole (hole f9_b [1, 1, 1, 1, 1, 1, 1, 1, 0, 1, 0, 1, 1, 0, 1, 0, 1] X0) [1, 1, 1, 1, 1, 1, 1, 1, 0, 1, 0, 1, 1, 1] X1)) : f9_P26 B call n = f9_T26 call n (f9_P29 B call n) (f9_P30 B call n) := by
  subst hB; funext x0 x1 x2 x3 x4 x5; cases x3 <;> kernel_rfl
theorem f9_l26 (call : CallF) (n : Nat) : f9_P26 f9_b call n = f9_T26 call n (f9_P29 f9_b call n) (f9_P30 f9_b call n) :=
  f9_o26 (piece [1, 1, 1, 1, 1, 1, 1, 1, 0, 1, 0, 1, 1, 0, 1, 0, 1] f9_b) (piece [1, 1, 1, 1, 1, 1, 1, 1, 0, 1, 0, 1, 1, 1] f9_b) call n _ (by kernel_rfl)
def f9_L26 (call : CallF) (n : Nat) : LC → Int → LB → Bool → S_ref31_Got → S_api_Event → OR :=
  f9_T26 call n (f9_L29 call n) (f9_L30 call n)
theorem f9_e26 (call : CallF) (n : Nat) : f9_P26 f9_b call n = f9_L26 call n := by
  rw [f9_l26, f9_e29, f9_e30]; rfl
def f9_T24 (call : CallF) (n : Nat) (j26 : LC → Int → LB → Bool → S_ref31_Got → S_api_Event → OR) (x0 : LC) (x1 : Int) (x2 : LB) (x3 : Bool) (x4 : S_ref31_Got) (x5 : S_api_Event) : OR :=
  j26 x0 x1 x2 (!x3) x4 x5
theorem f9_o24 (X0 : Code) (call : CallF) (n : Nat) (B : Code) (hB : B = (hole f9_b [1, 1, 1, 1, 1, 1, 1, 1, 0, 1, 0, 1, 1, 0, 1] X0)) : f9_P24 B call n = f9_T24 call n (f9_P26 B call n) := by
  subst hB; funext x0 x1 x2 x3 x4 x5; kernel_rfl
theorem f9_l24 (call : CallF) (n : Nat) : f9_P24 f9_b call n = f9_T24 call n (f9_P26 f9_b call n) :=
  f9_o24 (piece [1, 1, 1, 1, 1, 1, 1, 1, 0, 1, 0, 1, 1, 0, 1] f9_b) call n _ (by kernel_rfl)
def f9_L24 (call : CallF) (n : Nat) : LC → Int → LB → Bool → S_ref31_Got → S_api_Event → OR :=
  f9_T24 call n (f9_L26 call n)
theorem f9_e24 (call : CallF) (n : Nat) : f9_P24 f9_b call n = f9_L24 call n := by
  rw [f9_l24, f9_e26]; rfl
def f9_T22 (call : CallF) (n : Nat) (j24 : LC → Int → LB → Bool → S_ref31_Got → S_api_Event → OR) (x0 : LC) (x1 : Int) (x2 : S_ref31_Got) (x3 : S_api_Event) : OR :=
  itemK x0 (0 : Int) fun c1 =>
  castS c1 fun s2 =>
  bif (x1 == (7 : Int)) then (
    callK call 27 [.one (.str s2), .one (.bool true)] fun v3 =>
    castTup v3 fun v4 =>
    zS v4 fun s5 r6 =>
    zB r6 fun b7 r8 =>
    nilK r8 (
      j24 x0 x1 s5 b7 x2 x3)) else (
    callK call 27 [.one (.str s2), .one (.bool (decide (x1 ≥ (10 : Int))))] fun v9 =>
    castTup v9 fun v10 =>
    zS v10 fun s11 r12 =>
    zB r12 fun b13 r14 =>
    nilK r14 (
      j24 x0 x1 s11 b13 x2 x3))
theorem f9_o22 (X0 : Code) (call : CallF) (n : Nat) (B : Code) (hB : B = (hole f9_b [1, 1, 1, 1, 1, 1, 1, 1, 0, 1, 0, 1, 1] X0)) : f9_P22 B call n = f9_T22 call n (f9_P24 B call n) := by
  subst hB; funext x0 x1 x2 x3; kernel_rfl
theorem f9_l22 (call : CallF) (n : Nat) : f9_P22 f9_b call n = f9_T22 call n (f9_P24 f9_b call n) :=
  f9_o22 (piece [1, 1, 1, 1, 1, 1, 1, 1, 0, 1, 0, 1, 1] f9_b) call n _ (by kernel_rfl)
def f9_L22 (call : CallF) (n : Nat) : LC → Int → S_ref31_Got → S_api_Event → OR :=
  f9_T22 call n (f9_L24 call n)
theorem f9_e22 (call : CallF) (n : Nat) : f9_P22 f9_b call n = f9_L22 call n := by
  rw [f9_l22, f9_e24]; rfl
def f9_T19 (call : CallF) (n : Nat) (j21 : S_ref31_Got → OR) (j22 : LC → Int → S_ref31_Got → S_api_Event → OR) (x0 : LC) (x1 : Int) (x2 : Bool) (x3 : S_ref31_Got) (x4 : S_api_Event) : OR :=
  bif x2 then (
    callK call 26 [] fun v1 =>
    castAgg v1 fun r2 =>
    takeS_ref31_Got r2 fun w3 r4 =>
    nilK r4 (
      j21 w3)) else (
    j22 x0 x1 x3 x4)
theorem f9_o19 (X0 X1 : Code) (call : CallF) (n : Nat) (B : Code) (hB : B = (hole (hole f9_b [1, 1, 1, 1, 1, 1, 1, 1, 0, 1, 0, 0, 1, 0, 1] X0) [1, 1, 1, 1, 1, 1, 1, 1, 0, 1, 0, 1] X1)) : f9_P19 B call n = f9_T19 call n (f9_P21 B call n) (f9_P22 B call n) := by
  subst hB; funext x0 x1 x2 x3 x4; cases x2 <;> kernel_rfl
theorem f9_l19 (call : CallF) (n : Nat) : f9_P19 f9_b call n = f9_T19 call n (f9_P21 f9_b call n) (f9_P22 f9_b call n) :=
  f9_o19 (piece [1, 1, 1, 1, 1, 1, 1, 1, 0, 1, 0, 0, 1, 0, 1] f9_b) (piece [1, 1, 1, 1, 1, 1, 1, 1, 0, 1, 0, 1] f9_b) call n _ (by kernel_rfl)
def f9_L19 (call : CallF) (n : Nat) : LC → Int → Bool → S_ref31_Got → S_api_Event → OR :=
  f9_T19 call n (f9_L21 call n) (f9_L22 call n)
theorem f9_e19 (call : CallF) (n : Nat) : f9_P19 f9_b call n = f9_L19 call n := by
  rw [f9_l19, f9_e21, f9_e22]; rfl
def f9_T18 (call : CallF) (n : Nat) (j19 : LC → Int → Bool → S_ref31_Got → S_api_Event → OR) (j20 : LC → Int → S_ref31_Got → S_api_Event → OR) (x0 : LC) (x1 : Int) (x2 : Bool) (x3 : S_ref31_Got) (x4 : S_api_Event) : OR :=
  bif x2 then (
    j19 x0 x1 ((((x0).length / 1 : Nat) : Int) == (0 : Int)) x3 x4) else (
    j20 x0 x1 x3 x4)
theorem f9_o18 (X0 X1 : Code) (call : CallF) (n : Nat) (B : Code) (hB : B = (hole (hole f9_b [1, 1, 1, 1, 1, 1, 1, 1, 0, 1, 0, 0, 1] X0) [1, 1, 1, 1, 1, 1, 1, 1, 1] X1)) : f9_P18 B call n = f9_T18 call n (f9_P19 B call n) (f9_P20 B call n) := by
  subst hB; funext x0 x1 x2 x3 x4; cases x2 <;> kernel_rfl
theorem f9_l18 (call : CallF) (n : Nat) : f9_P18 f9_b call n = f9_T18 call n (f9_P19 f9_b call n) (f9_P20 f9_b call n) :=
  f9_o18 (piece [1, 1, 1, 1, 1, 1, 1, 1, 0, 1, 0, 0, 1] f9_b) (piece [1, 1, 1, 1, 1, 1, 1, 1, 1] f9_b) call n _ (by kernel_rfl)
def f9_L18 (call : CallF) (n : Nat) : LC → Int → Bool → S_ref31_Got → S_api_Event → OR :=
  f9_T18 call n (f9_L19 call n) (f9_L20 call n)
theorem f9_e18 (call : CallF) (n : Nat) : f9_P18 f9_b call n = f9_L18 call n := by
  rw [f9_l18, f9_e19, f9_e20]; rfl
def f9_T4 (call : CallF) (n : Nat) (j17 : LB → LC → Int → S_ref31_Got → S_api_Event → OR) (j18 : LC → Int → Bool → S_ref31_Got → S_api_Event → OR) (x0 : LB) (x1 : LC) (x2 : Int) (x3 : S_ref31_Got) (x4 : S_api_Event) : OR :=
  bif (decide (x2 ≤ (17 : Int))) then (
    callK call 24 [.one (.int .i64 x2)] fun v1 =>
    oS v1 fun s2 =>
    itemK x1 (0 : Int) fun c3 =>
    castS c3 fun s4 =>
    bif (s2 == s4) then (
      j17 x0 x1 x2 x3 ({ x4 with fKind := x2 } : S_api_Event)) else (
      j17 x0 x1 x2 x3 x4)) else (
    bif (x4.fKind == (0 : Int)) then (
      some (.agg [.int .i64 (0 : Int), .int .i64 (0 : Int), .int .i64 (0 : Int), .int .i64 (0 : Int), .bool false, .str ([] : List UInt8), .int .i64 (0 : Int), .int .i64 (0 : Int), .sl (some ⟨1000000, 8, 9⟩) 1 ([] : List Cell), .sl (some ⟨1000000, 9, 5⟩) 1 ([] : List Cell), .int .i64 (0 : Int), .sl (some ⟨1000000, 11, 3⟩) 1 ([] : List Cell), .int .i64 (15 : Int)], [])) else (
      bif decide (0 ≤ (1 : Int) ∧ (Int.toNat (1 : Int)) ≤ (x1.length / 1)) then (
        bif (decide (x4.fKind ≤ (3 : Int))) then (
          callK call 25 [.agg x4.cells, .one (.str x0), .one (.sl none 1 ((x1.take ((x1.length / 1) * 1)).drop ((Int.toNat (1 : Int)) * 1)))] fun v5 =>
          castAgg v5 fun r6 =>
          takeS_ref31_Got r6 fun w7 r8 =>
          nilK r8 (
            some (.agg w7.cells, []))) else (
          bif (decide (x4.fKind ≥ (6 : Int))) then (
            j18 ((x1.take ((x1.length / 1) * 1)).drop ((Int.toNat (1 : Int)) * 1)) x4.fKind (decide (x4.fKind ≤ (12 : Int))) x3 x4) else (
            j18 ((x1.take ((x1.length / 1) * 1)).drop ((Int.toNat (1 : Int)) * 1)) x4.fKind false x3 x4))) else none))
theorem f9_o4 (X0 X1 : Code) (call : CallF) (n : Nat) (m0 : Nat) (B : Code) (hB : B = (hole (hole f9_b [1, 1, 1, 1, 1, 1, 1, 1, 0, 1] X0) [1, 1, 1, 0, 1, 0, 0, 1, 1] X1)) : f9_P4 B call n (m0 + 1) = f9_T4 call n (f9_P17 B call n m0) (f9_P18 B call n) := by
  subst hB; funext x0 x1 x2 x3 x4; kernel_rfl
theorem f9_l4 (call : CallF) (n : Nat) (m0 : Nat) : f9_P4 f9_b call n (m0 + 1) = f9_T4 call n (f9_P17 f9_b call n m0) (f9_P18 f9_b call n) :=
  f9_o4 (piece [1, 1, 1, 1, 1, 1, 1, 1, 0, 1] f9_b) (piece [1, 1, 1, 0, 1, 0, 0, 1, 1] f9_b) call n m0 _ (by kernel_rfl)
def f9_L4 (call : CallF) (n : Nat) : Nat → LB → LC → Int → S_ref31_Got → S_api_Event → OR
  | 0 => fun _ _ _ _ _ => none
  | m0 + 1 => f9_T4 call n (f9_L17 call n (f9_L4 call n m0)) (f9_L18 call n)
theorem f9_e4 (call : CallF) (n : Nat) : ∀ m0 : Nat, f9_P4 f9_b call n m0 = f9_L4 call n m0
  | 0 => by funext x0 x1 x2 x3 x4; kernel_rfl
  | m0 + 1 => by rw [f9_l4, f9_e17, f9_e18, f9_e4 call n m0]; rfl
/-- pigeonhole/pigeonholeref31.Read -/
def f9_T (call : CallF) (n : Nat) (j4n : LB → LC → Int → S_ref31_Got → S_api_Event → OR) (a0 : LB) : OR :=
  callK call 23 [.one (.str a0)] fun v87 =>
  oL 1 v87 fun l88 =>
  j4n a0 l88 (1 : Int) (⟨(⟨(0 : Int), (0 : Int), (0 : Int), (0 : Int), false, ([] : List UInt8), (0 : Int), (0 : Int), ([] : List Cell), ([] : List Cell), (0 : Int), ([] : List Cell)⟩ : S_api_Event), (0 : Int)⟩ : S_ref31_Got) (⟨(0 : Int), (0 : Int), (0 : Int), (0 : Int), false, ([] : List UInt8), (0 : Int), (0 : Int), ([] : List Cell), ([] : List Cell), (0 : Int), ([] : List Cell)⟩ : S_api_Event)
def f9_L (call : CallF) (n : Nat) (a0 : LB) : OR :=
  f9_T call n (f9_L4 call n n) a0
theorem f9_o (call : CallF) (n : Nat) (B : Code) (hB : B = f9_b) : f9_P B call n = f9_T call n (f9_P4 B call n n) := by
  subst hB; funext a0; kernel_rfl
theorem f9_l (call : CallF) (n : Nat) : f9_P f9_b call n = f9_T call n (f9_P4 f9_b call n n) :=
  f9_o call n _ (by kernel_rfl)
theorem f9_e (call : CallF) (n : Nat) : f9_P f9_b call n = f9_L call n := by
  rw [f9_l, f9_e4]; rfl
theorem f9_eq (n : Nat) (a0 : LB) : acall AXE AXF (n + 1) 9 [.one (.str a0)] [] = f9_L (acall AXE AXF n) (n + 1) a0 :=
  (show _ = f9_P f9_b (acall AXE AXF n) (n + 1) a0 by kernel_rfl).trans (by rw [f9_e])
def f10_P4 (B : Code) (call : CallF) (n : Nat) (x0 : Bool) : OR :=
  f10_x B call n [1, 0, 1, 0, 1] (kSeq (f10_x B call n [1, 1]) (kEnd AXE 0 f10_r)) ⟨[(4, .one (.bool x0))], []⟩
def f10_P5 (B : Code) (call : CallF) (n : Nat) (m0 : Nat) (x0 : Int) (x1 x2 : S_api_Event) : OR :=
  aloop 1000004 (pruneAt f10_h 1000004) (f10_x B call n [1, 1, 0, 1, 0, 0]) (kBlk 0 (kSeq (f10_x B call n [1, 1, 1]) (kEnd AXE 0 f10_r))) m0 ⟨[(2, .one (.ptr 0 0)), (3, .one (.ptr 1 0)), (5, .one (.int .i64 x0))], [x1.cells, x2.cells]⟩
def f10_P1 (B : Code) (call : CallF) (n : Nat) (x0 : Bool) (x1 x2 : S_api_Event) : OR :=
  f10_x B call n [1, 0, 1] (kSeq (f10_x B call n [1, 1]) (kEnd AXE 0 f10_r)) ⟨[(2, .one (.ptr 0 0)), (3, .one (.ptr 1 0)), (77, .one (.bool x0))], [x1.cells, x2.cells]⟩
def f10_P (B : Code) (call : CallF) (n : Nat) (a0 a1 : S_api_Event) : OR :=
  f10_x B call n [] (kEnd AXE 0 f10_r) ⟨[(0, .agg a0.cells), (1, .agg a1.cells)], []⟩
def f10_T4 (call : CallF) (n : Nat) (x0 : Bool) : OR :=
  some (.one (.bool x0), [])
theorem f10_o4 (call : CallF) (n : Nat) (B : Code) (hB : B = f10_b) : f10_P4 B call n = f10_T4 call n := by
  subst hB; funext x0; kernel_rfl
theorem f10_l4 (call : CallF) (n : Nat) : f10_P4 f10_b call n = f10_T4 call n :=
  f10_o4 call n _ (by kernel_rfl)
def f10_L4 (call : CallF) (n : Nat) : Bool → OR :=
  f10_T4 call n
theorem f10_e4 (call : CallF) (n : Nat) : f10_P4 f10_b call n = f10_L4 call n := by
  rw [f10_l4]; rfl
def f10_T5 (call : CallF) (n : Nat) (j5m : Int → S_api_Event → S_api_Event → OR) (x0 : Int) (x1 x2 : S_api_Event) : OR :=
  bif (decide (x0 < (((x1.fTo).length / 1 : Nat) : Int))) then (
    itemK x1.fTo x0 fun c1 =>
    castS c1 fun s2 =>
    itemK x2.fTo x0 fun c3 =>
    castS c3 fun s4 =>
    bif (!(s2 == s4)) then (
      some (.one (.bool false), [])) else (
      j5m (IntKind.wrap .i64 (x0 + (1 : Int))) x1 x2)) else (
    callK call 30 [.one (.sl none 1 x1.fKeep), .one (.sl none 1 x2.fKeep)] fun v5 =>
    oB v5 fun b6 =>
    some (.one (.bool b6), []))
theorem f10_o5 (call : CallF) (n : Nat) (m0 : Nat) (B : Code) (hB : B = f10_b) : f10_P5 B call n (m0 + 1) = f10_T5 call n (f10_P5 B call n m0) := by
  subst hB; funext x0 x1 x2; kernel_rfl
theorem f10_l5 (call : CallF) (n : Nat) (m0 : Nat) : f10_P5 f10_b call n (m0 + 1) = f10_T5 call n (f10_P5 f10_b call n m0) :=
  f10_o5 call n m0 _ (by kernel_rfl)
def f10_L5 (call : CallF) (n : Nat) : Nat → Int → S_api_Event → S_api_Event → OR
  | 0 => fun _ _ _ => none
  | m0 + 1 => f10_T5 call n (f10_L5 call n m0)
theorem f10_e5 (call : CallF) (n : Nat) : ∀ m0 : Nat, f10_P5 f10_b call n m0 = f10_L5 call n m0
  | 0 => by funext x0 x1 x2; kernel_rfl
  | m0 + 1 => by rw [f10_l5, f10_e5 call n m0]; rfl
def f10_T1 (call : CallF) (n : Nat) (j4 : Bool → OR) (j5n : Int → S_api_Event → S_api_Event → OR) (x0 : Bool) (x1 x2 : S_api_Event) : OR :=
  bif x0 then (
    j4 false) else (
    j5n (0 : Int) x1 x2)
theorem f10_o1 (X0 : Code) (call : CallF) (n : Nat) (B : Code) (hB : B = (hole f10_b [1, 0, 1, 0, 1] X0)) : f10_P1 B call n = f10_T1 call n (f10_P4 B call n) (f10_P5 B call n n) := by
  subst hB; funext x0 x1 x2; cases x0 <;> kernel_rfl
theorem f10_l1 (call : CallF) (n : Nat) : f10_P1 f10_b call n = f10_T1 call n (f10_P4 f10_b call n) (f10_P5 f10_b call n n) :=
  f10_o1 (piece [1, 0, 1, 0, 1] f10_b) call n _ (by kernel_rfl)
def f10_L1 (call : CallF) (n : Nat) : Bool → S_api_Event → S_api_Event → OR :=
  f10_T1 call n (f10_L4 call n) (f10_L5 call n n)
theorem f10_e1 (call : CallF) (n : Nat) : f10_P1 f10_b call n = f10_L1 call n := by
  rw [f10_l1, f10_e4, f10_e5]; rfl
/-- pigeonhole/pigeonholeref31.Same -/
def f10_T (call : CallF) (n : Nat) (j1 : Bool → S_api_Event → S_api_Event → OR) (a0 a1 : S_api_Event) : OR :=
  bif (a0.fKind != a1.fKind) then (
    j1 true a0 a1) else (
    bif (a0.fSlot != a1.fSlot) then (
      j1 true a0 a1) else (
      bif (a0.fN != a1.fN) then (
        j1 true a0 a1) else (
        bif (a0.fK != a1.fK) then (
          j1 true a0 a1) else (
          bif (!(a0.fLmtp == a1.fLmtp)) then (
            j1 true a0 a1) else (
            bif (!(a0.fName == a1.fName)) then (
              j1 true a0 a1) else (
              bif (!((a0.fLimit_Bytes == a1.fLimit_Bytes) && ((a0.fLimit_Count == a1.fLimit_Count) && true))) then (
                j1 true a0 a1) else (
                bif (a0.fCode != a1.fCode) then (
                  j1 true a0 a1) else (
                  bytesK a0.fData fun s9 =>
                  bytesK a1.fData fun s10 =>
                  bif (!(s9 == s10)) then (
                    j1 true a0 a1) else (
                    j1 ((((a0.fTo).length / 1 : Nat) : Int) != (((a1.fTo).length / 1 : Nat) : Int)) a0 a1)))))))))
def f10_L (call : CallF) (n : Nat) (a0 a1 : S_api_Event) : OR :=
  f10_T call n (f10_L1 call n) a0 a1
theorem f10_o (X0 : Code) (call : CallF) (n : Nat) (B : Code) (hB : B = (hole f10_b [1, 0, 1] X0)) : f10_P B call n = f10_T call n (f10_P1 B call n) := by
  subst hB; funext a0 a1; kernel_rfl
theorem f10_l (call : CallF) (n : Nat) : f10_P f10_b call n = f10_T call n (f10_P1 f10_b call n) :=
  f10_o (piece [1, 0, 1] f10_b) call n _ (by kernel_rfl)
theorem f10_e (call : CallF) (n : Nat) : f10_P f10_b call n = f10_L call n := by
  rw [f10_l, f10_e1]; rfl
theorem f10_eq (n : Nat) (a0 a1 : S_api_Event) : acall AXE AXF (n + 1) 10 [.agg a0.cells, .agg a1.cells] [] = f10_L (acall AXE AXF n) (n + 1) a0 a1 :=
  (show _ = f10_P f10_b (acall AXE AXF n) (n + 1) a0 a1 by kernel_rfl).trans (by rw [f10_e])
def f11_P5 (B : Code) (call : CallF) (n : Nat) (x0 : LB) (x1 : Bool) : OR :=
  f11_x B call n [1, 0, 1, 0, 1] (kSeq (f11_x B call n [1, 1]) (kEnd AXE 0 f11_r)) ⟨[(2, .one (.str x0)), (3, .one (.bool x1))], []⟩
def f11_P9 (B : Code) (call : CallF) (n : Nat) (x0 : LB) (x1 : Bool) : OR :=
  f11_x B call n [1, 1, 1, 1, 0, 1, 0, 1] (kSeq (f11_x B call n [1, 1, 1, 1, 1]) (kEnd AXE 0 f11_r)) ⟨[(2, .one (.str x0)), (3, .one (.bool x1))], []⟩
def f11_P6 (B : Code) (call : CallF) (n : Nat) (x0 : LB) (x1 : Bool) : OR :=
  f11_x B call n [1, 1, 1, 1, 0, 1] (kSeq (f11_x B call n [1, 1, 1, 1, 1]) (kEnd AXE 0 f11_r)) ⟨[(4, .one (.str x0)), (29, .one (.bool x1))], []⟩
def f11_P1 (B : Code) (call : CallF) (n : Nat) (x0 : Bool) (x1 : S_api_Event) : OR :=
  f11_x B call n [1, 0, 1] (kSeq (f11_x B call n [1, 1]) (kEnd AXE 0 f11_r)) ⟨[(1, .one (.ptr 0 0)), (14, .one (.bool x0))], [x1.cells]⟩
def f11_P (B : Code) (call : CallF) (n : Nat) (a0 : S_api_Event) : OR :=
  f11_x B call n [] (kEnd AXE 0 f11_r) ⟨[(0, .agg a0.cells)], []⟩
def f11_T5 (call : CallF) (n : Nat) (x0 : LB) (x1 : Bool) : OR :=
  some (.tup [.one (.str x0), .one (.bool x1)], [])
theorem f11_o5 (call : CallF) (n : Nat) (B : Code) (hB : B = f11_b) : f11_P5 B call n = f11_T5 call n := by
  subst hB; funext x0 x1; kernel_rfl
theorem f11_l5 (call : CallF) (n : Nat) : f11_P5 f11_b call n = f11_T5 call n :=
  f11_o5 call n _ (by kernel_rfl)
def f11_L5 (call : CallF) (n : Nat) : LB → Bool → OR :=
  f11_T5 call n
theorem f11_e5 (call : CallF) (n : Nat) : f11_P5 f11_b call n = f11_L5 call n := by
  rw [f11_l5]; rfl
def f11_T9 (call : CallF) (n : Nat) (x0 : LB) (x1 : Bool) : OR :=
  some (.tup [.one (.str x0), .one (.bool x1)], [])
theorem f11_o9 (call : CallF) (n : Nat) (B : Code) (hB : B = f11_b) : f11_P9 B call n = f11_T9 call n := by
  subst hB; funext x0 x1; kernel_rfl
theorem f11_l9 (call : CallF) (n : Nat) : f11_P9 f11_b call n = f11_T9 call n :=
  f11_o9 call n _ (by kernel_rfl)
def f11_L9 (call : CallF) (n : Nat) : LB → Bool → OR :=
  f11_T9 call n
theorem f11_e9 (call : CallF) (n : Nat) : f11_P9 f11_b call n = f11_L9 call n := by
  rw [f11_l9]; rfl
def f11_T6 (call : CallF) (n : Nat) (j9 : LB → Bool → OR) (x0 : LB) (x1 : Bool) : OR :=
  bif x1 then (
    j9 ([] : List UInt8) false) else (
    some (.tup [.one (.str x0), .one (.bool true)], []))
theorem f11_o6 (X0 : Code) (call : CallF) (n : Nat) (B : Code) (hB : B = (hole f11_b [1, 1, 1, 1, 0, 1, 0, 1] X0)) : f11_P6 B call n = f11_T6 call n (f11_P9 B call n) := by
  subst hB; funext x0 x1; cases x1 <;> kernel_rfl
theorem f11_l6 (call : CallF) (n : Nat) : f11_P6 f11_b call n = f11_T6 call n (f11_P9 f11_b call n) :=
  f11_o6 (piece [1, 1, 1, 1, 0, 1, 0, 1] f11_b) call n _ (by kernel_rfl)
def f11_L6 (call : CallF) (n : Nat) : LB → Bool → OR :=
  f11_T6 call n (f11_L9 call n)
theorem f11_e6 (call : CallF) (n : Nat) : f11_P6 f11_b call n = f11_L6 call n := by
  rw [f11_l6, f11_e9]; rfl
def f11_T1 (call : CallF) (n : Nat) (j5 : LB → Bool → OR) (j6 : LB → Bool → OR) (x0 : Bool) (x1 : S_api_Event) : OR :=
  bif x0 then (
    j5 ([] : List UInt8) false) else (
    callK call 31 [.agg x1.cells] fun v1 =>
    oS v1 fun s2 =>
    callK call 8 [.one (.str s2)] fun v3 =>
    castTup v3 fun v4 =>
    consK v4 fun z5 r6 =>
    aggV z5 fun r7 =>
    takeS_api_Event r7 fun w8 r9 =>
    nilK r9 (
      zI .i64 r6 fun n10 r11 =>
      nilK r11 (
        bif (n10 != (0 : Int)) then (
          j6 s2 true) else (
          callK call 32 [.agg w8.cells, .agg x1.cells] fun v12 =>
          oB v12 fun b13 =>
          j6 s2 (!b13)))))
theorem f11_o1 (X0 X1 : Code) (call : CallF) (n : Nat) (B : Code) (hB : B = (hole (hole f11_b [1, 1, 1, 1, 0, 1] X0) [1, 0, 1, 0, 1] X1)) : f11_P1 B call n = f11_T1 call n (f11_P5 B call n) (f11_P6 B call n) := by
  subst hB; funext x0 x1; cases x0 <;> kernel_rfl
theorem f11_l1 (call : CallF) (n : Nat) : f11_P1 f11_b call n = f11_T1 call n (f11_P5 f11_b call n) (f11_P6 f11_b call n) :=
  f11_o1 (piece [1, 1, 1, 1, 0, 1] f11_b) (piece [1, 0, 1, 0, 1] f11_b) call n _ (by kernel_rfl)
def f11_L1 (call : CallF) (n : Nat) : Bool → S_api_Event → OR :=
  f11_T1 call n (f11_L5 call n) (f11_L6 call n)
theorem f11_e1 (call : CallF) (n : Nat) : f11_P1 f11_b call n = f11_L1 call n := by
  rw [f11_l1, f11_e5, f11_e6]; rfl
/-- pigeonhole/script.Line -/
def f11_T (call : CallF) (n : Nat) (j1 : Bool → S_api_Event → OR) (a0 : S_api_Event) : OR :=
  bif (decide (a0.fKind < (1 : Int))) then (
    j1 true a0) else (
    j1 (decide (a0.fKind > (17 : Int))) a0)
def f11_L (call : CallF) (n : Nat) (a0 : S_api_Event) : OR :=
  f11_T call n (f11_L1 call n) a0
theorem f11_o (X0 : Code) (call : CallF) (n : Nat) (B : Code) (hB : B = (hole f11_b [1, 0, 1] X0)) : f11_P B call n = f11_T call n (f11_P1 B call n) := by
  subst hB; funext a0; kernel_rfl
theorem f11_l (call : CallF) (n : Nat) : f11_P f11_b call n = f11_T call n (f11_P1 f11_b call n) :=
  f11_o (piece [1, 0, 1] f11_b) call n _ (by kernel_rfl)
theorem f11_e (call : CallF) (n : Nat) : f11_P f11_b call n = f11_L call n := by
  rw [f11_l, f11_e1]; rfl
theorem f11_eq (n : Nat) (a0 : S_api_Event) : acall AXE AXF (n + 1) 11 [.agg a0.cells] [] = f11_L (acall AXE AXF n) (n + 1) a0 :=
  (show _ = f11_P f11_b (acall AXE AXF n) (n + 1) a0 by kernel_rfl).trans (by rw [f11_e])
def f12_P11 (B : Code) (call : CallF) (n : Nat) (m0 : Nat) (x0 : LC) (x1 : Int) (x2 : LB) (x3 : LC) (x4 x5 : Int) : OR :=
  f12_x B call n [1, 0, 1, 0, 0, 1, 1, 1] (kSeq (fun k => prK 1000002 (pruneAt f12_h 1000002) (aloop 1000002 (pruneAt f12_h 1000002) (f12_x B call n [1, 0, 1, 0, 0]) k m0)) (kBlk 0 (kSeq (f12_x B call n [1, 1]) (kEnd AXE 0 f12_r)))) ⟨[(2, .one (.sl (some ⟨2, 0, 30⟩) 12 x0)), (5, .one (.int .i64 x1)), (6, .one (.str x2)), (10, .one (.sl none 1 x3)), (11, .one (.int .i64 x4)), (12, .one (.int .i64 x5))], []⟩
def f12_P16 (B : Code) (call : CallF) (n : Nat) (m0 : Nat) (x0 : LC) (x1 x2 : Int) : OR :=
  f12_x B call n [1, 0, 1, 0, 0, 1, 1, 0, 0, 1, 1, 1, 1, 0, 1, 0, 1] (kSeq (f12_x B call n [1, 0, 1, 0, 0, 1, 1, 0, 0, 1, 1, 1, 1, 1]) (kBlk 1 (kSeq (f12_x B call n [1, 0, 1, 0, 0, 1, 1, 1]) (kSeq (fun k => prK 1000002 (pruneAt f12_h 1000002) (aloop 1000002 (pruneAt f12_h 1000002) (f12_x B call n [1, 0, 1, 0, 0]) k m0)) (kBlk 0 (kSeq (f12_x B call n [1, 1]) (kEnd AXE 0 f12_r))))))) ⟨[(2, .one (.sl (some ⟨2, 0, 30⟩) 12 x0)), (3, .one (.int .i64 x1)), (4, .one (.int .i64 x2))], []⟩
def f12_P17 (B : Code) (call : CallF) (n : Nat) (m0 : Nat) (x0 x1 : LC) (x2 x3 : Int) : OR :=
  f12_x B call n [1, 0, 1, 0, 0, 1, 1, 1] (kSeq (fun k => prK 1000002 (pruneAt f12_h 1000002) (aloop 1000002 (pruneAt f12_h 1000002) (f12_x B call n [1, 0, 1, 0, 0]) k m0)) (kBlk 0 (kSeq (f12_x B call n [1, 1]) (kEnd AXE 0 f12_r)))) ⟨[(2, .one (.sl (some ⟨2, 0, 30⟩) 12 x0)), (10, .one (.sl none 1 x1)), (11, .one (.int .i64 x2)), (12, .one (.int .i64 x3))], []⟩
def f12_P14 (B : Code) (call : CallF) (n : Nat) (m0 : Nat) (x0 : LC) (x1 x2 : Int) (x3 : LC) (x4 x5 : Int) (x6 : Bool) (x7 : S_api_Event) : OR :=
  f12_x B call n [1, 0, 1, 0, 0, 1, 1, 0, 0, 1, 1, 1, 1, 0, 1] (kSeq (f12_x B call n [1, 0, 1, 0, 0, 1, 1, 0, 0, 1, 1, 1, 1, 1]) (kBlk 1 (kSeq (f12_x B call n [1, 0, 1, 0, 0, 1, 1, 1]) (kSeq (fun k => prK 1000002 (pruneAt f12_h 1000002) (aloop 1000002 (pruneAt f12_h 1000002) (f12_x B call n [1, 0, 1, 0, 0]) k m0)) (kBlk 0 (kSeq (f12_x B call n [1, 1]) (kEnd AXE 0 f12_r))))))) ⟨[(2, .one (.sl (some ⟨2, 0, 30⟩) 12 x0)), (5, .one (.int .i64 x1)), (7, .one (.ptr 0 0)), (8, .one (.int .i64 x2)), (10, .one (.sl none 1 x3)), (11, .one (.int .i64 x4)), (12, .one (.int .i64 x5)), (37, .one (.bool x6))], [x7.cells]⟩
def f12_P13 (B : Code) (call : CallF) (n : Nat) (m0 : Nat) (x0 : LC) (x1 x2 : Int) (x3 : LC) (x4 x5 : Int) (x6 : S_api_Event) : OR :=
  f12_x B call n [1, 0, 1, 0, 0, 1, 1, 0, 0, 1, 1, 1, 1] (kBlk 1 (kSeq (f12_x B call n [1, 0, 1, 0, 0, 1, 1, 1]) (kSeq (fun k => prK 1000002 (pruneAt f12_h 1000002) (aloop 1000002 (pruneAt f12_h 1000002) (f12_x B call n [1, 0, 1, 0, 0]) k m0)) (kBlk 0 (kSeq (f12_x B call n [1, 1]) (kEnd AXE 0 f12_r)))))) ⟨[(2, .one (.sl (some ⟨2, 0, 30⟩) 12 x0)), (5, .one (.int .i64 x1)), (7, .one (.ptr 0 0)), (8, .one (.int .i64 x2)), (10, .one (.sl none 1 x3)), (11, .one (.int .i64 x4)), (12, .one (.int .i64 x5))], [x6.cells]⟩
def f12_P12 (B : Code) (call : CallF) (n : Nat) (m0 : Nat) (x0 : LC) (x1 x2 : Int) (x3 : LC) (x4 x5 : Int) (x6 : Bool) (x7 : S_api_Event) : OR :=
  f12_x B call n [1, 0, 1, 0, 0, 1, 1, 0, 0, 1, 1, 1, 0, 1] (kSeq (f12_x B call n [1, 0, 1, 0, 0, 1, 1, 0, 0, 1, 1, 1, 1]) (kBlk 1 (kSeq (f12_x B call n [1, 0, 1, 0, 0, 1, 1, 1]) (kSeq (fun k => prK 1000002 (pruneAt f12_h 1000002) (aloop 1000002 (pruneAt f12_h 1000002) (f12_x B call n [1, 0, 1, 0, 0]) k m0)) (kBlk 0 (kSeq (f12_x B call n [1, 1]) (kEnd AXE 0 f12_r))))))) ⟨[(2, .one (.sl (some ⟨2, 0, 30⟩) 12 x0)), (5, .one (.int .i64 x1)), (7, .one (.ptr 0 0)), (8, .one (.int .i64 x2)), (10, .one (.sl none 1 x3)), (11, .one (.int .i64 x4)), (12, .one (.int .i64 x5)), (35, .one (.bool x6))], [x7.cells]⟩
def f12_P8 (B : Code) (call : CallF) (n : Nat) (m0 : Nat) (x0 : LC) (x1 : Int) (x2 : LB) (x3 : LC) (x4 x5 : Int) (x6 : Bool) : OR :=
  f12_x B call n [1, 0, 1, 0, 0, 1, 1, 0, 0, 1, 0, 1] (kSeq (f12_x B call n [1, 0, 1, 0, 0, 1, 1, 0, 0, 1, 1]) (kBlk 1 (kSeq (f12_x B call n [1, 0, 1, 0, 0, 1, 1, 1]) (kSeq (fun k => prK 1000002 (pruneAt f12_h 1000002) (aloop 1000002 (pruneAt f12_h 1000002) (f12_x B call n [1, 0, 1, 0, 0]) k m0)) (kBlk 0 (kSeq (f12_x B call n [1, 1]) (kEnd AXE 0 f12_r))))))) ⟨[(2, .one (.sl (some ⟨2, 0, 30⟩) 12 x0)), (5, .one (.int .i64 x1)), (6, .one (.str x2)), (10, .one (.sl none 1 x3)), (11, .one (.int .i64 x4)), (12, .one (.int .i64 x5)), (23, .one (.bool x6))], []⟩
def f12_P2 (B : Code) (call : CallF) (n : Nat) (m0 : Nat) (x0 x1 : LC) (x2 x3 : Int) : OR :=
  aloop 1000002 (pruneAt f12_h 1000002) (f12_x B call n [1, 0, 1, 0, 0]) (kBlk 0 (kSeq (f12_x B call n [1, 1]) (kEnd AXE 0 f12_r))) m0 ⟨[(2, .one (.sl (some ⟨2, 0, 30⟩) 12 x0)), (10, .one (.sl none 1 x1)), (11, .one (.int .i64 x2)), (12, .one (.int .i64 x3))], []⟩
def f12_P (B : Code) (call : CallF) (n : Nat) (a0 : LB) : OR :=
  f12_x B call n [] (kEnd AXE 0 f12_r) ⟨[(0, .one (.str a0))], []⟩
def f12_T11 (call : CallF) (n : Nat) (j2m : LC → LC → Int → Int → OR) (x0 : LC) (x1 : Int) (x2 : LB) (x3 : LC) (x4 x5 : Int) : OR :=
  j2m x0 x3 x4 (IntKind.wrap .i64 (x5 + (1 : Int)))
theorem f12_o11 (call : CallF) (n : Nat) (m0 : Nat) (B : Code) (hB : B = f12_b) : f12_P11 B call n m0 = f12_T11 call n (f12_P2 B call n m0) := by
  subst hB; funext x0 x1 x2 x3 x4 x5; kernel_rfl
theorem f12_l11 (call : CallF) (n : Nat) (m0 : Nat) : f12_P11 f12_b call n m0 = f12_T11 call n (f12_P2 f12_b call n m0) :=
  f12_o11 call n m0 _ (by kernel_rfl)
def f12_L11 (call : CallF) (n : Nat) (h_m0 : LC → LC → Int → Int → OR) : LC → Int → LB → LC → Int → Int → OR :=
  f12_T11 call n h_m0
theorem f12_e11 (call : CallF) (n : Nat) (m0 : Nat) : f12_P11 f12_b call n m0 = f12_L11 call n (f12_P2 f12_b call n m0) := by
  rw [f12_l11]; rfl
def f12_T16 (call : CallF) (n : Nat) (x0 : LC) (x1 x2 : Int) : OR :=
  some (.tup [.one (.sl (some ⟨2, 0, 30⟩) 12 x0), .one (.int .i64 x1), .one (.int .i64 x2)], [])
theorem f12_o16 (call : CallF) (n : Nat) (m0 : Nat) (B : Code) (hB : B = f12_b) : f12_P16 B call n m0 = f12_T16 call n := by
  subst hB; funext x0 x1 x2; kernel_rfl
theorem f12_l16 (call : CallF) (n : Nat) (m0 : Nat) : f12_P16 f12_b call n m0 = f12_T16 call n :=
  f12_o16 call n m0 _ (by kernel_rfl)
def f12_L16 (call : CallF) (n : Nat) (h_m0 : LC → LC → Int → Int → OR) : LC → Int → Int → OR :=
  f12_T16 call n
theorem f12_e16 (call : CallF) (n : Nat) (m0 : Nat) : f12_P16 f12_b call n m0 = f12_L16 call n (f12_P2 f12_b call n m0) := by
  rw [f12_l16]; rfl
def f12_T17 (call : CallF) (n : Nat) (j2m : LC → LC → Int → Int → OR) (x0 x1 : LC) (x2 x3 : Int) : OR :=
  j2m x0 x1 x2 (IntKind.wrap .i64 (x3 + (1 : Int)))
theorem f12_o17 (call : CallF) (n : Nat) (m0 : Nat) (B : Code) (hB : B = f12_b) : f12_P17 B call n m0 = f12_T17 call n (f12_P2 B call n m0) := by
  subst hB; funext x0 x1 x2 x3; kernel_rfl
theorem f12_l17 (call : CallF) (n : Nat) (m0 : Nat) : f12_P17 f12_b call n m0 = f12_T17 call n (f12_P2 f12_b call n m0) :=
  f12_o17 call n m0 _ (by kernel_rfl)
def f12_L17 (call : CallF) (n : Nat) (h_m0 : LC → LC → Int → Int → OR) : LC → LC → Int → Int → OR :=
  f12_T17 call n h_m0
theorem f12_e17 (call : CallF) (n : Nat) (m0 : Nat) : f12_P17 f12_b call n m0 = f12_L17 call n (f12_P2 f12_b call n m0) := by
  rw [f12_l17]; rfl
def f12_T14 (call : CallF) (n : Nat) (j16 : LC → Int → Int → OR) (j17 : LC → LC → Int → Int → OR) (x0 : LC) (x1 x2 : Int) (x3 : LC) (x4 x5 : Int) (x6 : Bool) (x7 : S_api_Event) : OR :=
  bif x6 then (
    j16 ([] : List Cell) (IntKind.wrap .i64 (x1 + (1 : Int))) x2) else (
    guardB (decide (((x0).length + (([.int .i64 x7.fKind, .int .i64 x7.fSlot, .int .i64 x7.fN, .int .i64 x7.fK, .bool x7.fLmtp, .str x7.fName, .int .i64 x7.fLimit_Bytes, .int .i64 x7.fLimit_Count, .sl none 1 x7.fTo, .sl none 1 x7.fData, .int .i64 x7.fCode, .sl none 1 x7.fKeep] : List Cell)).length) * 1000 ≤ rowLim)) (
      j17 (x0 ++ ([.int .i64 x7.fKind, .int .i64 x7.fSlot, .int .i64 x7.fN, .int .i64 x7.fK, .bool x7.fLmtp, .str x7.fName, .int .i64 x7.fLimit_Bytes, .int .i64 x7.fLimit_Count, .sl none 1 x7.fTo, .sl none 1 x7.fData, .int .i64 x7.fCode, .sl none 1 x7.fKeep] : List Cell)) x3 x4 x5))
theorem f12_o14 (X0 X1 : Code) (call : CallF) (n : Nat) (m0 : Nat) (B : Code) (hB : B = (hole (hole f12_b [1, 0, 1, 0, 0, 1, 1, 0, 0, 1, 1, 1, 1, 0, 1, 0, 1] X0) [1, 0, 1, 0, 0, 1, 1, 1] X1)) : f12_P14 B call n m0 = f12_T14 call n (f12_P16 B call n m0) (f12_P17 B call n m0) := by
  subst hB; funext x0 x1 x2 x3 x4 x5 x6 x7; cases x6 <;> kernel_rfl
theorem f12_l14 (call : CallF) (n : Nat) (m0 : Nat) : f12_P14 f12_b call n m0 = f12_T14 call n (f12_P16 f12_b call n m0) (f12_P17 f12_b call n m0) :=
  f12_o14 (piece [1, 0, 1, 0, 0, 1, 1, 0, 0, 1, 1, 1, 1, 0, 1, 0, 1] f12_b) (piece [1, 0, 1, 0, 0, 1, 1, 1] f12_b) call n m0 _ (by kernel_rfl)
def f12_L14 (call : CallF) (n : Nat) (h_m0 : LC → LC → Int → Int → OR) : LC → Int → Int → LC → Int → Int → Bool → S_api_Event → OR :=
  f12_T14 call n (f12_L16 call n h_m0) (f12_L17 call n h_m0)
theorem f12_e14 (call : CallF) (n : Nat) (m0 : Nat) : f12_P14 f12_b call n m0 = f12_L14 call n (f12_P2 f12_b call n m0) := by
  rw [f12_l14, f12_e16, f12_e17]; rfl
def f12_T13 (call : CallF) (n : Nat) (j14 : LC → Int → Int → LC → Int → Int → Bool → S_api_Event → OR) (x0 : LC) (x1 x2 : Int) (x3 : LC) (x4 x5 : Int) (x6 : S_api_Event) : OR :=
  j14 x0 x1 x2 x3 x4 x5 (x2 != (0 : Int)) x6
theorem f12_o13 (X0 : Code) (call : CallF) (n : Nat) (m0 : Nat) (B : Code) (hB : B = (hole f12_b [1, 0, 1, 0, 0, 1, 1, 0, 0, 1, 1, 1, 1, 0, 1] X0)) : f12_P13 B call n m0 = f12_T13 call n (f12_P14 B call n m0) := by
  subst hB; funext x0 x1 x2 x3 x4 x5 x6; kernel_rfl
theorem f12_l13 (call : CallF) (n : Nat) (m0 : Nat) : f12_P13 f12_b call n m0 = f12_T13 call n (f12_P14 f12_b call n m0) :=
  f12_o13 (piece [1, 0, 1, 0, 0, 1, 1, 0, 0, 1, 1, 1, 1, 0, 1] f12_b) call n m0 _ (by kernel_rfl)
def f12_L13 (call : CallF) (n : Nat) (h_m0 : LC → LC → Int → Int → OR) : LC → Int → Int → LC → Int → Int → S_api_Event → OR :=
  f12_T13 call n (f12_L14 call n h_m0)
theorem f12_e13 (call : CallF) (n : Nat) (m0 : Nat) : f12_P13 f12_b call n m0 = f12_L13 call n (f12_P2 f12_b call n m0) := by
  rw [f12_l13, f12_e14]; rfl
def f12_T12 (call : CallF) (n : Nat) (j13 : LC → Int → Int → LC → Int → Int → S_api_Event → OR) (x0 : LC) (x1 x2 : Int) (x3 : LC) (x4 x5 : Int) (x6 : Bool) (x7 : S_api_Event) : OR :=
  bif x6 then (
    j13 x0 x1 (4 : Int) x3 x4 x5 x7) else (
    j13 x0 x1 x2 x3 x4 x5 x7)
theorem f12_o12 (X0 : Code) (call : CallF) (n : Nat) (m0 : Nat) (B : Code) (hB : B = (hole f12_b [1, 0, 1, 0, 0, 1, 1, 0, 0, 1, 1, 1, 1] X0)) : f12_P12 B call n m0 = f12_T12 call n (f12_P13 B call n m0) := by
  subst hB; funext x0 x1 x2 x3 x4 x5 x6 x7; cases x6 <;> kernel_rfl
theorem f12_l12 (call : CallF) (n : Nat) (m0 : Nat) : f12_P12 f12_b call n m0 = f12_T12 call n (f12_P13 f12_b call n m0) :=
  f12_o12 (piece [1, 0, 1, 0, 0, 1, 1, 0, 0, 1, 1, 1, 1] f12_b) call n m0 _ (by kernel_rfl)
def f12_L12 (call : CallF) (n : Nat) (h_m0 : LC → LC → Int → Int → OR) : LC → Int → Int → LC → Int → Int → Bool → S_api_Event → OR :=
  f12_T12 call n (f12_L13 call n h_m0)
theorem f12_e12 (call : CallF) (n : Nat) (m0 : Nat) : f12_P12 f12_b call n m0 = f12_L12 call n (f12_P2 f12_b call n m0) := by
  rw [f12_l12, f12_e13]; rfl
def f12_T8 (call : CallF) (n : Nat) (j11 : LC → Int → LB → LC → Int → Int → OR) (j12 : LC → Int → Int → LC → Int → Int → Bool → S_api_Event → OR) (x0 : LC) (x1 : Int) (x2 : LB) (x3 : LC) (x4 x5 : Int) (x6 : Bool) : OR :=
  bif x6 then (
    j11 x0 x1 x2 x3 x4 x5) else (
    callK call 8 [.one (.str x2)] fun v1 =>
    castTup v1 fun v2 =>
    consK v2 fun z3 r4 =>
    aggV z3 fun r5 =>
    takeS_api_Event r5 fun w6 r7 =>
    nilK r7 (
      zI .i64 r4 fun n8 r9 =>
      nilK r9 (
        bif (n8 == (0 : Int)) then (
          j12 x0 x1 n8 x3 x4 x5 ((((x0).length / 12 : Nat) : Int) == (1000 : Int)) w6) else (
          j12 x0 x1 n8 x3 x4 x5 false w6))))
theorem f12_o8 (X0 X1 : Code) (call : CallF) (n : Nat) (m0 : Nat) (B : Code) (hB : B = (hole (hole f12_b [1, 0, 1, 0, 0, 1, 1, 0, 0, 1, 1, 1, 0, 1] X0) [1, 0, 1, 0, 0, 1, 1, 1] X1)) : f12_P8 B call n m0 = f12_T8 call n (f12_P11 B call n m0) (f12_P12 B call n m0) := by
  subst hB; funext x0 x1 x2 x3 x4 x5 x6; cases x6 <;> kernel_rfl
theorem f12_l8 (call : CallF) (n : Nat) (m0 : Nat) : f12_P8 f12_b call n m0 = f12_T8 call n (f12_P11 f12_b call n m0) (f12_P12 f12_b call n m0) :=
  f12_o8 (piece [1, 0, 1, 0, 0, 1, 1, 0, 0, 1, 1, 1, 0, 1] f12_b) (piece [1, 0, 1, 0, 0, 1, 1, 1] f12_b) call n m0 _ (by kernel_rfl)
def f12_L8 (call : CallF) (n : Nat) (h_m0 : LC → LC → Int → Int → OR) : LC → Int → LB → LC → Int → Int → Bool → OR :=
  f12_T8 call n (f12_L11 call n h_m0) (f12_L12 call n h_m0)
theorem f12_e8 (call : CallF) (n : Nat) (m0 : Nat) : f12_P8 f12_b call n m0 = f12_L8 call n (f12_P2 f12_b call n m0) := by
  rw [f12_l8, f12_e11, f12_e12]; rfl
def f12_T2 (call : CallF) (n : Nat) (j8 : LC → Int → LB → LC → Int → Int → Bool → OR) (x0 x1 : LC) (x2 x3 : Int) : OR :=
  bif (decide (x3 < x2)) then (
    itemK x1 x3 fun c1 =>
    castS c1 fun s2 =>
    bif (s2 == ([] : List UInt8)) then (
      j8 x0 x3 s2 x1 x2 x3 true) else (
      itemK s2 (0 : Int) fun u3 =>
      j8 x0 x3 s2 x1 x2 x3 ((UInt8.toNat u3 : Int) == (35 : Int)))) else (
    some (.tup [.one (.sl (some ⟨2, 0, 30⟩) 12 x0), .one (.int .i64 (0 : Int)), .one (.int .i64 (0 : Int))], []))
theorem f12_o2 (X0 : Code) (call : CallF) (n : Nat) (m0 : Nat) (B : Code) (hB : B = (hole f12_b [1, 0, 1, 0, 0, 1, 1, 0, 0, 1, 0, 1] X0)) : f12_P2 B call n (m0 + 1) = f12_T2 call n (f12_P8 B call n m0) := by
  subst hB; funext x0 x1 x2 x3; kernel_rfl
theorem f12_l2 (call : CallF) (n : Nat) (m0 : Nat) : f12_P2 f12_b call n (m0 + 1) = f12_T2 call n (f12_P8 f12_b call n m0) :=
  f12_o2 (piece [1, 0, 1, 0, 0, 1, 1, 0, 0, 1, 0, 1] f12_b) call n m0 _ (by kernel_rfl)
def f12_L2 (call : CallF) (n : Nat) : Nat → LC → LC → Int → Int → OR
  | 0 => fun _ _ _ _ => none
  | m0 + 1 => f12_T2 call n (f12_L8 call n (f12_L2 call n m0))
theorem f12_e2 (call : CallF) (n : Nat) : ∀ m0 : Nat, f12_P2 f12_b call n m0 = f12_L2 call n m0
  | 0 => by funext x0 x1 x2 x3; kernel_rfl
  | m0 + 1 => by rw [f12_l2, f12_e8, f12_e2 call n m0]; rfl
/-- pigeonhole/script.Parse -/
def f12_T (call : CallF) (n : Nat) (j2n : LC → LC → Int → Int → OR) (a0 : LB) : OR :=
  primK pSplit [.one (.str a0), .one (.str ([10] : List UInt8))] fun v15 =>
  oL 1 v15 fun l16 =>
  j2n ([] : List Cell) l16 (((l16).length / 1 : Nat) : Int) (0 : Int)
def f12_L (call : CallF) (n : Nat) (a0 : LB) : OR :=
  f12_T call n (f12_L2 call n n) a0
theorem f12_o (call : CallF) (n : Nat) (B : Code) (hB : B = f12_b) : f12_P B call n = f12_T call n (f12_P2 B call n n) := by
  subst hB; funext a0; kernel_rfl
theorem f12_l (call : CallF) (n : Nat) : f12_P f12_b call n = f12_T call n (f12_P2 f12_b call n n) :=
  f12_o call n _ (by kernel_rfl)
theorem f12_e (call : CallF) (n : Nat) : f12_P f12_b call n = f12_L call n := by
  rw [f12_l, f12_e2]; rfl
theorem f12_eq (n : Nat) (a0 : LB) : acall AXE AXF (n + 1) 12 [.one (.str a0)] [] = f12_L (acall AXE AXF n) (n + 1) a0 :=
  (show _ = f12_P f12_b (acall AXE AXF n) (n + 1) a0 by kernel_rfl).trans (by rw [f12_e])
end
end AX
end Go.Proofs.YtfbicbgdfcbhpaaDoor
