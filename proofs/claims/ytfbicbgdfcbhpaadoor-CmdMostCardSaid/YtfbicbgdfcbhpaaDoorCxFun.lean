/-
  The functions, printed, and that they are the reckoning.
-/
import Derived.Test.YtfbicbgdfcbhpaaDoorCxTab
set_option maxRecDepth 20000
set_option linter.unusedVariables false
set_option linter.unusedSimpArgs false
set_option linter.unusedSectionVars false
namespace Go.Proofs.YtfbicbgdfcbhpaaDoor
namespace AX
set_option linter.unusedVariables false
noncomputable section
def f5_P8 (B : Code) (call : CallF) (n : Nat) (x0 : Bool) : OR :=
  f5_x B call n [1, 1, 0, 1, 0, 1] (kSeq (f5_x B call n [1, 1, 1]) (kEnd AXE 0 f5_r)) ⟨[(4, .one (.bool x0))], []⟩
def f5_P17 (B : Code) (call : CallF) (n : Nat) (m0 : Nat) (x0 : LB) (x1 : LC) (x2 : Nat) (x3 : Int) (x4 : LC) : OR :=
  f5_x B call n [1, 1, 1, 1, 0, 1, 0, 0, 1, 1] (kSeq (fun k => prK 1000007 (pruneAt f5_h 1000007) (aloop 1000007 (pruneAt f5_h 1000007) (f5_x B call n [1, 1, 1, 1, 0, 1, 0, 0]) k m0)) (kBlk 0 (kSeq (f5_x B call n [1, 1, 1, 1, 1]) (kEnd AXE 0 f5_r)))) ⟨[(0, .one (.str x0)), (1, .one (.sl none 1 x1)), (5, .one (.bsl 0 1 x2)), (6, .one (.int .i64 x3))], [[.row x4]]⟩
def f5_P18 (B : Code) (call : CallF) (n : Nat) (m0 : Nat) (x0 : LB) (x1 : LC) (x2 : Nat) (x3 x4 : Int) (x5 : LC) : OR :=
  f5_x B call n [1, 1, 1, 1, 0, 1, 0, 0, 1, 1] (kSeq (fun k => prK 1000007 (pruneAt f5_h 1000007) (aloop 1000007 (pruneAt f5_h 1000007) (f5_x B call n [1, 1, 1, 1, 0, 1, 0, 0]) k m0)) (kBlk 0 (kSeq (f5_x B call n [1, 1, 1, 1, 1]) (kEnd AXE 0 f5_r)))) ⟨[(0, .one (.str x0)), (1, .one (.sl none 1 x1)), (5, .one (.bsl 0 1 x2)), (6, .one (.int .i64 x3)), (7, .one (.int .u8 x4))], [[.row x5]]⟩
def f5_P15 (B : Code) (call : CallF) (n : Nat) (m0 : Nat) (x0 : LB) (x1 : LC) (x2 : Nat) (x3 x4 : Int) (x5 : Bool) (x6 : LC) : OR :=
  f5_x B call n [1, 1, 1, 1, 0, 1, 0, 0, 1, 0, 0, 1, 1] (kBlk 1 (kSeq (f5_x B call n [1, 1, 1, 1, 0, 1, 0, 0, 1, 1]) (kSeq (fun k => prK 1000007 (pruneAt f5_h 1000007) (aloop 1000007 (pruneAt f5_h 1000007) (f5_x B call n [1, 1, 1, 1, 0, 1, 0, 0]) k m0)) (kBlk 0 (kSeq (f5_x B call n [1, 1, 1, 1, 1]) (kEnd AXE 0 f5_r)))))) ⟨[(0, .one (.str x0)), (1, .one (.sl none 1 x1)), (5, .one (.bsl 0 1 x2)), (6, .one (.int .i64 x3)), (7, .one (.int .u8 x4)), (71, .one (.bool x5))], [[.row x6]]⟩
def f5_P13 (B : Code) (call : CallF) (n : Nat) (m0 : Nat) (x0 : LB) (x1 : LC) (x2 : Nat) (x3 x4 : Int) (x5 : LC) : OR :=
  f5_x B call n [1, 1, 1, 1, 0, 1, 0, 0, 1, 0, 0, 1] (kBlk 1 (kSeq (f5_x B call n [1, 1, 1, 1, 0, 1, 0, 0, 1, 1]) (kSeq (fun k => prK 1000007 (pruneAt f5_h 1000007) (aloop 1000007 (pruneAt f5_h 1000007) (f5_x B call n [1, 1, 1, 1, 0, 1, 0, 0]) k m0)) (kBlk 0 (kSeq (f5_x B call n [1, 1, 1, 1, 1]) (kEnd AXE 0 f5_r)))))) ⟨[(0, .one (.str x0)), (1, .one (.sl none 1 x1)), (5, .one (.bsl 0 1 x2)), (6, .one (.int .i64 x3)), (7, .one (.int .u8 x4))], [[.row x5]]⟩
def f5_P11 (B : Code) (call : CallF) (n : Nat) (m0 : Nat) (x0 : LB) (x1 : LC) (x2 : Nat) (x3 : Int) (x4 : LC) : OR :=
  f5_x B call n [1, 1, 1, 1, 0, 1, 0, 0, 1] (kSeq (fun k => prK 1000007 (pruneAt f5_h 1000007) (aloop 1000007 (pruneAt f5_h 1000007) (f5_x B call n [1, 1, 1, 1, 0, 1, 0, 0]) k m0)) (kBlk 0 (kSeq (f5_x B call n [1, 1, 1, 1, 1]) (kEnd AXE 0 f5_r)))) ⟨[(0, .one (.str x0)), (1, .one (.sl none 1 x1)), (5, .one (.bsl 0 1 x2)), (6, .one (.int .i64 x3))], [[.row x4]]⟩
def f5_P19 (B : Code) (call : CallF) (n : Nat) (x0 : Bool) : OR :=
  f5_x B call n [1, 1, 1, 1, 1, 1, 1, 1] (kEnd AXE 0 f5_r) ⟨[(4, .one (.bool x0))], []⟩
def f5_P16 (B : Code) (call : CallF) (n : Nat) (x0 x1 : Int) (x2 : LC) (x3 x4 : S_api_Cmd) : OR :=
  f5_x B call n [1, 1, 1, 1, 1, 1, 1] (kEnd AXE 0 f5_r) ⟨[(8, .one (.ptr 1 0)), (9, .one (.int .i64 x0)), (10, .one (.ptr 2 0)), (11, .one (.int .i64 x1))], [[.row x2], x3.cells, x4.cells]⟩
def f5_P14 (B : Code) (call : CallF) (n : Nat) (x0 : Nat) (x1 : Int) (x2 : LC) (x3 : S_api_Cmd) : OR :=
  f5_x B call n [1, 1, 1, 1, 1, 1] (kEnd AXE 0 f5_r) ⟨[(5, .one (.bsl 0 1 x0)), (8, .one (.ptr 1 0)), (9, .one (.int .i64 x1))], [[.row x2], x3.cells]⟩
def f5_P12 (B : Code) (call : CallF) (n : Nat) (x0 : LB) (x1 : LC) (x2 : Nat) (x3 : Int) (x4 : LC) : OR :=
  f5_x B call n [1, 1, 1, 1, 1] (kEnd AXE 0 f5_r) ⟨[(0, .one (.str x0)), (1, .one (.sl none 1 x1)), (5, .one (.bsl 0 1 x2)), (6, .one (.int .i64 x3))], [[.row x4]]⟩
def f5_P10 (B : Code) (call : CallF) (n : Nat) (m0 : Nat) (x0 : LB) (x1 : LC) (x2 : Nat) (x3 : Int) (x4 : Bool) (x5 : LC) : OR :=
  f5_x B call n [1, 1, 1, 1, 0, 1, 0, 0, 0, 1] (kSeq (f5_x B call n [1, 1, 1, 1, 0, 1, 0, 0, 1]) (kSeq (fun k => prK 1000007 (pruneAt f5_h 1000007) (aloop 1000007 (pruneAt f5_h 1000007) (f5_x B call n [1, 1, 1, 1, 0, 1, 0, 0]) k m0)) (kBlk 0 (kSeq (f5_x B call n [1, 1, 1, 1, 1]) (kEnd AXE 0 f5_r))))) ⟨[(0, .one (.str x0)), (1, .one (.sl none 1 x1)), (5, .one (.bsl 0 1 x2)), (6, .one (.int .i64 x3)), (40, .one (.bool x4))], [[.row x5]]⟩
def f5_P9 (B : Code) (call : CallF) (n : Nat) (m0 : Nat) (x0 : LB) (x1 : LC) (x2 : Nat) (x3 : Int) (x4 : LC) : OR :=
  aloop 1000007 (pruneAt f5_h 1000007) (f5_x B call n [1, 1, 1, 1, 0, 1, 0, 0]) (kBlk 0 (kSeq (f5_x B call n [1, 1, 1, 1, 1]) (kEnd AXE 0 f5_r))) m0 ⟨[(0, .one (.str x0)), (1, .one (.sl none 1 x1)), (5, .one (.bsl 0 1 x2)), (6, .one (.int .i64 x3))], [[.row x4]]⟩
def f5_P4 (B : Code) (call : CallF) (n : Nat) (x0 : LB) (x1 : LC) (x2 : Bool) : OR :=
  f5_x B call n [1, 1, 0, 1] (kSeq (f5_x B call n [1, 1, 1]) (kEnd AXE 0 f5_r)) ⟨[(0, .one (.str x0)), (1, .one (.sl none 1 x1)), (21, .one (.bool x2))], []⟩
def f5_P (B : Code) (call : CallF) (n : Nat) (a0 : LB) (a1 : LC) : OR :=
  f5_x B call n [] (kEnd AXE 0 f5_r) ⟨[(0, .one (.str a0)), (1, .one (.sl none 1 a1))], []⟩
def f5_T8 (call : CallF) (n : Nat) (x0 : Bool) : OR :=
  some (.one (.bool x0), [])
theorem f5_o8 (call : CallF) (n : Nat) (B : Code) (hB : B = f5_b) : f5_P8 B call n = f5_T8 call n := by
  subst hB; funext x0; kernel_rfl
theorem f5_l8 (call : CallF) (n : Nat) : f5_P8 f5_b call n = f5_T8 call n :=
  f5_o8 call n _ (by kernel_rfl)
def f5_L8 (call : CallF) (n : Nat) : Bool → OR :=
  f5_T8 call n
theorem f5_e8 (call : CallF) (n : Nat) : f5_P8 f5_b call n = f5_L8 call n := by
  rw [f5_l8]; rfl
def f5_T17 (call : CallF) (n : Nat) (j9m : LB → LC → Nat → Int → LC → OR) (x0 : LB) (x1 : LC) (x2 : Nat) (x3 : Int) (x4 : LC) : OR :=
  j9m x0 x1 x2 (IntKind.wrap .i64 (x3 + (1 : Int))) x4
theorem f5_o17 (call : CallF) (n : Nat) (m0 : Nat) (B : Code) (hB : B = f5_b) : f5_P17 B call n m0 = f5_T17 call n (f5_P9 B call n m0) := by
  subst hB; funext x0 x1 x2 x3 x4; kernel_rfl
theorem f5_l17 (call : CallF) (n : Nat) (m0 : Nat) : f5_P17 f5_b call n m0 = f5_T17 call n (f5_P9 f5_b call n m0) :=
  f5_o17 call n m0 _ (by kernel_rfl)
def f5_L17 (call : CallF) (n : Nat) (h_m0 : LB → LC → Nat → Int → LC → OR) : LB → LC → Nat → Int → LC → OR :=
  f5_T17 call n h_m0
theorem f5_e17 (call : CallF) (n : Nat) (m0 : Nat) : f5_P17 f5_b call n m0 = f5_L17 call n (f5_P9 f5_b call n m0) := by
  rw [f5_l17]; rfl
def f5_T18 (call : CallF) (n : Nat) (j9m : LB → LC → Nat → Int → LC → OR) (x0 : LB) (x1 : LC) (x2 : Nat) (x3 x4 : Int) (x5 : LC) : OR :=
  j9m x0 x1 x2 (IntKind.wrap .i64 (x3 + (1 : Int))) x5
theorem f5_o18 (call : CallF) (n : Nat) (m0 : Nat) (B : Code) (hB : B = f5_b) : f5_P18 B call n m0 = f5_T18 call n (f5_P9 B call n m0) := by
  subst hB; funext x0 x1 x2 x3 x4 x5; kernel_rfl
theorem f5_l18 (call : CallF) (n : Nat) (m0 : Nat) : f5_P18 f5_b call n m0 = f5_T18 call n (f5_P9 f5_b call n m0) :=
  f5_o18 call n m0 _ (by kernel_rfl)
def f5_L18 (call : CallF) (n : Nat) (h_m0 : LB → LC → Nat → Int → LC → OR) : LB → LC → Nat → Int → Int → LC → OR :=
  f5_T18 call n h_m0
theorem f5_e18 (call : CallF) (n : Nat) (m0 : Nat) : f5_P18 f5_b call n m0 = f5_L18 call n (f5_P9 f5_b call n m0) := by
  rw [f5_l18]; rfl
def f5_T15 (call : CallF) (n : Nat) (j17 : LB → LC → Nat → Int → LC → OR) (j18 : LB → LC → Nat → Int → Int → LC → OR) (x0 : LB) (x1 : LC) (x2 : Nat) (x3 x4 : Int) (x5 : Bool) (x6 : LC) : OR :=
  bif x5 then (
    guardB (decide (0 ≤ x3) && decide (Int.toNat x3 < x2)) (
      bif Nat.blt ((Int.toNat x3) * 1) x6.length then (
        j17 x0 x1 x2 x3 (x6.set ((Int.toNat x3) * 1) (.int .u8 (IntKind.wrap .u8 ((BitVec.toNat ((BitVec.ofInt (IntKind.bits .u8) x4) ^^^ (BitVec.ofInt (IntKind.bits .u8) (32 : Int))) : Nat) : Int))))) else none)) else (
    j18 x0 x1 x2 x3 x4 x6)
theorem f5_o15 (X0 : Code) (call : CallF) (n : Nat) (m0 : Nat) (B : Code) (hB : B = (hole f5_b [1, 1, 1, 1, 0, 1, 0, 0, 1, 1] X0)) : f5_P15 B call n m0 = f5_T15 call n (f5_P17 B call n m0) (f5_P18 B call n m0) := by
  subst hB; funext x0 x1 x2 x3 x4 x5 x6; cases x5 <;> kernel_rfl
theorem f5_l15 (call : CallF) (n : Nat) (m0 : Nat) : f5_P15 f5_b call n m0 = f5_T15 call n (f5_P17 f5_b call n m0) (f5_P18 f5_b call n m0) :=
  f5_o15 (piece [1, 1, 1, 1, 0, 1, 0, 0, 1, 1] f5_b) call n m0 _ (by kernel_rfl)
def f5_L15 (call : CallF) (n : Nat) (h_m0 : LB → LC → Nat → Int → LC → OR) : LB → LC → Nat → Int → Int → Bool → LC → OR :=
  f5_T15 call n (f5_L17 call n h_m0) (f5_L18 call n h_m0)
theorem f5_e15 (call : CallF) (n : Nat) (m0 : Nat) : f5_P15 f5_b call n m0 = f5_L15 call n (f5_P9 f5_b call n m0) := by
  rw [f5_l15, f5_e17, f5_e18]; rfl
def f5_T13 (call : CallF) (n : Nat) (j15 : LB → LC → Nat → Int → Int → Bool → LC → OR) (x0 : LB) (x1 : LC) (x2 : Nat) (x3 x4 : Int) (x5 : LC) : OR :=
  itemK x1 x3 fun c1 =>
  castB c1 fun b2 =>
  bif b2 then (
    bif (decide (x4 ≥ (97 : Int))) then (
      bif (decide (x4 ≤ (122 : Int))) then (
        callK call 18 [.one (.str x0), .one (.int .i64 x3)] fun v3 =>
        oB v3 fun b4 =>
        j15 x0 x1 x2 x3 x4 b4 x5) else (
        bif (decide (x4 ≥ (65 : Int))) then (
          bif (decide (x4 ≤ (90 : Int))) then (
            callK call 18 [.one (.str x0), .one (.int .i64 x3)] fun v5 =>
            oB v5 fun b6 =>
            j15 x0 x1 x2 x3 x4 b6 x5) else (
            j15 x0 x1 x2 x3 x4 false x5)) else (
          j15 x0 x1 x2 x3 x4 false x5))) else (
      bif (decide (x4 ≥ (65 : Int))) then (
        bif (decide (x4 ≤ (90 : Int))) then (
          callK call 18 [.one (.str x0), .one (.int .i64 x3)] fun v7 =>
          oB v7 fun b8 =>
          j15 x0 x1 x2 x3 x4 b8 x5) else (
          j15 x0 x1 x2 x3 x4 false x5)) else (
        j15 x0 x1 x2 x3 x4 false x5))) else (
    j15 x0 x1 x2 x3 x4 false x5)
theorem f5_o13 (X0 : Code) (call : CallF) (n : Nat) (m0 : Nat) (B : Code) (hB : B = (hole f5_b [1, 1, 1, 1, 0, 1, 0, 0, 1, 0, 0, 1, 1] X0)) : f5_P13 B call n m0 = f5_T13 call n (f5_P15 B call n m0) := by
  subst hB; funext x0 x1 x2 x3 x4 x5; kernel_rfl
theorem f5_l13 (call : CallF) (n : Nat) (m0 : Nat) : f5_P13 f5_b call n m0 = f5_T13 call n (f5_P15 f5_b call n m0) :=
  f5_o13 (piece [1, 1, 1, 1, 0, 1, 0, 0, 1, 0, 0, 1, 1] f5_b) call n m0 _ (by kernel_rfl)
def f5_L13 (call : CallF) (n : Nat) (h_m0 : LB → LC → Nat → Int → LC → OR) : LB → LC → Nat → Int → Int → LC → OR :=
  f5_T13 call n (f5_L15 call n h_m0)
theorem f5_e13 (call : CallF) (n : Nat) (m0 : Nat) : f5_P13 f5_b call n m0 = f5_L13 call n (f5_P9 f5_b call n m0) := by
  rw [f5_l13, f5_e15]; rfl
def f5_T11 (call : CallF) (n : Nat) (j13 : LB → LC → Nat → Int → Int → LC → OR) (x0 : LB) (x1 : LC) (x2 : Nat) (x3 : Int) (x4 : LC) : OR :=
  guardB (decide (0 ≤ x3) && decide (Int.toNat x3 < x2)) (
    rowAt x4 ((Int.toNat x3) * 1) fun c1 =>
    castI .u8 c1 fun n2 =>
    j13 x0 x1 x2 x3 n2 x4)
theorem f5_o11 (X0 : Code) (call : CallF) (n : Nat) (m0 : Nat) (B : Code) (hB : B = (hole f5_b [1, 1, 1, 1, 0, 1, 0, 0, 1, 0, 0, 1] X0)) : f5_P11 B call n m0 = f5_T11 call n (f5_P13 B call n m0) := by
  subst hB; funext x0 x1 x2 x3 x4; kernel_rfl
theorem f5_l11 (call : CallF) (n : Nat) (m0 : Nat) : f5_P11 f5_b call n m0 = f5_T11 call n (f5_P13 f5_b call n m0) :=
  f5_o11 (piece [1, 1, 1, 1, 0, 1, 0, 0, 1, 0, 0, 1] f5_b) call n m0 _ (by kernel_rfl)
def f5_L11 (call : CallF) (n : Nat) (h_m0 : LB → LC → Nat → Int → LC → OR) : LB → LC → Nat → Int → LC → OR :=
  f5_T11 call n (f5_L13 call n h_m0)
theorem f5_e11 (call : CallF) (n : Nat) (m0 : Nat) : f5_P11 f5_b call n m0 = f5_L11 call n (f5_P9 f5_b call n m0) := by
  rw [f5_l11, f5_e13]; rfl
def f5_T19 (call : CallF) (n : Nat) (x0 : Bool) : OR :=
  some (.one (.bool x0), [])
theorem f5_o19 (call : CallF) (n : Nat) (B : Code) (hB : B = f5_b) : f5_P19 B call n = f5_T19 call n := by
  subst hB; funext x0; kernel_rfl
theorem f5_l19 (call : CallF) (n : Nat) : f5_P19 f5_b call n = f5_T19 call n :=
  f5_o19 call n _ (by kernel_rfl)
def f5_L19 (call : CallF) (n : Nat) : Bool → OR :=
  f5_T19 call n
theorem f5_e19 (call : CallF) (n : Nat) : f5_P19 f5_b call n = f5_L19 call n := by
  rw [f5_l19]; rfl
def f5_T16 (call : CallF) (n : Nat) (j19 : Bool → OR) (x0 x1 : Int) (x2 : LC) (x3 x4 : S_api_Cmd) : OR :=
  bif ((x3.fVerb == x4.fVerb) && ((x3.fArg == x4.fArg) && (((x3.fPath_Local == x4.fPath_Local) && ((x3.fPath_Domain == x4.fPath_Domain) && true)) && ((x3.fNull == x4.fNull) && ((x3.fSize == x4.fSize) && ((x3.fBody == x4.fBody) && true)))))) then (
    j19 (x0 == x1)) else (
    j19 false)
theorem f5_o16 (X0 : Code) (call : CallF) (n : Nat) (B : Code) (hB : B = (hole f5_b [1, 1, 1, 1, 1, 1, 1, 1] X0)) : f5_P16 B call n = f5_T16 call n (f5_P19 B call n) := by
  subst hB; funext x0 x1 x2 x3 x4; kernel_rfl
theorem f5_l16 (call : CallF) (n : Nat) : f5_P16 f5_b call n = f5_T16 call n (f5_P19 f5_b call n) :=
  f5_o16 (piece [1, 1, 1, 1, 1, 1, 1, 1] f5_b) call n _ (by kernel_rfl)
def f5_L16 (call : CallF) (n : Nat) : Int → Int → LC → S_api_Cmd → S_api_Cmd → OR :=
  f5_T16 call n (f5_L19 call n)
theorem f5_e16 (call : CallF) (n : Nat) : f5_P16 f5_b call n = f5_L16 call n := by
  rw [f5_l16, f5_e19]; rfl
def f5_T14 (call : CallF) (n : Nat) (j16 : Int → Int → LC → S_api_Cmd → S_api_Cmd → OR) (x0 : Nat) (x1 : Int) (x2 : LC) (x3 : S_api_Cmd) : OR :=
  bif Nat.ble x0 x2.length then (
    bytesK (x2.take x0) fun s1 =>
    callK call 19 [.one (.str s1)] fun v2 =>
    castTup v2 fun v3 =>
    consK v3 fun z4 r5 =>
    aggV z4 fun r6 =>
    takeS_api_Cmd r6 fun w7 r8 =>
    nilK r8 (
      zI .i64 r5 fun n9 r10 =>
      nilK r10 (
        j16 x1 n9 x2 x3 w7))) else none
theorem f5_o14 (X0 : Code) (call : CallF) (n : Nat) (B : Code) (hB : B = (hole f5_b [1, 1, 1, 1, 1, 1, 1] X0)) : f5_P14 B call n = f5_T14 call n (f5_P16 B call n) := by
  subst hB; funext x0 x1 x2 x3; kernel_rfl
theorem f5_l14 (call : CallF) (n : Nat) : f5_P14 f5_b call n = f5_T14 call n (f5_P16 f5_b call n) :=
  f5_o14 (piece [1, 1, 1, 1, 1, 1, 1] f5_b) call n _ (by kernel_rfl)
def f5_L14 (call : CallF) (n : Nat) : Nat → Int → LC → S_api_Cmd → OR :=
  f5_T14 call n (f5_L16 call n)
theorem f5_e14 (call : CallF) (n : Nat) : f5_P14 f5_b call n = f5_L14 call n := by
  rw [f5_l14, f5_e16]; rfl
def f5_T12 (call : CallF) (n : Nat) (j14 : Nat → Int → LC → S_api_Cmd → OR) (x0 : LB) (x1 : LC) (x2 : Nat) (x3 : Int) (x4 : LC) : OR :=
  callK call 19 [.one (.str x0)] fun v1 =>
  castTup v1 fun v2 =>
  consK v2 fun z3 r4 =>
  aggV z3 fun r5 =>
  takeS_api_Cmd r5 fun w6 r7 =>
  nilK r7 (
    zI .i64 r4 fun n8 r9 =>
    nilK r9 (
      j14 x2 n8 x4 w6))
theorem f5_o12 (X0 : Code) (call : CallF) (n : Nat) (B : Code) (hB : B = (hole f5_b [1, 1, 1, 1, 1, 1] X0)) : f5_P12 B call n = f5_T12 call n (f5_P14 B call n) := by
  subst hB; funext x0 x1 x2 x3 x4; kernel_rfl
theorem f5_l12 (call : CallF) (n : Nat) : f5_P12 f5_b call n = f5_T12 call n (f5_P14 f5_b call n) :=
  f5_o12 (piece [1, 1, 1, 1, 1, 1] f5_b) call n _ (by kernel_rfl)
def f5_L12 (call : CallF) (n : Nat) : LB → LC → Nat → Int → LC → OR :=
  f5_T12 call n (f5_L14 call n)
theorem f5_e12 (call : CallF) (n : Nat) : f5_P12 f5_b call n = f5_L12 call n := by
  rw [f5_l12, f5_e14]; rfl
def f5_T10 (call : CallF) (n : Nat) (j11 : LB → LC → Nat → Int → LC → OR) (j12 : LB → LC → Nat → Int → LC → OR) (x0 : LB) (x1 : LC) (x2 : Nat) (x3 : Int) (x4 : Bool) (x5 : LC) : OR :=
  bif x4 then (
    j11 x0 x1 x2 x3 x5) else (
    j12 x0 x1 x2 x3 x5)
theorem f5_o10 (X0 X1 : Code) (call : CallF) (n : Nat) (m0 : Nat) (B : Code) (hB : B = (hole (hole f5_b [1, 1, 1, 1, 0, 1, 0, 0, 1] X0) [1, 1, 1, 1, 1] X1)) : f5_P10 B call n m0 = f5_T10 call n (f5_P11 B call n m0) (f5_P12 B call n) := by
  subst hB; funext x0 x1 x2 x3 x4 x5; cases x4 <;> kernel_rfl
theorem f5_l10 (call : CallF) (n : Nat) (m0 : Nat) : f5_P10 f5_b call n m0 = f5_T10 call n (f5_P11 f5_b call n m0) (f5_P12 f5_b call n) :=
  f5_o10 (piece [1, 1, 1, 1, 0, 1, 0, 0, 1] f5_b) (piece [1, 1, 1, 1, 1] f5_b) call n m0 _ (by kernel_rfl)
def f5_L10 (call : CallF) (n : Nat) (h_m0 : LB → LC → Nat → Int → LC → OR) : LB → LC → Nat → Int → Bool → LC → OR :=
  f5_T10 call n (f5_L11 call n h_m0) (f5_L12 call n)
theorem f5_e10 (call : CallF) (n : Nat) (m0 : Nat) : f5_P10 f5_b call n m0 = f5_L10 call n (f5_P9 f5_b call n m0) := by
  rw [f5_l10, f5_e11, f5_e12]; rfl
def f5_T9 (call : CallF) (n : Nat) (j10 : LB → LC → Nat → Int → Bool → LC → OR) (x0 : LB) (x1 : LC) (x2 : Nat) (x3 : Int) (x4 : LC) : OR :=
  bif (decide (x3 < (((x1).length / 1 : Nat) : Int))) then (
    bif (decide (x3 < (x2 : Int))) then (
      guardB (decide (0 ≤ x3) && decide (Int.toNat x3 < x2)) (
        rowAt x4 ((Int.toNat x3) * 1) fun c1 =>
        castI .u8 c1 fun n2 =>
        j10 x0 x1 x2 x3 (n2 != (58 : Int)) x4)) else (
      j10 x0 x1 x2 x3 false x4)) else (
    j10 x0 x1 x2 x3 false x4)
theorem f5_o9 (X0 : Code) (call : CallF) (n : Nat) (m0 : Nat) (B : Code) (hB : B = (hole f5_b [1, 1, 1, 1, 0, 1, 0, 0, 0, 1] X0)) : f5_P9 B call n (m0 + 1) = f5_T9 call n (f5_P10 B call n m0) := by
  subst hB; funext x0 x1 x2 x3 x4; kernel_rfl
theorem f5_l9 (call : CallF) (n : Nat) (m0 : Nat) : f5_P9 f5_b call n (m0 + 1) = f5_T9 call n (f5_P10 f5_b call n m0) :=
  f5_o9 (piece [1, 1, 1, 1, 0, 1, 0, 0, 0, 1] f5_b) call n m0 _ (by kernel_rfl)
def f5_L9 (call : CallF) (n : Nat) : Nat → LB → LC → Nat → Int → LC → OR
  | 0 => fun _ _ _ _ _ => none
  | m0 + 1 => f5_T9 call n (f5_L10 call n (f5_L9 call n m0))
theorem f5_e9 (call : CallF) (n : Nat) : ∀ m0 : Nat, f5_P9 f5_b call n m0 = f5_L9 call n m0
  | 0 => by funext x0 x1 x2 x3 x4; kernel_rfl
  | m0 + 1 => by rw [f5_l9, f5_e10, f5_e9 call n m0]; rfl
def f5_T4 (call : CallF) (n : Nat) (j8 : Bool → OR) (j9n : LB → LC → Nat → Int → LC → OR) (x0 : LB) (x1 : LC) (x2 : Bool) : OR :=
  bif x2 then (
    j8 true) else (
    j9n x0 x1 (x0.length) (0 : Int) (byteCells x0))
theorem f5_o4 (X0 : Code) (call : CallF) (n : Nat) (B : Code) (hB : B = (hole f5_b [1, 1, 0, 1, 0, 1] X0)) : f5_P4 B call n = f5_T4 call n (f5_P8 B call n) (f5_P9 B call n n) := by
  subst hB; funext x0 x1 x2; cases x2 <;> kernel_rfl
theorem f5_l4 (call : CallF) (n : Nat) : f5_P4 f5_b call n = f5_T4 call n (f5_P8 f5_b call n) (f5_P9 f5_b call n n) :=
  f5_o4 (piece [1, 1, 0, 1, 0, 1] f5_b) call n _ (by kernel_rfl)
def f5_L4 (call : CallF) (n : Nat) : LB → LC → Bool → OR :=
  f5_T4 call n (f5_L8 call n) (f5_L9 call n n)
theorem f5_e4 (call : CallF) (n : Nat) : f5_P4 f5_b call n = f5_L4 call n := by
  rw [f5_l4, f5_e8, f5_e9]; rfl
/-- pigeonhole/pigeonholelaw06.CmdLetters -/
def f5_T (call : CallF) (n : Nat) (j4 : LB → LC → Bool → OR) (a0 : LB) (a1 : LC) : OR :=
  callK call 17 [] fun v34 =>
  oB v34 fun b35 =>
  bif (!b35) then (
    some (.one (.bool false), [])) else (
    bif (decide (((a0).length : Int) > (700 : Int))) then (
      j4 a0 a1 true) else (
      j4 a0 a1 (decide ((((a1).length / 1 : Nat) : Int) > (10 : Int)))))
def f5_L (call : CallF) (n : Nat) (a0 : LB) (a1 : LC) : OR :=
  f5_T call n (f5_L4 call n) a0 a1
theorem f5_o (X0 : Code) (call : CallF) (n : Nat) (B : Code) (hB : B = (hole f5_b [1, 1, 0, 1] X0)) : f5_P B call n = f5_T call n (f5_P4 B call n) := by
  subst hB; funext a0 a1; kernel_rfl
theorem f5_l (call : CallF) (n : Nat) : f5_P f5_b call n = f5_T call n (f5_P4 f5_b call n) :=
  f5_o (piece [1, 1, 0, 1] f5_b) call n _ (by kernel_rfl)
theorem f5_e (call : CallF) (n : Nat) : f5_P f5_b call n = f5_L call n := by
  rw [f5_l, f5_e4]; rfl
theorem f5_eq (n : Nat) (a0 : LB) (a1 : LC) : acall AXE AXF (n + 1) 5 [.one (.str a0), .one (.sl none 1 a1)] [] = f5_L (acall AXE AXF n) (n + 1) a0 a1 :=
  (show _ = f5_P f5_b (acall AXE AXF n) (n + 1) a0 a1 by kernel_rfl).trans (by rw [f5_e])
def f6_P8 (B : Code) (call : CallF) (n : Nat) (x0 : Bool) : OR :=
  f6_x B call n [1, 1, 0, 1, 0, 1] (kSeq (f6_x B call n [1, 1, 1]) (kEnd AXE 0 f6_r)) ⟨[(6, .one (.bool x0))], []⟩
def f6_P19 (B : Code) (call : CallF) (n : Nat) (x0 : Bool) : OR :=
  f6_x B call n [1, 1, 1, 1, 1, 1, 1, 0, 1, 0, 1] (kSeq (f6_x B call n [1, 1, 1, 1, 1, 1, 1, 1]) (kEnd AXE 0 f6_r)) ⟨[(6, .one (.bool x0))], []⟩
def f6_P20 (B : Code) (call : CallF) (n : Nat) (x0 : Bool) : OR :=
  f6_x B call n [1, 1, 1, 1, 1, 1, 1, 1, 1] (kEnd AXE 0 f6_r) ⟨[(6, .one (.bool x0))], []⟩
def f6_P17 (B : Code) (call : CallF) (n : Nat) (x0 : Nat) (x1 : Int) (x2 : Bool) (x3 : LC) (x4 : S_api_Cmd) : OR :=
  f6_x B call n [1, 1, 1, 1, 1, 1, 1, 0, 1] (kSeq (f6_x B call n [1, 1, 1, 1, 1, 1, 1, 1]) (kEnd AXE 0 f6_r)) ⟨[(7, .one (.bsl 0 1 x0)), (9, .one (.ptr 1 0)), (10, .one (.int .i64 x1)), (66, .one (.bool x2))], [[.row x3], x4.cells]⟩
def f6_P16 (B : Code) (call : CallF) (n : Nat) (x0 x1 x2 : Int) (x3 : Nat) (x4 : Int) (x5 : LC) (x6 : S_api_Cmd) : OR :=
  f6_x B call n [1, 1, 1, 1, 1, 1, 1] (kEnd AXE 0 f6_r) ⟨[(0, .one (.int .i64 x0)), (1, .one (.int .i64 x1)), (2, .one (.int .u8 x2)), (7, .one (.bsl 0 1 x3)), (9, .one (.ptr 1 0)), (10, .one (.int .i64 x4))], [[.row x5], x6.cells]⟩
def f6_P15 (B : Code) (call : CallF) (n : Nat) (x0 x1 x2 : Int) (x3 : Nat) (x4 : LC) : OR :=
  f6_x B call n [1, 1, 1, 1, 1, 1] (kEnd AXE 0 f6_r) ⟨[(0, .one (.int .i64 x0)), (1, .one (.int .i64 x1)), (2, .one (.int .u8 x2)), (7, .one (.bsl 0 1 x3))], [[.row x4]]⟩
def f6_P14 (B : Code) (call : CallF) (n : Nat) (x0 x1 x2 : Int) (x3 : Nat) (x4 : Bool) (x5 : LC) : OR :=
  f6_x B call n [1, 1, 1, 1, 1, 0, 1] (kSeq (f6_x B call n [1, 1, 1, 1, 1, 1]) (kEnd AXE 0 f6_r)) ⟨[(0, .one (.int .i64 x0)), (1, .one (.int .i64 x1)), (2, .one (.int .u8 x2)), (7, .one (.bsl 0 1 x3)), (35, .one (.bool x4))], [[.row x5]]⟩
def f6_P9 (B : Code) (call : CallF) (n : Nat) (m0 : Nat) (x0 x1 x2 : Int) (x3 : Nat) (x4 : Int) (x5 : LC) : OR :=
  aloop 1000007 (pruneAt f6_h 1000007) (f6_x B call n [1, 1, 1, 1, 0, 1, 0, 0]) (kBlk 0 (kSeq (f6_x B call n [1, 1, 1, 1, 1]) (kEnd AXE 0 f6_r))) m0 ⟨[(0, .one (.int .i64 x0)), (1, .one (.int .i64 x1)), (2, .one (.int .u8 x2)), (7, .one (.bsl 0 1 x3)), (8, .one (.int .i64 x4))], [[.row x5]]⟩
def f6_P4 (B : Code) (call : CallF) (n : Nat) (x0 x1 x2 : Int) (x3 : Bool) : OR :=
  f6_x B call n [1, 1, 0, 1] (kSeq (f6_x B call n [1, 1, 1]) (kEnd AXE 0 f6_r)) ⟨[(0, .one (.int .i64 x0)), (1, .one (.int .i64 x1)), (2, .one (.int .u8 x2)), (18, .one (.bool x3))], []⟩
def f6_P (B : Code) (call : CallF) (n : Nat) (a0 a1 a2 : Int) : OR :=
  f6_x B call n [] (kEnd AXE 0 f6_r) ⟨[(0, .one (.int .i64 a0)), (1, .one (.int .i64 a1)), (2, .one (.int .u8 a2))], []⟩
def f6_T8 (call : CallF) (n : Nat) (x0 : Bool) : OR :=
  some (.one (.bool x0), [])
theorem f6_o8 (call : CallF) (n : Nat) (B : Code) (hB : B = f6_b) : f6_P8 B call n = f6_T8 call n := by
  subst hB; funext x0; kernel_rfl
theorem f6_l8 (call : CallF) (n : Nat) : f6_P8 f6_b call n = f6_T8 call n :=
  f6_o8 call n _ (by kernel_rfl)
def f6_L8 (call : CallF) (n : Nat) : Bool → OR :=
  f6_T8 call n
theorem f6_e8 (call : CallF) (n : Nat) : f6_P8 f6_b call n = f6_L8 call n := by
  rw [f6_l8]; rfl
def f6_T19 (call : CallF) (n : Nat) (x0 : Bool) : OR :=
  some (.one (.bool x0), [])
theorem f6_o19 (call : CallF) (n : Nat) (B : Code) (hB : B = f6_b) : f6_P19 B call n = f6_T19 call n := by
  subst hB; funext x0; kernel_rfl
theorem f6_l19 (call : CallF) (n : Nat) : f6_P19 f6_b call n = f6_T19 call n :=
  f6_o19 call n _ (by kernel_rfl)
def f6_L19 (call : CallF) (n : Nat) : Bool → OR :=
  f6_T19 call n
theorem f6_e19 (call : CallF) (n : Nat) : f6_P19 f6_b call n = f6_L19 call n := by
  rw [f6_l19]; rfl
def f6_T20 (call : CallF) (n : Nat) (x0 : Bool) : OR :=
  some (.one (.bool x0), [])
theorem f6_o20 (call : CallF) (n : Nat) (B : Code) (hB : B = f6_b) : f6_P20 B call n = f6_T20 call n := by
  subst hB; funext x0; kernel_rfl
theorem f6_l20 (call : CallF) (n : Nat) : f6_P20 f6_b call n = f6_T20 call n :=
  f6_o20 call n _ (by kernel_rfl)
def f6_L20 (call : CallF) (n : Nat) : Bool → OR :=
  f6_T20 call n
theorem f6_e20 (call : CallF) (n : Nat) : f6_P20 f6_b call n = f6_L20 call n := by
  rw [f6_l20]; rfl
def f6_T17 (call : CallF) (n : Nat) (j19 : Bool → OR) (j20 : Bool → OR) (x0 : Nat) (x1 : Int) (x2 : Bool) (x3 : LC) (x4 : S_api_Cmd) : OR :=
  bif x2 then (
    bif (x1 == (500 : Int)) then (
      j19 ((x4.fVerb == (0 : Int)) && ((x4.fArg == ([] : List UInt8)) && (((x4.fPath_Local == ([] : List UInt8)) && ((x4.fPath_Domain == ([] : List UInt8)) && true)) && ((x4.fNull == false) && ((x4.fSize == (0 : Int)) && ((x4.fBody == (0 : Int)) && true))))))) else (
      j19 false)) else (
    bif (x1 == (0 : Int)) then (
      bif (x4.fVerb == (8 : Int)) then (
        bif Nat.ble x0 x3.length then (
          bytesK (x3.take x0) fun s1 =>
          j20 (x4.fArg == s1)) else none) else (
        j20 false)) else (
      j20 false))
theorem f6_o17 (X0 X1 : Code) (call : CallF) (n : Nat) (B : Code) (hB : B = (hole (hole f6_b [1, 1, 1, 1, 1, 1, 1, 0, 1, 0, 1] X0) [1, 1, 1, 1, 1, 1, 1, 1, 1] X1)) : f6_P17 B call n = f6_T17 call n (f6_P19 B call n) (f6_P20 B call n) := by
  subst hB; funext x0 x1 x2 x3 x4; cases x2 <;> kernel_rfl
theorem f6_l17 (call : CallF) (n : Nat) : f6_P17 f6_b call n = f6_T17 call n (f6_P19 f6_b call n) (f6_P20 f6_b call n) :=
  f6_o17 (piece [1, 1, 1, 1, 1, 1, 1, 0, 1, 0, 1] f6_b) (piece [1, 1, 1, 1, 1, 1, 1, 1, 1] f6_b) call n _ (by kernel_rfl)
def f6_L17 (call : CallF) (n : Nat) : Nat → Int → Bool → LC → S_api_Cmd → OR :=
  f6_T17 call n (f6_L19 call n) (f6_L20 call n)
theorem f6_e17 (call : CallF) (n : Nat) : f6_P17 f6_b call n = f6_L17 call n := by
  rw [f6_l17, f6_e19, f6_e20]; rfl
def f6_T16 (call : CallF) (n : Nat) (j17 : Nat → Int → Bool → LC → S_api_Cmd → OR) (x0 x1 x2 : Int) (x3 : Nat) (x4 : Int) (x5 : LC) (x6 : S_api_Cmd) : OR :=
  bif (decide ((IntKind.wrap .i64 ((5 : Int) + x0)) > (510 : Int))) then (
    j17 x3 x4 true x5 x6) else (
    bif (decide (x1 ≥ (0 : Int))) then (
      bif (decide (x1 < x0)) then (
        bif (decide (x2 < (32 : Int))) then (
          j17 x3 x4 true x5 x6) else (
          j17 x3 x4 (decide (x2 > (126 : Int))) x5 x6)) else (
        j17 x3 x4 false x5 x6)) else (
      j17 x3 x4 false x5 x6))
theorem f6_o16 (X0 : Code) (call : CallF) (n : Nat) (B : Code) (hB : B = (hole f6_b [1, 1, 1, 1, 1, 1, 1, 0, 1] X0)) : f6_P16 B call n = f6_T16 call n (f6_P17 B call n) := by
  subst hB; funext x0 x1 x2 x3 x4 x5 x6; kernel_rfl
theorem f6_l16 (call : CallF) (n : Nat) : f6_P16 f6_b call n = f6_T16 call n (f6_P17 f6_b call n) :=
  f6_o16 (piece [1, 1, 1, 1, 1, 1, 1, 0, 1] f6_b) call n _ (by kernel_rfl)
def f6_L16 (call : CallF) (n : Nat) : Int → Int → Int → Nat → Int → LC → S_api_Cmd → OR :=
  f6_T16 call n (f6_L17 call n)
theorem f6_e16 (call : CallF) (n : Nat) : f6_P16 f6_b call n = f6_L16 call n := by
  rw [f6_l16, f6_e17]; rfl
def f6_T15 (call : CallF) (n : Nat) (j16 : Int → Int → Int → Nat → Int → LC → S_api_Cmd → OR) (x0 x1 x2 : Int) (x3 : Nat) (x4 : LC) : OR :=
  bif Nat.ble x3 x4.length then (
    bytesK (x4.take x3) fun s1 =>
    bif decide ((([78, 79, 79, 80, 32] : List UInt8)).length + (s1).length ≤ strLim) then (
      callK call 19 [.one (.str (([78, 79, 79, 80, 32] : List UInt8) ++ s1))] fun v2 =>
      castTup v2 fun v3 =>
      consK v3 fun z4 r5 =>
      aggV z4 fun r6 =>
      takeS_api_Cmd r6 fun w7 r8 =>
      nilK r8 (
        zI .i64 r5 fun n9 r10 =>
        nilK r10 (
          j16 x0 x1 x2 x3 n9 x4 w7))) else none) else none
theorem f6_o15 (X0 : Code) (call : CallF) (n : Nat) (B : Code) (hB : B = (hole f6_b [1, 1, 1, 1, 1, 1, 1] X0)) : f6_P15 B call n = f6_T15 call n (f6_P16 B call n) := by
  subst hB; funext x0 x1 x2 x3 x4; kernel_rfl
theorem f6_l15 (call : CallF) (n : Nat) : f6_P15 f6_b call n = f6_T15 call n (f6_P16 f6_b call n) :=
  f6_o15 (piece [1, 1, 1, 1, 1, 1, 1] f6_b) call n _ (by kernel_rfl)
def f6_L15 (call : CallF) (n : Nat) : Int → Int → Int → Nat → LC → OR :=
  f6_T15 call n (f6_L16 call n)
theorem f6_e15 (call : CallF) (n : Nat) : f6_P15 f6_b call n = f6_L15 call n := by
  rw [f6_l15, f6_e16]; rfl
def f6_T14 (call : CallF) (n : Nat) (j15 : Int → Int → Int → Nat → LC → OR) (x0 x1 x2 : Int) (x3 : Nat) (x4 : Bool) (x5 : LC) : OR :=
  bif x4 then (
    guardB (decide (0 ≤ x1) && decide (Int.toNat x1 < x3)) (
      bif Nat.blt ((Int.toNat x1) * 1) x5.length then (
        j15 x0 x1 x2 x3 (x5.set ((Int.toNat x1) * 1) (.int .u8 x2))) else none)) else (
    j15 x0 x1 x2 x3 x5)
theorem f6_o14 (X0 : Code) (call : CallF) (n : Nat) (B : Code) (hB : B = (hole f6_b [1, 1, 1, 1, 1, 1] X0)) : f6_P14 B call n = f6_T14 call n (f6_P15 B call n) := by
  subst hB; funext x0 x1 x2 x3 x4 x5; cases x4 <;> kernel_rfl
theorem f6_l14 (call : CallF) (n : Nat) : f6_P14 f6_b call n = f6_T14 call n (f6_P15 f6_b call n) :=
  f6_o14 (piece [1, 1, 1, 1, 1, 1] f6_b) call n _ (by kernel_rfl)
def f6_L14 (call : CallF) (n : Nat) : Int → Int → Int → Nat → Bool → LC → OR :=
  f6_T14 call n (f6_L15 call n)
theorem f6_e14 (call : CallF) (n : Nat) : f6_P14 f6_b call n = f6_L14 call n := by
  rw [f6_l14, f6_e15]; rfl
def f6_T9 (call : CallF) (n : Nat) (j9m : Int → Int → Int → Nat → Int → LC → OR) (j14 : Int → Int → Int → Nat → Bool → LC → OR) (x0 x1 x2 : Int) (x3 : Nat) (x4 : Int) (x5 : LC) : OR :=
  bif (decide (x4 < x0)) then (
    guardB (decide (0 ≤ x4) && decide (Int.toNat x4 < x3)) (
      bif Nat.blt ((Int.toNat x4) * 1) x5.length then (
        j9m x0 x1 x2 x3 (IntKind.wrap .i64 (x4 + (1 : Int))) (x5.set ((Int.toNat x4) * 1) (.int .u8 (97 : Int)))) else none)) else (
    bif (decide (x1 ≥ (0 : Int))) then (
      j14 x0 x1 x2 x3 (decide (x1 < x0)) x5) else (
      j14 x0 x1 x2 x3 false x5))
theorem f6_o9 (X0 : Code) (call : CallF) (n : Nat) (m0 : Nat) (B : Code) (hB : B = (hole f6_b [1, 1, 1, 1, 1, 0, 1] X0)) : f6_P9 B call n (m0 + 1) = f6_T9 call n (f6_P9 B call n m0) (f6_P14 B call n) := by
  subst hB; funext x0 x1 x2 x3 x4 x5; kernel_rfl
theorem f6_l9 (call : CallF) (n : Nat) (m0 : Nat) : f6_P9 f6_b call n (m0 + 1) = f6_T9 call n (f6_P9 f6_b call n m0) (f6_P14 f6_b call n) :=
  f6_o9 (piece [1, 1, 1, 1, 1, 0, 1] f6_b) call n m0 _ (by kernel_rfl)
def f6_L9 (call : CallF) (n : Nat) : Nat → Int → Int → Int → Nat → Int → LC → OR
  | 0 => fun _ _ _ _ _ _ => none
  | m0 + 1 => f6_T9 call n (f6_L9 call n m0) (f6_L14 call n)
theorem f6_e9 (call : CallF) (n : Nat) : ∀ m0 : Nat, f6_P9 f6_b call n m0 = f6_L9 call n m0
  | 0 => by funext x0 x1 x2 x3 x4 x5; kernel_rfl
  | m0 + 1 => by rw [f6_l9, f6_e14, f6_e9 call n m0]; rfl
def f6_T4 (call : CallF) (n : Nat) (j8 : Bool → OR) (j9n : Int → Int → Int → Nat → Int → LC → OR) (x0 x1 x2 : Int) (x3 : Bool) : OR :=
  bif x3 then (
    j8 true) else (
    bif decide (IntKind.i64 = .i64) && decide (IntKind.i64 = .i64) && decide (x0 = x0) && decide (0 ≤ x0) && decide ((Int.toNat x0) * 1 ≤ 1000000) then (
      j9n x0 x1 x2 (Int.toNat x0) (0 : Int) ((List.replicate (Int.toNat x0) ([.int .u8 (0 : Int)] : List Cell)).flatten)) else none)
theorem f6_o4 (X0 : Code) (call : CallF) (n : Nat) (B : Code) (hB : B = (hole f6_b [1, 1, 0, 1, 0, 1] X0)) : f6_P4 B call n = f6_T4 call n (f6_P8 B call n) (f6_P9 B call n n) := by
  subst hB; funext x0 x1 x2 x3; cases x3 <;> kernel_rfl
theorem f6_l4 (call : CallF) (n : Nat) : f6_P4 f6_b call n = f6_T4 call n (f6_P8 f6_b call n) (f6_P9 f6_b call n n) :=
  f6_o4 (piece [1, 1, 0, 1, 0, 1] f6_b) call n _ (by kernel_rfl)
def f6_L4 (call : CallF) (n : Nat) : Int → Int → Int → Bool → OR :=
  f6_T4 call n (f6_L8 call n) (f6_L9 call n n)
theorem f6_e4 (call : CallF) (n : Nat) : f6_P4 f6_b call n = f6_L4 call n := by
  rw [f6_l4, f6_e8, f6_e9]; rfl
/-- pigeonhole/pigeonholelaw06.CmdMost -/
def f6_T (call : CallF) (n : Nat) (j4 : Int → Int → Int → Bool → OR) (a0 a1 a2 : Int) : OR :=
  callK call 17 [] fun v14 =>
  oB v14 fun b15 =>
  bif (!b15) then (
    some (.one (.bool false), [])) else (
    bif (decide (a0 < (0 : Int))) then (
      j4 a0 a1 a2 true) else (
      j4 a0 a1 a2 (decide (a0 > (600 : Int)))))
def f6_L (call : CallF) (n : Nat) (a0 a1 a2 : Int) : OR :=
  f6_T call n (f6_L4 call n) a0 a1 a2
theorem f6_o (X0 : Code) (call : CallF) (n : Nat) (B : Code) (hB : B = (hole f6_b [1, 1, 0, 1] X0)) : f6_P B call n = f6_T call n (f6_P4 B call n) := by
  subst hB; funext a0 a1 a2; kernel_rfl
theorem f6_l (call : CallF) (n : Nat) : f6_P f6_b call n = f6_T call n (f6_P4 f6_b call n) :=
  f6_o (piece [1, 1, 0, 1] f6_b) call n _ (by kernel_rfl)
theorem f6_e (call : CallF) (n : Nat) : f6_P f6_b call n = f6_L call n := by
  rw [f6_l, f6_e4]; rfl
theorem f6_eq (n : Nat) (a0 a1 a2 : Int) : acall AXE AXF (n + 1) 6 [.one (.int .i64 a0), .one (.int .i64 a1), .one (.int .u8 a2)] [] = f6_L (acall AXE AXF n) (n + 1) a0 a1 a2 :=
  (show _ = f6_P f6_b (acall AXE AXF n) (n + 1) a0 a1 a2 by kernel_rfl).trans (by rw [f6_e])
def f17_P5 (B : Code) (call : CallF) (n : Nat) (x0 : Bool) : OR :=
  f17_x B call n [1, 1, 1, 1, 1, 1] (kEnd AXE 0 f17_r) ⟨[(0, .one (.bool x0))], []⟩
def f17_P (B : Code) (call : CallF) (n : Nat) : OR :=
  f17_x B call n [] (kEnd AXE 0 f17_r) ⟨[], []⟩
def f17_T5 (call : CallF) (n : Nat) (x0 : Bool) : OR :=
  some (.one (.bool x0), [])
theorem f17_o5 (call : CallF) (n : Nat) (B : Code) (hB : B = f17_b) : f17_P5 B call n = f17_T5 call n := by
  subst hB; funext x0; kernel_rfl
theorem f17_l5 (call : CallF) (n : Nat) : f17_P5 f17_b call n = f17_T5 call n :=
  f17_o5 call n _ (by kernel_rfl)
def f17_L5 (call : CallF) (n : Nat) : Bool → OR :=
  f17_T5 call n
theorem f17_e5 (call : CallF) (n : Nat) : f17_P5 f17_b call n = f17_L5 call n := by
  rw [f17_l5]; rfl
/-- pigeonhole/pigeonholelaw06.awake -/
def f17_T (call : CallF) (n : Nat) (j5 : Bool → OR) : OR :=
  callK call 19 [.one (.str ([109, 97, 105, 108, 32, 102, 114, 111, 109, 58, 60, 97, 64, 120, 62, 32, 115, 105, 122, 101, 61, 53] : List UInt8))] fun v37 =>
  castTup v37 fun v38 =>
  consK v38 fun z39 r40 =>
  aggV z39 fun r41 =>
  takeS_api_Cmd r41 fun w42 r43 =>
  nilK r43 (
    zI .i64 r40 fun n44 r45 =>
    nilK r45 (
      callK call 19 [.one (.str ([77, 65, 73, 76, 32, 70, 82, 79, 77, 58, 32, 60, 97, 64, 120, 62] : List UInt8))] fun v46 =>
      castTup v46 fun v47 =>
      consK v47 fun z48 r49 =>
      aggV z48 fun r50 =>
      takeS_api_Cmd r50 fun w51 r52 =>
      nilK r52 (
        zI .i64 r49 fun n53 r54 =>
        nilK r54 (
          callK call 19 [.one (.str ([82, 67, 80, 84, 32, 84, 79, 58, 60, 97, 64, 120, 62, 32, 88] : List UInt8))] fun v55 =>
          castTup v55 fun v56 =>
          consK v56 fun z57 r58 =>
          aggV z57 fun r59 =>
          takeS_api_Cmd r59 fun w60 r61 =>
          nilK r61 (
            zI .i64 r58 fun n62 r63 =>
            nilK r63 (
              callK call 19 [.one (.str ([70, 79, 79] : List UInt8))] fun v64 =>
              castTup v64 fun v65 =>
              consK v65 fun z66 r67 =>
              aggV z66 fun r68 =>
              takeS_api_Cmd r68 fun w69 r70 =>
              nilK r70 (
                zI .i64 r67 fun n71 r72 =>
                nilK r72 (
                  bif (n44 == (0 : Int)) then (
                    bif (w42.fVerb == (4 : Int)) then (
                      bif (w42.fPath_Local == ([97] : List UInt8)) then (
                        bif (w42.fSize == (5 : Int)) then (
                          bif (!w42.fNull) then (
                            bif (n53 == (501 : Int)) then (
                              bif (n62 == (555 : Int)) then (
                                j5 (n71 == (500 : Int))) else (
                                j5 false)) else (
                              j5 false)) else (
                            j5 false)) else (
                          j5 false)) else (
                        j5 false)) else (
                      j5 false)) else (
                    j5 false)))))))))
def f17_L (call : CallF) (n : Nat) : OR :=
  f17_T call n (f17_L5 call n)
theorem f17_o (X0 : Code) (call : CallF) (n : Nat) (B : Code) (hB : B = (hole f17_b [1, 1, 1, 1, 1, 1] X0)) : f17_P B call n = f17_T call n (f17_P5 B call n) := by
  subst hB; kernel_rfl
theorem f17_l (call : CallF) (n : Nat) : f17_P f17_b call n = f17_T call n (f17_P5 f17_b call n) :=
  f17_o (piece [1, 1, 1, 1, 1, 1] f17_b) call n _ (by kernel_rfl)
theorem f17_e (call : CallF) (n : Nat) : f17_P f17_b call n = f17_L call n := by
  rw [f17_l, f17_e5]; rfl
theorem f17_eq (n : Nat) : acall AXE AXF (n + 1) 17 [] [] = f17_L (acall AXE AXF n) (n + 1) :=
  (show _ = f17_P f17_b (acall AXE AXF n) (n + 1) by kernel_rfl).trans (by rw [f17_e])
def f18_P10 (B : Code) (call : CallF) (n : Nat) (m0 : Nat) (x0 : Bool) : OR :=
  f18_x B call n [1, 0, 1, 0, 0, 1, 0, 0, 1, 0, 1, 1] (kBlk 1 (kSeq (f18_x B call n [1, 0, 1, 0, 0, 1, 1]) (kSeq (fun k => prK 1000002 (pruneAt f18_h 1000002) (aloop 1000002 (pruneAt f18_h 1000002) (f18_x B call n [1, 0, 1, 0, 0]) k m0)) (kBlk 0 (kSeq (f18_x B call n [1, 1]) (kEnd AXE 0 f18_r)))))) ⟨[(4, .one (.bool x0))], []⟩
def f18_P2 (B : Code) (call : CallF) (n : Nat) (m0 : Nat) (x0 : LB) (x1 x2 : Int) : OR :=
  aloop 1000002 (pruneAt f18_h 1000002) (f18_x B call n [1, 0, 1, 0, 0]) (kBlk 0 (kSeq (f18_x B call n [1, 1]) (kEnd AXE 0 f18_r))) m0 ⟨[(0, .one (.str x0)), (1, .one (.int .i64 x1)), (5, .one (.int .i64 x2))], []⟩
def f18_P (B : Code) (call : CallF) (n : Nat) (a0 : LB) (a1 : Int) : OR :=
  f18_x B call n [] (kEnd AXE 0 f18_r) ⟨[(0, .one (.str a0)), (1, .one (.int .i64 a1))], []⟩
def f18_T10 (call : CallF) (n : Nat) (x0 : Bool) : OR :=
  some (.one (.bool x0), [])
theorem f18_o10 (call : CallF) (n : Nat) (m0 : Nat) (B : Code) (hB : B = f18_b) : f18_P10 B call n m0 = f18_T10 call n := by
  subst hB; funext x0; kernel_rfl
theorem f18_l10 (call : CallF) (n : Nat) (m0 : Nat) : f18_P10 f18_b call n m0 = f18_T10 call n :=
  f18_o10 call n m0 _ (by kernel_rfl)
def f18_L10 (call : CallF) (n : Nat) (h_m0 : LB → Int → Int → OR) : Bool → OR :=
  f18_T10 call n
theorem f18_e10 (call : CallF) (n : Nat) (m0 : Nat) : f18_P10 f18_b call n m0 = f18_L10 call n (f18_P2 f18_b call n m0) := by
  rw [f18_l10]; rfl
def f18_T2 (call : CallF) (n : Nat) (j10 : Bool → OR) (j2m : LB → Int → Int → OR) (x0 : LB) (x1 x2 : Int) : OR :=
  bif (decide (x2 < x1)) then (
    itemK x0 x2 fun u1 =>
    bif ((UInt8.toNat u1 : Int) == (32 : Int)) then (
      bif decide (0 ≤ x2 ∧ (Int.toNat x2) ≤ (x0).length) then (
        callK call 36 [.one (.str ((x0.take (Int.toNat x2)).drop 0))] fun v2 =>
        oI .i64 v2 fun n3 =>
        bif (n3 == (4 : Int)) then (
          j10 true) else (
          j10 (n3 == (5 : Int)))) else none) else (
      j2m x0 x1 (IntKind.wrap .i64 (x2 + (1 : Int))))) else (
    some (.one (.bool true), []))
theorem f18_o2 (X0 : Code) (call : CallF) (n : Nat) (m0 : Nat) (B : Code) (hB : B = (hole f18_b [1, 0, 1, 0, 0, 1, 0, 0, 1, 0, 1, 1] X0)) : f18_P2 B call n (m0 + 1) = f18_T2 call n (f18_P10 B call n m0) (f18_P2 B call n m0) := by
  subst hB; funext x0 x1 x2; kernel_rfl
theorem f18_l2 (call : CallF) (n : Nat) (m0 : Nat) : f18_P2 f18_b call n (m0 + 1) = f18_T2 call n (f18_P10 f18_b call n m0) (f18_P2 f18_b call n m0) :=
  f18_o2 (piece [1, 0, 1, 0, 0, 1, 0, 0, 1, 0, 1, 1] f18_b) call n m0 _ (by kernel_rfl)
def f18_L2 (call : CallF) (n : Nat) : Nat → LB → Int → Int → OR
  | 0 => fun _ _ _ => none
  | m0 + 1 => f18_T2 call n (f18_L10 call n (f18_L2 call n m0)) (f18_L2 call n m0)
theorem f18_e2 (call : CallF) (n : Nat) : ∀ m0 : Nat, f18_P2 f18_b call n m0 = f18_L2 call n m0
  | 0 => by funext x0 x1 x2; kernel_rfl
  | m0 + 1 => by rw [f18_l2, f18_e10, f18_e2 call n m0]; rfl
/-- pigeonhole/pigeonholelaw06.verbal -/
def f18_T (call : CallF) (n : Nat) (j2n : LB → Int → Int → OR) (a0 : LB) (a1 : Int) : OR :=
  j2n a0 a1 (0 : Int)
def f18_L (call : CallF) (n : Nat) (a0 : LB) (a1 : Int) : OR :=
  f18_T call n (f18_L2 call n n) a0 a1
theorem f18_o (call : CallF) (n : Nat) (B : Code) (hB : B = f18_b) : f18_P B call n = f18_T call n (f18_P2 B call n n) := by
  subst hB; funext a0 a1; kernel_rfl
theorem f18_l (call : CallF) (n : Nat) : f18_P f18_b call n = f18_T call n (f18_P2 f18_b call n n) :=
  f18_o call n _ (by kernel_rfl)
theorem f18_e (call : CallF) (n : Nat) : f18_P f18_b call n = f18_L call n := by
  rw [f18_l, f18_e2]; rfl
theorem f18_eq (n : Nat) (a0 : LB) (a1 : Int) : acall AXE AXF (n + 1) 18 [.one (.str a0), .one (.int .i64 a1)] [] = f18_L (acall AXE AXF n) (n + 1) a0 a1 :=
  (show _ = f18_P f18_b (acall AXE AXF n) (n + 1) a0 a1 by kernel_rfl).trans (by rw [f18_e])
def f19_P10 (B : Code) (call : CallF) (n : Nat) (x0 : Int) (x1 : S_api_Cmd) : OR :=
  f19_x B call n [1, 0, 1, 0, 1] (kSeq (f19_x B call n [1, 1]) (kEnd AXE 0 f19_r)) ⟨[(2, .one (.ptr 0 0)), (3, .one (.int .i64 x0))], [x1.cells]⟩
def f19_P19 (B : Code) (call : CallF) (n : Nat) (x0 : Int) (x1 : S_api_Cmd) : OR :=
  f19_x B call n [1, 1, 1, 1, 1, 1, 0, 1, 0, 1] (kSeq (f19_x B call n [1, 1, 1, 1, 1, 1, 1]) (kEnd AXE 0 f19_r)) ⟨[(2, .one (.ptr 0 0)), (3, .one (.int .i64 x0))], [x1.cells]⟩
def f19_P14 (B : Code) (call : CallF) (n : Nat) (x0 : Int) (x1 : Bool) (x2 x3 : S_api_Cmd) : OR :=
  f19_x B call n [1, 1, 1, 1, 1, 1, 0, 1] (kSeq (f19_x B call n [1, 1, 1, 1, 1, 1, 1]) (kEnd AXE 0 f19_r)) ⟨[(2, .one (.ptr 0 0)), (7, .one (.ptr 1 0)), (8, .one (.int .i64 x0)), (69, .one (.bool x1))], [x2.cells, x3.cells]⟩
def f19_P11 (B : Code) (call : CallF) (n : Nat) (x0 : Int) (x1 x2 : S_api_Cmd) : OR :=
  f19_x B call n [1, 1, 1, 1, 1, 1] (kEnd AXE 0 f19_r) ⟨[(2, .one (.ptr 0 0)), (7, .one (.ptr 1 0)), (8, .one (.int .i64 x0))], [x1.cells, x2.cells]⟩
def f19_P17 (B : Code) (call : CallF) (n : Nat) (x0 : LB) (x1 x2 : S_api_Cmd) : OR :=
  f19_x B call n [1, 1, 1, 1, 1, 0, 1, 0, 1, 1, 1, 0, 1] (kBlk 0 (kSeq (f19_x B call n [1, 1, 1, 1, 1, 1]) (kEnd AXE 0 f19_r))) ⟨[(2, .one (.ptr 0 0)), (5, .one (.str x0)), (7, .one (.ptr 1 0))], [x1.cells, x2.cells]⟩
def f19_P26 (B : Code) (call : CallF) (n : Nat) (x0 : LB) (x1 x2 : S_api_Cmd) : OR :=
  f19_x B call n [1, 1, 1, 1, 1, 0, 1, 0, 1, 1, 1, 1, 1, 1, 1, 1, 1, 1, 1, 0, 1] (kBlk 0 (kSeq (f19_x B call n [1, 1, 1, 1, 1, 1]) (kEnd AXE 0 f19_r))) ⟨[(2, .one (.ptr 0 0)), (5, .one (.str x0)), (7, .one (.ptr 1 0))], [x1.cells, x2.cells]⟩
def f19_P24 (B : Code) (call : CallF) (n : Nat) (x0 : LB) (x1 : Int) (x2 : Bool) (x3 x4 : S_api_Cmd) : OR :=
  f19_x B call n [1, 1, 1, 1, 1, 0, 1, 0, 1, 1, 1, 1, 1, 1, 1, 1, 1, 1, 1] (kBlk 0 (kSeq (f19_x B call n [1, 1, 1, 1, 1, 1]) (kEnd AXE 0 f19_r))) ⟨[(2, .one (.ptr 0 0)), (5, .one (.str x0)), (7, .one (.ptr 1 0)), (8, .one (.int .i64 x1)), (61, .one (.bool x2))], [x3.cells, x4.cells]⟩
def f19_P22 (B : Code) (call : CallF) (n : Nat) (x0 : Bool) (x1 : LB) (x2 : Bool) (x3 x4 : Int) (x5 x6 : S_api_Cmd) : OR :=
  f19_x B call n [1, 1, 1, 1, 1, 0, 1, 0, 1, 1, 1, 1, 1, 1, 1, 1, 1] (kBlk 0 (kSeq (f19_x B call n [1, 1, 1, 1, 1, 1]) (kEnd AXE 0 f19_r))) ⟨[(54, .one (.bool x0)), (2, .one (.ptr 0 0)), (5, .one (.str x1)), (6, .one (.bool x2)), (7, .one (.ptr 1 0)), (8, .one (.int .i64 x3)), (28, .one (.int .i64 x4))], [x5.cells, x6.cells]⟩
def f19_P25 (B : Code) (call : CallF) (n : Nat) (x0 : LB) (x1 : Bool) (x2 x3 : Int) (x4 : Bool) (x5 x6 : S_api_Cmd) : OR :=
  f19_x B call n [1, 1, 1, 1, 1, 0, 1, 0, 1, 1, 1, 1, 1, 1, 1, 1, 1] (kBlk 0 (kSeq (f19_x B call n [1, 1, 1, 1, 1, 1]) (kEnd AXE 0 f19_r))) ⟨[(2, .one (.ptr 0 0)), (5, .one (.str x0)), (6, .one (.bool x1)), (7, .one (.ptr 1 0)), (8, .one (.int .i64 x2)), (28, .one (.int .i64 x3)), (54, .one (.bool x4))], [x5.cells, x6.cells]⟩
def f19_P23 (B : Code) (call : CallF) (n : Nat) (x0 : LB) (x1 : Bool) (x2 x3 : Int) (x4 : Bool) (x5 x6 : S_api_Cmd) : OR :=
  f19_x B call n [1, 1, 1, 1, 1, 0, 1, 0, 1, 1, 1, 1, 1, 1, 1, 1, 0, 1, 1, 1] (kSeq (f19_x B call n [1, 1, 1, 1, 1, 0, 1, 0, 1, 1, 1, 1, 1, 1, 1, 1, 1]) (kBlk 0 (kSeq (f19_x B call n [1, 1, 1, 1, 1, 1]) (kEnd AXE 0 f19_r)))) ⟨[(2, .one (.ptr 0 0)), (5, .one (.str x0)), (6, .one (.bool x1)), (7, .one (.ptr 1 0)), (8, .one (.int .i64 x2)), (28, .one (.int .i64 x3)), (54, .one (.bool x4))], [x5.cells, x6.cells]⟩
def f19_P21 (B : Code) (call : CallF) (n : Nat) (x0 : LB) (x1 : Bool) (x2 x3 : Int) (x4 : Bool) (x5 x6 : S_api_Cmd) : OR :=
  f19_x B call n [1, 1, 1, 1, 1, 0, 1, 0, 1, 1, 1, 1, 1, 1, 1, 1, 0, 1] (kSeq (f19_x B call n [1, 1, 1, 1, 1, 0, 1, 0, 1, 1, 1, 1, 1, 1, 1, 1, 1]) (kBlk 0 (kSeq (f19_x B call n [1, 1, 1, 1, 1, 1]) (kEnd AXE 0 f19_r)))) ⟨[(2, .one (.ptr 0 0)), (5, .one (.str x0)), (6, .one (.bool x1)), (7, .one (.ptr 1 0)), (8, .one (.int .i64 x2)), (28, .one (.int .i64 x3)), (54, .one (.bool x4))], [x5.cells, x6.cells]⟩
def f19_P20 (B : Code) (call : CallF) (n : Nat) (x0 : LB) (x1 : Bool) (x2 x3 : Int) (x4 : Bool) (x5 x6 : S_api_Cmd) : OR :=
  f19_x B call n [1, 1, 1, 1, 1, 0, 1, 0, 1, 1, 1, 1, 1, 1, 1] (kBlk 0 (kSeq (f19_x B call n [1, 1, 1, 1, 1, 1]) (kEnd AXE 0 f19_r))) ⟨[(2, .one (.ptr 0 0)), (5, .one (.str x0)), (6, .one (.bool x1)), (7, .one (.ptr 1 0)), (8, .one (.int .i64 x2)), (28, .one (.int .i64 x3)), (50, .one (.bool x4))], [x5.cells, x6.cells]⟩
def f19_P18 (B : Code) (call : CallF) (n : Nat) (x0 : LB) (x1 : Bool) (x2 x3 : Int) (x4 : Bool) (x5 x6 : S_api_Cmd) : OR :=
  f19_x B call n [1, 1, 1, 1, 1, 0, 1, 0, 1, 1, 1, 1, 1] (kBlk 0 (kSeq (f19_x B call n [1, 1, 1, 1, 1, 1]) (kEnd AXE 0 f19_r))) ⟨[(2, .one (.ptr 0 0)), (5, .one (.str x0)), (6, .one (.bool x1)), (7, .one (.ptr 1 0)), (8, .one (.int .i64 x2)), (28, .one (.int .i64 x3)), (46, .one (.bool x4))], [x5.cells, x6.cells]⟩
def f19_P12 (B : Code) (call : CallF) (n : Nat) (x0 : Bool) (x1 : LB) (x2 : Bool) (x3 x4 : Int) (x5 x6 : S_api_Cmd) : OR :=
  f19_x B call n [1, 1, 1, 1, 1, 0, 1, 0, 1, 1, 1] (kBlk 0 (kSeq (f19_x B call n [1, 1, 1, 1, 1, 1]) (kEnd AXE 0 f19_r))) ⟨[(33, .one (.bool x0)), (2, .one (.ptr 0 0)), (5, .one (.str x1)), (6, .one (.bool x2)), (7, .one (.ptr 1 0)), (8, .one (.int .i64 x3)), (28, .one (.int .i64 x4))], [x5.cells, x6.cells]⟩
def f19_P13 (B : Code) (call : CallF) (n : Nat) (x0 : LB) (x1 : Bool) (x2 x3 : Int) (x4 : Bool) (x5 x6 : S_api_Cmd) : OR :=
  f19_x B call n [1, 1, 1, 1, 1, 0, 1, 0, 1, 1, 1] (kBlk 0 (kSeq (f19_x B call n [1, 1, 1, 1, 1, 1]) (kEnd AXE 0 f19_r))) ⟨[(2, .one (.ptr 0 0)), (5, .one (.str x0)), (6, .one (.bool x1)), (7, .one (.ptr 1 0)), (8, .one (.int .i64 x2)), (28, .one (.int .i64 x3)), (33, .one (.bool x4))], [x5.cells, x6.cells]⟩
def f19_P1 (B : Code) (call : CallF) (n : Nat) (x0 : LB) (x1 : Bool) (x2 : S_api_Cmd) : OR :=
  f19_x B call n [1, 0, 1] (kSeq (f19_x B call n [1, 1]) (kEnd AXE 0 f19_r)) ⟨[(0, .one (.str x0)), (2, .one (.ptr 0 0)), (16, .one (.bool x1))], [x2.cells]⟩
def f19_P (B : Code) (call : CallF) (n : Nat) (a0 : LB) : OR :=
  f19_x B call n [] (kEnd AXE 0 f19_r) ⟨[(0, .one (.str a0))], []⟩
def f19_T10 (call : CallF) (n : Nat) (x0 : Int) (x1 : S_api_Cmd) : OR :=
  some (.tup [.agg x1.cells, .one (.int .i64 x0)], [])
theorem f19_o10 (call : CallF) (n : Nat) (B : Code) (hB : B = f19_b) : f19_P10 B call n = f19_T10 call n := by
  subst hB; funext x0 x1; kernel_rfl
theorem f19_l10 (call : CallF) (n : Nat) : f19_P10 f19_b call n = f19_T10 call n :=
  f19_o10 call n _ (by kernel_rfl)
def f19_L10 (call : CallF) (n : Nat) : Int → S_api_Cmd → OR :=
  f19_T10 call n
theorem f19_e10 (call : CallF) (n : Nat) : f19_P10 f19_b call n = f19_L10 call n := by
  rw [f19_l10]; rfl
def f19_T19 (call : CallF) (n : Nat) (x0 : Int) (x1 : S_api_Cmd) : OR :=
  some (.tup [.agg x1.cells, .one (.int .i64 x0)], [])
theorem f19_o19 (call : CallF) (n : Nat) (B : Code) (hB : B = f19_b) : f19_P19 B call n = f19_T19 call n := by
  subst hB; funext x0 x1; kernel_rfl
theorem f19_l19 (call : CallF) (n : Nat) : f19_P19 f19_b call n = f19_T19 call n :=
  f19_o19 call n _ (by kernel_rfl)
def f19_L19 (call : CallF) (n : Nat) : Int → S_api_Cmd → OR :=
  f19_T19 call n
theorem f19_e19 (call : CallF) (n : Nat) : f19_P19 f19_b call n = f19_L19 call n := by
  rw [f19_l19]; rfl
def f19_T14 (call : CallF) (n : Nat) (j19 : Int → S_api_Cmd → OR) (x0 : Int) (x1 : Bool) (x2 x3 : S_api_Cmd) : OR :=
  bif x1 then (
    j19 x0 (⟨(0 : Int), ([] : List UInt8), ([] : List UInt8), ([] : List UInt8), false, (0 : Int), (0 : Int)⟩ : S_api_Cmd)) else (
    some (.tup [.agg x3.cells, .one (.int .i64 (0 : Int))], []))
theorem f19_o14 (X0 : Code) (call : CallF) (n : Nat) (B : Code) (hB : B = (hole f19_b [1, 1, 1, 1, 1, 1, 0, 1, 0, 1] X0)) : f19_P14 B call n = f19_T14 call n (f19_P19 B call n) := by
  subst hB; funext x0 x1 x2 x3; cases x1 <;> kernel_rfl
theorem f19_l14 (call : CallF) (n : Nat) : f19_P14 f19_b call n = f19_T14 call n (f19_P19 f19_b call n) :=
  f19_o14 (piece [1, 1, 1, 1, 1, 1, 0, 1, 0, 1] f19_b) call n _ (by kernel_rfl)
def f19_L14 (call : CallF) (n : Nat) : Int → Bool → S_api_Cmd → S_api_Cmd → OR :=
  f19_T14 call n (f19_L19 call n)
theorem f19_e14 (call : CallF) (n : Nat) : f19_P14 f19_b call n = f19_L14 call n := by
  rw [f19_l14, f19_e19]; rfl
def f19_T11 (call : CallF) (n : Nat) (j14 : Int → Bool → S_api_Cmd → S_api_Cmd → OR) (x0 : Int) (x1 x2 : S_api_Cmd) : OR :=
  j14 x0 (x0 != (0 : Int)) x1 x2
theorem f19_o11 (X0 : Code) (call : CallF) (n : Nat) (B : Code) (hB : B = (hole f19_b [1, 1, 1, 1, 1, 1, 0, 1] X0)) : f19_P11 B call n = f19_T11 call n (f19_P14 B call n) := by
  subst hB; funext x0 x1 x2; kernel_rfl
theorem f19_l11 (call : CallF) (n : Nat) : f19_P11 f19_b call n = f19_T11 call n (f19_P14 f19_b call n) :=
  f19_o11 (piece [1, 1, 1, 1, 1, 1, 0, 1] f19_b) call n _ (by kernel_rfl)
def f19_L11 (call : CallF) (n : Nat) : Int → S_api_Cmd → S_api_Cmd → OR :=
  f19_T11 call n (f19_L14 call n)
theorem f19_e11 (call : CallF) (n : Nat) : f19_P11 f19_b call n = f19_L11 call n := by
  rw [f19_l11, f19_e14]; rfl
def f19_T17 (call : CallF) (n : Nat) (j11 : Int → S_api_Cmd → S_api_Cmd → OR) (x0 : LB) (x1 x2 : S_api_Cmd) : OR :=
  primK pADomain [.one (.str x0)] fun v1 =>
  oB v1 fun b2 =>
  bif b2 then (
    callK call 38 [.one (.bool true)] fun v3 =>
    oI .i64 v3 fun n4 =>
    j11 n4 x1 x2) else (
    callK call 40 [.one (.str x0)] fun v5 =>
    oB v5 fun b6 =>
    callK call 38 [.one (.bool b6)] fun v7 =>
    oI .i64 v7 fun n8 =>
    j11 n8 x1 x2)
theorem f19_o17 (X0 : Code) (call : CallF) (n : Nat) (B : Code) (hB : B = (hole f19_b [1, 1, 1, 1, 1, 1] X0)) : f19_P17 B call n = f19_T17 call n (f19_P11 B call n) := by
  subst hB; funext x0 x1 x2; kernel_rfl
theorem f19_l17 (call : CallF) (n : Nat) : f19_P17 f19_b call n = f19_T17 call n (f19_P11 f19_b call n) :=
  f19_o17 (piece [1, 1, 1, 1, 1, 1] f19_b) call n _ (by kernel_rfl)
def f19_L17 (call : CallF) (n : Nat) : LB → S_api_Cmd → S_api_Cmd → OR :=
  f19_T17 call n (f19_L11 call n)
theorem f19_e17 (call : CallF) (n : Nat) : f19_P17 f19_b call n = f19_L17 call n := by
  rw [f19_l17, f19_e11]; rfl
def f19_T26 (call : CallF) (n : Nat) (j11 : Int → S_api_Cmd → S_api_Cmd → OR) (x0 : LB) (x1 x2 : S_api_Cmd) : OR :=
  callK call 38 [.one (.bool (!(x0 == ([] : List UInt8))))] fun v1 =>
  oI .i64 v1 fun n2 =>
  j11 n2 x1 x2
theorem f19_o26 (X0 : Code) (call : CallF) (n : Nat) (B : Code) (hB : B = (hole f19_b [1, 1, 1, 1, 1, 1] X0)) : f19_P26 B call n = f19_T26 call n (f19_P11 B call n) := by
  subst hB; funext x0 x1 x2; kernel_rfl
theorem f19_l26 (call : CallF) (n : Nat) : f19_P26 f19_b call n = f19_T26 call n (f19_P11 f19_b call n) :=
  f19_o26 (piece [1, 1, 1, 1, 1, 1] f19_b) call n _ (by kernel_rfl)
def f19_L26 (call : CallF) (n : Nat) : LB → S_api_Cmd → S_api_Cmd → OR :=
  f19_T26 call n (f19_L11 call n)
theorem f19_e26 (call : CallF) (n : Nat) : f19_P26 f19_b call n = f19_L26 call n := by
  rw [f19_l26, f19_e11]; rfl
def f19_T24 (call : CallF) (n : Nat) (j26 : LB → S_api_Cmd → S_api_Cmd → OR) (j11 : Int → S_api_Cmd → S_api_Cmd → OR) (x0 : LB) (x1 : Int) (x2 : Bool) (x3 x4 : S_api_Cmd) : OR :=
  bif x2 then (
    j26 x0 x3 ({ x4 with fArg := x0 } : S_api_Cmd)) else (
    j11 x1 x3 ({ x4 with fArg := x0 } : S_api_Cmd))
theorem f19_o24 (X0 X1 : Code) (call : CallF) (n : Nat) (B : Code) (hB : B = (hole (hole f19_b [1, 1, 1, 1, 1, 0, 1, 0, 1, 1, 1, 1, 1, 1, 1, 1, 1, 1, 1, 0, 1] X0) [1, 1, 1, 1, 1, 1] X1)) : f19_P24 B call n = f19_T24 call n (f19_P26 B call n) (f19_P11 B call n) := by
  subst hB; funext x0 x1 x2 x3 x4; cases x2 <;> kernel_rfl
theorem f19_l24 (call : CallF) (n : Nat) : f19_P24 f19_b call n = f19_T24 call n (f19_P26 f19_b call n) (f19_P11 f19_b call n) :=
  f19_o24 (piece [1, 1, 1, 1, 1, 0, 1, 0, 1, 1, 1, 1, 1, 1, 1, 1, 1, 1, 1, 0, 1] f19_b) (piece [1, 1, 1, 1, 1, 1] f19_b) call n _ (by kernel_rfl)
def f19_L24 (call : CallF) (n : Nat) : LB → Int → Bool → S_api_Cmd → S_api_Cmd → OR :=
  f19_T24 call n (f19_L26 call n) (f19_L11 call n)
theorem f19_e24 (call : CallF) (n : Nat) : f19_P24 f19_b call n = f19_L24 call n := by
  rw [f19_l24, f19_e26, f19_e11]; rfl
def f19_T22 (call : CallF) (n : Nat) (j11 : Int → S_api_Cmd → S_api_Cmd → OR) (j24 : LB → Int → Bool → S_api_Cmd → S_api_Cmd → OR) (x0 : Bool) (x1 : LB) (x2 : Bool) (x3 x4 : Int) (x5 x6 : S_api_Cmd) : OR :=
  bif x0 then (
    callK call 38 [.one (.bool (!x2))] fun v1 =>
    oI .i64 v1 fun n2 =>
    j11 n2 x5 x6) else (
    j24 x1 x3 (x4 == (10 : Int)) x5 x6)
theorem f19_o22 (X0 X1 : Code) (call : CallF) (n : Nat) (B : Code) (hB : B = (hole (hole f19_b [1, 1, 1, 1, 1, 0, 1, 0, 1, 1, 1, 1, 1, 1, 1, 1, 1, 1, 1] X0) [1, 1, 1, 1, 1, 1] X1)) : f19_P22 B call n = f19_T22 call n (f19_P11 B call n) (f19_P24 B call n) := by
  subst hB; funext x0 x1 x2 x3 x4 x5 x6; cases x0 <;> kernel_rfl
theorem f19_l22 (call : CallF) (n : Nat) : f19_P22 f19_b call n = f19_T22 call n (f19_P11 f19_b call n) (f19_P24 f19_b call n) :=
  f19_o22 (piece [1, 1, 1, 1, 1, 0, 1, 0, 1, 1, 1, 1, 1, 1, 1, 1, 1, 1, 1] f19_b) (piece [1, 1, 1, 1, 1, 1] f19_b) call n _ (by kernel_rfl)
def f19_L22 (call : CallF) (n : Nat) : Bool → LB → Bool → Int → Int → S_api_Cmd → S_api_Cmd → OR :=
  f19_T22 call n (f19_L11 call n) (f19_L24 call n)
theorem f19_e22 (call : CallF) (n : Nat) : f19_P22 f19_b call n = f19_L22 call n := by
  rw [f19_l22, f19_e11, f19_e24]; rfl
def f19_T25 (call : CallF) (n : Nat) (j11 : Int → S_api_Cmd → S_api_Cmd → OR) (j24 : LB → Int → Bool → S_api_Cmd → S_api_Cmd → OR) (x0 : LB) (x1 : Bool) (x2 x3 : Int) (x4 : Bool) (x5 x6 : S_api_Cmd) : OR :=
  bif x4 then (
    callK call 38 [.one (.bool (!x1))] fun v1 =>
    oI .i64 v1 fun n2 =>
    j11 n2 x5 x6) else (
    j24 x0 x2 (x3 == (10 : Int)) x5 x6)
theorem f19_o25 (X0 X1 : Code) (call : CallF) (n : Nat) (B : Code) (hB : B = (hole (hole f19_b [1, 1, 1, 1, 1, 0, 1, 0, 1, 1, 1, 1, 1, 1, 1, 1, 1, 1, 1] X0) [1, 1, 1, 1, 1, 1] X1)) : f19_P25 B call n = f19_T25 call n (f19_P11 B call n) (f19_P24 B call n) := by
  subst hB; funext x0 x1 x2 x3 x4 x5 x6; cases x4 <;> kernel_rfl
theorem f19_l25 (call : CallF) (n : Nat) : f19_P25 f19_b call n = f19_T25 call n (f19_P11 f19_b call n) (f19_P24 f19_b call n) :=
  f19_o25 (piece [1, 1, 1, 1, 1, 0, 1, 0, 1, 1, 1, 1, 1, 1, 1, 1, 1, 1, 1] f19_b) (piece [1, 1, 1, 1, 1, 1] f19_b) call n _ (by kernel_rfl)
def f19_L25 (call : CallF) (n : Nat) : LB → Bool → Int → Int → Bool → S_api_Cmd → S_api_Cmd → OR :=
  f19_T25 call n (f19_L11 call n) (f19_L24 call n)
theorem f19_e25 (call : CallF) (n : Nat) : f19_P25 f19_b call n = f19_L25 call n := by
  rw [f19_l25, f19_e11, f19_e24]; rfl
def f19_T23 (call : CallF) (n : Nat) (j22 : Bool → LB → Bool → Int → Int → S_api_Cmd → S_api_Cmd → OR) (j25 : LB → Bool → Int → Int → Bool → S_api_Cmd → S_api_Cmd → OR) (x0 : LB) (x1 : Bool) (x2 x3 : Int) (x4 : Bool) (x5 x6 : S_api_Cmd) : OR :=
  bif x4 then (
    j22 true x0 x1 x2 x3 x5 x6) else (
    j25 x0 x1 x2 x3 (x3 == (9 : Int)) x5 x6)
theorem f19_o23 (X0 : Code) (call : CallF) (n : Nat) (B : Code) (hB : B = (hole f19_b [1, 1, 1, 1, 1, 0, 1, 0, 1, 1, 1, 1, 1, 1, 1, 1, 1] X0)) : f19_P23 B call n = f19_T23 call n (f19_P22 B call n) (f19_P25 B call n) := by
  subst hB; funext x0 x1 x2 x3 x4 x5 x6; cases x4 <;> kernel_rfl
theorem f19_l23 (call : CallF) (n : Nat) : f19_P23 f19_b call n = f19_T23 call n (f19_P22 f19_b call n) (f19_P25 f19_b call n) :=
  f19_o23 (piece [1, 1, 1, 1, 1, 0, 1, 0, 1, 1, 1, 1, 1, 1, 1, 1, 1] f19_b) call n _ (by kernel_rfl)
def f19_L23 (call : CallF) (n : Nat) : LB → Bool → Int → Int → Bool → S_api_Cmd → S_api_Cmd → OR :=
  f19_T23 call n (f19_L22 call n) (f19_L25 call n)
theorem f19_e23 (call : CallF) (n : Nat) : f19_P23 f19_b call n = f19_L23 call n := by
  rw [f19_l23, f19_e22, f19_e25]; rfl
def f19_T21 (call : CallF) (n : Nat) (j22 : Bool → LB → Bool → Int → Int → S_api_Cmd → S_api_Cmd → OR) (j23 : LB → Bool → Int → Int → Bool → S_api_Cmd → S_api_Cmd → OR) (x0 : LB) (x1 : Bool) (x2 x3 : Int) (x4 : Bool) (x5 x6 : S_api_Cmd) : OR :=
  bif x4 then (
    j22 true x0 x1 x2 x3 x5 x6) else (
    j23 x0 x1 x2 x3 (x3 == (7 : Int)) x5 x6)
theorem f19_o21 (X0 X1 : Code) (call : CallF) (n : Nat) (B : Code) (hB : B = (hole (hole f19_b [1, 1, 1, 1, 1, 0, 1, 0, 1, 1, 1, 1, 1, 1, 1, 1, 0, 1, 1, 1] X0) [1, 1, 1, 1, 1, 0, 1, 0, 1, 1, 1, 1, 1, 1, 1, 1, 1] X1)) : f19_P21 B call n = f19_T21 call n (f19_P22 B call n) (f19_P23 B call n) := by
  subst hB; funext x0 x1 x2 x3 x4 x5 x6; cases x4 <;> kernel_rfl
theorem f19_l21 (call : CallF) (n : Nat) : f19_P21 f19_b call n = f19_T21 call n (f19_P22 f19_b call n) (f19_P23 f19_b call n) :=
  f19_o21 (piece [1, 1, 1, 1, 1, 0, 1, 0, 1, 1, 1, 1, 1, 1, 1, 1, 0, 1, 1, 1] f19_b) (piece [1, 1, 1, 1, 1, 0, 1, 0, 1, 1, 1, 1, 1, 1, 1, 1, 1] f19_b) call n _ (by kernel_rfl)
def f19_L21 (call : CallF) (n : Nat) : LB → Bool → Int → Int → Bool → S_api_Cmd → S_api_Cmd → OR :=
  f19_T21 call n (f19_L22 call n) (f19_L23 call n)
theorem f19_e21 (call : CallF) (n : Nat) : f19_P21 f19_b call n = f19_L21 call n := by
  rw [f19_l21, f19_e22, f19_e23]; rfl
def f19_T20 (call : CallF) (n : Nat) (j11 : Int → S_api_Cmd → S_api_Cmd → OR) (j21 : LB → Bool → Int → Int → Bool → S_api_Cmd → S_api_Cmd → OR) (x0 : LB) (x1 : Bool) (x2 x3 : Int) (x4 : Bool) (x5 x6 : S_api_Cmd) : OR :=
  bif x4 then (
    callRK call 41 [.one (.ptr 0 0), .one (.str x0), .one (.str ([84, 79, 58] : List UInt8)), .one (.bool false)] [x6.cells] fun v1 h2 =>
    consK h2 fun r3 h4 =>
    takeS_api_Cmd r3 fun w5 r6 =>
    nilK r6 (
      nilK h4 (
        oI .i64 v1 fun n7 =>
        j11 n7 x5 w5))) else (
    j21 x0 x1 x2 x3 (x3 == (6 : Int)) x5 x6)
theorem f19_o20 (X0 X1 : Code) (call : CallF) (n : Nat) (B : Code) (hB : B = (hole (hole f19_b [1, 1, 1, 1, 1, 0, 1, 0, 1, 1, 1, 1, 1, 1, 1, 1, 0, 1] X0) [1, 1, 1, 1, 1, 1] X1)) : f19_P20 B call n = f19_T20 call n (f19_P11 B call n) (f19_P21 B call n) := by
  subst hB; funext x0 x1 x2 x3 x4 x5 x6; cases x4 <;> kernel_rfl
theorem f19_l20 (call : CallF) (n : Nat) : f19_P20 f19_b call n = f19_T20 call n (f19_P11 f19_b call n) (f19_P21 f19_b call n) :=
  f19_o20 (piece [1, 1, 1, 1, 1, 0, 1, 0, 1, 1, 1, 1, 1, 1, 1, 1, 0, 1] f19_b) (piece [1, 1, 1, 1, 1, 1] f19_b) call n _ (by kernel_rfl)
def f19_L20 (call : CallF) (n : Nat) : LB → Bool → Int → Int → Bool → S_api_Cmd → S_api_Cmd → OR :=
  f19_T20 call n (f19_L11 call n) (f19_L21 call n)
theorem f19_e20 (call : CallF) (n : Nat) : f19_P20 f19_b call n = f19_L20 call n := by
  rw [f19_l20, f19_e11, f19_e21]; rfl
def f19_T18 (call : CallF) (n : Nat) (j11 : Int → S_api_Cmd → S_api_Cmd → OR) (j20 : LB → Bool → Int → Int → Bool → S_api_Cmd → S_api_Cmd → OR) (x0 : LB) (x1 : Bool) (x2 x3 : Int) (x4 : Bool) (x5 x6 : S_api_Cmd) : OR :=
  bif x4 then (
    callRK call 41 [.one (.ptr 0 0), .one (.str x0), .one (.str ([70, 82, 79, 77, 58] : List UInt8)), .one (.bool true)] [x6.cells] fun v1 h2 =>
    consK h2 fun r3 h4 =>
    takeS_api_Cmd r3 fun w5 r6 =>
    nilK r6 (
      nilK h4 (
        oI .i64 v1 fun n7 =>
        j11 n7 x5 w5))) else (
    j20 x0 x1 x2 x3 (x3 == (5 : Int)) x5 x6)
theorem f19_o18 (X0 X1 : Code) (call : CallF) (n : Nat) (B : Code) (hB : B = (hole (hole f19_b [1, 1, 1, 1, 1, 0, 1, 0, 1, 1, 1, 1, 1, 1, 1] X0) [1, 1, 1, 1, 1, 1] X1)) : f19_P18 B call n = f19_T18 call n (f19_P11 B call n) (f19_P20 B call n) := by
  subst hB; funext x0 x1 x2 x3 x4 x5 x6; cases x4 <;> kernel_rfl
theorem f19_l18 (call : CallF) (n : Nat) : f19_P18 f19_b call n = f19_T18 call n (f19_P11 f19_b call n) (f19_P20 f19_b call n) :=
  f19_o18 (piece [1, 1, 1, 1, 1, 0, 1, 0, 1, 1, 1, 1, 1, 1, 1] f19_b) (piece [1, 1, 1, 1, 1, 1] f19_b) call n _ (by kernel_rfl)
def f19_L18 (call : CallF) (n : Nat) : LB → Bool → Int → Int → Bool → S_api_Cmd → S_api_Cmd → OR :=
  f19_T18 call n (f19_L11 call n) (f19_L20 call n)
theorem f19_e18 (call : CallF) (n : Nat) : f19_P18 f19_b call n = f19_L18 call n := by
  rw [f19_l18, f19_e11, f19_e20]; rfl
def f19_T12 (call : CallF) (n : Nat) (j17 : LB → S_api_Cmd → S_api_Cmd → OR) (j18 : LB → Bool → Int → Int → Bool → S_api_Cmd → S_api_Cmd → OR) (x0 : Bool) (x1 : LB) (x2 : Bool) (x3 x4 : Int) (x5 x6 : S_api_Cmd) : OR :=
  bif x0 then (
    j17 x1 x5 ({ x6 with fArg := x1 } : S_api_Cmd)) else (
    j18 x1 x2 x3 x4 (x4 == (4 : Int)) x5 x6)
theorem f19_o12 (X0 X1 : Code) (call : CallF) (n : Nat) (B : Code) (hB : B = (hole (hole f19_b [1, 1, 1, 1, 1, 0, 1, 0, 1, 1, 1, 0, 1] X0) [1, 1, 1, 1, 1, 0, 1, 0, 1, 1, 1, 1, 1] X1)) : f19_P12 B call n = f19_T12 call n (f19_P17 B call n) (f19_P18 B call n) := by
  subst hB; funext x0 x1 x2 x3 x4 x5 x6; cases x0 <;> kernel_rfl
theorem f19_l12 (call : CallF) (n : Nat) : f19_P12 f19_b call n = f19_T12 call n (f19_P17 f19_b call n) (f19_P18 f19_b call n) :=
  f19_o12 (piece [1, 1, 1, 1, 1, 0, 1, 0, 1, 1, 1, 0, 1] f19_b) (piece [1, 1, 1, 1, 1, 0, 1, 0, 1, 1, 1, 1, 1] f19_b) call n _ (by kernel_rfl)
def f19_L12 (call : CallF) (n : Nat) : Bool → LB → Bool → Int → Int → S_api_Cmd → S_api_Cmd → OR :=
  f19_T12 call n (f19_L17 call n) (f19_L18 call n)
theorem f19_e12 (call : CallF) (n : Nat) : f19_P12 f19_b call n = f19_L12 call n := by
  rw [f19_l12, f19_e17, f19_e18]; rfl
def f19_T13 (call : CallF) (n : Nat) (j17 : LB → S_api_Cmd → S_api_Cmd → OR) (j18 : LB → Bool → Int → Int → Bool → S_api_Cmd → S_api_Cmd → OR) (x0 : LB) (x1 : Bool) (x2 x3 : Int) (x4 : Bool) (x5 x6 : S_api_Cmd) : OR :=
  bif x4 then (
    j17 x0 x5 ({ x6 with fArg := x0 } : S_api_Cmd)) else (
    j18 x0 x1 x2 x3 (x3 == (4 : Int)) x5 x6)
theorem f19_o13 (X0 X1 : Code) (call : CallF) (n : Nat) (B : Code) (hB : B = (hole (hole f19_b [1, 1, 1, 1, 1, 0, 1, 0, 1, 1, 1, 0, 1] X0) [1, 1, 1, 1, 1, 0, 1, 0, 1, 1, 1, 1, 1] X1)) : f19_P13 B call n = f19_T13 call n (f19_P17 B call n) (f19_P18 B call n) := by
  subst hB; funext x0 x1 x2 x3 x4 x5 x6; cases x4 <;> kernel_rfl
theorem f19_l13 (call : CallF) (n : Nat) : f19_P13 f19_b call n = f19_T13 call n (f19_P17 f19_b call n) (f19_P18 f19_b call n) :=
  f19_o13 (piece [1, 1, 1, 1, 1, 0, 1, 0, 1, 1, 1, 0, 1] f19_b) (piece [1, 1, 1, 1, 1, 0, 1, 0, 1, 1, 1, 1, 1] f19_b) call n _ (by kernel_rfl)
def f19_L13 (call : CallF) (n : Nat) : LB → Bool → Int → Int → Bool → S_api_Cmd → S_api_Cmd → OR :=
  f19_T13 call n (f19_L17 call n) (f19_L18 call n)
theorem f19_e13 (call : CallF) (n : Nat) : f19_P13 f19_b call n = f19_L13 call n := by
  rw [f19_l13, f19_e17, f19_e18]; rfl
def f19_T1 (call : CallF) (n : Nat) (j10 : Int → S_api_Cmd → OR) (j11 : Int → S_api_Cmd → S_api_Cmd → OR) (j12 : Bool → LB → Bool → Int → Int → S_api_Cmd → S_api_Cmd → OR) (j13 : LB → Bool → Int → Int → Bool → S_api_Cmd → S_api_Cmd → OR) (x0 : LB) (x1 : Bool) (x2 : S_api_Cmd) : OR :=
  bif x1 then (
    j10 (500 : Int) (⟨(0 : Int), ([] : List UInt8), ([] : List UInt8), ([] : List UInt8), false, (0 : Int), (0 : Int)⟩ : S_api_Cmd)) else (
    primK pCut [.one (.str x0), .one (.str ([32] : List UInt8))] fun v1 =>
    castTup v1 fun v2 =>
    zS v2 fun s3 r4 =>
    zS r4 fun s5 r6 =>
    zB r6 fun b7 r8 =>
    nilK r8 (
      callK call 36 [.one (.str s3)] fun v9 =>
      oI .i64 v9 fun n10 =>
      bif (n10 == (0 : Int)) then (
        j11 (500 : Int) x2 (⟨n10, ([] : List UInt8), ([] : List UInt8), ([] : List UInt8), false, (-1 : Int), (0 : Int)⟩ : S_api_Cmd)) else (
        bif (n10 == (1 : Int)) then (
          j12 true s5 b7 (0 : Int) n10 x2 (⟨n10, ([] : List UInt8), ([] : List UInt8), ([] : List UInt8), false, (-1 : Int), (0 : Int)⟩ : S_api_Cmd)) else (
          bif (n10 == (2 : Int)) then (
            j12 true s5 b7 (0 : Int) n10 x2 (⟨n10, ([] : List UInt8), ([] : List UInt8), ([] : List UInt8), false, (-1 : Int), (0 : Int)⟩ : S_api_Cmd)) else (
            j13 s5 b7 (0 : Int) n10 (n10 == (3 : Int)) x2 (⟨n10, ([] : List UInt8), ([] : List UInt8), ([] : List UInt8), false, (-1 : Int), (0 : Int)⟩ : S_api_Cmd))))))
theorem f19_o1 (X0 X1 X2 : Code) (call : CallF) (n : Nat) (B : Code) (hB : B = (hole (hole (hole f19_b [1, 1, 1, 1, 1, 0, 1, 0, 1, 1, 1] X0) [1, 1, 1, 1, 1, 1] X1) [1, 0, 1, 0, 1] X2)) : f19_P1 B call n = f19_T1 call n (f19_P10 B call n) (f19_P11 B call n) (f19_P12 B call n) (f19_P13 B call n) := by
  subst hB; funext x0 x1 x2; cases x1 <;> kernel_rfl
theorem f19_l1 (call : CallF) (n : Nat) : f19_P1 f19_b call n = f19_T1 call n (f19_P10 f19_b call n) (f19_P11 f19_b call n) (f19_P12 f19_b call n) (f19_P13 f19_b call n) :=
  f19_o1 (piece [1, 1, 1, 1, 1, 0, 1, 0, 1, 1, 1] f19_b) (piece [1, 1, 1, 1, 1, 1] f19_b) (piece [1, 0, 1, 0, 1] f19_b) call n _ (by kernel_rfl)
def f19_L1 (call : CallF) (n : Nat) : LB → Bool → S_api_Cmd → OR :=
  f19_T1 call n (f19_L10 call n) (f19_L11 call n) (f19_L12 call n) (f19_L13 call n)
theorem f19_e1 (call : CallF) (n : Nat) : f19_P1 f19_b call n = f19_L1 call n := by
  rw [f19_l1, f19_e10, f19_e11, f19_e12, f19_e13]; rfl
/-- pigeonhole/cmd.Parse -/
def f19_T (call : CallF) (n : Nat) (j1 : LB → Bool → S_api_Cmd → OR) (a0 : LB) : OR :=
  bif (decide (((a0).length : Int) > (510 : Int))) then (
    j1 a0 true (⟨(0 : Int), ([] : List UInt8), ([] : List UInt8), ([] : List UInt8), false, (0 : Int), (0 : Int)⟩ : S_api_Cmd)) else (
    callK call 37 [.one (.str a0)] fun v41 =>
    oB v41 fun b42 =>
    j1 a0 (!b42) (⟨(0 : Int), ([] : List UInt8), ([] : List UInt8), ([] : List UInt8), false, (0 : Int), (0 : Int)⟩ : S_api_Cmd))
def f19_L (call : CallF) (n : Nat) (a0 : LB) : OR :=
  f19_T call n (f19_L1 call n) a0
theorem f19_o (X0 : Code) (call : CallF) (n : Nat) (B : Code) (hB : B = (hole f19_b [1, 0, 1] X0)) : f19_P B call n = f19_T call n (f19_P1 B call n) := by
  subst hB; funext a0; kernel_rfl
theorem f19_l (call : CallF) (n : Nat) : f19_P f19_b call n = f19_T call n (f19_P1 f19_b call n) :=
  f19_o (piece [1, 0, 1] f19_b) call n _ (by kernel_rfl)
theorem f19_e (call : CallF) (n : Nat) : f19_P f19_b call n = f19_L call n := by
  rw [f19_l, f19_e1]; rfl
theorem f19_eq (n : Nat) (a0 : LB) : acall AXE AXF (n + 1) 19 [.one (.str a0)] [] = f19_L (acall AXE AXF n) (n + 1) a0 :=
  (show _ = f19_P f19_b (acall AXE AXF n) (n + 1) a0 by kernel_rfl).trans (by rw [f19_e])
def f36_P10 (B : Code) (call : CallF) (n : Nat) (m0 : Nat) (x0 : Int) : OR :=
  f36_x B call n [1, 1, 0, 1, 0, 0, 1, 1, 0, 0, 1, 1, 0, 1] (kBlk 1 (kSeq (f36_x B call n [1, 1, 0, 1, 0, 0, 1, 1, 1]) (kSeq (fun k => prK 1000003 (pruneAt f36_h 1000003) (aloop 1000003 (pruneAt f36_h 1000003) (f36_x B call n [1, 1, 0, 1, 0, 0]) k m0)) (kBlk 0 (kSeq (f36_x B call n [1, 1, 1]) (kEnd AXE 0 f36_r)))))) ⟨[(2, .one (.int .i64 x0))], []⟩
def f36_P11 (B : Code) (call : CallF) (n : Nat) (m0 : Nat) (x0 : LB) (x1 : Int) (x2 : LC) (x3 x4 : Int) : OR :=
  f36_x B call n [1, 1, 0, 1, 0, 0, 1, 1, 1] (kSeq (fun k => prK 1000003 (pruneAt f36_h 1000003) (aloop 1000003 (pruneAt f36_h 1000003) (f36_x B call n [1, 1, 0, 1, 0, 0]) k m0)) (kBlk 0 (kSeq (f36_x B call n [1, 1, 1]) (kEnd AXE 0 f36_r)))) ⟨[(3, .one (.str x0)), (4, .one (.int .i64 x1)), (8, .one (.sl none 1 x2)), (9, .one (.int .i64 x3)), (10, .one (.int .i64 x4))], []⟩
def f36_P9 (B : Code) (call : CallF) (n : Nat) (m0 : Nat) (x0 : LB) (x1 : Int) (x2 : LC) (x3 x4 : Int) (x5 : Bool) : OR :=
  f36_x B call n [1, 1, 0, 1, 0, 0, 1, 1, 0, 0, 1, 1] (kBlk 1 (kSeq (f36_x B call n [1, 1, 0, 1, 0, 0, 1, 1, 1]) (kSeq (fun k => prK 1000003 (pruneAt f36_h 1000003) (aloop 1000003 (pruneAt f36_h 1000003) (f36_x B call n [1, 1, 0, 1, 0, 0]) k m0)) (kBlk 0 (kSeq (f36_x B call n [1, 1, 1]) (kEnd AXE 0 f36_r)))))) ⟨[(3, .one (.str x0)), (4, .one (.int .i64 x1)), (8, .one (.sl none 1 x2)), (9, .one (.int .i64 x3)), (10, .one (.int .i64 x4)), (21, .one (.bool x5))], []⟩
def f36_P3 (B : Code) (call : CallF) (n : Nat) (m0 : Nat) (x0 : LB) (x1 : LC) (x2 x3 : Int) : OR :=
  aloop 1000003 (pruneAt f36_h 1000003) (f36_x B call n [1, 1, 0, 1, 0, 0]) (kBlk 0 (kSeq (f36_x B call n [1, 1, 1]) (kEnd AXE 0 f36_r))) m0 ⟨[(3, .one (.str x0)), (8, .one (.sl none 1 x1)), (9, .one (.int .i64 x2)), (10, .one (.int .i64 x3))], []⟩
def f36_P (B : Code) (call : CallF) (n : Nat) (a0 : LB) : OR :=
  f36_x B call n [] (kEnd AXE 0 f36_r) ⟨[(0, .one (.str a0))], []⟩
def f36_T10 (call : CallF) (n : Nat) (x0 : Int) : OR :=
  some (.one (.int .i64 x0), [])
theorem f36_o10 (call : CallF) (n : Nat) (m0 : Nat) (B : Code) (hB : B = f36_b) : f36_P10 B call n m0 = f36_T10 call n := by
  subst hB; funext x0; kernel_rfl
theorem f36_l10 (call : CallF) (n : Nat) (m0 : Nat) : f36_P10 f36_b call n m0 = f36_T10 call n :=
  f36_o10 call n m0 _ (by kernel_rfl)
def f36_L10 (call : CallF) (n : Nat) (h_m0 : LB → LC → Int → Int → OR) : Int → OR :=
  f36_T10 call n
theorem f36_e10 (call : CallF) (n : Nat) (m0 : Nat) : f36_P10 f36_b call n m0 = f36_L10 call n (f36_P3 f36_b call n m0) := by
  rw [f36_l10]; rfl
def f36_T11 (call : CallF) (n : Nat) (j3m : LB → LC → Int → Int → OR) (x0 : LB) (x1 : Int) (x2 : LC) (x3 x4 : Int) : OR :=
  j3m x0 x2 x3 (IntKind.wrap .i64 (x4 + (1 : Int)))
theorem f36_o11 (call : CallF) (n : Nat) (m0 : Nat) (B : Code) (hB : B = f36_b) : f36_P11 B call n m0 = f36_T11 call n (f36_P3 B call n m0) := by
  subst hB; funext x0 x1 x2 x3 x4; kernel_rfl
theorem f36_l11 (call : CallF) (n : Nat) (m0 : Nat) : f36_P11 f36_b call n m0 = f36_T11 call n (f36_P3 f36_b call n m0) :=
  f36_o11 call n m0 _ (by kernel_rfl)
def f36_L11 (call : CallF) (n : Nat) (h_m0 : LB → LC → Int → Int → OR) : LB → Int → LC → Int → Int → OR :=
  f36_T11 call n h_m0
theorem f36_e11 (call : CallF) (n : Nat) (m0 : Nat) : f36_P11 f36_b call n m0 = f36_L11 call n (f36_P3 f36_b call n m0) := by
  rw [f36_l11]; rfl
def f36_T9 (call : CallF) (n : Nat) (j10 : Int → OR) (j11 : LB → Int → LC → Int → Int → OR) (x0 : LB) (x1 : Int) (x2 : LC) (x3 x4 : Int) (x5 : Bool) : OR :=
  bif x5 then (
    j10 x1) else (
    j11 x0 x1 x2 x3 x4)
theorem f36_o9 (X0 X1 : Code) (call : CallF) (n : Nat) (m0 : Nat) (B : Code) (hB : B = (hole (hole f36_b [1, 1, 0, 1, 0, 0, 1, 1, 0, 0, 1, 1, 0, 1] X0) [1, 1, 0, 1, 0, 0, 1, 1, 1] X1)) : f36_P9 B call n m0 = f36_T9 call n (f36_P10 B call n m0) (f36_P11 B call n m0) := by
  subst hB; funext x0 x1 x2 x3 x4 x5; cases x5 <;> kernel_rfl
theorem f36_l9 (call : CallF) (n : Nat) (m0 : Nat) : f36_P9 f36_b call n m0 = f36_T9 call n (f36_P10 f36_b call n m0) (f36_P11 f36_b call n m0) :=
  f36_o9 (piece [1, 1, 0, 1, 0, 0, 1, 1, 0, 0, 1, 1, 0, 1] f36_b) (piece [1, 1, 0, 1, 0, 0, 1, 1, 1] f36_b) call n m0 _ (by kernel_rfl)
def f36_L9 (call : CallF) (n : Nat) (h_m0 : LB → LC → Int → Int → OR) : LB → Int → LC → Int → Int → Bool → OR :=
  f36_T9 call n (f36_L10 call n h_m0) (f36_L11 call n h_m0)
theorem f36_e9 (call : CallF) (n : Nat) (m0 : Nat) : f36_P9 f36_b call n m0 = f36_L9 call n (f36_P3 f36_b call n m0) := by
  rw [f36_l9, f36_e10, f36_e11]; rfl
def f36_T3 (call : CallF) (n : Nat) (j9 : LB → Int → LC → Int → Int → Bool → OR) (x0 : LB) (x1 : LC) (x2 x3 : Int) : OR :=
  bif (decide (x3 < x2)) then (
    itemK x1 x3 fun c1 =>
    castS c1 fun s2 =>
    bif (decide (x3 > (0 : Int))) then (
      j9 x0 x3 x1 x2 x3 (s2 == x0)) else (
      j9 x0 x3 x1 x2 x3 false)) else (
    some (.one (.int .i64 (0 : Int)), []))
theorem f36_o3 (X0 : Code) (call : CallF) (n : Nat) (m0 : Nat) (B : Code) (hB : B = (hole f36_b [1, 1, 0, 1, 0, 0, 1, 1, 0, 0, 1, 1] X0)) : f36_P3 B call n (m0 + 1) = f36_T3 call n (f36_P9 B call n m0) := by
  subst hB; funext x0 x1 x2 x3; kernel_rfl
theorem f36_l3 (call : CallF) (n : Nat) (m0 : Nat) : f36_P3 f36_b call n (m0 + 1) = f36_T3 call n (f36_P9 f36_b call n m0) :=
  f36_o3 (piece [1, 1, 0, 1, 0, 0, 1, 1, 0, 0, 1, 1] f36_b) call n m0 _ (by kernel_rfl)
def f36_L3 (call : CallF) (n : Nat) : Nat → LB → LC → Int → Int → OR
  | 0 => fun _ _ _ _ => none
  | m0 + 1 => f36_T3 call n (f36_L9 call n (f36_L3 call n m0))
theorem f36_e3 (call : CallF) (n : Nat) : ∀ m0 : Nat, f36_P3 f36_b call n m0 = f36_L3 call n m0
  | 0 => by funext x0 x1 x2 x3; kernel_rfl
  | m0 + 1 => by rw [f36_l3, f36_e9, f36_e3 call n m0]; rfl
/-- pigeonhole/cmd.Verb -/
def f36_T (call : CallF) (n : Nat) (j3n : LB → LC → Int → Int → OR) (a0 : LB) : OR :=
  callK call 61 [.one (.str a0)] fun v7 =>
  oS v7 fun s8 =>
  callK call 62 [] fun v9 =>
  oL 1 v9 fun l10 =>
  j3n s8 l10 (((l10).length / 1 : Nat) : Int) (0 : Int)
def f36_L (call : CallF) (n : Nat) (a0 : LB) : OR :=
  f36_T call n (f36_L3 call n n) a0
theorem f36_o (call : CallF) (n : Nat) (B : Code) (hB : B = f36_b) : f36_P B call n = f36_T call n (f36_P3 B call n n) := by
  subst hB; funext a0; kernel_rfl
theorem f36_l (call : CallF) (n : Nat) : f36_P f36_b call n = f36_T call n (f36_P3 f36_b call n n) :=
  f36_o call n _ (by kernel_rfl)
theorem f36_e (call : CallF) (n : Nat) : f36_P f36_b call n = f36_L call n := by
  rw [f36_l, f36_e3]; rfl
theorem f36_eq (n : Nat) (a0 : LB) : acall AXE AXF (n + 1) 36 [.one (.str a0)] [] = f36_L (acall AXE AXF n) (n + 1) a0 :=
  (show _ = f36_P f36_b (acall AXE AXF n) (n + 1) a0 by kernel_rfl).trans (by rw [f36_e])
def f37_P10 (B : Code) (call : CallF) (n : Nat) (m0 : Nat) (x0 : Bool) : OR :=
  f37_x B call n [1, 0, 1, 0, 0, 1, 1, 0, 0, 1, 1, 0, 1] (kBlk 1 (kSeq (f37_x B call n [1, 0, 1, 0, 0, 1, 1, 1]) (kSeq (fun k => prK 1000002 (pruneAt f37_h 1000002) (aloop 1000002 (pruneAt f37_h 1000002) (f37_x B call n [1, 0, 1, 0, 0]) k m0)) (kBlk 0 (kSeq (f37_x B call n [1, 1]) (kEnd AXE 0 f37_r)))))) ⟨[(2, .one (.bool x0))], []⟩
def f37_P8 (B : Code) (call : CallF) (n : Nat) (m0 : Nat) (x0 : LC) (x1 x2 : Int) (x3 : Bool) : OR :=
  f37_x B call n [1, 0, 1, 0, 0, 1, 1, 0, 0, 1, 1] (kBlk 1 (kSeq (f37_x B call n [1, 0, 1, 0, 0, 1, 1, 1]) (kSeq (fun k => prK 1000002 (pruneAt f37_h 1000002) (aloop 1000002 (pruneAt f37_h 1000002) (f37_x B call n [1, 0, 1, 0, 0]) k m0)) (kBlk 0 (kSeq (f37_x B call n [1, 1]) (kEnd AXE 0 f37_r)))))) ⟨[(6, .one (.sl none 1 x0)), (7, .one (.int .i64 x1)), (8, .one (.int .i64 x2)), (17, .one (.bool x3))], []⟩
def f37_P2 (B : Code) (call : CallF) (n : Nat) (m0 : Nat) (x0 : LC) (x1 x2 : Int) : OR :=
  aloop 1000002 (pruneAt f37_h 1000002) (f37_x B call n [1, 0, 1, 0, 0]) (kBlk 0 (kSeq (f37_x B call n [1, 1]) (kEnd AXE 0 f37_r))) m0 ⟨[(6, .one (.sl none 1 x0)), (7, .one (.int .i64 x1)), (8, .one (.int .i64 x2))], []⟩
def f37_P (B : Code) (call : CallF) (n : Nat) (a0 : LB) : OR :=
  f37_x B call n [] (kEnd AXE 0 f37_r) ⟨[(0, .one (.str a0))], []⟩
def f37_T10 (call : CallF) (n : Nat) (x0 : Bool) : OR :=
  some (.one (.bool x0), [])
theorem f37_o10 (call : CallF) (n : Nat) (m0 : Nat) (B : Code) (hB : B = f37_b) : f37_P10 B call n m0 = f37_T10 call n := by
  subst hB; funext x0; kernel_rfl
theorem f37_l10 (call : CallF) (n : Nat) (m0 : Nat) : f37_P10 f37_b call n m0 = f37_T10 call n :=
  f37_o10 call n m0 _ (by kernel_rfl)
def f37_L10 (call : CallF) (n : Nat) (h_m0 : LC → Int → Int → OR) : Bool → OR :=
  f37_T10 call n
theorem f37_e10 (call : CallF) (n : Nat) (m0 : Nat) : f37_P10 f37_b call n m0 = f37_L10 call n (f37_P2 f37_b call n m0) := by
  rw [f37_l10]; rfl
def f37_T8 (call : CallF) (n : Nat) (j10 : Bool → OR) (j2m : LC → Int → Int → OR) (x0 : LC) (x1 x2 : Int) (x3 : Bool) : OR :=
  bif x3 then (
    j10 false) else (
    j2m x0 x1 (IntKind.wrap .i64 (x2 + (1 : Int))))
theorem f37_o8 (X0 : Code) (call : CallF) (n : Nat) (m0 : Nat) (B : Code) (hB : B = (hole f37_b [1, 0, 1, 0, 0, 1, 1, 0, 0, 1, 1, 0, 1] X0)) : f37_P8 B call n m0 = f37_T8 call n (f37_P10 B call n m0) (f37_P2 B call n m0) := by
  subst hB; funext x0 x1 x2 x3; cases x3 <;> kernel_rfl
theorem f37_l8 (call : CallF) (n : Nat) (m0 : Nat) : f37_P8 f37_b call n m0 = f37_T8 call n (f37_P10 f37_b call n m0) (f37_P2 f37_b call n m0) :=
  f37_o8 (piece [1, 0, 1, 0, 0, 1, 1, 0, 0, 1, 1, 0, 1] f37_b) call n m0 _ (by kernel_rfl)
def f37_L8 (call : CallF) (n : Nat) (h_m0 : LC → Int → Int → OR) : LC → Int → Int → Bool → OR :=
  f37_T8 call n (f37_L10 call n h_m0) h_m0
theorem f37_e8 (call : CallF) (n : Nat) (m0 : Nat) : f37_P8 f37_b call n m0 = f37_L8 call n (f37_P2 f37_b call n m0) := by
  rw [f37_l8, f37_e10]; rfl
def f37_T2 (call : CallF) (n : Nat) (j8 : LC → Int → Int → Bool → OR) (x0 : LC) (x1 x2 : Int) : OR :=
  bif (decide (x2 < x1)) then (
    itemK x0 x2 fun c1 =>
    castI .u8 c1 fun n2 =>
    bif (decide (n2 < (32 : Int))) then (
      j8 x0 x1 x2 true) else (
      j8 x0 x1 x2 (decide (n2 > (126 : Int))))) else (
    some (.one (.bool true), []))
theorem f37_o2 (X0 : Code) (call : CallF) (n : Nat) (m0 : Nat) (B : Code) (hB : B = (hole f37_b [1, 0, 1, 0, 0, 1, 1, 0, 0, 1, 1] X0)) : f37_P2 B call n (m0 + 1) = f37_T2 call n (f37_P8 B call n m0) := by
  subst hB; funext x0 x1 x2; kernel_rfl
theorem f37_l2 (call : CallF) (n : Nat) (m0 : Nat) : f37_P2 f37_b call n (m0 + 1) = f37_T2 call n (f37_P8 f37_b call n m0) :=
  f37_o2 (piece [1, 0, 1, 0, 0, 1, 1, 0, 0, 1, 1] f37_b) call n m0 _ (by kernel_rfl)
def f37_L2 (call : CallF) (n : Nat) : Nat → LC → Int → Int → OR
  | 0 => fun _ _ _ => none
  | m0 + 1 => f37_T2 call n (f37_L8 call n (f37_L2 call n m0))
theorem f37_e2 (call : CallF) (n : Nat) : ∀ m0 : Nat, f37_P2 f37_b call n m0 = f37_L2 call n m0
  | 0 => by funext x0 x1 x2; kernel_rfl
  | m0 + 1 => by rw [f37_l2, f37_e8, f37_e2 call n m0]; rfl
/-- pigeonhole/cmd.printed -/
def f37_T (call : CallF) (n : Nat) (j2n : LC → Int → Int → OR) (a0 : LB) : OR :=
  j2n (byteCells a0) ((((byteCells a0)).length / 1 : Nat) : Int) (0 : Int)
def f37_L (call : CallF) (n : Nat) (a0 : LB) : OR :=
  f37_T call n (f37_L2 call n n) a0
theorem f37_o (call : CallF) (n : Nat) (B : Code) (hB : B = f37_b) : f37_P B call n = f37_T call n (f37_P2 B call n n) := by
  subst hB; funext a0; kernel_rfl
theorem f37_l (call : CallF) (n : Nat) : f37_P f37_b call n = f37_T call n (f37_P2 f37_b call n n) :=
  f37_o call n _ (by kernel_rfl)
theorem f37_e (call : CallF) (n : Nat) : f37_P f37_b call n = f37_L call n := by
  rw [f37_l, f37_e2]; rfl
theorem f37_eq (n : Nat) (a0 : LB) : acall AXE AXF (n + 1) 37 [.one (.str a0)] [] = f37_L (acall AXE AXF n) (n + 1) a0 :=
  (show _ = f37_P f37_b (acall AXE AXF n) (n + 1) a0 by kernel_rfl).trans (by rw [f37_e])
def f38_P (B : Code) (call : CallF) (n : Nat) (a0 : Bool) : OR :=
  f38_x B call n [] (kEnd AXE 0 f38_r) ⟨[(0, .one (.bool a0))], []⟩
/-- pigeonhole/cmd.need -/
def f38_T (call : CallF) (n : Nat) (a0 : Bool) : OR :=
  bif a0 then (
    some (.one (.int .i64 (0 : Int)), [])) else (
    some (.one (.int .i64 (501 : Int)), []))
def f38_L (call : CallF) (n : Nat) (a0 : Bool) : OR :=
  f38_T call n a0
theorem f38_o (call : CallF) (n : Nat) (B : Code) (hB : B = f38_b) : f38_P B call n = f38_T call n := by
  subst hB; funext a0; kernel_rfl
theorem f38_l (call : CallF) (n : Nat) : f38_P f38_b call n = f38_T call n :=
  f38_o call n _ (by kernel_rfl)
theorem f38_e (call : CallF) (n : Nat) : f38_P f38_b call n = f38_L call n := by
  rw [f38_l]; rfl
theorem f38_eq (n : Nat) (a0 : Bool) : acall AXE AXF (n + 1) 38 [.one (.bool a0)] [] = f38_L (acall AXE AXF n) (n + 1) a0 :=
  (show _ = f38_P f38_b (acall AXE AXF n) (n + 1) a0 by kernel_rfl).trans (by rw [f38_e])
def f40_P4 (B : Code) (call : CallF) (n : Nat) (x0 : Bool) : OR :=
  f40_x B call n [1, 0, 1, 0, 1] (kSeq (f40_x B call n [1, 1]) (kEnd AXE 0 f40_r)) ⟨[(2, .one (.bool x0))], []⟩
def f40_P1 (B : Code) (call : CallF) (n : Nat) (x0 : LB) (x1 : Bool) : OR :=
  f40_x B call n [1, 0, 1] (kSeq (f40_x B call n [1, 1]) (kEnd AXE 0 f40_r)) ⟨[(0, .one (.str x0)), (18, .one (.bool x1))], []⟩
def f40_P (B : Code) (call : CallF) (n : Nat) (a0 : LB) : OR :=
  f40_x B call n [] (kEnd AXE 0 f40_r) ⟨[(0, .one (.str a0))], []⟩
def f40_T4 (call : CallF) (n : Nat) (x0 : Bool) : OR :=
  some (.one (.bool x0), [])
theorem f40_o4 (call : CallF) (n : Nat) (B : Code) (hB : B = f40_b) : f40_P4 B call n = f40_T4 call n := by
  subst hB; funext x0; kernel_rfl
theorem f40_l4 (call : CallF) (n : Nat) : f40_P4 f40_b call n = f40_T4 call n :=
  f40_o4 call n _ (by kernel_rfl)
def f40_L4 (call : CallF) (n : Nat) : Bool → OR :=
  f40_T4 call n
theorem f40_e4 (call : CallF) (n : Nat) : f40_P4 f40_b call n = f40_L4 call n := by
  rw [f40_l4]; rfl
def f40_T1 (call : CallF) (n : Nat) (j4 : Bool → OR) (x0 : LB) (x1 : Bool) : OR :=
  bif x1 then (
    j4 false) else (
    bif decide (0 ≤ (1 : Int) ∧ (1 : Int) ≤ (IntKind.wrap .i64 (((x0).length : Int) - (1 : Int))) ∧ (Int.toNat (IntKind.wrap .i64 (((x0).length : Int) - (1 : Int)))) ≤ (x0).length) then (
      primK pContains [.one (.str ((x0.take (Int.toNat (IntKind.wrap .i64 (((x0).length : Int) - (1 : Int))))).drop (Int.toNat (1 : Int)))), .one (.str ([91, 93, 92, 32] : List UInt8))] fun v1 =>
      oB v1 fun b2 =>
      some (.one (.bool (!b2)), [])) else none)
theorem f40_o1 (X0 : Code) (call : CallF) (n : Nat) (B : Code) (hB : B = (hole f40_b [1, 0, 1, 0, 1] X0)) : f40_P1 B call n = f40_T1 call n (f40_P4 B call n) := by
  subst hB; funext x0 x1; cases x1 <;> kernel_rfl
theorem f40_l1 (call : CallF) (n : Nat) : f40_P1 f40_b call n = f40_T1 call n (f40_P4 f40_b call n) :=
  f40_o1 (piece [1, 0, 1, 0, 1] f40_b) call n _ (by kernel_rfl)
def f40_L1 (call : CallF) (n : Nat) : LB → Bool → OR :=
  f40_T1 call n (f40_L4 call n)
theorem f40_e1 (call : CallF) (n : Nat) : f40_P1 f40_b call n = f40_L1 call n := by
  rw [f40_l1, f40_e4]; rfl
/-- pigeonhole/cmd.literal -/
def f40_T (call : CallF) (n : Nat) (j1 : LB → Bool → OR) (a0 : LB) : OR :=
  bif (decide (((a0).length : Int) < (3 : Int))) then (
    j1 a0 true) else (
    itemK a0 (0 : Int) fun u5 =>
    bif ((UInt8.toNat u5 : Int) != (91 : Int)) then (
      j1 a0 true) else (
      itemK a0 (IntKind.wrap .i64 (((a0).length : Int) - (1 : Int))) fun u6 =>
      j1 a0 ((UInt8.toNat u6 : Int) != (93 : Int))))
def f40_L (call : CallF) (n : Nat) (a0 : LB) : OR :=
  f40_T call n (f40_L1 call n) a0
theorem f40_o (X0 : Code) (call : CallF) (n : Nat) (B : Code) (hB : B = (hole f40_b [1, 0, 1] X0)) : f40_P B call n = f40_T call n (f40_P1 B call n) := by
  subst hB; funext a0; kernel_rfl
theorem f40_l (call : CallF) (n : Nat) : f40_P f40_b call n = f40_T call n (f40_P1 f40_b call n) :=
  f40_o (piece [1, 0, 1] f40_b) call n _ (by kernel_rfl)
theorem f40_e (call : CallF) (n : Nat) : f40_P f40_b call n = f40_L call n := by
  rw [f40_l, f40_e1]; rfl
theorem f40_eq (n : Nat) (a0 : LB) : acall AXE AXF (n + 1) 40 [.one (.str a0)] [] = f40_L (acall AXE AXF n) (n + 1) a0 :=
  (show _ = f40_P f40_b (acall AXE AXF n) (n + 1) a0 by kernel_rfl).trans (by rw [f40_e])
def f41_P17 (B : Code) (call : CallF) (n : Nat) (x0 : Int) (x1 : S_api_Cmd) : OR :=
  f41_x B call n [1, 0, 1, 0, 1] (kSeq (f41_x B call n [1, 1]) (kEnd AXE 1 f41_r)) ⟨[(8, .one (.int .i64 x0))], [x1.cells]⟩
def f41_P1 (B : Code) (call : CallF) (n : Nat) (x0 x1 : LB) (x2 x3 : Bool) (x4 : S_api_Cmd) : OR :=
  f41_x B call n [1, 0, 1] (kSeq (f41_x B call n [1, 1]) (kEnd AXE 1 f41_r)) ⟨[(0, .one (.ptr 0 0)), (1, .one (.str x0)), (2, .one (.str x1)), (3, .one (.bool x2)), (25, .one (.bool x3))], [x4.cells]⟩
def f41_P (B : Code) (call : CallF) (n : Nat) (a0 : S_api_Cmd) (a1 a2 : LB) (a3 : Bool) : OR :=
  f41_x B call n [] (kEnd AXE 1 f41_r) ⟨[(0, .one (.ptr 0 0)), (1, .one (.str a1)), (2, .one (.str a2)), (3, .one (.bool a3))], [a0.cells]⟩
def f41_T17 (call : CallF) (n : Nat) (x0 : Int) (x1 : S_api_Cmd) : OR :=
  some (.one (.int .i64 x0), [x1.cells])
theorem f41_o17 (call : CallF) (n : Nat) (B : Code) (hB : B = f41_b) : f41_P17 B call n = f41_T17 call n := by
  subst hB; funext x0 x1; kernel_rfl
theorem f41_l17 (call : CallF) (n : Nat) : f41_P17 f41_b call n = f41_T17 call n :=
  f41_o17 call n _ (by kernel_rfl)
def f41_L17 (call : CallF) (n : Nat) : Int → S_api_Cmd → OR :=
  f41_T17 call n
theorem f41_e17 (call : CallF) (n : Nat) : f41_P17 f41_b call n = f41_L17 call n := by
  rw [f41_l17]; rfl
def f41_T1 (call : CallF) (n : Nat) (j17 : Int → S_api_Cmd → OR) (x0 x1 : LB) (x2 x3 : Bool) (x4 : S_api_Cmd) : OR :=
  bif x3 then (
    j17 (501 : Int) x4) else (
    bif decide (0 ≤ ((x1).length : Int) ∧ (Int.toNat ((x1).length : Int)) ≤ (x0).length) then (
      primK pARead [.one (.str ((x0.take (x0).length).drop (Int.toNat ((x1).length : Int)))), .one (.bool x2)] fun v1 =>
      castTup v1 fun v2 =>
      consK v2 fun z3 r4 =>
      aggV z3 fun r5 =>
      cS r5 fun s6 r7 =>
      cS r7 fun s8 r9 =>
      nilK r9 (
        zI .i64 r4 fun n10 r11 =>
        zI .i64 r11 fun n12 r13 =>
        nilK r13 (
          bif (n12 != (0 : Int)) then (
            some (.one (.int .i64 (501 : Int)), [x4.cells])) else (
            bif decide (0 ≤ n10 ∧ (Int.toNat n10) ≤ (((x0.take (x0).length).drop (Int.toNat ((x1).length : Int)))).length) then (
              bif (((((x0.take (x0).length).drop (Int.toNat ((x1).length : Int))).take (((x0.take (x0).length).drop (Int.toNat ((x1).length : Int)))).length).drop (Int.toNat n10)) == ([] : List UInt8)) then (
                some (.one (.int .i64 (0 : Int)), [({ x4 with fPath_Local := s6, fPath_Domain := s8, fNull := ((s6 == ([] : List UInt8)) && ((s8 == ([] : List UInt8)) && true)) } : S_api_Cmd).cells])) else (
                itemK ((((x0.take (x0).length).drop (Int.toNat ((x1).length : Int))).take (((x0.take (x0).length).drop (Int.toNat ((x1).length : Int)))).length).drop (Int.toNat n10)) (0 : Int) fun u14 =>
                bif ((UInt8.toNat u14 : Int) != (32 : Int)) then (
                  some (.one (.int .i64 (501 : Int)), [({ x4 with fPath_Local := s6, fPath_Domain := s8, fNull := ((s6 == ([] : List UInt8)) && ((s8 == ([] : List UInt8)) && true)) } : S_api_Cmd).cells])) else (
                  bif decide (0 ≤ (1 : Int) ∧ (Int.toNat (1 : Int)) ≤ (((((x0.take (x0).length).drop (Int.toNat ((x1).length : Int))).take (((x0.take (x0).length).drop (Int.toNat ((x1).length : Int)))).length).drop (Int.toNat n10))).length) then (
                    primK pSplit [.one (.str ((((((x0.take (x0).length).drop (Int.toNat ((x1).length : Int))).take (((x0.take (x0).length).drop (Int.toNat ((x1).length : Int)))).length).drop (Int.toNat n10)).take (((((x0.take (x0).length).drop (Int.toNat ((x1).length : Int))).take (((x0.take (x0).length).drop (Int.toNat ((x1).length : Int)))).length).drop (Int.toNat n10))).length).drop (Int.toNat (1 : Int)))), .one (.str ([32] : List UInt8))] fun v15 =>
                    oL 1 v15 fun l16 =>
                    callRK call 66 [.one (.ptr 0 0), .one (.sl none 1 l16)] [({ x4 with fPath_Local := s6, fPath_Domain := s8, fNull := ((s6 == ([] : List UInt8)) && ((s8 == ([] : List UInt8)) && true)) } : S_api_Cmd).cells] fun v17 h18 =>
                    consK h18 fun r19 h20 =>
                    takeS_api_Cmd r19 fun w21 r22 =>
                    nilK r22 (
                      nilK h20 (
                        oI .i64 v17 fun n23 =>
                        some (.one (.int .i64 n23), [w21.cells])))) else none))) else none)))) else none)
theorem f41_o1 (X0 : Code) (call : CallF) (n : Nat) (B : Code) (hB : B = (hole f41_b [1, 0, 1, 0, 1] X0)) : f41_P1 B call n = f41_T1 call n (f41_P17 B call n) := by
  subst hB; funext x0 x1 x2 x3 x4; cases x3 <;> kernel_rfl
theorem f41_l1 (call : CallF) (n : Nat) : f41_P1 f41_b call n = f41_T1 call n (f41_P17 f41_b call n) :=
  f41_o1 (piece [1, 0, 1, 0, 1] f41_b) call n _ (by kernel_rfl)
def f41_L1 (call : CallF) (n : Nat) : LB → LB → Bool → Bool → S_api_Cmd → OR :=
  f41_T1 call n (f41_L17 call n)
theorem f41_e1 (call : CallF) (n : Nat) : f41_P1 f41_b call n = f41_L1 call n := by
  rw [f41_l1, f41_e17]; rfl
/-- pigeonhole/cmd.path -/
def f41_T (call : CallF) (n : Nat) (j1 : LB → LB → Bool → Bool → S_api_Cmd → OR) (a0 : S_api_Cmd) (a1 a2 : LB) (a3 : Bool) : OR :=
  bif (decide (((a1).length : Int) < ((a2).length : Int))) then (
    j1 a1 a2 a3 true a0) else (
    bif decide (0 ≤ ((a2).length : Int) ∧ (Int.toNat ((a2).length : Int)) ≤ (a1).length) then (
      callK call 61 [.one (.str ((a1.take (Int.toNat ((a2).length : Int))).drop 0))] fun v26 =>
      oS v26 fun s27 =>
      j1 a1 a2 a3 (!(s27 == a2)) a0) else none)
def f41_L (call : CallF) (n : Nat) (a0 : S_api_Cmd) (a1 a2 : LB) (a3 : Bool) : OR :=
  f41_T call n (f41_L1 call n) a0 a1 a2 a3
theorem f41_o (X0 : Code) (call : CallF) (n : Nat) (B : Code) (hB : B = (hole f41_b [1, 0, 1] X0)) : f41_P B call n = f41_T call n (f41_P1 B call n) := by
  subst hB; funext a0 a1 a2 a3; kernel_rfl
theorem f41_l (call : CallF) (n : Nat) : f41_P f41_b call n = f41_T call n (f41_P1 f41_b call n) :=
  f41_o (piece [1, 0, 1] f41_b) call n _ (by kernel_rfl)
theorem f41_e (call : CallF) (n : Nat) : f41_P f41_b call n = f41_L call n := by
  rw [f41_l, f41_e1]; rfl
theorem f41_eq (n : Nat) (a0 : S_api_Cmd) (a1 a2 : LB) (a3 : Bool) : acall AXE AXF (n + 1) 41 [.one (.ptr 0 0), .one (.str a1), .one (.str a2), .one (.bool a3)] [a0.cells] = f41_L (acall AXE AXF n) (n + 1) a0 a1 a2 a3 :=
  (show _ = f41_P f41_b (acall AXE AXF n) (n + 1) a0 a1 a2 a3 by kernel_rfl).trans (by rw [f41_e])
def f61_P10 (B : Code) (call : CallF) (n : Nat) (m0 : Nat) (x0 x1 : Nat) (x2 x3 : Int) (x4 : LC) : OR :=
  f61_x B call n [1, 1, 0, 1, 0, 0, 1, 1, 1] (kSeq (fun k => prK 1000003 (pruneAt f61_h 1000003) (aloop 1000003 (pruneAt f61_h 1000003) (f61_x B call n [1, 1, 0, 1, 0, 0]) k m0)) (kBlk 0 (kSeq (f61_x B call n [1, 1, 1]) (kEnd AXE 0 f61_r)))) ⟨[(3, .one (.bsl 0 1 x0)), (8, .one (.bsl 0 1 x1)), (9, .one (.int .i64 x2)), (10, .one (.int .i64 x3))], [[.row x4]]⟩
def f61_P11 (B : Code) (call : CallF) (n : Nat) (m0 : Nat) (x0 : Nat) (x1 x2 : Int) (x3 : Nat) (x4 x5 : Int) (x6 : LC) : OR :=
  f61_x B call n [1, 1, 0, 1, 0, 0, 1, 1, 1] (kSeq (fun k => prK 1000003 (pruneAt f61_h 1000003) (aloop 1000003 (pruneAt f61_h 1000003) (f61_x B call n [1, 1, 0, 1, 0, 0]) k m0)) (kBlk 0 (kSeq (f61_x B call n [1, 1, 1]) (kEnd AXE 0 f61_r)))) ⟨[(3, .one (.bsl 0 1 x0)), (4, .one (.int .i64 x1)), (5, .one (.int .u8 x2)), (8, .one (.bsl 0 1 x3)), (9, .one (.int .i64 x4)), (10, .one (.int .i64 x5))], [[.row x6]]⟩
def f61_P9 (B : Code) (call : CallF) (n : Nat) (m0 : Nat) (x0 : Nat) (x1 x2 : Int) (x3 : Nat) (x4 x5 : Int) (x6 : Bool) (x7 : LC) : OR :=
  f61_x B call n [1, 1, 0, 1, 0, 0, 1, 1, 0, 0, 1, 1] (kBlk 1 (kSeq (f61_x B call n [1, 1, 0, 1, 0, 0, 1, 1, 1]) (kSeq (fun k => prK 1000003 (pruneAt f61_h 1000003) (aloop 1000003 (pruneAt f61_h 1000003) (f61_x B call n [1, 1, 0, 1, 0, 0]) k m0)) (kBlk 0 (kSeq (f61_x B call n [1, 1, 1]) (kEnd AXE 0 f61_r)))))) ⟨[(3, .one (.bsl 0 1 x0)), (4, .one (.int .i64 x1)), (5, .one (.int .u8 x2)), (8, .one (.bsl 0 1 x3)), (9, .one (.int .i64 x4)), (10, .one (.int .i64 x5)), (20, .one (.bool x6))], [[.row x7]]⟩
def f61_P3 (B : Code) (call : CallF) (n : Nat) (m0 : Nat) (x0 x1 : Nat) (x2 x3 : Int) (x4 : LC) : OR :=
  aloop 1000003 (pruneAt f61_h 1000003) (f61_x B call n [1, 1, 0, 1, 0, 0]) (kBlk 0 (kSeq (f61_x B call n [1, 1, 1]) (kEnd AXE 0 f61_r))) m0 ⟨[(3, .one (.bsl 0 1 x0)), (8, .one (.bsl 0 1 x1)), (9, .one (.int .i64 x2)), (10, .one (.int .i64 x3))], [[.row x4]]⟩
def f61_P (B : Code) (call : CallF) (n : Nat) (a0 : LB) : OR :=
  f61_x B call n [] (kEnd AXE 0 f61_r) ⟨[(0, .one (.str a0))], []⟩
def f61_T10 (call : CallF) (n : Nat) (j3m : Nat → Nat → Int → Int → LC → OR) (x0 x1 : Nat) (x2 x3 : Int) (x4 : LC) : OR :=
  j3m x0 x1 x2 (IntKind.wrap .i64 (x3 + (1 : Int))) x4
theorem f61_o10 (call : CallF) (n : Nat) (m0 : Nat) (B : Code) (hB : B = f61_b) : f61_P10 B call n m0 = f61_T10 call n (f61_P3 B call n m0) := by
  subst hB; funext x0 x1 x2 x3 x4; kernel_rfl
theorem f61_l10 (call : CallF) (n : Nat) (m0 : Nat) : f61_P10 f61_b call n m0 = f61_T10 call n (f61_P3 f61_b call n m0) :=
  f61_o10 call n m0 _ (by kernel_rfl)
def f61_L10 (call : CallF) (n : Nat) (h_m0 : Nat → Nat → Int → Int → LC → OR) : Nat → Nat → Int → Int → LC → OR :=
  f61_T10 call n h_m0
theorem f61_e10 (call : CallF) (n : Nat) (m0 : Nat) : f61_P10 f61_b call n m0 = f61_L10 call n (f61_P3 f61_b call n m0) := by
  rw [f61_l10]; rfl
def f61_T11 (call : CallF) (n : Nat) (j3m : Nat → Nat → Int → Int → LC → OR) (x0 : Nat) (x1 x2 : Int) (x3 : Nat) (x4 x5 : Int) (x6 : LC) : OR :=
  j3m x0 x3 x4 (IntKind.wrap .i64 (x5 + (1 : Int))) x6
theorem f61_o11 (call : CallF) (n : Nat) (m0 : Nat) (B : Code) (hB : B = f61_b) : f61_P11 B call n m0 = f61_T11 call n (f61_P3 B call n m0) := by
  subst hB; funext x0 x1 x2 x3 x4 x5 x6; kernel_rfl
theorem f61_l11 (call : CallF) (n : Nat) (m0 : Nat) : f61_P11 f61_b call n m0 = f61_T11 call n (f61_P3 f61_b call n m0) :=
  f61_o11 call n m0 _ (by kernel_rfl)
def f61_L11 (call : CallF) (n : Nat) (h_m0 : Nat → Nat → Int → Int → LC → OR) : Nat → Int → Int → Nat → Int → Int → LC → OR :=
  f61_T11 call n h_m0
theorem f61_e11 (call : CallF) (n : Nat) (m0 : Nat) : f61_P11 f61_b call n m0 = f61_L11 call n (f61_P3 f61_b call n m0) := by
  rw [f61_l11]; rfl
def f61_T9 (call : CallF) (n : Nat) (j10 : Nat → Nat → Int → Int → LC → OR) (j11 : Nat → Int → Int → Nat → Int → Int → LC → OR) (x0 : Nat) (x1 x2 : Int) (x3 : Nat) (x4 x5 : Int) (x6 : Bool) (x7 : LC) : OR :=
  bif x6 then (
    guardB (decide (0 ≤ x1) && decide (Int.toNat x1 < x0)) (
      bif Nat.blt ((Int.toNat x1) * 1) x7.length then (
        j10 x0 x3 x4 x5 (x7.set ((Int.toNat x1) * 1) (.int .u8 (IntKind.wrap .u8 ((BitVec.toNat ((BitVec.ofInt (IntKind.bits .u8) x2) &&& ~~~(BitVec.ofInt (IntKind.bits .u8) (32 : Int))) : Nat) : Int))))) else none)) else (
    j11 x0 x1 x2 x3 x4 x5 x7)
theorem f61_o9 (X0 : Code) (call : CallF) (n : Nat) (m0 : Nat) (B : Code) (hB : B = (hole f61_b [1, 1, 0, 1, 0, 0, 1, 1, 1] X0)) : f61_P9 B call n m0 = f61_T9 call n (f61_P10 B call n m0) (f61_P11 B call n m0) := by
  subst hB; funext x0 x1 x2 x3 x4 x5 x6 x7; cases x6 <;> kernel_rfl
theorem f61_l9 (call : CallF) (n : Nat) (m0 : Nat) : f61_P9 f61_b call n m0 = f61_T9 call n (f61_P10 f61_b call n m0) (f61_P11 f61_b call n m0) :=
  f61_o9 (piece [1, 1, 0, 1, 0, 0, 1, 1, 1] f61_b) call n m0 _ (by kernel_rfl)
def f61_L9 (call : CallF) (n : Nat) (h_m0 : Nat → Nat → Int → Int → LC → OR) : Nat → Int → Int → Nat → Int → Int → Bool → LC → OR :=
  f61_T9 call n (f61_L10 call n h_m0) (f61_L11 call n h_m0)
theorem f61_e9 (call : CallF) (n : Nat) (m0 : Nat) : f61_P9 f61_b call n m0 = f61_L9 call n (f61_P3 f61_b call n m0) := by
  rw [f61_l9, f61_e10, f61_e11]; rfl
def f61_T3 (call : CallF) (n : Nat) (j9 : Nat → Int → Int → Nat → Int → Int → Bool → LC → OR) (x0 x1 : Nat) (x2 x3 : Int) (x4 : LC) : OR :=
  bif (decide (x3 < x2)) then (
    guardB (decide (0 ≤ x3) && decide (Int.toNat x3 < x1)) (
      rowAt x4 ((Int.toNat x3) * 1) fun c1 =>
      castI .u8 c1 fun n2 =>
      bif (decide (n2 ≥ (97 : Int))) then (
        j9 x0 x3 n2 x1 x2 x3 (decide (n2 ≤ (122 : Int))) x4) else (
        j9 x0 x3 n2 x1 x2 x3 false x4))) else (
    bif Nat.ble x0 x4.length then (
      bytesK (x4.take x0) fun s3 =>
      some (.one (.str s3), [])) else none)
theorem f61_o3 (X0 : Code) (call : CallF) (n : Nat) (m0 : Nat) (B : Code) (hB : B = (hole f61_b [1, 1, 0, 1, 0, 0, 1, 1, 0, 0, 1, 1] X0)) : f61_P3 B call n (m0 + 1) = f61_T3 call n (f61_P9 B call n m0) := by
  subst hB; funext x0 x1 x2 x3 x4; kernel_rfl
theorem f61_l3 (call : CallF) (n : Nat) (m0 : Nat) : f61_P3 f61_b call n (m0 + 1) = f61_T3 call n (f61_P9 f61_b call n m0) :=
  f61_o3 (piece [1, 1, 0, 1, 0, 0, 1, 1, 0, 0, 1, 1] f61_b) call n m0 _ (by kernel_rfl)
def f61_L3 (call : CallF) (n : Nat) : Nat → Nat → Nat → Int → Int → LC → OR
  | 0 => fun _ _ _ _ _ => none
  | m0 + 1 => f61_T3 call n (f61_L9 call n (f61_L3 call n m0))
theorem f61_e3 (call : CallF) (n : Nat) : ∀ m0 : Nat, f61_P3 f61_b call n m0 = f61_L3 call n m0
  | 0 => by funext x0 x1 x2 x3 x4; kernel_rfl
  | m0 + 1 => by rw [f61_l3, f61_e9, f61_e3 call n m0]; rfl
/-- pigeonhole/cmd.upper -/
def f61_T (call : CallF) (n : Nat) (j3n : Nat → Nat → Int → Int → LC → OR) (a0 : LB) : OR :=
  j3n (a0.length) (a0.length) ((a0.length) : Int) (0 : Int) (byteCells a0)
def f61_L (call : CallF) (n : Nat) (a0 : LB) : OR :=
  f61_T call n (f61_L3 call n n) a0
theorem f61_o (call : CallF) (n : Nat) (B : Code) (hB : B = f61_b) : f61_P B call n = f61_T call n (f61_P3 B call n n) := by
  subst hB; funext a0; kernel_rfl
theorem f61_l (call : CallF) (n : Nat) : f61_P f61_b call n = f61_T call n (f61_P3 f61_b call n n) :=
  f61_o call n _ (by kernel_rfl)
theorem f61_e (call : CallF) (n : Nat) : f61_P f61_b call n = f61_L call n := by
  rw [f61_l, f61_e3]; rfl
theorem f61_eq (n : Nat) (a0 : LB) : acall AXE AXF (n + 1) 61 [.one (.str a0)] [] = f61_L (acall AXE AXF n) (n + 1) a0 :=
  (show _ = f61_P f61_b (acall AXE AXF n) (n + 1) a0 by kernel_rfl).trans (by rw [f61_e])
def f62_P (B : Code) (call : CallF) (n : Nat) : OR :=
  f62_x B call n [] (kEnd AXE 0 f62_r) ⟨[], []⟩
/-- pigeonhole/cmd.words -/
def f62_T (call : CallF) (n : Nat) : OR :=
  some (.one (.sl (some ⟨0, 0, 9⟩) 1 ([.str ([] : List UInt8), .str ([72, 69, 76, 79] : List UInt8), .str ([69, 72, 76, 79] : List UInt8), .str ([76, 72, 76, 79] : List UInt8), .str ([77, 65, 73, 76] : List UInt8), .str ([82, 67, 80, 84] : List UInt8), .str ([68, 65, 84, 65] : List UInt8), .str ([82, 83, 69, 84] : List UInt8), .str ([78, 79, 79, 80] : List UInt8), .str ([81, 85, 73, 84] : List UInt8), .str ([86, 82, 70, 89] : List UInt8), .str ([72, 69, 76, 80] : List UInt8)] : List Cell)), [])
def f62_L (call : CallF) (n : Nat) : OR :=
  f62_T call n
theorem f62_o (call : CallF) (n : Nat) (B : Code) (hB : B = f62_b) : f62_P B call n = f62_T call n := by
  subst hB; kernel_rfl
theorem f62_l (call : CallF) (n : Nat) : f62_P f62_b call n = f62_T call n :=
  f62_o call n _ (by kernel_rfl)
theorem f62_e (call : CallF) (n : Nat) : f62_P f62_b call n = f62_L call n := by
  rw [f62_l]; rfl
theorem f62_eq (n : Nat) : acall AXE AXF (n + 1) 62 [] [] = f62_L (acall AXE AXF n) (n + 1) :=
  (show _ = f62_P f62_b (acall AXE AXF n) (n + 1) by kernel_rfl).trans (by rw [f62_e])
def f66_P18 (B : Code) (call : CallF) (n : Nat) (m0 : Nat) (x0 : Int) (x1 : S_api_Cmd) : OR :=
  f66_x B call n [1, 1, 0, 1, 0, 0, 1, 1, 0, 0, 1, 1, 1, 0, 1, 0, 1] (kSeq (f66_x B call n [1, 1, 0, 1, 0, 0, 1, 1, 0, 0, 1, 1, 1, 1]) (kBlk 1 (kSeq (f66_x B call n [1, 1, 0, 1, 0, 0, 1, 1, 1]) (kSeq (fun k => prK 1000003 (pruneAt f66_h 1000003) (aloop 1000003 (pruneAt f66_h 1000003) (f66_x B call n [1, 1, 0, 1, 0, 0]) k m0)) (kBlk 0 (kSeq (f66_x B call n [1, 1, 1]) (kEnd AXE 1 f66_r))))))) ⟨[(4, .one (.int .i64 x0))], [x1.cells]⟩
def f66_P20 (B : Code) (call : CallF) (n : Nat) (m0 : Nat) (x0 : Int) (x1 : S_api_Cmd) : OR :=
  f66_x B call n [1, 1, 0, 1, 0, 0, 1, 1, 0, 0, 1, 1, 1, 1, 1, 1, 1, 1, 0, 1] (kBlk 1 (kSeq (f66_x B call n [1, 1, 0, 1, 0, 0, 1, 1, 1]) (kSeq (fun k => prK 1000003 (pruneAt f66_h 1000003) (aloop 1000003 (pruneAt f66_h 1000003) (f66_x B call n [1, 1, 0, 1, 0, 0]) k m0)) (kBlk 0 (kSeq (f66_x B call n [1, 1, 1]) (kEnd AXE 1 f66_r)))))) ⟨[(4, .one (.int .i64 x0))], [x1.cells]⟩
def f66_P21 (B : Code) (call : CallF) (n : Nat) (m0 : Nat) (x0 : Int) (x1 : LC) (x2 x3 : Int) (x4 : S_api_Cmd) (x5 : Nat) (x6 : List (Cell × Cell × Nat)) : OR :=
  f66_x B call n [1, 1, 0, 1, 0, 0, 1, 1, 1] (kSeq (fun k => prK 1000003 (pruneAt f66_h 1000003) (aloop 1000003 (pruneAt f66_h 1000003) (f66_x B call n [1, 1, 0, 1, 0, 0]) k m0)) (kBlk 0 (kSeq (f66_x B call n [1, 1, 1]) (kEnd AXE 1 f66_r)))) ⟨[(0, .one (.ptr 0 0)), (5, .one (.mapr 1)), (11, .one (.int .i64 x0)), (13, .one (.sl none 1 x1)), (14, .one (.int .i64 x2)), (15, .one (.int .i64 x3))], [x4.cells, [.map x5 x6]]⟩
def f66_P19 (B : Code) (call : CallF) (n : Nat) (m0 : Nat) (x0 : Int) (x1 : LC) (x2 x3 : Int) (x4 : Bool) (x5 : S_api_Cmd) (x6 : Nat) (x7 : List (Cell × Cell × Nat)) : OR :=
  f66_x B call n [1, 1, 0, 1, 0, 0, 1, 1, 0, 0, 1, 1, 1, 1, 1, 1, 1, 1] (kBlk 1 (kSeq (f66_x B call n [1, 1, 0, 1, 0, 0, 1, 1, 1]) (kSeq (fun k => prK 1000003 (pruneAt f66_h 1000003) (aloop 1000003 (pruneAt f66_h 1000003) (f66_x B call n [1, 1, 0, 1, 0, 0]) k m0)) (kBlk 0 (kSeq (f66_x B call n [1, 1, 1]) (kEnd AXE 1 f66_r)))))) ⟨[(0, .one (.ptr 0 0)), (5, .one (.mapr 1)), (11, .one (.int .i64 x0)), (13, .one (.sl none 1 x1)), (14, .one (.int .i64 x2)), (15, .one (.int .i64 x3)), (58, .one (.bool x4))], [x5.cells, [.map x6 x7]]⟩
def f66_P11 (B : Code) (call : CallF) (n : Nat) (m0 : Nat) (x0 x1 : LB) (x2 : LC) (x3 x4 : Int) (x5 : Bool) (x6 : S_api_Cmd) (x7 : Nat) (x8 : List (Cell × Cell × Nat)) : OR :=
  f66_x B call n [1, 1, 0, 1, 0, 0, 1, 1, 0, 0, 1, 1, 1, 0, 1] (kSeq (f66_x B call n [1, 1, 0, 1, 0, 0, 1, 1, 0, 0, 1, 1, 1, 1]) (kBlk 1 (kSeq (f66_x B call n [1, 1, 0, 1, 0, 0, 1, 1, 1]) (kSeq (fun k => prK 1000003 (pruneAt f66_h 1000003) (aloop 1000003 (pruneAt f66_h 1000003) (f66_x B call n [1, 1, 0, 1, 0, 0]) k m0)) (kBlk 0 (kSeq (f66_x B call n [1, 1, 1]) (kEnd AXE 1 f66_r))))))) ⟨[(0, .one (.ptr 0 0)), (5, .one (.mapr 1)), (8, .one (.str x0)), (9, .one (.str x1)), (13, .one (.sl none 1 x2)), (14, .one (.int .i64 x3)), (15, .one (.int .i64 x4)), (43, .one (.bool x5))], [x6.cells, [.map x7 x8]]⟩
def f66_P3 (B : Code) (call : CallF) (n : Nat) (m0 : Nat) (x0 : LC) (x1 x2 : Int) (x3 : S_api_Cmd) (x4 : Nat) (x5 : List (Cell × Cell × Nat)) : OR :=
  aloop 1000003 (pruneAt f66_h 1000003) (f66_x B call n [1, 1, 0, 1, 0, 0]) (kBlk 0 (kSeq (f66_x B call n [1, 1, 1]) (kEnd AXE 1 f66_r))) m0 ⟨[(0, .one (.ptr 0 0)), (5, .one (.mapr 1)), (13, .one (.sl none 1 x0)), (14, .one (.int .i64 x1)), (15, .one (.int .i64 x2))], [x3.cells, [.map x4 x5]]⟩
def f66_P (B : Code) (call : CallF) (n : Nat) (a0 : S_api_Cmd) (a1 : LC) : OR :=
  f66_x B call n [] (kEnd AXE 1 f66_r) ⟨[(0, .one (.ptr 0 0)), (1, .one (.sl none 1 a1))], [a0.cells]⟩
def f66_T18 (call : CallF) (n : Nat) (x0 : Int) (x1 : S_api_Cmd) : OR :=
  some (.one (.int .i64 x0), [x1.cells])
theorem f66_o18 (call : CallF) (n : Nat) (m0 : Nat) (B : Code) (hB : B = f66_b) : f66_P18 B call n m0 = f66_T18 call n := by
  subst hB; funext x0 x1; kernel_rfl
theorem f66_l18 (call : CallF) (n : Nat) (m0 : Nat) : f66_P18 f66_b call n m0 = f66_T18 call n :=
  f66_o18 call n m0 _ (by kernel_rfl)
def f66_L18 (call : CallF) (n : Nat) (h_m0 : LC → Int → Int → S_api_Cmd → Nat → List (Cell × Cell × Nat) → OR) : Int → S_api_Cmd → OR :=
  f66_T18 call n
theorem f66_e18 (call : CallF) (n : Nat) (m0 : Nat) : f66_P18 f66_b call n m0 = f66_L18 call n (f66_P3 f66_b call n m0) := by
  rw [f66_l18]; rfl
def f66_T20 (call : CallF) (n : Nat) (x0 : Int) (x1 : S_api_Cmd) : OR :=
  some (.one (.int .i64 x0), [x1.cells])
theorem f66_o20 (call : CallF) (n : Nat) (m0 : Nat) (B : Code) (hB : B = f66_b) : f66_P20 B call n m0 = f66_T20 call n := by
  subst hB; funext x0 x1; kernel_rfl
theorem f66_l20 (call : CallF) (n : Nat) (m0 : Nat) : f66_P20 f66_b call n m0 = f66_T20 call n :=
  f66_o20 call n m0 _ (by kernel_rfl)
def f66_L20 (call : CallF) (n : Nat) (h_m0 : LC → Int → Int → S_api_Cmd → Nat → List (Cell × Cell × Nat) → OR) : Int → S_api_Cmd → OR :=
  f66_T20 call n
theorem f66_e20 (call : CallF) (n : Nat) (m0 : Nat) : f66_P20 f66_b call n m0 = f66_L20 call n (f66_P3 f66_b call n m0) := by
  rw [f66_l20]; rfl
def f66_T21 (call : CallF) (n : Nat) (j3m : LC → Int → Int → S_api_Cmd → Nat → List (Cell × Cell × Nat) → OR) (x0 : Int) (x1 : LC) (x2 x3 : Int) (x4 : S_api_Cmd) (x5 : Nat) (x6 : List (Cell × Cell × Nat)) : OR :=
  j3m x1 x2 (IntKind.wrap .i64 (x3 + (1 : Int))) x4 x5 x6
theorem f66_o21 (call : CallF) (n : Nat) (m0 : Nat) (B : Code) (hB : B = f66_b) : f66_P21 B call n m0 = f66_T21 call n (f66_P3 B call n m0) := by
  subst hB; funext x0 x1 x2 x3 x4 x5 x6; kernel_rfl
theorem f66_l21 (call : CallF) (n : Nat) (m0 : Nat) : f66_P21 f66_b call n m0 = f66_T21 call n (f66_P3 f66_b call n m0) :=
  f66_o21 call n m0 _ (by kernel_rfl)
def f66_L21 (call : CallF) (n : Nat) (h_m0 : LC → Int → Int → S_api_Cmd → Nat → List (Cell × Cell × Nat) → OR) : Int → LC → Int → Int → S_api_Cmd → Nat → List (Cell × Cell × Nat) → OR :=
  f66_T21 call n h_m0
theorem f66_e21 (call : CallF) (n : Nat) (m0 : Nat) : f66_P21 f66_b call n m0 = f66_L21 call n (f66_P3 f66_b call n m0) := by
  rw [f66_l21]; rfl
def f66_T19 (call : CallF) (n : Nat) (j20 : Int → S_api_Cmd → OR) (j21 : Int → LC → Int → Int → S_api_Cmd → Nat → List (Cell × Cell × Nat) → OR) (x0 : Int) (x1 : LC) (x2 x3 : Int) (x4 : Bool) (x5 : S_api_Cmd) (x6 : Nat) (x7 : List (Cell × Cell × Nat)) : OR :=
  bif x4 then (
    j20 x0 x5) else (
    j21 x0 x1 x2 x3 x5 x6 x7)
theorem f66_o19 (X0 X1 : Code) (call : CallF) (n : Nat) (m0 : Nat) (B : Code) (hB : B = (hole (hole f66_b [1, 1, 0, 1, 0, 0, 1, 1, 0, 0, 1, 1, 1, 1, 1, 1, 1, 1, 0, 1] X0) [1, 1, 0, 1, 0, 0, 1, 1, 1] X1)) : f66_P19 B call n m0 = f66_T19 call n (f66_P20 B call n m0) (f66_P21 B call n m0) := by
  subst hB; funext x0 x1 x2 x3 x4 x5 x6 x7; cases x4 <;> kernel_rfl
theorem f66_l19 (call : CallF) (n : Nat) (m0 : Nat) : f66_P19 f66_b call n m0 = f66_T19 call n (f66_P20 f66_b call n m0) (f66_P21 f66_b call n m0) :=
  f66_o19 (piece [1, 1, 0, 1, 0, 0, 1, 1, 0, 0, 1, 1, 1, 1, 1, 1, 1, 1, 0, 1] f66_b) (piece [1, 1, 0, 1, 0, 0, 1, 1, 1] f66_b) call n m0 _ (by kernel_rfl)
def f66_L19 (call : CallF) (n : Nat) (h_m0 : LC → Int → Int → S_api_Cmd → Nat → List (Cell × Cell × Nat) → OR) : Int → LC → Int → Int → Bool → S_api_Cmd → Nat → List (Cell × Cell × Nat) → OR :=
  f66_T19 call n (f66_L20 call n h_m0) (f66_L21 call n h_m0)
theorem f66_e19 (call : CallF) (n : Nat) (m0 : Nat) : f66_P19 f66_b call n m0 = f66_L19 call n (f66_P3 f66_b call n m0) := by
  rw [f66_l19, f66_e20, f66_e21]; rfl
def f66_T11 (call : CallF) (n : Nat) (j18 : Int → S_api_Cmd → OR) (j19 : Int → LC → Int → Int → Bool → S_api_Cmd → Nat → List (Cell × Cell × Nat) → OR) (x0 x1 : LB) (x2 : LC) (x3 x4 : Int) (x5 : Bool) (x6 : S_api_Cmd) (x7 : Nat) (x8 : List (Cell × Cell × Nat)) : OR :=
  bif x5 then (
    j18 (501 : Int) x6) else (
    lookK (.str x0) x8 (.int .i64 (0 : Int)) fun c1 t2 =>
    castI .i64 c1 fun n3 =>
    updK (.str x0) (.int .i64 (IntKind.wrap .i64 (n3 + (1 : Int)))) x7 x8 fun k4 m5 =>
    bif (x6.fVerb == (4 : Int)) then (
      callRK call 91 [.one (.ptr 0 0), .one (.str x0), .one (.str x1)] [x6.cells] fun v6 h7 =>
      consK h7 fun r8 h9 =>
      takeS_api_Cmd r8 fun w10 r11 =>
      nilK r11 (
        nilK h9 (
          oI .i64 v6 fun n12 =>
          j19 n12 x2 x3 x4 (n12 != (0 : Int)) w10 k4 m5))) else (
      j19 (555 : Int) x2 x3 x4 true x6 k4 m5))
theorem f66_o11 (X0 X1 : Code) (call : CallF) (n : Nat) (m0 : Nat) (B : Code) (hB : B = (hole (hole f66_b [1, 1, 0, 1, 0, 0, 1, 1, 0, 0, 1, 1, 1, 1, 1, 1, 1, 1] X0) [1, 1, 0, 1, 0, 0, 1, 1, 0, 0, 1, 1, 1, 0, 1, 0, 1] X1)) : f66_P11 B call n m0 = f66_T11 call n (f66_P18 B call n m0) (f66_P19 B call n m0) := by
  subst hB; funext x0 x1 x2 x3 x4 x5 x6 x7 x8; cases x5 <;> kernel_rfl
theorem f66_l11 (call : CallF) (n : Nat) (m0 : Nat) : f66_P11 f66_b call n m0 = f66_T11 call n (f66_P18 f66_b call n m0) (f66_P19 f66_b call n m0) :=
  f66_o11 (piece [1, 1, 0, 1, 0, 0, 1, 1, 0, 0, 1, 1, 1, 1, 1, 1, 1, 1] f66_b) (piece [1, 1, 0, 1, 0, 0, 1, 1, 0, 0, 1, 1, 1, 0, 1, 0, 1] f66_b) call n m0 _ (by kernel_rfl)
def f66_L11 (call : CallF) (n : Nat) (h_m0 : LC → Int → Int → S_api_Cmd → Nat → List (Cell × Cell × Nat) → OR) : LB → LB → LC → Int → Int → Bool → S_api_Cmd → Nat → List (Cell × Cell × Nat) → OR :=
  f66_T11 call n (f66_L18 call n h_m0) (f66_L19 call n h_m0)
theorem f66_e11 (call : CallF) (n : Nat) (m0 : Nat) : f66_P11 f66_b call n m0 = f66_L11 call n (f66_P3 f66_b call n m0) := by
  rw [f66_l11, f66_e18, f66_e19]; rfl
def f66_T3 (call : CallF) (n : Nat) (j11 : LB → LB → LC → Int → Int → Bool → S_api_Cmd → Nat → List (Cell × Cell × Nat) → OR) (x0 : LC) (x1 x2 : Int) (x3 : S_api_Cmd) (x4 : Nat) (x5 : List (Cell × Cell × Nat)) : OR :=
  bif (decide (x2 < x1)) then (
    itemK x0 x2 fun c1 =>
    castS c1 fun s2 =>
    primK pCut [.one (.str s2), .one (.str ([61] : List UInt8))] fun v3 =>
    castTup v3 fun v4 =>
    zS v4 fun s5 r6 =>
    zS r6 fun s7 r8 =>
    zB r8 fun b9 r10 =>
    nilK r10 (
      callK call 61 [.one (.str s5)] fun v11 =>
      oS v11 fun s12 =>
      callK call 89 [.one (.str s12)] fun v13 =>
      oB v13 fun b14 =>
      bif (!b14) then (
        j11 s12 s7 x0 x1 x2 true x3 x4 x5) else (
        bif b9 then (
          callK call 90 [.one (.str s7)] fun v15 =>
          oB v15 fun b16 =>
          bif (!b16) then (
            j11 s12 s7 x0 x1 x2 true x3 x4 x5) else (
            lookK (.str s12) x5 (.int .i64 (0 : Int)) fun c17 t18 =>
            castI .i64 c17 fun n19 =>
            j11 s12 s7 x0 x1 x2 (decide (n19 > (0 : Int))) x3 x4 x5)) else (
          lookK (.str s12) x5 (.int .i64 (0 : Int)) fun c20 t21 =>
          castI .i64 c20 fun n22 =>
          j11 s12 s7 x0 x1 x2 (decide (n22 > (0 : Int))) x3 x4 x5)))) else (
    some (.one (.int .i64 (0 : Int)), [x3.cells]))
theorem f66_o3 (X0 : Code) (call : CallF) (n : Nat) (m0 : Nat) (B : Code) (hB : B = (hole f66_b [1, 1, 0, 1, 0, 0, 1, 1, 0, 0, 1, 1, 1, 0, 1] X0)) : f66_P3 B call n (m0 + 1) = f66_T3 call n (f66_P11 B call n m0) := by
  subst hB; funext x0 x1 x2 x3 x4 x5; kernel_rfl
theorem f66_l3 (call : CallF) (n : Nat) (m0 : Nat) : f66_P3 f66_b call n (m0 + 1) = f66_T3 call n (f66_P11 f66_b call n m0) :=
  f66_o3 (piece [1, 1, 0, 1, 0, 0, 1, 1, 0, 0, 1, 1, 1, 0, 1] f66_b) call n m0 _ (by kernel_rfl)
def f66_L3 (call : CallF) (n : Nat) : Nat → LC → Int → Int → S_api_Cmd → Nat → List (Cell × Cell × Nat) → OR
  | 0 => fun _ _ _ _ _ _ => none
  | m0 + 1 => f66_T3 call n (f66_L11 call n (f66_L3 call n m0))
theorem f66_e3 (call : CallF) (n : Nat) : ∀ m0 : Nat, f66_P3 f66_b call n m0 = f66_L3 call n m0
  | 0 => by funext x0 x1 x2 x3 x4 x5; kernel_rfl
  | m0 + 1 => by rw [f66_l3, f66_e11, f66_e3 call n m0]; rfl
/-- pigeonhole/cmd.params -/
def f66_T (call : CallF) (n : Nat) (j3n : LC → Int → Int → S_api_Cmd → Nat → List (Cell × Cell × Nat) → OR) (a0 : S_api_Cmd) (a1 : LC) : OR :=
  j3n a1 (((a1).length / 1 : Nat) : Int) (0 : Int) a0 0 ([] : List (Cell × Cell × Nat))
def f66_L (call : CallF) (n : Nat) (a0 : S_api_Cmd) (a1 : LC) : OR :=
  f66_T call n (f66_L3 call n n) a0 a1
theorem f66_o (call : CallF) (n : Nat) (B : Code) (hB : B = f66_b) : f66_P B call n = f66_T call n (f66_P3 B call n n) := by
  subst hB; funext a0 a1; kernel_rfl
theorem f66_l (call : CallF) (n : Nat) : f66_P f66_b call n = f66_T call n (f66_P3 f66_b call n n) :=
  f66_o call n _ (by kernel_rfl)
theorem f66_e (call : CallF) (n : Nat) : f66_P f66_b call n = f66_L call n := by
  rw [f66_l, f66_e3]; rfl
theorem f66_eq (n : Nat) (a0 : S_api_Cmd) (a1 : LC) : acall AXE AXF (n + 1) 66 [.one (.ptr 0 0), .one (.sl none 1 a1)] [a0.cells] = f66_L (acall AXE AXF n) (n + 1) a0 a1 :=
  (show _ = f66_P f66_b (acall AXE AXF n) (n + 1) a0 a1 by kernel_rfl).trans (by rw [f66_e])
def f89_P9 (B : Code) (call : CallF) (n : Nat) (m0 : Nat) (x0 : Bool) : OR :=
  f89_x B call n [1, 0, 1, 0, 0, 1, 1, 0, 0, 1, 1, 0, 1] (kBlk 1 (kSeq (f89_x B call n [1, 0, 1, 0, 0, 1, 1, 1]) (kSeq (fun k => prK 1000002 (pruneAt f89_h 1000002) (aloop 1000002 (pruneAt f89_h 1000002) (f89_x B call n [1, 0, 1, 0, 0]) k m0)) (kBlk 0 (kSeq (f89_x B call n [1, 1]) (kEnd AXE 0 f89_r)))))) ⟨[(2, .one (.bool x0))], []⟩
def f89_P10 (B : Code) (call : CallF) (n : Nat) (m0 : Nat) (x0 : LB) (x1 : LC) (x2 x3 : Int) : OR :=
  f89_x B call n [1, 0, 1, 0, 0, 1, 1, 1] (kSeq (fun k => prK 1000002 (pruneAt f89_h 1000002) (aloop 1000002 (pruneAt f89_h 1000002) (f89_x B call n [1, 0, 1, 0, 0]) k m0)) (kBlk 0 (kSeq (f89_x B call n [1, 1]) (kEnd AXE 0 f89_r)))) ⟨[(0, .one (.str x0)), (6, .one (.sl none 1 x1)), (7, .one (.int .i64 x2)), (8, .one (.int .i64 x3))], []⟩
def f89_P8 (B : Code) (call : CallF) (n : Nat) (m0 : Nat) (x0 : LB) (x1 : LC) (x2 x3 : Int) (x4 : Bool) : OR :=
  f89_x B call n [1, 0, 1, 0, 0, 1, 1, 0, 0, 1, 1] (kBlk 1 (kSeq (f89_x B call n [1, 0, 1, 0, 0, 1, 1, 1]) (kSeq (fun k => prK 1000002 (pruneAt f89_h 1000002) (aloop 1000002 (pruneAt f89_h 1000002) (f89_x B call n [1, 0, 1, 0, 0]) k m0)) (kBlk 0 (kSeq (f89_x B call n [1, 1]) (kEnd AXE 0 f89_r)))))) ⟨[(0, .one (.str x0)), (6, .one (.sl none 1 x1)), (7, .one (.int .i64 x2)), (8, .one (.int .i64 x3)), (29, .one (.bool x4))], []⟩
def f89_P2 (B : Code) (call : CallF) (n : Nat) (m0 : Nat) (x0 : LB) (x1 : LC) (x2 x3 : Int) : OR :=
  aloop 1000002 (pruneAt f89_h 1000002) (f89_x B call n [1, 0, 1, 0, 0]) (kBlk 0 (kSeq (f89_x B call n [1, 1]) (kEnd AXE 0 f89_r))) m0 ⟨[(0, .one (.str x0)), (6, .one (.sl none 1 x1)), (7, .one (.int .i64 x2)), (8, .one (.int .i64 x3))], []⟩
def f89_P (B : Code) (call : CallF) (n : Nat) (a0 : LB) : OR :=
  f89_x B call n [] (kEnd AXE 0 f89_r) ⟨[(0, .one (.str a0))], []⟩
def f89_T9 (call : CallF) (n : Nat) (x0 : Bool) : OR :=
  some (.one (.bool x0), [])
theorem f89_o9 (call : CallF) (n : Nat) (m0 : Nat) (B : Code) (hB : B = f89_b) : f89_P9 B call n m0 = f89_T9 call n := by
  subst hB; funext x0; kernel_rfl
theorem f89_l9 (call : CallF) (n : Nat) (m0 : Nat) : f89_P9 f89_b call n m0 = f89_T9 call n :=
  f89_o9 call n m0 _ (by kernel_rfl)
def f89_L9 (call : CallF) (n : Nat) (h_m0 : LB → LC → Int → Int → OR) : Bool → OR :=
  f89_T9 call n
theorem f89_e9 (call : CallF) (n : Nat) (m0 : Nat) : f89_P9 f89_b call n m0 = f89_L9 call n (f89_P2 f89_b call n m0) := by
  rw [f89_l9]; rfl
def f89_T10 (call : CallF) (n : Nat) (j2m : LB → LC → Int → Int → OR) (x0 : LB) (x1 : LC) (x2 x3 : Int) : OR :=
  j2m x0 x1 x2 (IntKind.wrap .i64 (x3 + (1 : Int)))
theorem f89_o10 (call : CallF) (n : Nat) (m0 : Nat) (B : Code) (hB : B = f89_b) : f89_P10 B call n m0 = f89_T10 call n (f89_P2 B call n m0) := by
  subst hB; funext x0 x1 x2 x3; kernel_rfl
theorem f89_l10 (call : CallF) (n : Nat) (m0 : Nat) : f89_P10 f89_b call n m0 = f89_T10 call n (f89_P2 f89_b call n m0) :=
  f89_o10 call n m0 _ (by kernel_rfl)
def f89_L10 (call : CallF) (n : Nat) (h_m0 : LB → LC → Int → Int → OR) : LB → LC → Int → Int → OR :=
  f89_T10 call n h_m0
theorem f89_e10 (call : CallF) (n : Nat) (m0 : Nat) : f89_P10 f89_b call n m0 = f89_L10 call n (f89_P2 f89_b call n m0) := by
  rw [f89_l10]; rfl
def f89_T8 (call : CallF) (n : Nat) (j9 : Bool → OR) (j10 : LB → LC → Int → Int → OR) (x0 : LB) (x1 : LC) (x2 x3 : Int) (x4 : Bool) : OR :=
  bif x4 then (
    j9 false) else (
    j10 x0 x1 x2 x3)
theorem f89_o8 (X0 X1 : Code) (call : CallF) (n : Nat) (m0 : Nat) (B : Code) (hB : B = (hole (hole f89_b [1, 0, 1, 0, 0, 1, 1, 0, 0, 1, 1, 0, 1] X0) [1, 0, 1, 0, 0, 1, 1, 1] X1)) : f89_P8 B call n m0 = f89_T8 call n (f89_P9 B call n m0) (f89_P10 B call n m0) := by
  subst hB; funext x0 x1 x2 x3 x4; cases x4 <;> kernel_rfl
theorem f89_l8 (call : CallF) (n : Nat) (m0 : Nat) : f89_P8 f89_b call n m0 = f89_T8 call n (f89_P9 f89_b call n m0) (f89_P10 f89_b call n m0) :=
  f89_o8 (piece [1, 0, 1, 0, 0, 1, 1, 0, 0, 1, 1, 0, 1] f89_b) (piece [1, 0, 1, 0, 0, 1, 1, 1] f89_b) call n m0 _ (by kernel_rfl)
def f89_L8 (call : CallF) (n : Nat) (h_m0 : LB → LC → Int → Int → OR) : LB → LC → Int → Int → Bool → OR :=
  f89_T8 call n (f89_L9 call n h_m0) (f89_L10 call n h_m0)
theorem f89_e8 (call : CallF) (n : Nat) (m0 : Nat) : f89_P8 f89_b call n m0 = f89_L8 call n (f89_P2 f89_b call n m0) := by
  rw [f89_l8, f89_e9, f89_e10]; rfl
def f89_T2 (call : CallF) (n : Nat) (j8 : LB → LC → Int → Int → Bool → OR) (x0 : LB) (x1 : LC) (x2 x3 : Int) : OR :=
  bif (decide (x3 < x2)) then (
    itemK x1 x3 fun c1 =>
    castI .u8 c1 fun n2 =>
    bif (decide (n2 < (65 : Int))) then (
      bif (decide (n2 < (48 : Int))) then (
        j8 x0 x1 x2 x3 (n2 != (45 : Int))) else (
        bif (decide (n2 > (57 : Int))) then (
          j8 x0 x1 x2 x3 (n2 != (45 : Int))) else (
          j8 x0 x1 x2 x3 false))) else (
      bif (decide (n2 > (90 : Int))) then (
        bif (decide (n2 < (48 : Int))) then (
          j8 x0 x1 x2 x3 (n2 != (45 : Int))) else (
          bif (decide (n2 > (57 : Int))) then (
            j8 x0 x1 x2 x3 (n2 != (45 : Int))) else (
            j8 x0 x1 x2 x3 false))) else (
        j8 x0 x1 x2 x3 false))) else (
    some (.one (.bool (!(x0 == ([] : List UInt8)))), []))
theorem f89_o2 (X0 : Code) (call : CallF) (n : Nat) (m0 : Nat) (B : Code) (hB : B = (hole f89_b [1, 0, 1, 0, 0, 1, 1, 0, 0, 1, 1] X0)) : f89_P2 B call n (m0 + 1) = f89_T2 call n (f89_P8 B call n m0) := by
  subst hB; funext x0 x1 x2 x3; kernel_rfl
theorem f89_l2 (call : CallF) (n : Nat) (m0 : Nat) : f89_P2 f89_b call n (m0 + 1) = f89_T2 call n (f89_P8 f89_b call n m0) :=
  f89_o2 (piece [1, 0, 1, 0, 0, 1, 1, 0, 0, 1, 1] f89_b) call n m0 _ (by kernel_rfl)
def f89_L2 (call : CallF) (n : Nat) : Nat → LB → LC → Int → Int → OR
  | 0 => fun _ _ _ _ => none
  | m0 + 1 => f89_T2 call n (f89_L8 call n (f89_L2 call n m0))
theorem f89_e2 (call : CallF) (n : Nat) : ∀ m0 : Nat, f89_P2 f89_b call n m0 = f89_L2 call n m0
  | 0 => by funext x0 x1 x2 x3; kernel_rfl
  | m0 + 1 => by rw [f89_l2, f89_e8, f89_e2 call n m0]; rfl
/-- pigeonhole/cmd.isName -/
def f89_T (call : CallF) (n : Nat) (j2n : LB → LC → Int → Int → OR) (a0 : LB) : OR :=
  j2n a0 (byteCells a0) ((((byteCells a0)).length / 1 : Nat) : Int) (0 : Int)
def f89_L (call : CallF) (n : Nat) (a0 : LB) : OR :=
  f89_T call n (f89_L2 call n n) a0
theorem f89_o (call : CallF) (n : Nat) (B : Code) (hB : B = f89_b) : f89_P B call n = f89_T call n (f89_P2 B call n n) := by
  subst hB; funext a0; kernel_rfl
theorem f89_l (call : CallF) (n : Nat) : f89_P f89_b call n = f89_T call n (f89_P2 f89_b call n n) :=
  f89_o call n _ (by kernel_rfl)
theorem f89_e (call : CallF) (n : Nat) : f89_P f89_b call n = f89_L call n := by
  rw [f89_l, f89_e2]; rfl
theorem f89_eq (n : Nat) (a0 : LB) : acall AXE AXF (n + 1) 89 [.one (.str a0)] [] = f89_L (acall AXE AXF n) (n + 1) a0 :=
  (show _ = f89_P f89_b (acall AXE AXF n) (n + 1) a0 by kernel_rfl).trans (by rw [f89_e])
def f90_P1 (B : Code) (call : CallF) (n : Nat) (x0 : Bool) : OR :=
  f90_x B call n [1, 1] (kEnd AXE 0 f90_r) ⟨[(2, .one (.bool x0))], []⟩
def f90_P (B : Code) (call : CallF) (n : Nat) (a0 : LB) : OR :=
  f90_x B call n [] (kEnd AXE 0 f90_r) ⟨[(0, .one (.str a0))], []⟩
def f90_T1 (call : CallF) (n : Nat) (x0 : Bool) : OR :=
  some (.one (.bool x0), [])
theorem f90_o1 (call : CallF) (n : Nat) (B : Code) (hB : B = f90_b) : f90_P1 B call n = f90_T1 call n := by
  subst hB; funext x0; kernel_rfl
theorem f90_l1 (call : CallF) (n : Nat) : f90_P1 f90_b call n = f90_T1 call n :=
  f90_o1 call n _ (by kernel_rfl)
def f90_L1 (call : CallF) (n : Nat) : Bool → OR :=
  f90_T1 call n
theorem f90_e1 (call : CallF) (n : Nat) : f90_P1 f90_b call n = f90_L1 call n := by
  rw [f90_l1]; rfl
/-- pigeonhole/cmd.isValue -/
def f90_T (call : CallF) (n : Nat) (j1 : Bool → OR) (a0 : LB) : OR :=
  bif (!(a0 == ([] : List UInt8))) then (
    primK pContains [.one (.str a0), .one (.str ([61, 32] : List UInt8))] fun v3 =>
    oB v3 fun b4 =>
    j1 (!b4)) else (
    j1 false)
def f90_L (call : CallF) (n : Nat) (a0 : LB) : OR :=
  f90_T call n (f90_L1 call n) a0
theorem f90_o (X0 : Code) (call : CallF) (n : Nat) (B : Code) (hB : B = (hole f90_b [1, 1] X0)) : f90_P B call n = f90_T call n (f90_P1 B call n) := by
  subst hB; funext a0; kernel_rfl
theorem f90_l (call : CallF) (n : Nat) : f90_P f90_b call n = f90_T call n (f90_P1 f90_b call n) :=
  f90_o (piece [1, 1] f90_b) call n _ (by kernel_rfl)
theorem f90_e (call : CallF) (n : Nat) : f90_P f90_b call n = f90_L call n := by
  rw [f90_l, f90_e1]; rfl
theorem f90_eq (n : Nat) (a0 : LB) : acall AXE AXF (n + 1) 90 [.one (.str a0)] [] = f90_L (acall AXE AXF n) (n + 1) a0 :=
  (show _ = f90_P f90_b (acall AXE AXF n) (n + 1) a0 by kernel_rfl).trans (by rw [f90_e])
def f91_P13 (B : Code) (call : CallF) (n : Nat) (x0 : Int) (x1 : S_api_Cmd) : OR :=
  f91_x B call n [1, 0, 1, 0, 1, 0, 1, 0, 1, 0, 1] (kSeq (f91_x B call n [1, 0, 1, 0, 1, 0, 1, 1]) (kBlk 0 (kSeq (f91_x B call n [1, 1]) (kEnd AXE 1 f91_r)))) ⟨[(6, .one (.int .i64 x0))], [x1.cells]⟩
def f91_P9 (B : Code) (call : CallF) (n : Nat) (x0 : Int) (x1 : Bool) (x2 : S_api_Cmd) : OR :=
  f91_x B call n [1, 0, 1, 0, 1, 0, 1, 0, 1] (kSeq (f91_x B call n [1, 0, 1, 0, 1, 0, 1, 1]) (kBlk 0 (kSeq (f91_x B call n [1, 1]) (kEnd AXE 1 f91_r)))) ⟨[(0, .one (.ptr 0 0)), (7, .one (.int .u64 x0)), (27, .one (.bool x1))], [x2.cells]⟩
def f91_P (B : Code) (call : CallF) (n : Nat) (a0 : S_api_Cmd) (a1 a2 : LB) : OR :=
  f91_x B call n [] (kEnd AXE 1 f91_r) ⟨[(0, .one (.ptr 0 0)), (1, .one (.str a1)), (2, .one (.str a2))], [a0.cells]⟩
def f91_T13 (call : CallF) (n : Nat) (x0 : Int) (x1 : S_api_Cmd) : OR :=
  some (.one (.int .i64 x0), [x1.cells])
theorem f91_o13 (call : CallF) (n : Nat) (B : Code) (hB : B = f91_b) : f91_P13 B call n = f91_T13 call n := by
  subst hB; funext x0 x1; kernel_rfl
theorem f91_l13 (call : CallF) (n : Nat) : f91_P13 f91_b call n = f91_T13 call n :=
  f91_o13 call n _ (by kernel_rfl)
def f91_L13 (call : CallF) (n : Nat) : Int → S_api_Cmd → OR :=
  f91_T13 call n
theorem f91_e13 (call : CallF) (n : Nat) : f91_P13 f91_b call n = f91_L13 call n := by
  rw [f91_l13]; rfl
def f91_T9 (call : CallF) (n : Nat) (j13 : Int → S_api_Cmd → OR) (x0 : Int) (x1 : Bool) (x2 : S_api_Cmd) : OR :=
  bif x1 then (
    j13 (501 : Int) x2) else (
    some (.one (.int .i64 (0 : Int)), [({ x2 with fSize := (IntKind.wrap .i64 x0) } : S_api_Cmd).cells]))
theorem f91_o9 (X0 : Code) (call : CallF) (n : Nat) (B : Code) (hB : B = (hole f91_b [1, 0, 1, 0, 1, 0, 1, 0, 1, 0, 1] X0)) : f91_P9 B call n = f91_T9 call n (f91_P13 B call n) := by
  subst hB; funext x0 x1 x2; cases x1 <;> kernel_rfl
theorem f91_l9 (call : CallF) (n : Nat) : f91_P9 f91_b call n = f91_T9 call n (f91_P13 f91_b call n) :=
  f91_o9 (piece [1, 0, 1, 0, 1, 0, 1, 0, 1, 0, 1] f91_b) call n _ (by kernel_rfl)
def f91_L9 (call : CallF) (n : Nat) : Int → Bool → S_api_Cmd → OR :=
  f91_T9 call n (f91_L13 call n)
theorem f91_e9 (call : CallF) (n : Nat) : f91_P9 f91_b call n = f91_L9 call n := by
  rw [f91_l9, f91_e13]; rfl
/-- pigeonhole/cmd.param -/
def f91_T (call : CallF) (n : Nat) (j9 : Int → Bool → S_api_Cmd → OR) (a0 : S_api_Cmd) (a1 a2 : LB) : OR :=
  bif (a1 == ([83, 73, 90, 69] : List UInt8)) then (
    primK pParseU [.one (.str a2), .one (.int .i64 (10 : Int)), .one (.int .i64 (64 : Int))] fun v18 =>
    castTup v18 fun v19 =>
    zI .u64 v19 fun n20 r21 =>
    zE r21 fun b22 r23 =>
    nilK r23 (
      bif b22 then (
        j9 n20 true a0) else (
        bif (decide (((a2).length : Int) > (20 : Int))) then (
          j9 n20 true a0) else (
          j9 n20 (decide (n20 > (9007199254740992 : Int))) a0)))) else (
    bif (a1 == ([66, 79, 68, 89] : List UInt8)) then (
      updK (.str ([55, 66, 73, 84] : List UInt8)) (.int .i64 (7 : Int)) 0 ([] : List (Cell × Cell × Nat)) fun k24 m25 =>
      updK (.str ([56, 66, 73, 84, 77, 73, 77, 69] : List UInt8)) (.int .i64 (8 : Int)) k24 m25 fun k26 m27 =>
      callK call 61 [.one (.str a2)] fun v28 =>
      oS v28 fun s29 =>
      lookK (.str s29) m27 (.int .i64 (0 : Int)) fun c30 t31 =>
      castI .i64 c30 fun n32 =>
      callK call 38 [.one (.bool (decide (n32 > (0 : Int))))] fun v33 =>
      oI .i64 v33 fun n34 =>
      some (.one (.int .i64 n34), [({ a0 with fBody := n32 } : S_api_Cmd).cells])) else (
      some (.one (.int .i64 (555 : Int)), [a0.cells])))
def f91_L (call : CallF) (n : Nat) (a0 : S_api_Cmd) (a1 a2 : LB) : OR :=
  f91_T call n (f91_L9 call n) a0 a1 a2
theorem f91_o (X0 : Code) (call : CallF) (n : Nat) (B : Code) (hB : B = (hole f91_b [1, 0, 1, 0, 1, 0, 1, 0, 1] X0)) : f91_P B call n = f91_T call n (f91_P9 B call n) := by
  subst hB; funext a0 a1 a2; kernel_rfl
theorem f91_l (call : CallF) (n : Nat) : f91_P f91_b call n = f91_T call n (f91_P9 f91_b call n) :=
  f91_o (piece [1, 0, 1, 0, 1, 0, 1, 0, 1] f91_b) call n _ (by kernel_rfl)
theorem f91_e (call : CallF) (n : Nat) : f91_P f91_b call n = f91_L call n := by
  rw [f91_l, f91_e9]; rfl
theorem f91_eq (n : Nat) (a0 : S_api_Cmd) (a1 a2 : LB) : acall AXE AXF (n + 1) 91 [.one (.ptr 0 0), .one (.str a1), .one (.str a2)] [a0.cells] = f91_L (acall AXE AXF n) (n + 1) a0 a1 a2 :=
  (show _ = f91_P f91_b (acall AXE AXF n) (n + 1) a0 a1 a2 by kernel_rfl).trans (by rw [f91_e])
end
end AX
end Go.Proofs.YtfbicbgdfcbhpaaDoor
