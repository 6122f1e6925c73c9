/-
  The functions, printed, and that they are the reckoning.
-/
import Derived.Test.YtfbicbgdfcbhpaaDoorSxTab
set_option maxRecDepth 20000
set_option linter.unusedVariables false
set_option linter.unusedSimpArgs false
set_option linter.unusedSectionVars false
namespace Go.Proofs.YtfbicbgdfcbhpaaDoor
namespace AX
set_option linter.unusedVariables false
noncomputable section
def f49_P6 (B : Code) (call : CallF) (n : Nat) (x0 : LC) (x1 : Bool) : OR :=
  f49_x B call n [1, 1, 0, 1, 0, 1] (kSeq (f49_x B call n [1, 1, 1]) (kEnd AXE 0 f49_r)) ⟨[(2, .one (.sl (some ⟨2, 0, 5⟩) 1 x0)), (3, .one (.bool x1))], []⟩
def f49_P22 (B : Code) (call : CallF) (n : Nat) (m0 : Nat) (x0 : LB) (x1 : Int) (x2 : LC) (x3 x4 : Int) : OR :=
  f49_x B call n [1, 1, 1, 1, 1, 0, 0, 0, 1, 0, 1, 1, 1] (kBlk 1 (kSeq (fun k => prK 1000006 (pruneAt f49_h 1000006) (aloop 1000006 (pruneAt f49_h 1000006) (f49_x B call n [1, 1, 1, 1, 1, 0, 0, 0]) k m0)) (kBlk 0 (kSeq (f49_x B call n [1, 1, 1, 1, 1, 1]) (kEnd AXE 0 f49_r))))) ⟨[(0, .one (.str x0)), (4, .one (.int .i64 x1)), (5, .one (.sl (some ⟨5, 0, 5⟩) 1 x2)), (6, .one (.int .i64 x3)), (7, .one (.int .u8 x4))], []⟩
def f49_P29 (B : Code) (call : CallF) (n : Nat) (m0 : Nat) (x0 : LC) (x1 : Bool) : OR :=
  f49_x B call n [1, 1, 1, 1, 1, 0, 0, 0, 1, 0, 1, 1, 0, 1, 0, 1, 1, 1, 1, 1, 1, 1, 1, 0, 0, 1, 0, 1] (kSeq (f49_x B call n [1, 1, 1, 1, 1, 0, 0, 0, 1, 0, 1, 1, 0, 1, 0, 1, 1, 1, 1, 1, 1, 1, 1, 0, 1]) (kSeq (f49_x B call n [1, 1, 1, 1, 1, 0, 0, 0, 1, 0, 1, 1, 1]) (kBlk 1 (kSeq (fun k => prK 1000006 (pruneAt f49_h 1000006) (aloop 1000006 (pruneAt f49_h 1000006) (f49_x B call n [1, 1, 1, 1, 1, 0, 0, 0]) k m0)) (kBlk 0 (kSeq (f49_x B call n [1, 1, 1, 1, 1, 1]) (kEnd AXE 0 f49_r))))))) ⟨[(2, .one (.sl (some ⟨2, 0, 5⟩) 1 x0)), (3, .one (.bool x1))], []⟩
def f49_P23 (B : Code) (call : CallF) (n : Nat) (m0 : Nat) (x0 : LB) (x1 : Int) (x2 : LC) (x3 : Int) (x4 : Bool) : OR :=
  f49_x B call n [1, 1, 1, 1, 1, 0, 0, 0, 1, 0, 1, 1, 0, 1, 0, 1, 1, 1, 1, 1, 1, 1, 1, 0, 0, 1] (kSeq (f49_x B call n [1, 1, 1, 1, 1, 0, 0, 0, 1, 0, 1, 1, 0, 1, 0, 1, 1, 1, 1, 1, 1, 1, 1, 0, 1]) (kSeq (f49_x B call n [1, 1, 1, 1, 1, 0, 0, 0, 1, 0, 1, 1, 1]) (kBlk 1 (kSeq (fun k => prK 1000006 (pruneAt f49_h 1000006) (aloop 1000006 (pruneAt f49_h 1000006) (f49_x B call n [1, 1, 1, 1, 1, 0, 0, 0]) k m0)) (kBlk 0 (kSeq (f49_x B call n [1, 1, 1, 1, 1, 1]) (kEnd AXE 0 f49_r))))))) ⟨[(0, .one (.str x0)), (4, .one (.int .i64 x1)), (5, .one (.sl (some ⟨5, 0, 5⟩) 1 x2)), (6, .one (.int .i64 x3)), (69, .one (.bool x4))], []⟩
def f49_P30 (B : Code) (call : CallF) (n : Nat) (x0 : LC) (x1 : Bool) : OR :=
  f49_x B call n [1, 1, 1, 1, 1, 1, 0, 1, 0, 1] (kSeq (f49_x B call n [1, 1, 1, 1, 1, 1, 1]) (kEnd AXE 0 f49_r)) ⟨[(2, .one (.sl (some ⟨2, 0, 5⟩) 1 x0)), (3, .one (.bool x1))], []⟩
def f49_P26 (B : Code) (call : CallF) (n : Nat) (x0 : LC) (x1 : Bool) : OR :=
  f49_x B call n [1, 1, 1, 1, 1, 1, 0, 1] (kSeq (f49_x B call n [1, 1, 1, 1, 1, 1, 1]) (kEnd AXE 0 f49_r)) ⟨[(5, .one (.sl (some ⟨5, 0, 5⟩) 1 x0)), (96, .one (.bool x1))], []⟩
def f49_P7 (B : Code) (call : CallF) (n : Nat) (m0 : Nat) (x0 : LB) (x1 : Int) (x2 : LC) (x3 : Int) : OR :=
  aloop 1000006 (pruneAt f49_h 1000006) (f49_x B call n [1, 1, 1, 1, 1, 0, 0, 0]) (kBlk 0 (kSeq (f49_x B call n [1, 1, 1, 1, 1, 1]) (kEnd AXE 0 f49_r))) m0 ⟨[(0, .one (.str x0)), (4, .one (.int .i64 x1)), (5, .one (.sl (some ⟨5, 0, 5⟩) 1 x2)), (6, .one (.int .i64 x3))], []⟩
def f49_P2 (B : Code) (call : CallF) (n : Nat) (x0 : LB) (x1 : Int) (x2 : Bool) : OR :=
  f49_x B call n [1, 1, 0, 1] (kSeq (f49_x B call n [1, 1, 1]) (kEnd AXE 0 f49_r)) ⟨[(0, .one (.str x0)), (4, .one (.int .i64 x1)), (23, .one (.bool x2))], []⟩
def f49_P (B : Code) (call : CallF) (n : Nat) (a0 : LB) : OR :=
  f49_x B call n [] (kEnd AXE 0 f49_r) ⟨[(0, .one (.str a0))], []⟩
def f49_T6 (call : CallF) (n : Nat) (x0 : LC) (x1 : Bool) : OR :=
  some (.tup [.one (.sl (some ⟨2, 0, 5⟩) 1 x0), .one (.bool x1)], [])
theorem f49_o6 (call : CallF) (n : Nat) (B : Code) (hB : B = f49_b) : f49_P6 B call n = f49_T6 call n := by
  subst hB; funext x0 x1; kernel_rfl
theorem f49_l6 (call : CallF) (n : Nat) : f49_P6 f49_b call n = f49_T6 call n :=
  f49_o6 call n _ (by kernel_rfl)
def f49_L6 (call : CallF) (n : Nat) : LC → Bool → OR :=
  f49_T6 call n
theorem f49_e6 (call : CallF) (n : Nat) : f49_P6 f49_b call n = f49_L6 call n := by
  rw [f49_l6]; rfl
def f49_T22 (call : CallF) (n : Nat) (j7m : LB → Int → LC → Int → OR) (x0 : LB) (x1 : Int) (x2 : LC) (x3 x4 : Int) : OR :=
  guardB (decide (((x2).length + (([.int .u8 x4] : List Cell)).length) * 1000 ≤ rowLim)) (
    j7m x0 x1 (x2 ++ ([.int .u8 x4] : List Cell)) x3)
theorem f49_o22 (call : CallF) (n : Nat) (m0 : Nat) (B : Code) (hB : B = f49_b) : f49_P22 B call n m0 = f49_T22 call n (f49_P7 B call n m0) := by
  subst hB; funext x0 x1 x2 x3 x4; kernel_rfl
theorem f49_l22 (call : CallF) (n : Nat) (m0 : Nat) : f49_P22 f49_b call n m0 = f49_T22 call n (f49_P7 f49_b call n m0) :=
  f49_o22 call n m0 _ (by kernel_rfl)
def f49_L22 (call : CallF) (n : Nat) (h_m0 : LB → Int → LC → Int → OR) : LB → Int → LC → Int → Int → OR :=
  f49_T22 call n h_m0
theorem f49_e22 (call : CallF) (n : Nat) (m0 : Nat) : f49_P22 f49_b call n m0 = f49_L22 call n (f49_P7 f49_b call n m0) := by
  rw [f49_l22]; rfl
def f49_T29 (call : CallF) (n : Nat) (x0 : LC) (x1 : Bool) : OR :=
  some (.tup [.one (.sl (some ⟨2, 0, 5⟩) 1 x0), .one (.bool x1)], [])
theorem f49_o29 (call : CallF) (n : Nat) (m0 : Nat) (B : Code) (hB : B = f49_b) : f49_P29 B call n m0 = f49_T29 call n := by
  subst hB; funext x0 x1; kernel_rfl
theorem f49_l29 (call : CallF) (n : Nat) (m0 : Nat) : f49_P29 f49_b call n m0 = f49_T29 call n :=
  f49_o29 call n m0 _ (by kernel_rfl)
def f49_L29 (call : CallF) (n : Nat) (h_m0 : LB → Int → LC → Int → OR) : LC → Bool → OR :=
  f49_T29 call n
theorem f49_e29 (call : CallF) (n : Nat) (m0 : Nat) : f49_P29 f49_b call n m0 = f49_L29 call n (f49_P7 f49_b call n m0) := by
  rw [f49_l29]; rfl
def f49_T23 (call : CallF) (n : Nat) (j29 : LC → Bool → OR) (j22 : LB → Int → LC → Int → Int → OR) (x0 : LB) (x1 : Int) (x2 : LC) (x3 : Int) (x4 : Bool) : OR :=
  bif x4 then (
    j29 ([] : List Cell) false) else (
    itemK x0 x3 fun u1 =>
    callK call 71 [.one (.int .u8 (UInt8.toNat u1 : Int))] fun v2 =>
    oI .i64 v2 fun n3 =>
    itemK x0 (IntKind.wrap .i64 (x3 + (1 : Int))) fun u4 =>
    callK call 71 [.one (.int .u8 (UInt8.toNat u4 : Int))] fun v5 =>
    oI .i64 v5 fun n6 =>
    j22 x0 x1 x2 (IntKind.wrap .i64 (x3 + (2 : Int))) (IntKind.wrap .u8 (IntKind.wrap .i64 ((IntKind.wrap .i64 ((16 : Int) * n3)) + n6))))
theorem f49_o23 (X0 X1 : Code) (call : CallF) (n : Nat) (m0 : Nat) (B : Code) (hB : B = (hole (hole f49_b [1, 1, 1, 1, 1, 0, 0, 0, 1, 0, 1, 1, 0, 1, 0, 1, 1, 1, 1, 1, 1, 1, 1, 0, 0, 1, 0, 1] X0) [1, 1, 1, 1, 1, 0, 0, 0, 1, 0, 1, 1, 1] X1)) : f49_P23 B call n m0 = f49_T23 call n (f49_P29 B call n m0) (f49_P22 B call n m0) := by
  subst hB; funext x0 x1 x2 x3 x4; cases x4 <;> kernel_rfl
theorem f49_l23 (call : CallF) (n : Nat) (m0 : Nat) : f49_P23 f49_b call n m0 = f49_T23 call n (f49_P29 f49_b call n m0) (f49_P22 f49_b call n m0) :=
  f49_o23 (piece [1, 1, 1, 1, 1, 0, 0, 0, 1, 0, 1, 1, 0, 1, 0, 1, 1, 1, 1, 1, 1, 1, 1, 0, 0, 1, 0, 1] f49_b) (piece [1, 1, 1, 1, 1, 0, 0, 0, 1, 0, 1, 1, 1] f49_b) call n m0 _ (by kernel_rfl)
def f49_L23 (call : CallF) (n : Nat) (h_m0 : LB → Int → LC → Int → OR) : LB → Int → LC → Int → Bool → OR :=
  f49_T23 call n (f49_L29 call n h_m0) (f49_L22 call n h_m0)
theorem f49_e23 (call : CallF) (n : Nat) (m0 : Nat) : f49_P23 f49_b call n m0 = f49_L23 call n (f49_P7 f49_b call n m0) := by
  rw [f49_l23, f49_e29, f49_e22]; rfl
def f49_T30 (call : CallF) (n : Nat) (x0 : LC) (x1 : Bool) : OR :=
  some (.tup [.one (.sl (some ⟨2, 0, 5⟩) 1 x0), .one (.bool x1)], [])
theorem f49_o30 (call : CallF) (n : Nat) (B : Code) (hB : B = f49_b) : f49_P30 B call n = f49_T30 call n := by
  subst hB; funext x0 x1; kernel_rfl
theorem f49_l30 (call : CallF) (n : Nat) : f49_P30 f49_b call n = f49_T30 call n :=
  f49_o30 call n _ (by kernel_rfl)
def f49_L30 (call : CallF) (n : Nat) : LC → Bool → OR :=
  f49_T30 call n
theorem f49_e30 (call : CallF) (n : Nat) : f49_P30 f49_b call n = f49_L30 call n := by
  rw [f49_l30]; rfl
def f49_T26 (call : CallF) (n : Nat) (j30 : LC → Bool → OR) (x0 : LC) (x1 : Bool) : OR :=
  bif x1 then (
    j30 ([] : List Cell) false) else (
    some (.tup [.one (.sl (some ⟨2, 0, 5⟩) 1 x0), .one (.bool true)], []))
theorem f49_o26 (X0 : Code) (call : CallF) (n : Nat) (B : Code) (hB : B = (hole f49_b [1, 1, 1, 1, 1, 1, 0, 1, 0, 1] X0)) : f49_P26 B call n = f49_T26 call n (f49_P30 B call n) := by
  subst hB; funext x0 x1; cases x1 <;> kernel_rfl
theorem f49_l26 (call : CallF) (n : Nat) : f49_P26 f49_b call n = f49_T26 call n (f49_P30 f49_b call n) :=
  f49_o26 (piece [1, 1, 1, 1, 1, 1, 0, 1, 0, 1] f49_b) call n _ (by kernel_rfl)
def f49_L26 (call : CallF) (n : Nat) : LC → Bool → OR :=
  f49_T26 call n (f49_L30 call n)
theorem f49_e26 (call : CallF) (n : Nat) : f49_P26 f49_b call n = f49_L26 call n := by
  rw [f49_l26, f49_e30]; rfl
def f49_T7 (call : CallF) (n : Nat) (j22 : LB → Int → LC → Int → Int → OR) (j23 : LB → Int → LC → Int → Bool → OR) (j26 : LC → Bool → OR) (x0 : LB) (x1 : Int) (x2 : LC) (x3 : Int) : OR :=
  bif (decide (x3 < (IntKind.wrap .i64 (x1 - (1 : Int))))) then (
    itemK x0 x3 fun u1 =>
    bif ((UInt8.toNat u1 : Int) == (92 : Int)) then (
      bif (decide ((IntKind.wrap .i64 (x3 + (1 : Int))) ≥ (IntKind.wrap .i64 (x1 - (1 : Int))))) then (
        some (.tup [.one (.sl (some ⟨2, 0, 5⟩) 1 ([] : List Cell)), .one (.bool false)], [])) else (
        itemK x0 (IntKind.wrap .i64 (x3 + (1 : Int))) fun u2 =>
        bif ((UInt8.toNat u2 : Int) == (114 : Int)) then (
          j22 x0 x1 x2 (IntKind.wrap .i64 ((IntKind.wrap .i64 (x3 + (1 : Int))) + (1 : Int))) (13 : Int)) else (
          bif ((UInt8.toNat u2 : Int) == (110 : Int)) then (
            j22 x0 x1 x2 (IntKind.wrap .i64 ((IntKind.wrap .i64 (x3 + (1 : Int))) + (1 : Int))) (10 : Int)) else (
            bif ((UInt8.toNat u2 : Int) == (120 : Int)) then (
              bif (decide ((IntKind.wrap .i64 ((IntKind.wrap .i64 ((IntKind.wrap .i64 (x3 + (1 : Int))) + (1 : Int))) + (2 : Int))) > (IntKind.wrap .i64 (x1 - (1 : Int))))) then (
                j23 x0 x1 x2 (IntKind.wrap .i64 ((IntKind.wrap .i64 (x3 + (1 : Int))) + (1 : Int))) true) else (
                itemK x0 (IntKind.wrap .i64 ((IntKind.wrap .i64 (x3 + (1 : Int))) + (1 : Int))) fun u3 =>
                callK call 71 [.one (.int .u8 (UInt8.toNat u3 : Int))] fun v4 =>
                oI .i64 v4 fun n5 =>
                bif (decide (n5 < (0 : Int))) then (
                  j23 x0 x1 x2 (IntKind.wrap .i64 ((IntKind.wrap .i64 (x3 + (1 : Int))) + (1 : Int))) true) else (
                  itemK x0 (IntKind.wrap .i64 ((IntKind.wrap .i64 ((IntKind.wrap .i64 (x3 + (1 : Int))) + (1 : Int))) + (1 : Int))) fun u6 =>
                  callK call 71 [.one (.int .u8 (UInt8.toNat u6 : Int))] fun v7 =>
                  oI .i64 v7 fun n8 =>
                  j23 x0 x1 x2 (IntKind.wrap .i64 ((IntKind.wrap .i64 (x3 + (1 : Int))) + (1 : Int))) (decide (n8 < (0 : Int)))))) else (
              j22 x0 x1 x2 (IntKind.wrap .i64 ((IntKind.wrap .i64 (x3 + (1 : Int))) + (1 : Int))) (UInt8.toNat u2 : Int)))))) else (
      j22 x0 x1 x2 (IntKind.wrap .i64 (x3 + (1 : Int))) (UInt8.toNat u1 : Int))) else (
    callK call 72 [.one (.sl none 1 x2)] fun v9 =>
    oS v9 fun s10 =>
    bif (!(s10 == x0)) then (
      j26 x2 true) else (
      j26 x2 (decide ((((x2).length / 1 : Nat) : Int) > (4096 : Int)))))
theorem f49_o7 (X0 X1 X2 : Code) (call : CallF) (n : Nat) (m0 : Nat) (B : Code) (hB : B = (hole (hole (hole f49_b [1, 1, 1, 1, 1, 0, 0, 0, 1, 0, 1, 1, 0, 1, 0, 1, 1, 1, 1, 1, 1, 1, 1, 0, 0, 1] X0) [1, 1, 1, 1, 1, 0, 0, 0, 1, 0, 1, 1, 1] X1) [1, 1, 1, 1, 1, 1, 0, 1] X2)) : f49_P7 B call n (m0 + 1) = f49_T7 call n (f49_P22 B call n m0) (f49_P23 B call n m0) (f49_P26 B call n) := by
  subst hB; funext x0 x1 x2 x3; kernel_rfl
theorem f49_l7 (call : CallF) (n : Nat) (m0 : Nat) : f49_P7 f49_b call n (m0 + 1) = f49_T7 call n (f49_P22 f49_b call n m0) (f49_P23 f49_b call n m0) (f49_P26 f49_b call n) :=
  f49_o7 (piece [1, 1, 1, 1, 1, 0, 0, 0, 1, 0, 1, 1, 0, 1, 0, 1, 1, 1, 1, 1, 1, 1, 1, 0, 0, 1] f49_b) (piece [1, 1, 1, 1, 1, 0, 0, 0, 1, 0, 1, 1, 1] f49_b) (piece [1, 1, 1, 1, 1, 1, 0, 1] f49_b) call n m0 _ (by kernel_rfl)
def f49_L7 (call : CallF) (n : Nat) : Nat → LB → Int → LC → Int → OR
  | 0 => fun _ _ _ _ => none
  | m0 + 1 => f49_T7 call n (f49_L22 call n (f49_L7 call n m0)) (f49_L23 call n (f49_L7 call n m0)) (f49_L26 call n)
theorem f49_e7 (call : CallF) (n : Nat) : ∀ m0 : Nat, f49_P7 f49_b call n m0 = f49_L7 call n m0
  | 0 => by funext x0 x1 x2 x3; kernel_rfl
  | m0 + 1 => by rw [f49_l7, f49_e22, f49_e23, f49_e26, f49_e7 call n m0]; rfl
def f49_T2 (call : CallF) (n : Nat) (j6 : LC → Bool → OR) (j7n : LB → Int → LC → Int → OR) (x0 : LB) (x1 : Int) (x2 : Bool) : OR :=
  bif x2 then (
    j6 ([] : List Cell) false) else (
    j7n x0 x1 ([] : List Cell) (1 : Int))
theorem f49_o2 (X0 : Code) (call : CallF) (n : Nat) (B : Code) (hB : B = (hole f49_b [1, 1, 0, 1, 0, 1] X0)) : f49_P2 B call n = f49_T2 call n (f49_P6 B call n) (f49_P7 B call n n) := by
  subst hB; funext x0 x1 x2; cases x2 <;> kernel_rfl
theorem f49_l2 (call : CallF) (n : Nat) : f49_P2 f49_b call n = f49_T2 call n (f49_P6 f49_b call n) (f49_P7 f49_b call n n) :=
  f49_o2 (piece [1, 1, 0, 1, 0, 1] f49_b) call n _ (by kernel_rfl)
def f49_L2 (call : CallF) (n : Nat) : LB → Int → Bool → OR :=
  f49_T2 call n (f49_L6 call n) (f49_L7 call n n)
theorem f49_e2 (call : CallF) (n : Nat) : f49_P2 f49_b call n = f49_L2 call n := by
  rw [f49_l2, f49_e6, f49_e7]; rfl
/-- pigeonhole/pigeonholeref31.data -/
def f49_T (call : CallF) (n : Nat) (j2 : LB → Int → Bool → OR) (a0 : LB) : OR :=
  bif (decide (((a0).length : Int) < (2 : Int))) then (
    j2 a0 ((a0).length : Int) true) else (
    itemK a0 (0 : Int) fun u19 =>
    bif ((UInt8.toNat u19 : Int) != (34 : Int)) then (
      j2 a0 ((a0).length : Int) true) else (
      itemK a0 (IntKind.wrap .i64 (((a0).length : Int) - (1 : Int))) fun u20 =>
      j2 a0 ((a0).length : Int) ((UInt8.toNat u20 : Int) != (34 : Int))))
def f49_L (call : CallF) (n : Nat) (a0 : LB) : OR :=
  f49_T call n (f49_L2 call n) a0
theorem f49_o (X0 : Code) (call : CallF) (n : Nat) (B : Code) (hB : B = (hole f49_b [1, 1, 0, 1] X0)) : f49_P B call n = f49_T call n (f49_P2 B call n) := by
  subst hB; funext a0; kernel_rfl
theorem f49_l (call : CallF) (n : Nat) : f49_P f49_b call n = f49_T call n (f49_P2 f49_b call n) :=
  f49_o (piece [1, 1, 0, 1] f49_b) call n _ (by kernel_rfl)
theorem f49_e (call : CallF) (n : Nat) : f49_P f49_b call n = f49_L call n := by
  rw [f49_l, f49_e2]; rfl
theorem f49_eq (n : Nat) (a0 : LB) : acall AXE AXF (n + 1) 49 [.one (.str a0)] [] = f49_L (acall AXE AXF n) (n + 1) a0 :=
  (show _ = f49_P f49_b (acall AXE AXF n) (n + 1) a0 by kernel_rfl).trans (by rw [f49_e])
def f50_P9 (B : Code) (call : CallF) (n : Nat) (m0 : Nat) (x0 : Bool) : OR :=
  f50_x B call n [1, 0, 1, 0, 0, 1, 0, 0, 1, 1, 0, 1] (kBlk 1 (kSeq (f50_x B call n [1, 0, 1, 0, 0, 1, 1]) (kSeq (fun k => prK 1000002 (pruneAt f50_h 1000002) (aloop 1000002 (pruneAt f50_h 1000002) (f50_x B call n [1, 0, 1, 0, 0]) k m0)) (kBlk 0 (kSeq (f50_x B call n [1, 1]) (kEnd AXE 0 f50_r)))))) ⟨[(2, .one (.bool x0))], []⟩
def f50_P10 (B : Code) (call : CallF) (n : Nat) (m0 : Nat) (x0 : LB) (x1 : Int) : OR :=
  f50_x B call n [1, 0, 1, 0, 0, 1, 1] (kSeq (fun k => prK 1000002 (pruneAt f50_h 1000002) (aloop 1000002 (pruneAt f50_h 1000002) (f50_x B call n [1, 0, 1, 0, 0]) k m0)) (kBlk 0 (kSeq (f50_x B call n [1, 1]) (kEnd AXE 0 f50_r)))) ⟨[(0, .one (.str x0)), (3, .one (.int .i64 x1))], []⟩
def f50_P7 (B : Code) (call : CallF) (n : Nat) (m0 : Nat) (x0 : LB) (x1 : Int) (x2 : Bool) : OR :=
  f50_x B call n [1, 0, 1, 0, 0, 1, 0, 0, 1, 1] (kBlk 1 (kSeq (f50_x B call n [1, 0, 1, 0, 0, 1, 1]) (kSeq (fun k => prK 1000002 (pruneAt f50_h 1000002) (aloop 1000002 (pruneAt f50_h 1000002) (f50_x B call n [1, 0, 1, 0, 0]) k m0)) (kBlk 0 (kSeq (f50_x B call n [1, 1]) (kEnd AXE 0 f50_r)))))) ⟨[(0, .one (.str x0)), (3, .one (.int .i64 x1)), (41, .one (.bool x2))], []⟩
def f50_P8 (B : Code) (call : CallF) (n : Nat) (x0 : Bool) : OR :=
  f50_x B call n [1, 1, 1] (kEnd AXE 0 f50_r) ⟨[(2, .one (.bool x0))], []⟩
def f50_P2 (B : Code) (call : CallF) (n : Nat) (m0 : Nat) (x0 : LB) (x1 : Int) : OR :=
  aloop 1000002 (pruneAt f50_h 1000002) (f50_x B call n [1, 0, 1, 0, 0]) (kBlk 0 (kSeq (f50_x B call n [1, 1]) (kEnd AXE 0 f50_r))) m0 ⟨[(0, .one (.str x0)), (3, .one (.int .i64 x1))], []⟩
def f50_P (B : Code) (call : CallF) (n : Nat) (a0 : LB) : OR :=
  f50_x B call n [] (kEnd AXE 0 f50_r) ⟨[(0, .one (.str a0))], []⟩
def f50_T9 (call : CallF) (n : Nat) (x0 : Bool) : OR :=
  some (.one (.bool x0), [])
theorem f50_o9 (call : CallF) (n : Nat) (m0 : Nat) (B : Code) (hB : B = f50_b) : f50_P9 B call n m0 = f50_T9 call n := by
  subst hB; funext x0; kernel_rfl
theorem f50_l9 (call : CallF) (n : Nat) (m0 : Nat) : f50_P9 f50_b call n m0 = f50_T9 call n :=
  f50_o9 call n m0 _ (by kernel_rfl)
def f50_L9 (call : CallF) (n : Nat) (h_m0 : LB → Int → OR) : Bool → OR :=
  f50_T9 call n
theorem f50_e9 (call : CallF) (n : Nat) (m0 : Nat) : f50_P9 f50_b call n m0 = f50_L9 call n (f50_P2 f50_b call n m0) := by
  rw [f50_l9]; rfl
def f50_T10 (call : CallF) (n : Nat) (j2m : LB → Int → OR) (x0 : LB) (x1 : Int) : OR :=
  j2m x0 (IntKind.wrap .i64 (x1 + (1 : Int)))
theorem f50_o10 (call : CallF) (n : Nat) (m0 : Nat) (B : Code) (hB : B = f50_b) : f50_P10 B call n m0 = f50_T10 call n (f50_P2 B call n m0) := by
  subst hB; funext x0 x1; kernel_rfl
theorem f50_l10 (call : CallF) (n : Nat) (m0 : Nat) : f50_P10 f50_b call n m0 = f50_T10 call n (f50_P2 f50_b call n m0) :=
  f50_o10 call n m0 _ (by kernel_rfl)
def f50_L10 (call : CallF) (n : Nat) (h_m0 : LB → Int → OR) : LB → Int → OR :=
  f50_T10 call n h_m0
theorem f50_e10 (call : CallF) (n : Nat) (m0 : Nat) : f50_P10 f50_b call n m0 = f50_L10 call n (f50_P2 f50_b call n m0) := by
  rw [f50_l10]; rfl
def f50_T7 (call : CallF) (n : Nat) (j9 : Bool → OR) (j10 : LB → Int → OR) (x0 : LB) (x1 : Int) (x2 : Bool) : OR :=
  bif x2 then (
    j9 false) else (
    j10 x0 x1)
theorem f50_o7 (X0 X1 : Code) (call : CallF) (n : Nat) (m0 : Nat) (B : Code) (hB : B = (hole (hole f50_b [1, 0, 1, 0, 0, 1, 0, 0, 1, 1, 0, 1] X0) [1, 0, 1, 0, 0, 1, 1] X1)) : f50_P7 B call n m0 = f50_T7 call n (f50_P9 B call n m0) (f50_P10 B call n m0) := by
  subst hB; funext x0 x1 x2; cases x2 <;> kernel_rfl
theorem f50_l7 (call : CallF) (n : Nat) (m0 : Nat) : f50_P7 f50_b call n m0 = f50_T7 call n (f50_P9 f50_b call n m0) (f50_P10 f50_b call n m0) :=
  f50_o7 (piece [1, 0, 1, 0, 0, 1, 0, 0, 1, 1, 0, 1] f50_b) (piece [1, 0, 1, 0, 0, 1, 1] f50_b) call n m0 _ (by kernel_rfl)
def f50_L7 (call : CallF) (n : Nat) (h_m0 : LB → Int → OR) : LB → Int → Bool → OR :=
  f50_T7 call n (f50_L9 call n h_m0) (f50_L10 call n h_m0)
theorem f50_e7 (call : CallF) (n : Nat) (m0 : Nat) : f50_P7 f50_b call n m0 = f50_L7 call n (f50_P2 f50_b call n m0) := by
  rw [f50_l7, f50_e9, f50_e10]; rfl
def f50_T8 (call : CallF) (n : Nat) (x0 : Bool) : OR :=
  some (.one (.bool x0), [])
theorem f50_o8 (call : CallF) (n : Nat) (B : Code) (hB : B = f50_b) : f50_P8 B call n = f50_T8 call n := by
  subst hB; funext x0; kernel_rfl
theorem f50_l8 (call : CallF) (n : Nat) : f50_P8 f50_b call n = f50_T8 call n :=
  f50_o8 call n _ (by kernel_rfl)
def f50_L8 (call : CallF) (n : Nat) : Bool → OR :=
  f50_T8 call n
theorem f50_e8 (call : CallF) (n : Nat) : f50_P8 f50_b call n = f50_L8 call n := by
  rw [f50_l8]; rfl
def f50_T2 (call : CallF) (n : Nat) (j7 : LB → Int → Bool → OR) (j8 : Bool → OR) (x0 : LB) (x1 : Int) : OR :=
  bif (decide (x1 < ((x0).length : Int))) then (
    itemK x0 x1 fun u1 =>
    bif (decide ((UInt8.toNat u1 : Int) ≥ (97 : Int))) then (
      bif (!(decide ((UInt8.toNat u1 : Int) ≤ (122 : Int)))) then (
        bif (decide ((UInt8.toNat u1 : Int) ≥ (48 : Int))) then (
          bif (!(decide ((UInt8.toNat u1 : Int) ≤ (57 : Int)))) then (
            bif ((UInt8.toNat u1 : Int) != (46 : Int)) then (
              bif ((UInt8.toNat u1 : Int) != (45 : Int)) then (
                j7 x0 x1 ((UInt8.toNat u1 : Int) != (95 : Int))) else (
                j7 x0 x1 false)) else (
              j7 x0 x1 false)) else (
            j7 x0 x1 false)) else (
          bif ((UInt8.toNat u1 : Int) != (46 : Int)) then (
            bif ((UInt8.toNat u1 : Int) != (45 : Int)) then (
              j7 x0 x1 ((UInt8.toNat u1 : Int) != (95 : Int))) else (
              j7 x0 x1 false)) else (
            j7 x0 x1 false))) else (
        j7 x0 x1 false)) else (
      bif (decide ((UInt8.toNat u1 : Int) ≥ (48 : Int))) then (
        bif (!(decide ((UInt8.toNat u1 : Int) ≤ (57 : Int)))) then (
          bif ((UInt8.toNat u1 : Int) != (46 : Int)) then (
            bif ((UInt8.toNat u1 : Int) != (45 : Int)) then (
              j7 x0 x1 ((UInt8.toNat u1 : Int) != (95 : Int))) else (
              j7 x0 x1 false)) else (
            j7 x0 x1 false)) else (
          j7 x0 x1 false)) else (
        bif ((UInt8.toNat u1 : Int) != (46 : Int)) then (
          bif ((UInt8.toNat u1 : Int) != (45 : Int)) then (
            j7 x0 x1 ((UInt8.toNat u1 : Int) != (95 : Int))) else (
            j7 x0 x1 false)) else (
          j7 x0 x1 false)))) else (
    bif (decide (((x0).length : Int) ≥ (1 : Int))) then (
      j8 (decide (((x0).length : Int) ≤ (32 : Int)))) else (
      j8 false))
theorem f50_o2 (X0 X1 : Code) (call : CallF) (n : Nat) (m0 : Nat) (B : Code) (hB : B = (hole (hole f50_b [1, 0, 1, 0, 0, 1, 0, 0, 1, 1] X0) [1, 1, 1] X1)) : f50_P2 B call n (m0 + 1) = f50_T2 call n (f50_P7 B call n m0) (f50_P8 B call n) := by
  subst hB; funext x0 x1; kernel_rfl
theorem f50_l2 (call : CallF) (n : Nat) (m0 : Nat) : f50_P2 f50_b call n (m0 + 1) = f50_T2 call n (f50_P7 f50_b call n m0) (f50_P8 f50_b call n) :=
  f50_o2 (piece [1, 0, 1, 0, 0, 1, 0, 0, 1, 1] f50_b) (piece [1, 1, 1] f50_b) call n m0 _ (by kernel_rfl)
def f50_L2 (call : CallF) (n : Nat) : Nat → LB → Int → OR
  | 0 => fun _ _ => none
  | m0 + 1 => f50_T2 call n (f50_L7 call n (f50_L2 call n m0)) (f50_L8 call n)
theorem f50_e2 (call : CallF) (n : Nat) : ∀ m0 : Nat, f50_P2 f50_b call n m0 = f50_L2 call n m0
  | 0 => by funext x0 x1; kernel_rfl
  | m0 + 1 => by rw [f50_l2, f50_e7, f50_e8, f50_e2 call n m0]; rfl
/-- pigeonhole/pigeonholeref13.Name -/
def f50_T (call : CallF) (n : Nat) (j2n : LB → Int → OR) (a0 : LB) : OR :=
  j2n a0 (0 : Int)
def f50_L (call : CallF) (n : Nat) (a0 : LB) : OR :=
  f50_T call n (f50_L2 call n n) a0
theorem f50_o (call : CallF) (n : Nat) (B : Code) (hB : B = f50_b) : f50_P B call n = f50_T call n (f50_P2 B call n n) := by
  subst hB; funext a0; kernel_rfl
theorem f50_l (call : CallF) (n : Nat) : f50_P f50_b call n = f50_T call n (f50_P2 f50_b call n n) :=
  f50_o call n _ (by kernel_rfl)
theorem f50_e (call : CallF) (n : Nat) : f50_P f50_b call n = f50_L call n := by
  rw [f50_l, f50_e2]; rfl
theorem f50_eq (n : Nat) (a0 : LB) : acall AXE AXF (n + 1) 50 [.one (.str a0)] [] = f50_L (acall AXE AXF n) (n + 1) a0 :=
  (show _ = f50_P f50_b (acall AXE AXF n) (n + 1) a0 by kernel_rfl).trans (by rw [f50_e])
def f51_P9 (B : Code) (call : CallF) (n : Nat) (m0 : Nat) (x0 : LB) (x1 x2 : Int) : OR :=
  f51_x B call n [1, 1, 0, 1, 0, 0, 1, 1] (kSeq (fun k => prK 1000003 (pruneAt f51_h 1000003) (aloop 1000003 (pruneAt f51_h 1000003) (f51_x B call n [1, 1, 0, 1, 0, 0]) k m0)) (kBlk 0 (kSeq (f51_x B call n [1, 1, 1]) (kEnd AXE 0 f51_r)))) ⟨[(0, .one (.str x0)), (4, .one (.int .i64 x1)), (5, .one (.int .i64 x2))], []⟩
def f51_P17 (B : Code) (call : CallF) (n : Nat) (m0 : Nat) (x0 : Int) (x1 : Bool) : OR :=
  f51_x B call n [1, 1, 0, 1, 0, 0, 1, 0, 0, 1, 0, 1, 0, 1] (kSeq (f51_x B call n [1, 1, 0, 1, 0, 0, 1, 0, 0, 1, 1]) (kBlk 1 (kSeq (f51_x B call n [1, 1, 0, 1, 0, 0, 1, 1]) (kSeq (fun k => prK 1000003 (pruneAt f51_h 1000003) (aloop 1000003 (pruneAt f51_h 1000003) (f51_x B call n [1, 1, 0, 1, 0, 0]) k m0)) (kBlk 0 (kSeq (f51_x B call n [1, 1, 1]) (kEnd AXE 0 f51_r))))))) ⟨[(2, .one (.int .i64 x0)), (3, .one (.bool x1))], []⟩
def f51_P12 (B : Code) (call : CallF) (n : Nat) (m0 : Nat) (x0 : LB) (x1 x2 : Int) (x3 : Bool) : OR :=
  f51_x B call n [1, 1, 0, 1, 0, 0, 1, 0, 0, 1, 0, 1] (kSeq (f51_x B call n [1, 1, 0, 1, 0, 0, 1, 0, 0, 1, 1]) (kBlk 1 (kSeq (f51_x B call n [1, 1, 0, 1, 0, 0, 1, 1]) (kSeq (fun k => prK 1000003 (pruneAt f51_h 1000003) (aloop 1000003 (pruneAt f51_h 1000003) (f51_x B call n [1, 1, 0, 1, 0, 0]) k m0)) (kBlk 0 (kSeq (f51_x B call n [1, 1, 1]) (kEnd AXE 0 f51_r))))))) ⟨[(0, .one (.str x0)), (4, .one (.int .i64 x1)), (5, .one (.int .i64 x2)), (32, .one (.bool x3))], []⟩
def f51_P10 (B : Code) (call : CallF) (n : Nat) (m0 : Nat) (x0 : LB) (x1 x2 : Int) : OR :=
  f51_x B call n [1, 1, 0, 1, 0, 0, 1, 0, 0, 1] (kBlk 1 (kSeq (f51_x B call n [1, 1, 0, 1, 0, 0, 1, 1]) (kSeq (fun k => prK 1000003 (pruneAt f51_h 1000003) (aloop 1000003 (pruneAt f51_h 1000003) (f51_x B call n [1, 1, 0, 1, 0, 0]) k m0)) (kBlk 0 (kSeq (f51_x B call n [1, 1, 1]) (kEnd AXE 0 f51_r)))))) ⟨[(0, .one (.str x0)), (4, .one (.int .i64 x1)), (5, .one (.int .i64 x2))], []⟩
def f51_P7 (B : Code) (call : CallF) (n : Nat) (m0 : Nat) (x0 : LB) (x1 x2 : Int) (x3 : Bool) : OR :=
  f51_x B call n [1, 1, 0, 1, 0, 0, 1, 0, 0, 0, 1] (kSeq (f51_x B call n [1, 1, 0, 1, 0, 0, 1, 0, 0, 1]) (kBlk 1 (kSeq (f51_x B call n [1, 1, 0, 1, 0, 0, 1, 1]) (kSeq (fun k => prK 1000003 (pruneAt f51_h 1000003) (aloop 1000003 (pruneAt f51_h 1000003) (f51_x B call n [1, 1, 0, 1, 0, 0]) k m0)) (kBlk 0 (kSeq (f51_x B call n [1, 1, 1]) (kEnd AXE 0 f51_r))))))) ⟨[(0, .one (.str x0)), (4, .one (.int .i64 x1)), (5, .one (.int .i64 x2)), (18, .one (.bool x3))], []⟩
def f51_P18 (B : Code) (call : CallF) (n : Nat) (x0 : Int) (x1 : Bool) : OR :=
  f51_x B call n [1, 1, 1, 1, 0, 1, 0, 1] (kSeq (f51_x B call n [1, 1, 1, 1, 1]) (kEnd AXE 0 f51_r)) ⟨[(2, .one (.int .i64 x0)), (3, .one (.bool x1))], []⟩
def f51_P14 (B : Code) (call : CallF) (n : Nat) (x0 : Int) (x1 : Bool) : OR :=
  f51_x B call n [1, 1, 1, 1, 0, 1] (kSeq (f51_x B call n [1, 1, 1, 1, 1]) (kEnd AXE 0 f51_r)) ⟨[(4, .one (.int .i64 x0)), (59, .one (.bool x1))], []⟩
def f51_P11 (B : Code) (call : CallF) (n : Nat) (x0 : LB) (x1 : Int) : OR :=
  f51_x B call n [1, 1, 1, 1] (kEnd AXE 0 f51_r) ⟨[(0, .one (.str x0)), (4, .one (.int .i64 x1))], []⟩
def f51_P8 (B : Code) (call : CallF) (n : Nat) (x0 : LB) (x1 : Int) (x2 : Bool) : OR :=
  f51_x B call n [1, 1, 1, 0, 1] (kSeq (f51_x B call n [1, 1, 1, 1]) (kEnd AXE 0 f51_r)) ⟨[(0, .one (.str x0)), (4, .one (.int .i64 x1)), (48, .one (.bool x2))], []⟩
def f51_P3 (B : Code) (call : CallF) (n : Nat) (m0 : Nat) (x0 : LB) (x1 x2 : Int) : OR :=
  aloop 1000003 (pruneAt f51_h 1000003) (f51_x B call n [1, 1, 0, 1, 0, 0]) (kBlk 0 (kSeq (f51_x B call n [1, 1, 1]) (kEnd AXE 0 f51_r))) m0 ⟨[(0, .one (.str x0)), (4, .one (.int .i64 x1)), (5, .one (.int .i64 x2))], []⟩
def f51_P (B : Code) (call : CallF) (n : Nat) (a0 : LB) : OR :=
  f51_x B call n [] (kEnd AXE 0 f51_r) ⟨[(0, .one (.str a0))], []⟩
def f51_T9 (call : CallF) (n : Nat) (j3m : LB → Int → Int → OR) (x0 : LB) (x1 x2 : Int) : OR :=
  j3m x0 x1 (IntKind.wrap .i64 (x2 + (1 : Int)))
theorem f51_o9 (call : CallF) (n : Nat) (m0 : Nat) (B : Code) (hB : B = f51_b) : f51_P9 B call n m0 = f51_T9 call n (f51_P3 B call n m0) := by
  subst hB; funext x0 x1 x2; kernel_rfl
theorem f51_l9 (call : CallF) (n : Nat) (m0 : Nat) : f51_P9 f51_b call n m0 = f51_T9 call n (f51_P3 f51_b call n m0) :=
  f51_o9 call n m0 _ (by kernel_rfl)
def f51_L9 (call : CallF) (n : Nat) (h_m0 : LB → Int → Int → OR) : LB → Int → Int → OR :=
  f51_T9 call n h_m0
theorem f51_e9 (call : CallF) (n : Nat) (m0 : Nat) : f51_P9 f51_b call n m0 = f51_L9 call n (f51_P3 f51_b call n m0) := by
  rw [f51_l9]; rfl
def f51_T17 (call : CallF) (n : Nat) (x0 : Int) (x1 : Bool) : OR :=
  some (.tup [.one (.int .i64 x0), .one (.bool x1)], [])
theorem f51_o17 (call : CallF) (n : Nat) (m0 : Nat) (B : Code) (hB : B = f51_b) : f51_P17 B call n m0 = f51_T17 call n := by
  subst hB; funext x0 x1; kernel_rfl
theorem f51_l17 (call : CallF) (n : Nat) (m0 : Nat) : f51_P17 f51_b call n m0 = f51_T17 call n :=
  f51_o17 call n m0 _ (by kernel_rfl)
def f51_L17 (call : CallF) (n : Nat) (h_m0 : LB → Int → Int → OR) : Int → Bool → OR :=
  f51_T17 call n
theorem f51_e17 (call : CallF) (n : Nat) (m0 : Nat) : f51_P17 f51_b call n m0 = f51_L17 call n (f51_P3 f51_b call n m0) := by
  rw [f51_l17]; rfl
def f51_T12 (call : CallF) (n : Nat) (j17 : Int → Bool → OR) (j9 : LB → Int → Int → OR) (x0 : LB) (x1 x2 : Int) (x3 : Bool) : OR :=
  bif x3 then (
    j17 (0 : Int) false) else (
    itemK x0 x2 fun u1 =>
    j9 x0 (IntKind.wrap .i64 ((IntKind.wrap .i64 ((IntKind.wrap .i64 ((10 : Int) * x1)) + (IntKind.wrap .i64 (UInt8.toNat u1 : Int)))) - (48 : Int))) x2)
theorem f51_o12 (X0 X1 : Code) (call : CallF) (n : Nat) (m0 : Nat) (B : Code) (hB : B = (hole (hole f51_b [1, 1, 0, 1, 0, 0, 1, 0, 0, 1, 0, 1, 0, 1] X0) [1, 1, 0, 1, 0, 0, 1, 1] X1)) : f51_P12 B call n m0 = f51_T12 call n (f51_P17 B call n m0) (f51_P9 B call n m0) := by
  subst hB; funext x0 x1 x2 x3; cases x3 <;> kernel_rfl
theorem f51_l12 (call : CallF) (n : Nat) (m0 : Nat) : f51_P12 f51_b call n m0 = f51_T12 call n (f51_P17 f51_b call n m0) (f51_P9 f51_b call n m0) :=
  f51_o12 (piece [1, 1, 0, 1, 0, 0, 1, 0, 0, 1, 0, 1, 0, 1] f51_b) (piece [1, 1, 0, 1, 0, 0, 1, 1] f51_b) call n m0 _ (by kernel_rfl)
def f51_L12 (call : CallF) (n : Nat) (h_m0 : LB → Int → Int → OR) : LB → Int → Int → Bool → OR :=
  f51_T12 call n (f51_L17 call n h_m0) (f51_L9 call n h_m0)
theorem f51_e12 (call : CallF) (n : Nat) (m0 : Nat) : f51_P12 f51_b call n m0 = f51_L12 call n (f51_P3 f51_b call n m0) := by
  rw [f51_l12, f51_e17, f51_e9]; rfl
def f51_T10 (call : CallF) (n : Nat) (j12 : LB → Int → Int → Bool → OR) (x0 : LB) (x1 x2 : Int) : OR :=
  itemK x0 x2 fun u1 =>
  bif (decide ((UInt8.toNat u1 : Int) < (48 : Int))) then (
    j12 x0 x1 x2 true) else (
    itemK x0 x2 fun u2 =>
    bif (decide ((UInt8.toNat u2 : Int) > (57 : Int))) then (
      j12 x0 x1 x2 true) else (
      j12 x0 x1 x2 (decide (x1 > (9007199254740992 : Int)))))
theorem f51_o10 (X0 : Code) (call : CallF) (n : Nat) (m0 : Nat) (B : Code) (hB : B = (hole f51_b [1, 1, 0, 1, 0, 0, 1, 0, 0, 1, 0, 1] X0)) : f51_P10 B call n m0 = f51_T10 call n (f51_P12 B call n m0) := by
  subst hB; funext x0 x1 x2; kernel_rfl
theorem f51_l10 (call : CallF) (n : Nat) (m0 : Nat) : f51_P10 f51_b call n m0 = f51_T10 call n (f51_P12 f51_b call n m0) :=
  f51_o10 (piece [1, 1, 0, 1, 0, 0, 1, 0, 0, 1, 0, 1] f51_b) call n m0 _ (by kernel_rfl)
def f51_L10 (call : CallF) (n : Nat) (h_m0 : LB → Int → Int → OR) : LB → Int → Int → OR :=
  f51_T10 call n (f51_L12 call n h_m0)
theorem f51_e10 (call : CallF) (n : Nat) (m0 : Nat) : f51_P10 f51_b call n m0 = f51_L10 call n (f51_P3 f51_b call n m0) := by
  rw [f51_l10, f51_e12]; rfl
def f51_T7 (call : CallF) (n : Nat) (j9 : LB → Int → Int → OR) (j10 : LB → Int → Int → OR) (x0 : LB) (x1 x2 : Int) (x3 : Bool) : OR :=
  bif x3 then (
    j9 x0 x1 x2) else (
    j10 x0 x1 x2)
theorem f51_o7 (X0 X1 : Code) (call : CallF) (n : Nat) (m0 : Nat) (B : Code) (hB : B = (hole (hole f51_b [1, 1, 0, 1, 0, 0, 1, 0, 0, 1] X0) [1, 1, 0, 1, 0, 0, 1, 1] X1)) : f51_P7 B call n m0 = f51_T7 call n (f51_P9 B call n m0) (f51_P10 B call n m0) := by
  subst hB; funext x0 x1 x2 x3; cases x3 <;> kernel_rfl
theorem f51_l7 (call : CallF) (n : Nat) (m0 : Nat) : f51_P7 f51_b call n m0 = f51_T7 call n (f51_P9 f51_b call n m0) (f51_P10 f51_b call n m0) :=
  f51_o7 (piece [1, 1, 0, 1, 0, 0, 1, 0, 0, 1] f51_b) (piece [1, 1, 0, 1, 0, 0, 1, 1] f51_b) call n m0 _ (by kernel_rfl)
def f51_L7 (call : CallF) (n : Nat) (h_m0 : LB → Int → Int → OR) : LB → Int → Int → Bool → OR :=
  f51_T7 call n (f51_L9 call n h_m0) (f51_L10 call n h_m0)
theorem f51_e7 (call : CallF) (n : Nat) (m0 : Nat) : f51_P7 f51_b call n m0 = f51_L7 call n (f51_P3 f51_b call n m0) := by
  rw [f51_l7, f51_e9, f51_e10]; rfl
def f51_T18 (call : CallF) (n : Nat) (x0 : Int) (x1 : Bool) : OR :=
  some (.tup [.one (.int .i64 x0), .one (.bool x1)], [])
theorem f51_o18 (call : CallF) (n : Nat) (B : Code) (hB : B = f51_b) : f51_P18 B call n = f51_T18 call n := by
  subst hB; funext x0 x1; kernel_rfl
theorem f51_l18 (call : CallF) (n : Nat) : f51_P18 f51_b call n = f51_T18 call n :=
  f51_o18 call n _ (by kernel_rfl)
def f51_L18 (call : CallF) (n : Nat) : Int → Bool → OR :=
  f51_T18 call n
theorem f51_e18 (call : CallF) (n : Nat) : f51_P18 f51_b call n = f51_L18 call n := by
  rw [f51_l18]; rfl
def f51_T14 (call : CallF) (n : Nat) (j18 : Int → Bool → OR) (x0 : Int) (x1 : Bool) : OR :=
  bif x1 then (
    j18 (0 : Int) false) else (
    some (.tup [.one (.int .i64 x0), .one (.bool true)], []))
theorem f51_o14 (X0 : Code) (call : CallF) (n : Nat) (B : Code) (hB : B = (hole f51_b [1, 1, 1, 1, 0, 1, 0, 1] X0)) : f51_P14 B call n = f51_T14 call n (f51_P18 B call n) := by
  subst hB; funext x0 x1; cases x1 <;> kernel_rfl
theorem f51_l14 (call : CallF) (n : Nat) : f51_P14 f51_b call n = f51_T14 call n (f51_P18 f51_b call n) :=
  f51_o14 (piece [1, 1, 1, 1, 0, 1, 0, 1] f51_b) call n _ (by kernel_rfl)
def f51_L14 (call : CallF) (n : Nat) : Int → Bool → OR :=
  f51_T14 call n (f51_L18 call n)
theorem f51_e14 (call : CallF) (n : Nat) : f51_P14 f51_b call n = f51_L14 call n := by
  rw [f51_l14, f51_e18]; rfl
def f51_T11 (call : CallF) (n : Nat) (j14 : Int → Bool → OR) (x0 : LB) (x1 : Int) : OR :=
  callK call 73 [.one (.int .i64 x1)] fun v1 =>
  oB v1 fun b2 =>
  bif (!b2) then (
    j14 x1 true) else (
    callK call 74 [.one (.int .i64 x1)] fun v3 =>
    oS v3 fun s4 =>
    j14 x1 (!(s4 == x0)))
theorem f51_o11 (X0 : Code) (call : CallF) (n : Nat) (B : Code) (hB : B = (hole f51_b [1, 1, 1, 1, 0, 1] X0)) : f51_P11 B call n = f51_T11 call n (f51_P14 B call n) := by
  subst hB; funext x0 x1; kernel_rfl
theorem f51_l11 (call : CallF) (n : Nat) : f51_P11 f51_b call n = f51_T11 call n (f51_P14 f51_b call n) :=
  f51_o11 (piece [1, 1, 1, 1, 0, 1] f51_b) call n _ (by kernel_rfl)
def f51_L11 (call : CallF) (n : Nat) : LB → Int → OR :=
  f51_T11 call n (f51_L14 call n)
theorem f51_e11 (call : CallF) (n : Nat) : f51_P11 f51_b call n = f51_L11 call n := by
  rw [f51_l11, f51_e14]; rfl
def f51_T8 (call : CallF) (n : Nat) (j11 : LB → Int → OR) (x0 : LB) (x1 : Int) (x2 : Bool) : OR :=
  bif x2 then (
    j11 x0 (IntKind.wrap .i64 (0 - x1))) else (
    j11 x0 x1)
theorem f51_o8 (X0 : Code) (call : CallF) (n : Nat) (B : Code) (hB : B = (hole f51_b [1, 1, 1, 1] X0)) : f51_P8 B call n = f51_T8 call n (f51_P11 B call n) := by
  subst hB; funext x0 x1 x2; cases x2 <;> kernel_rfl
theorem f51_l8 (call : CallF) (n : Nat) : f51_P8 f51_b call n = f51_T8 call n (f51_P11 f51_b call n) :=
  f51_o8 (piece [1, 1, 1, 1] f51_b) call n _ (by kernel_rfl)
def f51_L8 (call : CallF) (n : Nat) : LB → Int → Bool → OR :=
  f51_T8 call n (f51_L11 call n)
theorem f51_e8 (call : CallF) (n : Nat) : f51_P8 f51_b call n = f51_L8 call n := by
  rw [f51_l8, f51_e11]; rfl
def f51_T3 (call : CallF) (n : Nat) (j7 : LB → Int → Int → Bool → OR) (j8 : LB → Int → Bool → OR) (x0 : LB) (x1 x2 : Int) : OR :=
  bif (decide (x2 < ((x0).length : Int))) then (
    bif (x2 == (0 : Int)) then (
      itemK x0 (0 : Int) fun u1 =>
      j7 x0 x1 x2 ((UInt8.toNat u1 : Int) == (45 : Int))) else (
      j7 x0 x1 x2 false)) else (
    bif (decide (((x0).length : Int) > (0 : Int))) then (
      itemK x0 (0 : Int) fun u2 =>
      j8 x0 x1 ((UInt8.toNat u2 : Int) == (45 : Int))) else (
      j8 x0 x1 false))
theorem f51_o3 (X0 X1 : Code) (call : CallF) (n : Nat) (m0 : Nat) (B : Code) (hB : B = (hole (hole f51_b [1, 1, 0, 1, 0, 0, 1, 0, 0, 0, 1] X0) [1, 1, 1, 0, 1] X1)) : f51_P3 B call n (m0 + 1) = f51_T3 call n (f51_P7 B call n m0) (f51_P8 B call n) := by
  subst hB; funext x0 x1 x2; kernel_rfl
theorem f51_l3 (call : CallF) (n : Nat) (m0 : Nat) : f51_P3 f51_b call n (m0 + 1) = f51_T3 call n (f51_P7 f51_b call n m0) (f51_P8 f51_b call n) :=
  f51_o3 (piece [1, 1, 0, 1, 0, 0, 1, 0, 0, 0, 1] f51_b) (piece [1, 1, 1, 0, 1] f51_b) call n m0 _ (by kernel_rfl)
def f51_L3 (call : CallF) (n : Nat) : Nat → LB → Int → Int → OR
  | 0 => fun _ _ _ => none
  | m0 + 1 => f51_T3 call n (f51_L7 call n (f51_L3 call n m0)) (f51_L8 call n)
theorem f51_e3 (call : CallF) (n : Nat) : ∀ m0 : Nat, f51_P3 f51_b call n m0 = f51_L3 call n m0
  | 0 => by funext x0 x1 x2; kernel_rfl
  | m0 + 1 => by rw [f51_l3, f51_e7, f51_e8, f51_e3 call n m0]; rfl
/-- pigeonhole/pigeonholeref31.Number -/
def f51_T (call : CallF) (n : Nat) (j3n : LB → Int → Int → OR) (a0 : LB) : OR :=
  j3n a0 (0 : Int) (0 : Int)
def f51_L (call : CallF) (n : Nat) (a0 : LB) : OR :=
  f51_T call n (f51_L3 call n n) a0
theorem f51_o (call : CallF) (n : Nat) (B : Code) (hB : B = f51_b) : f51_P B call n = f51_T call n (f51_P3 B call n n) := by
  subst hB; funext a0; kernel_rfl
theorem f51_l (call : CallF) (n : Nat) : f51_P f51_b call n = f51_T call n (f51_P3 f51_b call n n) :=
  f51_o call n _ (by kernel_rfl)
theorem f51_e (call : CallF) (n : Nat) : f51_P f51_b call n = f51_L call n := by
  rw [f51_l, f51_e3]; rfl
theorem f51_eq (n : Nat) (a0 : LB) : acall AXE AXF (n + 1) 51 [.one (.str a0)] [] = f51_L (acall AXE AXF n) (n + 1) a0 :=
  (show _ = f51_P f51_b (acall AXE AXF n) (n + 1) a0 by kernel_rfl).trans (by rw [f51_e])
def f53_P (B : Code) (call : CallF) (n : Nat) (a0 : Bool) : OR :=
  f53_x B call n [] (kEnd AXE 0 f53_r) ⟨[(0, .one (.bool a0))], []⟩
/-- pigeonhole/script.protocol -/
def f53_T (call : CallF) (n : Nat) (a0 : Bool) : OR :=
  bif a0 then (
    some (.one (.str ([108, 109, 116, 112] : List UInt8)), [])) else (
    some (.one (.str ([115, 109, 116, 112] : List UInt8)), []))
def f53_L (call : CallF) (n : Nat) (a0 : Bool) : OR :=
  f53_T call n a0
theorem f53_o (call : CallF) (n : Nat) (B : Code) (hB : B = f53_b) : f53_P B call n = f53_T call n := by
  subst hB; funext a0; kernel_rfl
theorem f53_l (call : CallF) (n : Nat) : f53_P f53_b call n = f53_T call n :=
  f53_o call n _ (by kernel_rfl)
theorem f53_e (call : CallF) (n : Nat) : f53_P f53_b call n = f53_L call n := by
  rw [f53_l]; rfl
theorem f53_eq (n : Nat) (a0 : Bool) : acall AXE AXF (n + 1) 53 [.one (.bool a0)] [] = f53_L (acall AXE AXF n) (n + 1) a0 :=
  (show _ = f53_P f53_b (acall AXE AXF n) (n + 1) a0 by kernel_rfl).trans (by rw [f53_e])
def f54_P10 (B : Code) (call : CallF) (n : Nat) (m0 : Nat) (x0 x1 : LC) (x2 x3 : Int) : OR :=
  f54_x B call n [1, 1, 0, 1, 0, 0, 1, 1, 1] (kSeq (fun k => prK 1000003 (pruneAt f54_h 1000003) (aloop 1000003 (pruneAt f54_h 1000003) (f54_x B call n [1, 1, 0, 1, 0, 0]) k m0)) (kBlk 0 (kSeq (f54_x B call n [1, 1, 1]) (kEnd AXE 0 f54_r)))) ⟨[(3, .one (.sl (some ⟨3, 0, 5⟩) 1 x0)), (7, .one (.sl none 1 x1)), (8, .one (.int .i64 x2)), (9, .one (.int .i64 x3))], []⟩
def f54_P13 (B : Code) (call : CallF) (n : Nat) (m0 : Nat) (x0 : LC) (x1 : Int) (x2 : LC) (x3 x4 : Int) (x5 : Bool) : OR :=
  f54_x B call n [1, 1, 0, 1, 0, 0, 1, 1, 0, 0, 1, 0, 1, 1, 1, 1, 1, 1, 1] (kBlk 2 (kBlk 1 (kSeq (f54_x B call n [1, 1, 0, 1, 0, 0, 1, 1, 1]) (kSeq (fun k => prK 1000003 (pruneAt f54_h 1000003) (aloop 1000003 (pruneAt f54_h 1000003) (f54_x B call n [1, 1, 0, 1, 0, 0]) k m0)) (kBlk 0 (kSeq (f54_x B call n [1, 1, 1]) (kEnd AXE 0 f54_r))))))) ⟨[(3, .one (.sl (some ⟨3, 0, 5⟩) 1 x0)), (5, .one (.int .u8 x1)), (7, .one (.sl none 1 x2)), (8, .one (.int .i64 x3)), (9, .one (.int .i64 x4)), (50, .one (.bool x5))], []⟩
def f54_P12 (B : Code) (call : CallF) (n : Nat) (m0 : Nat) (x0 : LC) (x1 : Int) (x2 : LC) (x3 x4 : Int) (x5 : Bool) : OR :=
  f54_x B call n [1, 1, 0, 1, 0, 0, 1, 1, 0, 0, 1, 0, 1, 1, 1, 1, 1] (kBlk 2 (kBlk 1 (kSeq (f54_x B call n [1, 1, 0, 1, 0, 0, 1, 1, 1]) (kSeq (fun k => prK 1000003 (pruneAt f54_h 1000003) (aloop 1000003 (pruneAt f54_h 1000003) (f54_x B call n [1, 1, 0, 1, 0, 0]) k m0)) (kBlk 0 (kSeq (f54_x B call n [1, 1, 1]) (kEnd AXE 0 f54_r))))))) ⟨[(3, .one (.sl (some ⟨3, 0, 5⟩) 1 x0)), (5, .one (.int .u8 x1)), (7, .one (.sl none 1 x2)), (8, .one (.int .i64 x3)), (9, .one (.int .i64 x4)), (44, .one (.bool x5))], []⟩
def f54_P11 (B : Code) (call : CallF) (n : Nat) (m0 : Nat) (x0 : LC) (x1 : Int) (x2 : LC) (x3 x4 : Int) (x5 : Bool) : OR :=
  f54_x B call n [1, 1, 0, 1, 0, 0, 1, 1, 0, 0, 1, 0, 1, 1, 1] (kBlk 2 (kBlk 1 (kSeq (f54_x B call n [1, 1, 0, 1, 0, 0, 1, 1, 1]) (kSeq (fun k => prK 1000003 (pruneAt f54_h 1000003) (aloop 1000003 (pruneAt f54_h 1000003) (f54_x B call n [1, 1, 0, 1, 0, 0]) k m0)) (kBlk 0 (kSeq (f54_x B call n [1, 1, 1]) (kEnd AXE 0 f54_r))))))) ⟨[(3, .one (.sl (some ⟨3, 0, 5⟩) 1 x0)), (5, .one (.int .u8 x1)), (7, .one (.sl none 1 x2)), (8, .one (.int .i64 x3)), (9, .one (.int .i64 x4)), (33, .one (.bool x5))], []⟩
def f54_P9 (B : Code) (call : CallF) (n : Nat) (m0 : Nat) (x0 : LC) (x1 : Int) (x2 : LC) (x3 x4 : Int) (x5 : Bool) : OR :=
  f54_x B call n [1, 1, 0, 1, 0, 0, 1, 1, 0, 0, 1, 0, 1] (kBlk 2 (kBlk 1 (kSeq (f54_x B call n [1, 1, 0, 1, 0, 0, 1, 1, 1]) (kSeq (fun k => prK 1000003 (pruneAt f54_h 1000003) (aloop 1000003 (pruneAt f54_h 1000003) (f54_x B call n [1, 1, 0, 1, 0, 0]) k m0)) (kBlk 0 (kSeq (f54_x B call n [1, 1, 1]) (kEnd AXE 0 f54_r))))))) ⟨[(3, .one (.sl (some ⟨3, 0, 5⟩) 1 x0)), (5, .one (.int .u8 x1)), (7, .one (.sl none 1 x2)), (8, .one (.int .i64 x3)), (9, .one (.int .i64 x4)), (22, .one (.bool x5))], []⟩
def f54_P3 (B : Code) (call : CallF) (n : Nat) (m0 : Nat) (x0 x1 : LC) (x2 x3 : Int) : OR :=
  aloop 1000003 (pruneAt f54_h 1000003) (f54_x B call n [1, 1, 0, 1, 0, 0]) (kBlk 0 (kSeq (f54_x B call n [1, 1, 1]) (kEnd AXE 0 f54_r))) m0 ⟨[(3, .one (.sl (some ⟨3, 0, 5⟩) 1 x0)), (7, .one (.sl none 1 x1)), (8, .one (.int .i64 x2)), (9, .one (.int .i64 x3))], []⟩
def f54_P (B : Code) (call : CallF) (n : Nat) (a0 : LC) : OR :=
  f54_x B call n [] (kEnd AXE 0 f54_r) ⟨[(0, .one (.sl none 1 a0))], []⟩
def f54_T10 (call : CallF) (n : Nat) (j3m : LC → LC → Int → Int → OR) (x0 x1 : LC) (x2 x3 : Int) : OR :=
  j3m x0 x1 x2 (IntKind.wrap .i64 (x3 + (1 : Int)))
theorem f54_o10 (call : CallF) (n : Nat) (m0 : Nat) (B : Code) (hB : B = f54_b) : f54_P10 B call n m0 = f54_T10 call n (f54_P3 B call n m0) := by
  subst hB; funext x0 x1 x2 x3; kernel_rfl
theorem f54_l10 (call : CallF) (n : Nat) (m0 : Nat) : f54_P10 f54_b call n m0 = f54_T10 call n (f54_P3 f54_b call n m0) :=
  f54_o10 call n m0 _ (by kernel_rfl)
def f54_L10 (call : CallF) (n : Nat) (h_m0 : LC → LC → Int → Int → OR) : LC → LC → Int → Int → OR :=
  f54_T10 call n h_m0
theorem f54_e10 (call : CallF) (n : Nat) (m0 : Nat) : f54_P10 f54_b call n m0 = f54_L10 call n (f54_P3 f54_b call n m0) := by
  rw [f54_l10]; rfl
def f54_T13 (call : CallF) (n : Nat) (j10 : LC → LC → Int → Int → OR) (x0 : LC) (x1 : Int) (x2 : LC) (x3 x4 : Int) (x5 : Bool) : OR :=
  bif x5 then (
    guardB (decide (((x0).length + (([.int .u8 (92 : Int), .int .u8 (110 : Int)] : List Cell)).length) * 1000 ≤ rowLim)) (
      j10 (x0 ++ ([.int .u8 (92 : Int), .int .u8 (110 : Int)] : List Cell)) x2 x3 x4)) else (
    itemK ([48, 49, 50, 51, 52, 53, 54, 55, 56, 57, 97, 98, 99, 100, 101, 102] : List UInt8) (Int.fdiv x1 ((2 : Int) ^ (min (Int.toNat (4 : Int)) (IntKind.bits .u8)))) fun u1 =>
    itemK ([48, 49, 50, 51, 52, 53, 54, 55, 56, 57, 97, 98, 99, 100, 101, 102] : List UInt8) (IntKind.wrap .u8 ((BitVec.toNat ((BitVec.ofInt (IntKind.bits .u8) x1) &&& (BitVec.ofInt (IntKind.bits .u8) (15 : Int))) : Nat) : Int)) fun u2 =>
    guardB (decide (((x0).length + (([.int .u8 (92 : Int), .int .u8 (120 : Int), .int .u8 (UInt8.toNat u1 : Int), .int .u8 (UInt8.toNat u2 : Int)] : List Cell)).length) * 1000 ≤ rowLim)) (
      j10 (x0 ++ ([.int .u8 (92 : Int), .int .u8 (120 : Int), .int .u8 (UInt8.toNat u1 : Int), .int .u8 (UInt8.toNat u2 : Int)] : List Cell)) x2 x3 x4))
theorem f54_o13 (X0 : Code) (call : CallF) (n : Nat) (m0 : Nat) (B : Code) (hB : B = (hole f54_b [1, 1, 0, 1, 0, 0, 1, 1, 1] X0)) : f54_P13 B call n m0 = f54_T13 call n (f54_P10 B call n m0) := by
  subst hB; funext x0 x1 x2 x3 x4 x5; cases x5 <;> kernel_rfl
theorem f54_l13 (call : CallF) (n : Nat) (m0 : Nat) : f54_P13 f54_b call n m0 = f54_T13 call n (f54_P10 f54_b call n m0) :=
  f54_o13 (piece [1, 1, 0, 1, 0, 0, 1, 1, 1] f54_b) call n m0 _ (by kernel_rfl)
def f54_L13 (call : CallF) (n : Nat) (h_m0 : LC → LC → Int → Int → OR) : LC → Int → LC → Int → Int → Bool → OR :=
  f54_T13 call n (f54_L10 call n h_m0)
theorem f54_e13 (call : CallF) (n : Nat) (m0 : Nat) : f54_P13 f54_b call n m0 = f54_L13 call n (f54_P3 f54_b call n m0) := by
  rw [f54_l13, f54_e10]; rfl
def f54_T12 (call : CallF) (n : Nat) (j10 : LC → LC → Int → Int → OR) (j13 : LC → Int → LC → Int → Int → Bool → OR) (x0 : LC) (x1 : Int) (x2 : LC) (x3 x4 : Int) (x5 : Bool) : OR :=
  bif x5 then (
    guardB (decide (((x0).length + (([.int .u8 (92 : Int), .int .u8 (114 : Int)] : List Cell)).length) * 1000 ≤ rowLim)) (
      j10 (x0 ++ ([.int .u8 (92 : Int), .int .u8 (114 : Int)] : List Cell)) x2 x3 x4)) else (
    j13 x0 x1 x2 x3 x4 (x1 == (10 : Int)))
theorem f54_o12 (X0 X1 : Code) (call : CallF) (n : Nat) (m0 : Nat) (B : Code) (hB : B = (hole (hole f54_b [1, 1, 0, 1, 0, 0, 1, 1, 0, 0, 1, 0, 1, 1, 1, 1, 1, 1, 1] X0) [1, 1, 0, 1, 0, 0, 1, 1, 1] X1)) : f54_P12 B call n m0 = f54_T12 call n (f54_P10 B call n m0) (f54_P13 B call n m0) := by
  subst hB; funext x0 x1 x2 x3 x4 x5; cases x5 <;> kernel_rfl
theorem f54_l12 (call : CallF) (n : Nat) (m0 : Nat) : f54_P12 f54_b call n m0 = f54_T12 call n (f54_P10 f54_b call n m0) (f54_P13 f54_b call n m0) :=
  f54_o12 (piece [1, 1, 0, 1, 0, 0, 1, 1, 0, 0, 1, 0, 1, 1, 1, 1, 1, 1, 1] f54_b) (piece [1, 1, 0, 1, 0, 0, 1, 1, 1] f54_b) call n m0 _ (by kernel_rfl)
def f54_L12 (call : CallF) (n : Nat) (h_m0 : LC → LC → Int → Int → OR) : LC → Int → LC → Int → Int → Bool → OR :=
  f54_T12 call n (f54_L10 call n h_m0) (f54_L13 call n h_m0)
theorem f54_e12 (call : CallF) (n : Nat) (m0 : Nat) : f54_P12 f54_b call n m0 = f54_L12 call n (f54_P3 f54_b call n m0) := by
  rw [f54_l12, f54_e10, f54_e13]; rfl
def f54_T11 (call : CallF) (n : Nat) (j10 : LC → LC → Int → Int → OR) (j12 : LC → Int → LC → Int → Int → Bool → OR) (x0 : LC) (x1 : Int) (x2 : LC) (x3 x4 : Int) (x5 : Bool) : OR :=
  bif x5 then (
    guardB (decide (((x0).length + (([.int .u8 x1] : List Cell)).length) * 1000 ≤ rowLim)) (
      j10 (x0 ++ ([.int .u8 x1] : List Cell)) x2 x3 x4)) else (
    j12 x0 x1 x2 x3 x4 (x1 == (13 : Int)))
theorem f54_o11 (X0 X1 : Code) (call : CallF) (n : Nat) (m0 : Nat) (B : Code) (hB : B = (hole (hole f54_b [1, 1, 0, 1, 0, 0, 1, 1, 0, 0, 1, 0, 1, 1, 1, 1, 1] X0) [1, 1, 0, 1, 0, 0, 1, 1, 1] X1)) : f54_P11 B call n m0 = f54_T11 call n (f54_P10 B call n m0) (f54_P12 B call n m0) := by
  subst hB; funext x0 x1 x2 x3 x4 x5; cases x5 <;> kernel_rfl
theorem f54_l11 (call : CallF) (n : Nat) (m0 : Nat) : f54_P11 f54_b call n m0 = f54_T11 call n (f54_P10 f54_b call n m0) (f54_P12 f54_b call n m0) :=
  f54_o11 (piece [1, 1, 0, 1, 0, 0, 1, 1, 0, 0, 1, 0, 1, 1, 1, 1, 1] f54_b) (piece [1, 1, 0, 1, 0, 0, 1, 1, 1] f54_b) call n m0 _ (by kernel_rfl)
def f54_L11 (call : CallF) (n : Nat) (h_m0 : LC → LC → Int → Int → OR) : LC → Int → LC → Int → Int → Bool → OR :=
  f54_T11 call n (f54_L10 call n h_m0) (f54_L12 call n h_m0)
theorem f54_e11 (call : CallF) (n : Nat) (m0 : Nat) : f54_P11 f54_b call n m0 = f54_L11 call n (f54_P3 f54_b call n m0) := by
  rw [f54_l11, f54_e10, f54_e12]; rfl
def f54_T9 (call : CallF) (n : Nat) (j10 : LC → LC → Int → Int → OR) (j11 : LC → Int → LC → Int → Int → Bool → OR) (x0 : LC) (x1 : Int) (x2 : LC) (x3 x4 : Int) (x5 : Bool) : OR :=
  bif x5 then (
    guardB (decide (((x0).length + (([.int .u8 (92 : Int), .int .u8 x1] : List Cell)).length) * 1000 ≤ rowLim)) (
      j10 (x0 ++ ([.int .u8 (92 : Int), .int .u8 x1] : List Cell)) x2 x3 x4)) else (
    bif (decide (x1 ≥ (32 : Int))) then (
      j11 x0 x1 x2 x3 x4 (decide (x1 ≤ (126 : Int)))) else (
      j11 x0 x1 x2 x3 x4 false))
theorem f54_o9 (X0 X1 : Code) (call : CallF) (n : Nat) (m0 : Nat) (B : Code) (hB : B = (hole (hole f54_b [1, 1, 0, 1, 0, 0, 1, 1, 0, 0, 1, 0, 1, 1, 1] X0) [1, 1, 0, 1, 0, 0, 1, 1, 1] X1)) : f54_P9 B call n m0 = f54_T9 call n (f54_P10 B call n m0) (f54_P11 B call n m0) := by
  subst hB; funext x0 x1 x2 x3 x4 x5; cases x5 <;> kernel_rfl
theorem f54_l9 (call : CallF) (n : Nat) (m0 : Nat) : f54_P9 f54_b call n m0 = f54_T9 call n (f54_P10 f54_b call n m0) (f54_P11 f54_b call n m0) :=
  f54_o9 (piece [1, 1, 0, 1, 0, 0, 1, 1, 0, 0, 1, 0, 1, 1, 1] f54_b) (piece [1, 1, 0, 1, 0, 0, 1, 1, 1] f54_b) call n m0 _ (by kernel_rfl)
def f54_L9 (call : CallF) (n : Nat) (h_m0 : LC → LC → Int → Int → OR) : LC → Int → LC → Int → Int → Bool → OR :=
  f54_T9 call n (f54_L10 call n h_m0) (f54_L11 call n h_m0)
theorem f54_e9 (call : CallF) (n : Nat) (m0 : Nat) : f54_P9 f54_b call n m0 = f54_L9 call n (f54_P3 f54_b call n m0) := by
  rw [f54_l9, f54_e10, f54_e11]; rfl
def f54_T3 (call : CallF) (n : Nat) (j9 : LC → Int → LC → Int → Int → Bool → OR) (x0 x1 : LC) (x2 x3 : Int) : OR :=
  bif (decide (x3 < x2)) then (
    itemK x1 x3 fun c1 =>
    castI .u8 c1 fun n2 =>
    bif (n2 == (34 : Int)) then (
      j9 x0 n2 x1 x2 x3 true) else (
      j9 x0 n2 x1 x2 x3 (n2 == (92 : Int)))) else (
    guardB (decide (((x0).length + (([.int .u8 (34 : Int)] : List Cell)).length) * 1000 ≤ rowLim)) (
      bytesK (x0 ++ ([.int .u8 (34 : Int)] : List Cell)) fun s3 =>
      some (.one (.str s3), [])))
theorem f54_o3 (X0 : Code) (call : CallF) (n : Nat) (m0 : Nat) (B : Code) (hB : B = (hole f54_b [1, 1, 0, 1, 0, 0, 1, 1, 0, 0, 1, 0, 1] X0)) : f54_P3 B call n (m0 + 1) = f54_T3 call n (f54_P9 B call n m0) := by
  subst hB; funext x0 x1 x2 x3; kernel_rfl
theorem f54_l3 (call : CallF) (n : Nat) (m0 : Nat) : f54_P3 f54_b call n (m0 + 1) = f54_T3 call n (f54_P9 f54_b call n m0) :=
  f54_o3 (piece [1, 1, 0, 1, 0, 0, 1, 1, 0, 0, 1, 0, 1] f54_b) call n m0 _ (by kernel_rfl)
def f54_L3 (call : CallF) (n : Nat) : Nat → LC → LC → Int → Int → OR
  | 0 => fun _ _ _ _ => none
  | m0 + 1 => f54_T3 call n (f54_L9 call n (f54_L3 call n m0))
theorem f54_e3 (call : CallF) (n : Nat) : ∀ m0 : Nat, f54_P3 f54_b call n m0 = f54_L3 call n m0
  | 0 => by funext x0 x1 x2 x3; kernel_rfl
  | m0 + 1 => by rw [f54_l3, f54_e9, f54_e3 call n m0]; rfl
/-- pigeonhole/script.quoted -/
def f54_T (call : CallF) (n : Nat) (j3n : LC → LC → Int → Int → OR) (a0 : LC) : OR :=
  j3n ([.int .u8 (34 : Int)] : List Cell) a0 (((a0).length / 1 : Nat) : Int) (0 : Int)
def f54_L (call : CallF) (n : Nat) (a0 : LC) : OR :=
  f54_T call n (f54_L3 call n n) a0
theorem f54_o (call : CallF) (n : Nat) (B : Code) (hB : B = f54_b) : f54_P B call n = f54_T call n (f54_P3 B call n n) := by
  subst hB; funext a0; kernel_rfl
theorem f54_l (call : CallF) (n : Nat) : f54_P f54_b call n = f54_T call n (f54_P3 f54_b call n n) :=
  f54_o call n _ (by kernel_rfl)
theorem f54_e (call : CallF) (n : Nat) : f54_P f54_b call n = f54_L call n := by
  rw [f54_l, f54_e3]; rfl
theorem f54_eq (n : Nat) (a0 : LC) : acall AXE AXF (n + 1) 54 [.one (.sl none 1 a0)] [] = f54_L (acall AXE AXF n) (n + 1) a0 :=
  (show _ = f54_P f54_b (acall AXE AXF n) (n + 1) a0 by kernel_rfl).trans (by rw [f54_e])
def f55_P (B : Code) (call : CallF) (n : Nat) (a0 : LB) : OR :=
  f55_x B call n [] (kEnd AXE 0 f55_r) ⟨[(0, .one (.str a0))], []⟩
/-- pigeonhole/script.named -/
def f55_T (call : CallF) (n : Nat) (a0 : LB) : OR :=
  bif (a0 == ([] : List UInt8)) then (
    some (.one (.str ([42] : List UInt8)), [])) else (
    some (.one (.str a0), []))
def f55_L (call : CallF) (n : Nat) (a0 : LB) : OR :=
  f55_T call n a0
theorem f55_o (call : CallF) (n : Nat) (B : Code) (hB : B = f55_b) : f55_P B call n = f55_T call n := by
  subst hB; funext a0; kernel_rfl
theorem f55_l (call : CallF) (n : Nat) : f55_P f55_b call n = f55_T call n :=
  f55_o call n _ (by kernel_rfl)
theorem f55_e (call : CallF) (n : Nat) : f55_P f55_b call n = f55_L call n := by
  rw [f55_l]; rfl
theorem f55_eq (n : Nat) (a0 : LB) : acall AXE AXF (n + 1) 55 [.one (.str a0)] [] = f55_L (acall AXE AXF n) (n + 1) a0 :=
  (show _ = f55_P f55_b (acall AXE AXF n) (n + 1) a0 by kernel_rfl).trans (by rw [f55_e])
def f57_P5 (B : Code) (call : CallF) (n : Nat) (m0 : Nat) (x0 x1 : LC) (x2 x3 : Int) : OR :=
  aloop 1000004 (pruneAt f57_h 1000004) (f57_x B call n [1, 1, 0, 1, 0, 0]) (kBlk 0 (kSeq (f57_x B call n [1, 1, 1]) (kEnd AXE 0 f57_r))) m0 ⟨[(0, .one (.sl none 1 x0)), (1, .one (.sl none 1 x1)), (12, .one (.int .i64 x2)), (13, .one (.int .i64 x3))], []⟩
def f57_P (B : Code) (call : CallF) (n : Nat) (a0 a1 : LC) : OR :=
  f57_x B call n [] (kEnd AXE 0 f57_r) ⟨[(0, .one (.sl none 1 a0)), (1, .one (.sl none 1 a1))], []⟩
def f57_T5 (call : CallF) (n : Nat) (j5m : LC → LC → Int → Int → OR) (x0 x1 : LC) (x2 x3 : Int) : OR :=
  bif (decide (x3 < x2)) then (
    itemK x0 x3 fun c1 =>
    castS c1 fun s2 =>
    itemK x1 x3 fun c3 =>
    castS c3 fun s4 =>
    bif (!(s2 == s4)) then (
      some (.one (.bool false), [])) else (
      j5m x0 x1 x2 (IntKind.wrap .i64 (x3 + (1 : Int))))) else (
    some (.one (.bool true), []))
theorem f57_o5 (call : CallF) (n : Nat) (m0 : Nat) (B : Code) (hB : B = f57_b) : f57_P5 B call n (m0 + 1) = f57_T5 call n (f57_P5 B call n m0) := by
  subst hB; funext x0 x1 x2 x3; kernel_rfl
theorem f57_l5 (call : CallF) (n : Nat) (m0 : Nat) : f57_P5 f57_b call n (m0 + 1) = f57_T5 call n (f57_P5 f57_b call n m0) :=
  f57_o5 call n m0 _ (by kernel_rfl)
def f57_L5 (call : CallF) (n : Nat) : Nat → LC → LC → Int → Int → OR
  | 0 => fun _ _ _ _ => none
  | m0 + 1 => f57_T5 call n (f57_L5 call n m0)
theorem f57_e5 (call : CallF) (n : Nat) : ∀ m0 : Nat, f57_P5 f57_b call n m0 = f57_L5 call n m0
  | 0 => by funext x0 x1 x2 x3; kernel_rfl
  | m0 + 1 => by rw [f57_l5, f57_e5 call n m0]; rfl
/-- slices.Equal[[]string,string] -/
def f57_T (call : CallF) (n : Nat) (j5n : LC → LC → Int → Int → OR) (a0 a1 : LC) : OR :=
  bif ((((a0).length / 1 : Nat) : Int) != (((a1).length / 1 : Nat) : Int)) then (
    some (.one (.bool false), [])) else (
    j5n a0 a1 (((a0).length / 1 : Nat) : Int) (0 : Int))
def f57_L (call : CallF) (n : Nat) (a0 a1 : LC) : OR :=
  f57_T call n (f57_L5 call n n) a0 a1
theorem f57_o (call : CallF) (n : Nat) (B : Code) (hB : B = f57_b) : f57_P B call n = f57_T call n (f57_P5 B call n n) := by
  subst hB; funext a0 a1; kernel_rfl
theorem f57_l (call : CallF) (n : Nat) : f57_P f57_b call n = f57_T call n (f57_P5 f57_b call n n) :=
  f57_o call n _ (by kernel_rfl)
theorem f57_e (call : CallF) (n : Nat) : f57_P f57_b call n = f57_L call n := by
  rw [f57_l, f57_e5]; rfl
theorem f57_eq (n : Nat) (a0 a1 : LC) : acall AXE AXF (n + 1) 57 [.one (.sl none 1 a0), .one (.sl none 1 a1)] [] = f57_L (acall AXE AXF n) (n + 1) a0 a1 :=
  (show _ = f57_P f57_b (acall AXE AXF n) (n + 1) a0 a1 by kernel_rfl).trans (by rw [f57_e])
def f58_P5 (B : Code) (call : CallF) (n : Nat) (m0 : Nat) (x0 x1 : LC) (x2 x3 : Int) : OR :=
  aloop 1000004 (pruneAt f58_h 1000004) (f58_x B call n [1, 1, 0, 1, 0, 0]) (kBlk 0 (kSeq (f58_x B call n [1, 1, 1]) (kEnd AXE 0 f58_r))) m0 ⟨[(0, .one (.sl none 1 x0)), (1, .one (.sl none 1 x1)), (12, .one (.int .i64 x2)), (13, .one (.int .i64 x3))], []⟩
def f58_P (B : Code) (call : CallF) (n : Nat) (a0 a1 : LC) : OR :=
  f58_x B call n [] (kEnd AXE 0 f58_r) ⟨[(0, .one (.sl none 1 a0)), (1, .one (.sl none 1 a1))], []⟩
def f58_T5 (call : CallF) (n : Nat) (j5m : LC → LC → Int → Int → OR) (x0 x1 : LC) (x2 x3 : Int) : OR :=
  bif (decide (x3 < x2)) then (
    itemK x0 x3 fun c1 =>
    castI .i64 c1 fun n2 =>
    itemK x1 x3 fun c3 =>
    castI .i64 c3 fun n4 =>
    bif (n2 != n4) then (
      some (.one (.bool false), [])) else (
      j5m x0 x1 x2 (IntKind.wrap .i64 (x3 + (1 : Int))))) else (
    some (.one (.bool true), []))
theorem f58_o5 (call : CallF) (n : Nat) (m0 : Nat) (B : Code) (hB : B = f58_b) : f58_P5 B call n (m0 + 1) = f58_T5 call n (f58_P5 B call n m0) := by
  subst hB; funext x0 x1 x2 x3; kernel_rfl
theorem f58_l5 (call : CallF) (n : Nat) (m0 : Nat) : f58_P5 f58_b call n (m0 + 1) = f58_T5 call n (f58_P5 f58_b call n m0) :=
  f58_o5 call n m0 _ (by kernel_rfl)
def f58_L5 (call : CallF) (n : Nat) : Nat → LC → LC → Int → Int → OR
  | 0 => fun _ _ _ _ => none
  | m0 + 1 => f58_T5 call n (f58_L5 call n m0)
theorem f58_e5 (call : CallF) (n : Nat) : ∀ m0 : Nat, f58_P5 f58_b call n m0 = f58_L5 call n m0
  | 0 => by funext x0 x1 x2 x3; kernel_rfl
  | m0 + 1 => by rw [f58_l5, f58_e5 call n m0]; rfl
/-- slices.Equal[[]int,int] -/
def f58_T (call : CallF) (n : Nat) (j5n : LC → LC → Int → Int → OR) (a0 a1 : LC) : OR :=
  bif ((((a0).length / 1 : Nat) : Int) != (((a1).length / 1 : Nat) : Int)) then (
    some (.one (.bool false), [])) else (
    j5n a0 a1 (((a0).length / 1 : Nat) : Int) (0 : Int))
def f58_L (call : CallF) (n : Nat) (a0 a1 : LC) : OR :=
  f58_T call n (f58_L5 call n n) a0 a1
theorem f58_o (call : CallF) (n : Nat) (B : Code) (hB : B = f58_b) : f58_P B call n = f58_T call n (f58_P5 B call n n) := by
  subst hB; funext a0 a1; kernel_rfl
theorem f58_l (call : CallF) (n : Nat) : f58_P f58_b call n = f58_T call n (f58_P5 f58_b call n n) :=
  f58_o call n _ (by kernel_rfl)
theorem f58_e (call : CallF) (n : Nat) : f58_P f58_b call n = f58_L call n := by
  rw [f58_l, f58_e5]; rfl
theorem f58_eq (n : Nat) (a0 a1 : LC) : acall AXE AXF (n + 1) 58 [.one (.sl none 1 a0), .one (.sl none 1 a1)] [] = f58_L (acall AXE AXF n) (n + 1) a0 a1 :=
  (show _ = f58_P f58_b (acall AXE AXF n) (n + 1) a0 a1 by kernel_rfl).trans (by rw [f58_e])
def f69_P2 (B : Code) (call : CallF) (n : Nat) (x0 : Int) (x1 : Bool) : OR :=
  f69_x B call n [1, 1, 1] (kEnd AXE 0 f69_r) ⟨[(2, .one (.int .i64 x0)), (3, .one (.bool x1))], []⟩
def f69_P (B : Code) (call : CallF) (n : Nat) (a0 : LB) : OR :=
  f69_x B call n [] (kEnd AXE 0 f69_r) ⟨[(0, .one (.str a0))], []⟩
def f69_T2 (call : CallF) (n : Nat) (x0 : Int) (x1 : Bool) : OR :=
  some (.tup [.one (.int .i64 x0), .one (.bool x1)], [])
theorem f69_o2 (call : CallF) (n : Nat) (B : Code) (hB : B = f69_b) : f69_P2 B call n = f69_T2 call n := by
  subst hB; funext x0 x1; kernel_rfl
theorem f69_l2 (call : CallF) (n : Nat) : f69_P2 f69_b call n = f69_T2 call n :=
  f69_o2 call n _ (by kernel_rfl)
def f69_L2 (call : CallF) (n : Nat) : Int → Bool → OR :=
  f69_T2 call n
theorem f69_e2 (call : CallF) (n : Nat) : f69_P2 f69_b call n = f69_L2 call n := by
  rw [f69_l2]; rfl
/-- pigeonhole/script.number -/
def f69_T (call : CallF) (n : Nat) (j2 : Int → Bool → OR) (a0 : LB) : OR :=
  primK pAtoi [.one (.str a0)] fun v9 =>
  castTup v9 fun v10 =>
  zI .i64 v10 fun n11 r12 =>
  zE r12 fun b13 r14 =>
  nilK r14 (
    bif (!b13) then (
      primK pItoa [.one (.int .i64 n11)] fun v15 =>
      oS v15 fun s16 =>
      bif (s16 == a0) then (
        bif (decide (n11 ≥ (-9007199254740992 : Int))) then (
          j2 n11 (decide (n11 ≤ (9007199254740992 : Int)))) else (
          j2 n11 false)) else (
        j2 n11 false)) else (
      j2 n11 false))
def f69_L (call : CallF) (n : Nat) (a0 : LB) : OR :=
  f69_T call n (f69_L2 call n) a0
theorem f69_o (X0 : Code) (call : CallF) (n : Nat) (B : Code) (hB : B = (hole f69_b [1, 1, 1] X0)) : f69_P B call n = f69_T call n (f69_P2 B call n) := by
  subst hB; funext a0; kernel_rfl
theorem f69_l (call : CallF) (n : Nat) : f69_P f69_b call n = f69_T call n (f69_P2 f69_b call n) :=
  f69_o (piece [1, 1, 1] f69_b) call n _ (by kernel_rfl)
theorem f69_e (call : CallF) (n : Nat) : f69_P f69_b call n = f69_L call n := by
  rw [f69_l, f69_e2]; rfl
theorem f69_eq (n : Nat) (a0 : LB) : acall AXE AXF (n + 1) 69 [.one (.str a0)] [] = f69_L (acall AXE AXF n) (n + 1) a0 :=
  (show _ = f69_P f69_b (acall AXE AXF n) (n + 1) a0 by kernel_rfl).trans (by rw [f69_e])
def f70_P11 (B : Code) (call : CallF) (n : Nat) (m0 : Nat) (x0 : Bool) (x1 : LB) (x2 : Int) (x3 : LC) (x4 x5 : Int) : OR :=
  f70_x B call n [1, 0, 1, 0, 0, 1, 1, 1] (kSeq (fun k => prK 1000002 (pruneAt f70_h 1000002) (aloop 1000002 (pruneAt f70_h 1000002) (f70_x B call n [1, 0, 1, 0, 0]) k m0)) (kBlk 0 (kSeq (f70_x B call n [1, 1]) (kEnd AXE 0 f70_r)))) ⟨[(12, .one (.bool x0)), (0, .one (.str x1)), (4, .one (.int .u8 x2)), (6, .one (.sl none 1 x3)), (7, .one (.int .i64 x4)), (8, .one (.int .i64 x5))], []⟩
def f70_P12 (B : Code) (call : CallF) (n : Nat) (m0 : Nat) (x0 : Bool) : OR :=
  f70_x B call n [1, 0, 1, 0, 0, 1, 1, 0, 0, 1, 0, 1, 1, 1] (kBlk 2 (kBlk 1 (kSeq (f70_x B call n [1, 0, 1, 0, 0, 1, 1, 1]) (kSeq (fun k => prK 1000002 (pruneAt f70_h 1000002) (aloop 1000002 (pruneAt f70_h 1000002) (f70_x B call n [1, 0, 1, 0, 0]) k m0)) (kBlk 0 (kSeq (f70_x B call n [1, 1]) (kEnd AXE 0 f70_r))))))) ⟨[(2, .one (.bool x0))], []⟩
def f70_P9 (B : Code) (call : CallF) (n : Nat) (m0 : Nat) (x0 : Bool) (x1 : LB) (x2 : Int) (x3 : LC) (x4 x5 : Int) : OR :=
  f70_x B call n [1, 0, 1, 0, 0, 1, 1, 0, 0, 1, 0, 1] (kBlk 2 (kBlk 1 (kSeq (f70_x B call n [1, 0, 1, 0, 0, 1, 1, 1]) (kSeq (fun k => prK 1000002 (pruneAt f70_h 1000002) (aloop 1000002 (pruneAt f70_h 1000002) (f70_x B call n [1, 0, 1, 0, 0]) k m0)) (kBlk 0 (kSeq (f70_x B call n [1, 1]) (kEnd AXE 0 f70_r))))))) ⟨[(12, .one (.bool x0)), (0, .one (.str x1)), (4, .one (.int .u8 x2)), (6, .one (.sl none 1 x3)), (7, .one (.int .i64 x4)), (8, .one (.int .i64 x5))], []⟩
def f70_P16 (B : Code) (call : CallF) (n : Nat) (m0 : Nat) (x0 : Bool) (x1 : LB) (x2 : LC) (x3 x4 : Int) : OR :=
  f70_x B call n [1, 0, 1, 0, 0, 1, 1, 1] (kSeq (fun k => prK 1000002 (pruneAt f70_h 1000002) (aloop 1000002 (pruneAt f70_h 1000002) (f70_x B call n [1, 0, 1, 0, 0]) k m0)) (kBlk 0 (kSeq (f70_x B call n [1, 1]) (kEnd AXE 0 f70_r)))) ⟨[(12, .one (.bool x0)), (0, .one (.str x1)), (6, .one (.sl none 1 x2)), (7, .one (.int .i64 x3)), (8, .one (.int .i64 x4))], []⟩
def f70_P15 (B : Code) (call : CallF) (n : Nat) (m0 : Nat) (x0 : LB) (x1 : LC) (x2 x3 : Int) (x4 : Bool) : OR :=
  f70_x B call n [1, 0, 1, 0, 0, 1, 1, 0, 0, 1, 0, 1] (kBlk 2 (kBlk 1 (kSeq (f70_x B call n [1, 0, 1, 0, 0, 1, 1, 1]) (kSeq (fun k => prK 1000002 (pruneAt f70_h 1000002) (aloop 1000002 (pruneAt f70_h 1000002) (f70_x B call n [1, 0, 1, 0, 0]) k m0)) (kBlk 0 (kSeq (f70_x B call n [1, 1]) (kEnd AXE 0 f70_r))))))) ⟨[(0, .one (.str x0)), (6, .one (.sl none 1 x1)), (7, .one (.int .i64 x2)), (8, .one (.int .i64 x3)), (12, .one (.bool x4))], []⟩
def f70_P14 (B : Code) (call : CallF) (n : Nat) (m0 : Nat) (x0 : LB) (x1 : Int) (x2 : LC) (x3 x4 : Int) (x5 : Bool) : OR :=
  f70_x B call n [1, 0, 1, 0, 0, 1, 1, 0, 0, 1, 0, 0, 1, 1, 1, 1, 1, 1, 1] (kSeq (f70_x B call n [1, 0, 1, 0, 0, 1, 1, 0, 0, 1, 0, 1]) (kBlk 2 (kBlk 1 (kSeq (f70_x B call n [1, 0, 1, 0, 0, 1, 1, 1]) (kSeq (fun k => prK 1000002 (pruneAt f70_h 1000002) (aloop 1000002 (pruneAt f70_h 1000002) (f70_x B call n [1, 0, 1, 0, 0]) k m0)) (kBlk 0 (kSeq (f70_x B call n [1, 1]) (kEnd AXE 0 f70_r)))))))) ⟨[(0, .one (.str x0)), (4, .one (.int .u8 x1)), (6, .one (.sl none 1 x2)), (7, .one (.int .i64 x3)), (8, .one (.int .i64 x4)), (12, .one (.bool x5))], []⟩
def f70_P13 (B : Code) (call : CallF) (n : Nat) (m0 : Nat) (x0 : LB) (x1 : Int) (x2 : LC) (x3 x4 : Int) (x5 : Bool) : OR :=
  f70_x B call n [1, 0, 1, 0, 0, 1, 1, 0, 0, 1, 0, 0, 1, 1, 1, 1, 1] (kSeq (f70_x B call n [1, 0, 1, 0, 0, 1, 1, 0, 0, 1, 0, 1]) (kBlk 2 (kBlk 1 (kSeq (f70_x B call n [1, 0, 1, 0, 0, 1, 1, 1]) (kSeq (fun k => prK 1000002 (pruneAt f70_h 1000002) (aloop 1000002 (pruneAt f70_h 1000002) (f70_x B call n [1, 0, 1, 0, 0]) k m0)) (kBlk 0 (kSeq (f70_x B call n [1, 1]) (kEnd AXE 0 f70_r)))))))) ⟨[(0, .one (.str x0)), (4, .one (.int .u8 x1)), (6, .one (.sl none 1 x2)), (7, .one (.int .i64 x3)), (8, .one (.int .i64 x4)), (12, .one (.bool x5))], []⟩
def f70_P10 (B : Code) (call : CallF) (n : Nat) (m0 : Nat) (x0 : LB) (x1 : Int) (x2 : LC) (x3 x4 : Int) (x5 : Bool) : OR :=
  f70_x B call n [1, 0, 1, 0, 0, 1, 1, 0, 0, 1, 0, 0, 1, 1, 1] (kSeq (f70_x B call n [1, 0, 1, 0, 0, 1, 1, 0, 0, 1, 0, 1]) (kBlk 2 (kBlk 1 (kSeq (f70_x B call n [1, 0, 1, 0, 0, 1, 1, 1]) (kSeq (fun k => prK 1000002 (pruneAt f70_h 1000002) (aloop 1000002 (pruneAt f70_h 1000002) (f70_x B call n [1, 0, 1, 0, 0]) k m0)) (kBlk 0 (kSeq (f70_x B call n [1, 1]) (kEnd AXE 0 f70_r)))))))) ⟨[(0, .one (.str x0)), (4, .one (.int .u8 x1)), (6, .one (.sl none 1 x2)), (7, .one (.int .i64 x3)), (8, .one (.int .i64 x4)), (12, .one (.bool x5))], []⟩
def f70_P7 (B : Code) (call : CallF) (n : Nat) (m0 : Nat) (x0 : LB) (x1 : Int) (x2 : LC) (x3 x4 : Int) (x5 : Bool) : OR :=
  f70_x B call n [1, 0, 1, 0, 0, 1, 1, 0, 0, 1, 0, 0, 1] (kSeq (f70_x B call n [1, 0, 1, 0, 0, 1, 1, 0, 0, 1, 0, 1]) (kBlk 2 (kBlk 1 (kSeq (f70_x B call n [1, 0, 1, 0, 0, 1, 1, 1]) (kSeq (fun k => prK 1000002 (pruneAt f70_h 1000002) (aloop 1000002 (pruneAt f70_h 1000002) (f70_x B call n [1, 0, 1, 0, 0]) k m0)) (kBlk 0 (kSeq (f70_x B call n [1, 1]) (kEnd AXE 0 f70_r)))))))) ⟨[(0, .one (.str x0)), (4, .one (.int .u8 x1)), (6, .one (.sl none 1 x2)), (7, .one (.int .i64 x3)), (8, .one (.int .i64 x4)), (12, .one (.bool x5))], []⟩
def f70_P8 (B : Code) (call : CallF) (n : Nat) (x0 : Bool) : OR :=
  f70_x B call n [1, 1, 1] (kEnd AXE 0 f70_r) ⟨[(2, .one (.bool x0))], []⟩
def f70_P2 (B : Code) (call : CallF) (n : Nat) (m0 : Nat) (x0 : LB) (x1 : LC) (x2 x3 : Int) : OR :=
  aloop 1000002 (pruneAt f70_h 1000002) (f70_x B call n [1, 0, 1, 0, 0]) (kBlk 0 (kSeq (f70_x B call n [1, 1]) (kEnd AXE 0 f70_r))) m0 ⟨[(0, .one (.str x0)), (6, .one (.sl none 1 x1)), (7, .one (.int .i64 x2)), (8, .one (.int .i64 x3))], []⟩
def f70_P (B : Code) (call : CallF) (n : Nat) (a0 : LB) : OR :=
  f70_x B call n [] (kEnd AXE 0 f70_r) ⟨[(0, .one (.str a0))], []⟩
def f70_T11 (call : CallF) (n : Nat) (j2m : LB → LC → Int → Int → OR) (x0 : Bool) (x1 : LB) (x2 : Int) (x3 : LC) (x4 x5 : Int) : OR :=
  j2m x1 x3 x4 (IntKind.wrap .i64 (x5 + (1 : Int)))
theorem f70_o11 (call : CallF) (n : Nat) (m0 : Nat) (B : Code) (hB : B = f70_b) : f70_P11 B call n m0 = f70_T11 call n (f70_P2 B call n m0) := by
  subst hB; funext x0 x1 x2 x3 x4 x5; kernel_rfl
theorem f70_l11 (call : CallF) (n : Nat) (m0 : Nat) : f70_P11 f70_b call n m0 = f70_T11 call n (f70_P2 f70_b call n m0) :=
  f70_o11 call n m0 _ (by kernel_rfl)
def f70_L11 (call : CallF) (n : Nat) (h_m0 : LB → LC → Int → Int → OR) : Bool → LB → Int → LC → Int → Int → OR :=
  f70_T11 call n h_m0
theorem f70_e11 (call : CallF) (n : Nat) (m0 : Nat) : f70_P11 f70_b call n m0 = f70_L11 call n (f70_P2 f70_b call n m0) := by
  rw [f70_l11]; rfl
def f70_T12 (call : CallF) (n : Nat) (x0 : Bool) : OR :=
  some (.one (.bool x0), [])
theorem f70_o12 (call : CallF) (n : Nat) (m0 : Nat) (B : Code) (hB : B = f70_b) : f70_P12 B call n m0 = f70_T12 call n := by
  subst hB; funext x0; kernel_rfl
theorem f70_l12 (call : CallF) (n : Nat) (m0 : Nat) : f70_P12 f70_b call n m0 = f70_T12 call n :=
  f70_o12 call n m0 _ (by kernel_rfl)
def f70_L12 (call : CallF) (n : Nat) (h_m0 : LB → LC → Int → Int → OR) : Bool → OR :=
  f70_T12 call n
theorem f70_e12 (call : CallF) (n : Nat) (m0 : Nat) : f70_P12 f70_b call n m0 = f70_L12 call n (f70_P2 f70_b call n m0) := by
  rw [f70_l12]; rfl
def f70_T9 (call : CallF) (n : Nat) (j11 : Bool → LB → Int → LC → Int → Int → OR) (j12 : Bool → OR) (x0 : Bool) (x1 : LB) (x2 : Int) (x3 : LC) (x4 x5 : Int) : OR :=
  bif x0 then (
    j11 true x1 x2 x3 x4 x5) else (
    j12 false)
theorem f70_o9 (X0 X1 : Code) (call : CallF) (n : Nat) (m0 : Nat) (B : Code) (hB : B = (hole (hole f70_b [1, 0, 1, 0, 0, 1, 1, 0, 0, 1, 0, 1, 1, 1] X0) [1, 0, 1, 0, 0, 1, 1, 1] X1)) : f70_P9 B call n m0 = f70_T9 call n (f70_P11 B call n m0) (f70_P12 B call n m0) := by
  subst hB; funext x0 x1 x2 x3 x4 x5; cases x0 <;> kernel_rfl
theorem f70_l9 (call : CallF) (n : Nat) (m0 : Nat) : f70_P9 f70_b call n m0 = f70_T9 call n (f70_P11 f70_b call n m0) (f70_P12 f70_b call n m0) :=
  f70_o9 (piece [1, 0, 1, 0, 0, 1, 1, 0, 0, 1, 0, 1, 1, 1] f70_b) (piece [1, 0, 1, 0, 0, 1, 1, 1] f70_b) call n m0 _ (by kernel_rfl)
def f70_L9 (call : CallF) (n : Nat) (h_m0 : LB → LC → Int → Int → OR) : Bool → LB → Int → LC → Int → Int → OR :=
  f70_T9 call n (f70_L11 call n h_m0) (f70_L12 call n h_m0)
theorem f70_e9 (call : CallF) (n : Nat) (m0 : Nat) : f70_P9 f70_b call n m0 = f70_L9 call n (f70_P2 f70_b call n m0) := by
  rw [f70_l9, f70_e11, f70_e12]; rfl
def f70_T16 (call : CallF) (n : Nat) (j2m : LB → LC → Int → Int → OR) (x0 : Bool) (x1 : LB) (x2 : LC) (x3 x4 : Int) : OR :=
  j2m x1 x2 x3 (IntKind.wrap .i64 (x4 + (1 : Int)))
theorem f70_o16 (call : CallF) (n : Nat) (m0 : Nat) (B : Code) (hB : B = f70_b) : f70_P16 B call n m0 = f70_T16 call n (f70_P2 B call n m0) := by
  subst hB; funext x0 x1 x2 x3 x4; kernel_rfl
theorem f70_l16 (call : CallF) (n : Nat) (m0 : Nat) : f70_P16 f70_b call n m0 = f70_T16 call n (f70_P2 f70_b call n m0) :=
  f70_o16 call n m0 _ (by kernel_rfl)
def f70_L16 (call : CallF) (n : Nat) (h_m0 : LB → LC → Int → Int → OR) : Bool → LB → LC → Int → Int → OR :=
  f70_T16 call n h_m0
theorem f70_e16 (call : CallF) (n : Nat) (m0 : Nat) : f70_P16 f70_b call n m0 = f70_L16 call n (f70_P2 f70_b call n m0) := by
  rw [f70_l16]; rfl
def f70_T15 (call : CallF) (n : Nat) (j16 : Bool → LB → LC → Int → Int → OR) (j12 : Bool → OR) (x0 : LB) (x1 : LC) (x2 x3 : Int) (x4 : Bool) : OR :=
  bif x4 then (
    j16 true x0 x1 x2 x3) else (
    j12 false)
theorem f70_o15 (X0 X1 : Code) (call : CallF) (n : Nat) (m0 : Nat) (B : Code) (hB : B = (hole (hole f70_b [1, 0, 1, 0, 0, 1, 1, 0, 0, 1, 0, 1, 1, 1] X0) [1, 0, 1, 0, 0, 1, 1, 1] X1)) : f70_P15 B call n m0 = f70_T15 call n (f70_P16 B call n m0) (f70_P12 B call n m0) := by
  subst hB; funext x0 x1 x2 x3 x4; cases x4 <;> kernel_rfl
theorem f70_l15 (call : CallF) (n : Nat) (m0 : Nat) : f70_P15 f70_b call n m0 = f70_T15 call n (f70_P16 f70_b call n m0) (f70_P12 f70_b call n m0) :=
  f70_o15 (piece [1, 0, 1, 0, 0, 1, 1, 0, 0, 1, 0, 1, 1, 1] f70_b) (piece [1, 0, 1, 0, 0, 1, 1, 1] f70_b) call n m0 _ (by kernel_rfl)
def f70_L15 (call : CallF) (n : Nat) (h_m0 : LB → LC → Int → Int → OR) : LB → LC → Int → Int → Bool → OR :=
  f70_T15 call n (f70_L16 call n h_m0) (f70_L12 call n h_m0)
theorem f70_e15 (call : CallF) (n : Nat) (m0 : Nat) : f70_P15 f70_b call n m0 = f70_L15 call n (f70_P2 f70_b call n m0) := by
  rw [f70_l15, f70_e16, f70_e12]; rfl
def f70_T14 (call : CallF) (n : Nat) (j9 : Bool → LB → Int → LC → Int → Int → OR) (j15 : LB → LC → Int → Int → Bool → OR) (x0 : LB) (x1 : Int) (x2 : LC) (x3 x4 : Int) (x5 : Bool) : OR :=
  bif x5 then (
    j9 true x0 x1 x2 x3 x4) else (
    j15 x0 x2 x3 x4 (x1 == (95 : Int)))
theorem f70_o14 (X0 : Code) (call : CallF) (n : Nat) (m0 : Nat) (B : Code) (hB : B = (hole f70_b [1, 0, 1, 0, 0, 1, 1, 0, 0, 1, 0, 1] X0)) : f70_P14 B call n m0 = f70_T14 call n (f70_P9 B call n m0) (f70_P15 B call n m0) := by
  subst hB; funext x0 x1 x2 x3 x4 x5; cases x5 <;> kernel_rfl
theorem f70_l14 (call : CallF) (n : Nat) (m0 : Nat) : f70_P14 f70_b call n m0 = f70_T14 call n (f70_P9 f70_b call n m0) (f70_P15 f70_b call n m0) :=
  f70_o14 (piece [1, 0, 1, 0, 0, 1, 1, 0, 0, 1, 0, 1] f70_b) call n m0 _ (by kernel_rfl)
def f70_L14 (call : CallF) (n : Nat) (h_m0 : LB → LC → Int → Int → OR) : LB → Int → LC → Int → Int → Bool → OR :=
  f70_T14 call n (f70_L9 call n h_m0) (f70_L15 call n h_m0)
theorem f70_e14 (call : CallF) (n : Nat) (m0 : Nat) : f70_P14 f70_b call n m0 = f70_L14 call n (f70_P2 f70_b call n m0) := by
  rw [f70_l14, f70_e9, f70_e15]; rfl
def f70_T13 (call : CallF) (n : Nat) (j9 : Bool → LB → Int → LC → Int → Int → OR) (j14 : LB → Int → LC → Int → Int → Bool → OR) (x0 : LB) (x1 : Int) (x2 : LC) (x3 x4 : Int) (x5 : Bool) : OR :=
  bif x5 then (
    j9 true x0 x1 x2 x3 x4) else (
    j14 x0 x1 x2 x3 x4 (x1 == (45 : Int)))
theorem f70_o13 (X0 X1 : Code) (call : CallF) (n : Nat) (m0 : Nat) (B : Code) (hB : B = (hole (hole f70_b [1, 0, 1, 0, 0, 1, 1, 0, 0, 1, 0, 0, 1, 1, 1, 1, 1, 1, 1] X0) [1, 0, 1, 0, 0, 1, 1, 0, 0, 1, 0, 1] X1)) : f70_P13 B call n m0 = f70_T13 call n (f70_P9 B call n m0) (f70_P14 B call n m0) := by
  subst hB; funext x0 x1 x2 x3 x4 x5; cases x5 <;> kernel_rfl
theorem f70_l13 (call : CallF) (n : Nat) (m0 : Nat) : f70_P13 f70_b call n m0 = f70_T13 call n (f70_P9 f70_b call n m0) (f70_P14 f70_b call n m0) :=
  f70_o13 (piece [1, 0, 1, 0, 0, 1, 1, 0, 0, 1, 0, 0, 1, 1, 1, 1, 1, 1, 1] f70_b) (piece [1, 0, 1, 0, 0, 1, 1, 0, 0, 1, 0, 1] f70_b) call n m0 _ (by kernel_rfl)
def f70_L13 (call : CallF) (n : Nat) (h_m0 : LB → LC → Int → Int → OR) : LB → Int → LC → Int → Int → Bool → OR :=
  f70_T13 call n (f70_L9 call n h_m0) (f70_L14 call n h_m0)
theorem f70_e13 (call : CallF) (n : Nat) (m0 : Nat) : f70_P13 f70_b call n m0 = f70_L13 call n (f70_P2 f70_b call n m0) := by
  rw [f70_l13, f70_e9, f70_e14]; rfl
def f70_T10 (call : CallF) (n : Nat) (j9 : Bool → LB → Int → LC → Int → Int → OR) (j13 : LB → Int → LC → Int → Int → Bool → OR) (x0 : LB) (x1 : Int) (x2 : LC) (x3 x4 : Int) (x5 : Bool) : OR :=
  bif x5 then (
    j9 true x0 x1 x2 x3 x4) else (
    j13 x0 x1 x2 x3 x4 (x1 == (46 : Int)))
theorem f70_o10 (X0 X1 : Code) (call : CallF) (n : Nat) (m0 : Nat) (B : Code) (hB : B = (hole (hole f70_b [1, 0, 1, 0, 0, 1, 1, 0, 0, 1, 0, 0, 1, 1, 1, 1, 1] X0) [1, 0, 1, 0, 0, 1, 1, 0, 0, 1, 0, 1] X1)) : f70_P10 B call n m0 = f70_T10 call n (f70_P9 B call n m0) (f70_P13 B call n m0) := by
  subst hB; funext x0 x1 x2 x3 x4 x5; cases x5 <;> kernel_rfl
theorem f70_l10 (call : CallF) (n : Nat) (m0 : Nat) : f70_P10 f70_b call n m0 = f70_T10 call n (f70_P9 f70_b call n m0) (f70_P13 f70_b call n m0) :=
  f70_o10 (piece [1, 0, 1, 0, 0, 1, 1, 0, 0, 1, 0, 0, 1, 1, 1, 1, 1] f70_b) (piece [1, 0, 1, 0, 0, 1, 1, 0, 0, 1, 0, 1] f70_b) call n m0 _ (by kernel_rfl)
def f70_L10 (call : CallF) (n : Nat) (h_m0 : LB → LC → Int → Int → OR) : LB → Int → LC → Int → Int → Bool → OR :=
  f70_T10 call n (f70_L9 call n h_m0) (f70_L13 call n h_m0)
theorem f70_e10 (call : CallF) (n : Nat) (m0 : Nat) : f70_P10 f70_b call n m0 = f70_L10 call n (f70_P2 f70_b call n m0) := by
  rw [f70_l10, f70_e9, f70_e13]; rfl
def f70_T7 (call : CallF) (n : Nat) (j9 : Bool → LB → Int → LC → Int → Int → OR) (j10 : LB → Int → LC → Int → Int → Bool → OR) (x0 : LB) (x1 : Int) (x2 : LC) (x3 x4 : Int) (x5 : Bool) : OR :=
  bif x5 then (
    j9 true x0 x1 x2 x3 x4) else (
    bif (decide (x1 ≥ (48 : Int))) then (
      j10 x0 x1 x2 x3 x4 (decide (x1 ≤ (57 : Int)))) else (
      j10 x0 x1 x2 x3 x4 false))
theorem f70_o7 (X0 X1 : Code) (call : CallF) (n : Nat) (m0 : Nat) (B : Code) (hB : B = (hole (hole f70_b [1, 0, 1, 0, 0, 1, 1, 0, 0, 1, 0, 0, 1, 1, 1] X0) [1, 0, 1, 0, 0, 1, 1, 0, 0, 1, 0, 1] X1)) : f70_P7 B call n m0 = f70_T7 call n (f70_P9 B call n m0) (f70_P10 B call n m0) := by
  subst hB; funext x0 x1 x2 x3 x4 x5; cases x5 <;> kernel_rfl
theorem f70_l7 (call : CallF) (n : Nat) (m0 : Nat) : f70_P7 f70_b call n m0 = f70_T7 call n (f70_P9 f70_b call n m0) (f70_P10 f70_b call n m0) :=
  f70_o7 (piece [1, 0, 1, 0, 0, 1, 1, 0, 0, 1, 0, 0, 1, 1, 1] f70_b) (piece [1, 0, 1, 0, 0, 1, 1, 0, 0, 1, 0, 1] f70_b) call n m0 _ (by kernel_rfl)
def f70_L7 (call : CallF) (n : Nat) (h_m0 : LB → LC → Int → Int → OR) : LB → Int → LC → Int → Int → Bool → OR :=
  f70_T7 call n (f70_L9 call n h_m0) (f70_L10 call n h_m0)
theorem f70_e7 (call : CallF) (n : Nat) (m0 : Nat) : f70_P7 f70_b call n m0 = f70_L7 call n (f70_P2 f70_b call n m0) := by
  rw [f70_l7, f70_e9, f70_e10]; rfl
def f70_T8 (call : CallF) (n : Nat) (x0 : Bool) : OR :=
  some (.one (.bool x0), [])
theorem f70_o8 (call : CallF) (n : Nat) (B : Code) (hB : B = f70_b) : f70_P8 B call n = f70_T8 call n := by
  subst hB; funext x0; kernel_rfl
theorem f70_l8 (call : CallF) (n : Nat) : f70_P8 f70_b call n = f70_T8 call n :=
  f70_o8 call n _ (by kernel_rfl)
def f70_L8 (call : CallF) (n : Nat) : Bool → OR :=
  f70_T8 call n
theorem f70_e8 (call : CallF) (n : Nat) : f70_P8 f70_b call n = f70_L8 call n := by
  rw [f70_l8]; rfl
def f70_T2 (call : CallF) (n : Nat) (j7 : LB → Int → LC → Int → Int → Bool → OR) (j8 : Bool → OR) (x0 : LB) (x1 : LC) (x2 x3 : Int) : OR :=
  bif (decide (x3 < x2)) then (
    itemK x1 x3 fun c1 =>
    castI .u8 c1 fun n2 =>
    bif (decide (n2 ≥ (97 : Int))) then (
      j7 x0 n2 x1 x2 x3 (decide (n2 ≤ (122 : Int)))) else (
      j7 x0 n2 x1 x2 x3 false)) else (
    bif (!(x0 == ([] : List UInt8))) then (
      j8 (decide (((x0).length : Int) ≤ (32 : Int)))) else (
      j8 false))
theorem f70_o2 (X0 X1 : Code) (call : CallF) (n : Nat) (m0 : Nat) (B : Code) (hB : B = (hole (hole f70_b [1, 0, 1, 0, 0, 1, 1, 0, 0, 1, 0, 0, 1] X0) [1, 1, 1] X1)) : f70_P2 B call n (m0 + 1) = f70_T2 call n (f70_P7 B call n m0) (f70_P8 B call n) := by
  subst hB; funext x0 x1 x2 x3; kernel_rfl
theorem f70_l2 (call : CallF) (n : Nat) (m0 : Nat) : f70_P2 f70_b call n (m0 + 1) = f70_T2 call n (f70_P7 f70_b call n m0) (f70_P8 f70_b call n) :=
  f70_o2 (piece [1, 0, 1, 0, 0, 1, 1, 0, 0, 1, 0, 0, 1] f70_b) (piece [1, 1, 1] f70_b) call n m0 _ (by kernel_rfl)
def f70_L2 (call : CallF) (n : Nat) : Nat → LB → LC → Int → Int → OR
  | 0 => fun _ _ _ _ => none
  | m0 + 1 => f70_T2 call n (f70_L7 call n (f70_L2 call n m0)) (f70_L8 call n)
theorem f70_e2 (call : CallF) (n : Nat) : ∀ m0 : Nat, f70_P2 f70_b call n m0 = f70_L2 call n m0
  | 0 => by funext x0 x1 x2 x3; kernel_rfl
  | m0 + 1 => by rw [f70_l2, f70_e7, f70_e8, f70_e2 call n m0]; rfl
/-- pigeonhole/script.isName -/
def f70_T (call : CallF) (n : Nat) (j2n : LB → LC → Int → Int → OR) (a0 : LB) : OR :=
  j2n a0 (byteCells a0) ((((byteCells a0)).length / 1 : Nat) : Int) (0 : Int)
def f70_L (call : CallF) (n : Nat) (a0 : LB) : OR :=
  f70_T call n (f70_L2 call n n) a0
theorem f70_o (call : CallF) (n : Nat) (B : Code) (hB : B = f70_b) : f70_P B call n = f70_T call n (f70_P2 B call n n) := by
  subst hB; funext a0; kernel_rfl
theorem f70_l (call : CallF) (n : Nat) : f70_P f70_b call n = f70_T call n (f70_P2 f70_b call n n) :=
  f70_o call n _ (by kernel_rfl)
theorem f70_e (call : CallF) (n : Nat) : f70_P f70_b call n = f70_L call n := by
  rw [f70_l, f70_e2]; rfl
theorem f70_eq (n : Nat) (a0 : LB) : acall AXE AXF (n + 1) 70 [.one (.str a0)] [] = f70_L (acall AXE AXF n) (n + 1) a0 :=
  (show _ = f70_P f70_b (acall AXE AXF n) (n + 1) a0 by kernel_rfl).trans (by rw [f70_e])
def f71_P2 (B : Code) (call : CallF) (n : Nat) (x0 : Int) : OR :=
  f71_x B call n [1, 0, 1, 0, 1] (kSeq (f71_x B call n [1, 1]) (kEnd AXE 0 f71_r)) ⟨[(2, .one (.int .i64 x0))], []⟩
def f71_P5 (B : Code) (call : CallF) (n : Nat) (x0 : Int) : OR :=
  f71_x B call n [1, 1, 0, 1, 0, 1] (kSeq (f71_x B call n [1, 1, 1]) (kEnd AXE 0 f71_r)) ⟨[(2, .one (.int .i64 x0))], []⟩
def f71_P7 (B : Code) (call : CallF) (n : Nat) (x0 : Int) : OR :=
  f71_x B call n [1, 1, 1, 1] (kEnd AXE 0 f71_r) ⟨[(2, .one (.int .i64 x0))], []⟩
def f71_P6 (B : Code) (call : CallF) (n : Nat) (x0 : Int) : OR :=
  f71_x B call n [1, 1, 1] (kEnd AXE 0 f71_r) ⟨[(0, .one (.int .u8 x0))], []⟩
def f71_P4 (B : Code) (call : CallF) (n : Nat) (x0 : Int) (x1 : Bool) : OR :=
  f71_x B call n [1, 1, 0, 1] (kSeq (f71_x B call n [1, 1, 1]) (kEnd AXE 0 f71_r)) ⟨[(0, .one (.int .u8 x0)), (17, .one (.bool x1))], []⟩
def f71_P3 (B : Code) (call : CallF) (n : Nat) (x0 : Int) : OR :=
  f71_x B call n [1, 1] (kEnd AXE 0 f71_r) ⟨[(0, .one (.int .u8 x0))], []⟩
def f71_P1 (B : Code) (call : CallF) (n : Nat) (x0 : Int) (x1 : Bool) : OR :=
  f71_x B call n [1, 0, 1] (kSeq (f71_x B call n [1, 1]) (kEnd AXE 0 f71_r)) ⟨[(0, .one (.int .u8 x0)), (8, .one (.bool x1))], []⟩
def f71_P (B : Code) (call : CallF) (n : Nat) (a0 : Int) : OR :=
  f71_x B call n [] (kEnd AXE 0 f71_r) ⟨[(0, .one (.int .u8 a0))], []⟩
def f71_T2 (call : CallF) (n : Nat) (x0 : Int) : OR :=
  some (.one (.int .i64 x0), [])
theorem f71_o2 (call : CallF) (n : Nat) (B : Code) (hB : B = f71_b) : f71_P2 B call n = f71_T2 call n := by
  subst hB; funext x0; kernel_rfl
theorem f71_l2 (call : CallF) (n : Nat) : f71_P2 f71_b call n = f71_T2 call n :=
  f71_o2 call n _ (by kernel_rfl)
def f71_L2 (call : CallF) (n : Nat) : Int → OR :=
  f71_T2 call n
theorem f71_e2 (call : CallF) (n : Nat) : f71_P2 f71_b call n = f71_L2 call n := by
  rw [f71_l2]; rfl
def f71_T5 (call : CallF) (n : Nat) (x0 : Int) : OR :=
  some (.one (.int .i64 x0), [])
theorem f71_o5 (call : CallF) (n : Nat) (B : Code) (hB : B = f71_b) : f71_P5 B call n = f71_T5 call n := by
  subst hB; funext x0; kernel_rfl
theorem f71_l5 (call : CallF) (n : Nat) : f71_P5 f71_b call n = f71_T5 call n :=
  f71_o5 call n _ (by kernel_rfl)
def f71_L5 (call : CallF) (n : Nat) : Int → OR :=
  f71_T5 call n
theorem f71_e5 (call : CallF) (n : Nat) : f71_P5 f71_b call n = f71_L5 call n := by
  rw [f71_l5]; rfl
def f71_T7 (call : CallF) (n : Nat) (x0 : Int) : OR :=
  some (.one (.int .i64 x0), [])
theorem f71_o7 (call : CallF) (n : Nat) (B : Code) (hB : B = f71_b) : f71_P7 B call n = f71_T7 call n := by
  subst hB; funext x0; kernel_rfl
theorem f71_l7 (call : CallF) (n : Nat) : f71_P7 f71_b call n = f71_T7 call n :=
  f71_o7 call n _ (by kernel_rfl)
def f71_L7 (call : CallF) (n : Nat) : Int → OR :=
  f71_T7 call n
theorem f71_e7 (call : CallF) (n : Nat) : f71_P7 f71_b call n = f71_L7 call n := by
  rw [f71_l7]; rfl
def f71_T6 (call : CallF) (n : Nat) (j7 : Int → OR) (x0 : Int) : OR :=
  j7 (-1 : Int)
theorem f71_o6 (X0 : Code) (call : CallF) (n : Nat) (B : Code) (hB : B = (hole f71_b [1, 1, 1, 1] X0)) : f71_P6 B call n = f71_T6 call n (f71_P7 B call n) := by
  subst hB; funext x0; kernel_rfl
theorem f71_l6 (call : CallF) (n : Nat) : f71_P6 f71_b call n = f71_T6 call n (f71_P7 f71_b call n) :=
  f71_o6 (piece [1, 1, 1, 1] f71_b) call n _ (by kernel_rfl)
def f71_L6 (call : CallF) (n : Nat) : Int → OR :=
  f71_T6 call n (f71_L7 call n)
theorem f71_e6 (call : CallF) (n : Nat) : f71_P6 f71_b call n = f71_L6 call n := by
  rw [f71_l6, f71_e7]; rfl
def f71_T4 (call : CallF) (n : Nat) (j5 : Int → OR) (j6 : Int → OR) (x0 : Int) (x1 : Bool) : OR :=
  bif x1 then (
    j5 (IntKind.wrap .i64 ((IntKind.wrap .i64 x0) - (87 : Int)))) else (
    j6 x0)
theorem f71_o4 (X0 X1 : Code) (call : CallF) (n : Nat) (B : Code) (hB : B = (hole (hole f71_b [1, 1, 0, 1, 0, 1] X0) [1, 1, 1] X1)) : f71_P4 B call n = f71_T4 call n (f71_P5 B call n) (f71_P6 B call n) := by
  subst hB; funext x0 x1; cases x1 <;> kernel_rfl
theorem f71_l4 (call : CallF) (n : Nat) : f71_P4 f71_b call n = f71_T4 call n (f71_P5 f71_b call n) (f71_P6 f71_b call n) :=
  f71_o4 (piece [1, 1, 0, 1, 0, 1] f71_b) (piece [1, 1, 1] f71_b) call n _ (by kernel_rfl)
def f71_L4 (call : CallF) (n : Nat) : Int → Bool → OR :=
  f71_T4 call n (f71_L5 call n) (f71_L6 call n)
theorem f71_e4 (call : CallF) (n : Nat) : f71_P4 f71_b call n = f71_L4 call n := by
  rw [f71_l4, f71_e5, f71_e6]; rfl
def f71_T3 (call : CallF) (n : Nat) (j4 : Int → Bool → OR) (x0 : Int) : OR :=
  bif (decide (x0 ≥ (97 : Int))) then (
    j4 x0 (decide (x0 ≤ (102 : Int)))) else (
    j4 x0 false)
theorem f71_o3 (X0 : Code) (call : CallF) (n : Nat) (B : Code) (hB : B = (hole f71_b [1, 1, 0, 1] X0)) : f71_P3 B call n = f71_T3 call n (f71_P4 B call n) := by
  subst hB; funext x0; kernel_rfl
theorem f71_l3 (call : CallF) (n : Nat) : f71_P3 f71_b call n = f71_T3 call n (f71_P4 f71_b call n) :=
  f71_o3 (piece [1, 1, 0, 1] f71_b) call n _ (by kernel_rfl)
def f71_L3 (call : CallF) (n : Nat) : Int → OR :=
  f71_T3 call n (f71_L4 call n)
theorem f71_e3 (call : CallF) (n : Nat) : f71_P3 f71_b call n = f71_L3 call n := by
  rw [f71_l3, f71_e4]; rfl
def f71_T1 (call : CallF) (n : Nat) (j2 : Int → OR) (j3 : Int → OR) (x0 : Int) (x1 : Bool) : OR :=
  bif x1 then (
    j2 (IntKind.wrap .i64 ((IntKind.wrap .i64 x0) - (48 : Int)))) else (
    j3 x0)
theorem f71_o1 (X0 X1 : Code) (call : CallF) (n : Nat) (B : Code) (hB : B = (hole (hole f71_b [1, 0, 1, 0, 1] X0) [1, 1] X1)) : f71_P1 B call n = f71_T1 call n (f71_P2 B call n) (f71_P3 B call n) := by
  subst hB; funext x0 x1; cases x1 <;> kernel_rfl
theorem f71_l1 (call : CallF) (n : Nat) : f71_P1 f71_b call n = f71_T1 call n (f71_P2 f71_b call n) (f71_P3 f71_b call n) :=
  f71_o1 (piece [1, 0, 1, 0, 1] f71_b) (piece [1, 1] f71_b) call n _ (by kernel_rfl)
def f71_L1 (call : CallF) (n : Nat) : Int → Bool → OR :=
  f71_T1 call n (f71_L2 call n) (f71_L3 call n)
theorem f71_e1 (call : CallF) (n : Nat) : f71_P1 f71_b call n = f71_L1 call n := by
  rw [f71_l1, f71_e2, f71_e3]; rfl
/-- pigeonhole/pigeonholeref31.nibble -/
def f71_T (call : CallF) (n : Nat) (j1 : Int → Bool → OR) (a0 : Int) : OR :=
  bif (decide (a0 ≥ (48 : Int))) then (
    j1 a0 (decide (a0 ≤ (57 : Int)))) else (
    j1 a0 false)
def f71_L (call : CallF) (n : Nat) (a0 : Int) : OR :=
  f71_T call n (f71_L1 call n) a0
theorem f71_o (X0 : Code) (call : CallF) (n : Nat) (B : Code) (hB : B = (hole f71_b [1, 0, 1] X0)) : f71_P B call n = f71_T call n (f71_P1 B call n) := by
  subst hB; funext a0; kernel_rfl
theorem f71_l (call : CallF) (n : Nat) : f71_P f71_b call n = f71_T call n (f71_P1 f71_b call n) :=
  f71_o (piece [1, 0, 1] f71_b) call n _ (by kernel_rfl)
theorem f71_e (call : CallF) (n : Nat) : f71_P f71_b call n = f71_L call n := by
  rw [f71_l, f71_e1]; rfl
theorem f71_eq (n : Nat) (a0 : Int) : acall AXE AXF (n + 1) 71 [.one (.int .u8 a0)] [] = f71_L (acall AXE AXF n) (n + 1) a0 :=
  (show _ = f71_P f71_b (acall AXE AXF n) (n + 1) a0 by kernel_rfl).trans (by rw [f71_e])
def f72_P11 (B : Code) (call : CallF) (n : Nat) (m0 : Nat) (x0 : LC) (x1 x2 : LB) (x3 : Int) : OR :=
  f72_x B call n [1, 1, 1, 0, 1, 0, 0, 1, 1] (kSeq (fun k => prK 1000004 (pruneAt f72_h 1000004) (aloop 1000004 (pruneAt f72_h 1000004) (f72_x B call n [1, 1, 1, 0, 1, 0, 0]) k m0)) (kBlk 0 (kSeq (f72_x B call n [1, 1, 1, 1]) (kEnd AXE 0 f72_r)))) ⟨[(0, .one (.sl none 1 x0)), (3, .one (.str x1)), (4, .one (.str x2)), (5, .one (.int .i64 x3))], []⟩
def f72_P14 (B : Code) (call : CallF) (n : Nat) (m0 : Nat) (x0 : LC) (x1 x2 : LB) (x3 x4 : Int) (x5 : Bool) : OR :=
  f72_x B call n [1, 1, 1, 0, 1, 0, 0, 1, 0, 0, 1, 1, 1, 1, 1, 1, 1, 1] (kBlk 1 (kSeq (f72_x B call n [1, 1, 1, 0, 1, 0, 0, 1, 1]) (kSeq (fun k => prK 1000004 (pruneAt f72_h 1000004) (aloop 1000004 (pruneAt f72_h 1000004) (f72_x B call n [1, 1, 1, 0, 1, 0, 0]) k m0)) (kBlk 0 (kSeq (f72_x B call n [1, 1, 1, 1]) (kEnd AXE 0 f72_r)))))) ⟨[(0, .one (.sl none 1 x0)), (3, .one (.str x1)), (4, .one (.str x2)), (5, .one (.int .i64 x3)), (6, .one (.int .u8 x4)), (45, .one (.bool x5))], []⟩
def f72_P13 (B : Code) (call : CallF) (n : Nat) (m0 : Nat) (x0 : LC) (x1 x2 : LB) (x3 x4 : Int) (x5 : Bool) : OR :=
  f72_x B call n [1, 1, 1, 0, 1, 0, 0, 1, 0, 0, 1, 1, 1, 1, 1, 1] (kBlk 1 (kSeq (f72_x B call n [1, 1, 1, 0, 1, 0, 0, 1, 1]) (kSeq (fun k => prK 1000004 (pruneAt f72_h 1000004) (aloop 1000004 (pruneAt f72_h 1000004) (f72_x B call n [1, 1, 1, 0, 1, 0, 0]) k m0)) (kBlk 0 (kSeq (f72_x B call n [1, 1, 1, 1]) (kEnd AXE 0 f72_r)))))) ⟨[(0, .one (.sl none 1 x0)), (3, .one (.str x1)), (4, .one (.str x2)), (5, .one (.int .i64 x3)), (6, .one (.int .u8 x4)), (41, .one (.bool x5))], []⟩
def f72_P12 (B : Code) (call : CallF) (n : Nat) (m0 : Nat) (x0 : LC) (x1 x2 : LB) (x3 x4 : Int) (x5 : Bool) : OR :=
  f72_x B call n [1, 1, 1, 0, 1, 0, 0, 1, 0, 0, 1, 1, 1, 1] (kBlk 1 (kSeq (f72_x B call n [1, 1, 1, 0, 1, 0, 0, 1, 1]) (kSeq (fun k => prK 1000004 (pruneAt f72_h 1000004) (aloop 1000004 (pruneAt f72_h 1000004) (f72_x B call n [1, 1, 1, 0, 1, 0, 0]) k m0)) (kBlk 0 (kSeq (f72_x B call n [1, 1, 1, 1]) (kEnd AXE 0 f72_r)))))) ⟨[(0, .one (.sl none 1 x0)), (3, .one (.str x1)), (4, .one (.str x2)), (5, .one (.int .i64 x3)), (6, .one (.int .u8 x4)), (34, .one (.bool x5))], []⟩
def f72_P10 (B : Code) (call : CallF) (n : Nat) (m0 : Nat) (x0 : LC) (x1 x2 : LB) (x3 x4 : Int) (x5 : Bool) : OR :=
  f72_x B call n [1, 1, 1, 0, 1, 0, 0, 1, 0, 0, 1, 1] (kBlk 1 (kSeq (f72_x B call n [1, 1, 1, 0, 1, 0, 0, 1, 1]) (kSeq (fun k => prK 1000004 (pruneAt f72_h 1000004) (aloop 1000004 (pruneAt f72_h 1000004) (f72_x B call n [1, 1, 1, 0, 1, 0, 0]) k m0)) (kBlk 0 (kSeq (f72_x B call n [1, 1, 1, 1]) (kEnd AXE 0 f72_r)))))) ⟨[(0, .one (.sl none 1 x0)), (3, .one (.str x1)), (4, .one (.str x2)), (5, .one (.int .i64 x3)), (6, .one (.int .u8 x4)), (22, .one (.bool x5))], []⟩
def f72_P4 (B : Code) (call : CallF) (n : Nat) (m0 : Nat) (x0 : LC) (x1 x2 : LB) (x3 : Int) : OR :=
  aloop 1000004 (pruneAt f72_h 1000004) (f72_x B call n [1, 1, 1, 0, 1, 0, 0]) (kBlk 0 (kSeq (f72_x B call n [1, 1, 1, 1]) (kEnd AXE 0 f72_r))) m0 ⟨[(0, .one (.sl none 1 x0)), (3, .one (.str x1)), (4, .one (.str x2)), (5, .one (.int .i64 x3))], []⟩
def f72_P (B : Code) (call : CallF) (n : Nat) (a0 : LC) : OR :=
  f72_x B call n [] (kEnd AXE 0 f72_r) ⟨[(0, .one (.sl none 1 a0))], []⟩
def f72_T11 (call : CallF) (n : Nat) (j4m : LC → LB → LB → Int → OR) (x0 : LC) (x1 x2 : LB) (x3 : Int) : OR :=
  j4m x0 x1 x2 (IntKind.wrap .i64 (x3 + (1 : Int)))
theorem f72_o11 (call : CallF) (n : Nat) (m0 : Nat) (B : Code) (hB : B = f72_b) : f72_P11 B call n m0 = f72_T11 call n (f72_P4 B call n m0) := by
  subst hB; funext x0 x1 x2 x3; kernel_rfl
theorem f72_l11 (call : CallF) (n : Nat) (m0 : Nat) : f72_P11 f72_b call n m0 = f72_T11 call n (f72_P4 f72_b call n m0) :=
  f72_o11 call n m0 _ (by kernel_rfl)
def f72_L11 (call : CallF) (n : Nat) (h_m0 : LC → LB → LB → Int → OR) : LC → LB → LB → Int → OR :=
  f72_T11 call n h_m0
theorem f72_e11 (call : CallF) (n : Nat) (m0 : Nat) : f72_P11 f72_b call n m0 = f72_L11 call n (f72_P4 f72_b call n m0) := by
  rw [f72_l11]; rfl
def f72_T14 (call : CallF) (n : Nat) (j11 : LC → LB → LB → Int → OR) (x0 : LC) (x1 x2 : LB) (x3 x4 : Int) (x5 : Bool) : OR :=
  bif x5 then (
    bif decide ((x2).length + (([92, 110] : List UInt8)).length ≤ strLim) then (
      j11 x0 x1 (x2 ++ ([92, 110] : List UInt8)) x3) else none) else (
    bif decide ((x2).length + (([92, 120] : List UInt8)).length ≤ strLim) then (
      bif decide (0 ≤ (IntKind.wrap .u8 (Int.tdiv x4 (16 : Int))) ∧ (IntKind.wrap .u8 (Int.tdiv x4 (16 : Int))) ≤ (IntKind.wrap .u8 ((IntKind.wrap .u8 (Int.tdiv x4 (16 : Int))) + (1 : Int))) ∧ (Int.toNat (IntKind.wrap .u8 ((IntKind.wrap .u8 (Int.tdiv x4 (16 : Int))) + (1 : Int)))) ≤ (x1).length) then (
        bif decide (((x2 ++ ([92, 120] : List UInt8))).length + (((x1.take (Int.toNat (IntKind.wrap .u8 ((IntKind.wrap .u8 (Int.tdiv x4 (16 : Int))) + (1 : Int))))).drop (Int.toNat (IntKind.wrap .u8 (Int.tdiv x4 (16 : Int)))))).length ≤ strLim) then (
          bif decide (0 ≤ (Int.tmod x4 (16 : Int)) ∧ (Int.tmod x4 (16 : Int)) ≤ (IntKind.wrap .u8 ((Int.tmod x4 (16 : Int)) + (1 : Int))) ∧ (Int.toNat (IntKind.wrap .u8 ((Int.tmod x4 (16 : Int)) + (1 : Int)))) ≤ (x1).length) then (
            bif decide ((((x2 ++ ([92, 120] : List UInt8)) ++ ((x1.take (Int.toNat (IntKind.wrap .u8 ((IntKind.wrap .u8 (Int.tdiv x4 (16 : Int))) + (1 : Int))))).drop (Int.toNat (IntKind.wrap .u8 (Int.tdiv x4 (16 : Int))))))).length + (((x1.take (Int.toNat (IntKind.wrap .u8 ((Int.tmod x4 (16 : Int)) + (1 : Int))))).drop (Int.toNat (Int.tmod x4 (16 : Int))))).length ≤ strLim) then (
              j11 x0 x1 (((x2 ++ ([92, 120] : List UInt8)) ++ ((x1.take (Int.toNat (IntKind.wrap .u8 ((IntKind.wrap .u8 (Int.tdiv x4 (16 : Int))) + (1 : Int))))).drop (Int.toNat (IntKind.wrap .u8 (Int.tdiv x4 (16 : Int)))))) ++ ((x1.take (Int.toNat (IntKind.wrap .u8 ((Int.tmod x4 (16 : Int)) + (1 : Int))))).drop (Int.toNat (Int.tmod x4 (16 : Int))))) x3) else none) else none) else none) else none) else none)
theorem f72_o14 (X0 : Code) (call : CallF) (n : Nat) (m0 : Nat) (B : Code) (hB : B = (hole f72_b [1, 1, 1, 0, 1, 0, 0, 1, 1] X0)) : f72_P14 B call n m0 = f72_T14 call n (f72_P11 B call n m0) := by
  subst hB; funext x0 x1 x2 x3 x4 x5; cases x5 <;> kernel_rfl
theorem f72_l14 (call : CallF) (n : Nat) (m0 : Nat) : f72_P14 f72_b call n m0 = f72_T14 call n (f72_P11 f72_b call n m0) :=
  f72_o14 (piece [1, 1, 1, 0, 1, 0, 0, 1, 1] f72_b) call n m0 _ (by kernel_rfl)
def f72_L14 (call : CallF) (n : Nat) (h_m0 : LC → LB → LB → Int → OR) : LC → LB → LB → Int → Int → Bool → OR :=
  f72_T14 call n (f72_L11 call n h_m0)
theorem f72_e14 (call : CallF) (n : Nat) (m0 : Nat) : f72_P14 f72_b call n m0 = f72_L14 call n (f72_P4 f72_b call n m0) := by
  rw [f72_l14, f72_e11]; rfl
def f72_T13 (call : CallF) (n : Nat) (j11 : LC → LB → LB → Int → OR) (j14 : LC → LB → LB → Int → Int → Bool → OR) (x0 : LC) (x1 x2 : LB) (x3 x4 : Int) (x5 : Bool) : OR :=
  bif x5 then (
    bif decide ((x2).length + (([92, 114] : List UInt8)).length ≤ strLim) then (
      j11 x0 x1 (x2 ++ ([92, 114] : List UInt8)) x3) else none) else (
    j14 x0 x1 x2 x3 x4 (x4 == (10 : Int)))
theorem f72_o13 (X0 X1 : Code) (call : CallF) (n : Nat) (m0 : Nat) (B : Code) (hB : B = (hole (hole f72_b [1, 1, 1, 0, 1, 0, 0, 1, 0, 0, 1, 1, 1, 1, 1, 1, 1, 1] X0) [1, 1, 1, 0, 1, 0, 0, 1, 1] X1)) : f72_P13 B call n m0 = f72_T13 call n (f72_P11 B call n m0) (f72_P14 B call n m0) := by
  subst hB; funext x0 x1 x2 x3 x4 x5; cases x5 <;> kernel_rfl
theorem f72_l13 (call : CallF) (n : Nat) (m0 : Nat) : f72_P13 f72_b call n m0 = f72_T13 call n (f72_P11 f72_b call n m0) (f72_P14 f72_b call n m0) :=
  f72_o13 (piece [1, 1, 1, 0, 1, 0, 0, 1, 0, 0, 1, 1, 1, 1, 1, 1, 1, 1] f72_b) (piece [1, 1, 1, 0, 1, 0, 0, 1, 1] f72_b) call n m0 _ (by kernel_rfl)
def f72_L13 (call : CallF) (n : Nat) (h_m0 : LC → LB → LB → Int → OR) : LC → LB → LB → Int → Int → Bool → OR :=
  f72_T13 call n (f72_L11 call n h_m0) (f72_L14 call n h_m0)
theorem f72_e13 (call : CallF) (n : Nat) (m0 : Nat) : f72_P13 f72_b call n m0 = f72_L13 call n (f72_P4 f72_b call n m0) := by
  rw [f72_l13, f72_e11, f72_e14]; rfl
def f72_T12 (call : CallF) (n : Nat) (j11 : LC → LB → LB → Int → OR) (j13 : LC → LB → LB → Int → Int → Bool → OR) (x0 : LC) (x1 x2 : LB) (x3 x4 : Int) (x5 : Bool) : OR :=
  bif x5 then (
    bytesK ([.int .u8 x4] : List Cell) fun s1 =>
    bif decide ((x2).length + (s1).length ≤ strLim) then (
      j11 x0 x1 (x2 ++ s1) x3) else none) else (
    j13 x0 x1 x2 x3 x4 (x4 == (13 : Int)))
theorem f72_o12 (X0 X1 : Code) (call : CallF) (n : Nat) (m0 : Nat) (B : Code) (hB : B = (hole (hole f72_b [1, 1, 1, 0, 1, 0, 0, 1, 0, 0, 1, 1, 1, 1, 1, 1] X0) [1, 1, 1, 0, 1, 0, 0, 1, 1] X1)) : f72_P12 B call n m0 = f72_T12 call n (f72_P11 B call n m0) (f72_P13 B call n m0) := by
  subst hB; funext x0 x1 x2 x3 x4 x5; cases x5 <;> kernel_rfl
theorem f72_l12 (call : CallF) (n : Nat) (m0 : Nat) : f72_P12 f72_b call n m0 = f72_T12 call n (f72_P11 f72_b call n m0) (f72_P13 f72_b call n m0) :=
  f72_o12 (piece [1, 1, 1, 0, 1, 0, 0, 1, 0, 0, 1, 1, 1, 1, 1, 1] f72_b) (piece [1, 1, 1, 0, 1, 0, 0, 1, 1] f72_b) call n m0 _ (by kernel_rfl)
def f72_L12 (call : CallF) (n : Nat) (h_m0 : LC → LB → LB → Int → OR) : LC → LB → LB → Int → Int → Bool → OR :=
  f72_T12 call n (f72_L11 call n h_m0) (f72_L13 call n h_m0)
theorem f72_e12 (call : CallF) (n : Nat) (m0 : Nat) : f72_P12 f72_b call n m0 = f72_L12 call n (f72_P4 f72_b call n m0) := by
  rw [f72_l12, f72_e11, f72_e13]; rfl
def f72_T10 (call : CallF) (n : Nat) (j11 : LC → LB → LB → Int → OR) (j12 : LC → LB → LB → Int → Int → Bool → OR) (x0 : LC) (x1 x2 : LB) (x3 x4 : Int) (x5 : Bool) : OR :=
  bif x5 then (
    bif decide ((x2).length + (([92] : List UInt8)).length ≤ strLim) then (
      bytesK ([.int .u8 x4] : List Cell) fun s1 =>
      bif decide (((x2 ++ ([92] : List UInt8))).length + (s1).length ≤ strLim) then (
        j11 x0 x1 ((x2 ++ ([92] : List UInt8)) ++ s1) x3) else none) else none) else (
    bif (decide (x4 ≥ (32 : Int))) then (
      j12 x0 x1 x2 x3 x4 (decide (x4 ≤ (126 : Int)))) else (
      j12 x0 x1 x2 x3 x4 false))
theorem f72_o10 (X0 X1 : Code) (call : CallF) (n : Nat) (m0 : Nat) (B : Code) (hB : B = (hole (hole f72_b [1, 1, 1, 0, 1, 0, 0, 1, 0, 0, 1, 1, 1, 1] X0) [1, 1, 1, 0, 1, 0, 0, 1, 1] X1)) : f72_P10 B call n m0 = f72_T10 call n (f72_P11 B call n m0) (f72_P12 B call n m0) := by
  subst hB; funext x0 x1 x2 x3 x4 x5; cases x5 <;> kernel_rfl
theorem f72_l10 (call : CallF) (n : Nat) (m0 : Nat) : f72_P10 f72_b call n m0 = f72_T10 call n (f72_P11 f72_b call n m0) (f72_P12 f72_b call n m0) :=
  f72_o10 (piece [1, 1, 1, 0, 1, 0, 0, 1, 0, 0, 1, 1, 1, 1] f72_b) (piece [1, 1, 1, 0, 1, 0, 0, 1, 1] f72_b) call n m0 _ (by kernel_rfl)
def f72_L10 (call : CallF) (n : Nat) (h_m0 : LC → LB → LB → Int → OR) : LC → LB → LB → Int → Int → Bool → OR :=
  f72_T10 call n (f72_L11 call n h_m0) (f72_L12 call n h_m0)
theorem f72_e10 (call : CallF) (n : Nat) (m0 : Nat) : f72_P10 f72_b call n m0 = f72_L10 call n (f72_P4 f72_b call n m0) := by
  rw [f72_l10, f72_e11, f72_e12]; rfl
def f72_T4 (call : CallF) (n : Nat) (j10 : LC → LB → LB → Int → Int → Bool → OR) (x0 : LC) (x1 x2 : LB) (x3 : Int) : OR :=
  bif (decide (x3 < (((x0).length / 1 : Nat) : Int))) then (
    itemK x0 x3 fun c1 =>
    castI .u8 c1 fun n2 =>
    bif (n2 == (34 : Int)) then (
      j10 x0 x1 x2 x3 n2 true) else (
      j10 x0 x1 x2 x3 n2 (n2 == (92 : Int)))) else (
    bif decide ((x2).length + (([34] : List UInt8)).length ≤ strLim) then (
      some (.one (.str (x2 ++ ([34] : List UInt8))), [])) else none)
theorem f72_o4 (X0 : Code) (call : CallF) (n : Nat) (m0 : Nat) (B : Code) (hB : B = (hole f72_b [1, 1, 1, 0, 1, 0, 0, 1, 0, 0, 1, 1] X0)) : f72_P4 B call n (m0 + 1) = f72_T4 call n (f72_P10 B call n m0) := by
  subst hB; funext x0 x1 x2 x3; kernel_rfl
theorem f72_l4 (call : CallF) (n : Nat) (m0 : Nat) : f72_P4 f72_b call n (m0 + 1) = f72_T4 call n (f72_P10 f72_b call n m0) :=
  f72_o4 (piece [1, 1, 1, 0, 1, 0, 0, 1, 0, 0, 1, 1] f72_b) call n m0 _ (by kernel_rfl)
def f72_L4 (call : CallF) (n : Nat) : Nat → LC → LB → LB → Int → OR
  | 0 => fun _ _ _ _ => none
  | m0 + 1 => f72_T4 call n (f72_L10 call n (f72_L4 call n m0))
theorem f72_e4 (call : CallF) (n : Nat) : ∀ m0 : Nat, f72_P4 f72_b call n m0 = f72_L4 call n m0
  | 0 => by funext x0 x1 x2 x3; kernel_rfl
  | m0 + 1 => by rw [f72_l4, f72_e10, f72_e4 call n m0]; rfl
/-- pigeonhole/pigeonholeref31.Data -/
def f72_T (call : CallF) (n : Nat) (j4n : LC → LB → LB → Int → OR) (a0 : LC) : OR :=
  j4n a0 ([48, 49, 50, 51, 52, 53, 54, 55, 56, 57, 97, 98, 99, 100, 101, 102] : List UInt8) ([34] : List UInt8) (0 : Int)
def f72_L (call : CallF) (n : Nat) (a0 : LC) : OR :=
  f72_T call n (f72_L4 call n n) a0
theorem f72_o (call : CallF) (n : Nat) (B : Code) (hB : B = f72_b) : f72_P B call n = f72_T call n (f72_P4 B call n n) := by
  subst hB; funext a0; kernel_rfl
theorem f72_l (call : CallF) (n : Nat) : f72_P f72_b call n = f72_T call n (f72_P4 f72_b call n n) :=
  f72_o call n _ (by kernel_rfl)
theorem f72_e (call : CallF) (n : Nat) : f72_P f72_b call n = f72_L call n := by
  rw [f72_l, f72_e4]; rfl
theorem f72_eq (n : Nat) (a0 : LC) : acall AXE AXF (n + 1) 72 [.one (.sl none 1 a0)] [] = f72_L (acall AXE AXF n) (n + 1) a0 :=
  (show _ = f72_P f72_b (acall AXE AXF n) (n + 1) a0 by kernel_rfl).trans (by rw [f72_e])
def f73_P1 (B : Code) (call : CallF) (n : Nat) (x0 : Bool) : OR :=
  f73_x B call n [1, 1] (kEnd AXE 0 f73_r) ⟨[(2, .one (.bool x0))], []⟩
def f73_P (B : Code) (call : CallF) (n : Nat) (a0 : Int) : OR :=
  f73_x B call n [] (kEnd AXE 0 f73_r) ⟨[(0, .one (.int .i64 a0))], []⟩
def f73_T1 (call : CallF) (n : Nat) (x0 : Bool) : OR :=
  some (.one (.bool x0), [])
theorem f73_o1 (call : CallF) (n : Nat) (B : Code) (hB : B = f73_b) : f73_P1 B call n = f73_T1 call n := by
  subst hB; funext x0; kernel_rfl
theorem f73_l1 (call : CallF) (n : Nat) : f73_P1 f73_b call n = f73_T1 call n :=
  f73_o1 call n _ (by kernel_rfl)
def f73_L1 (call : CallF) (n : Nat) : Bool → OR :=
  f73_T1 call n
theorem f73_e1 (call : CallF) (n : Nat) : f73_P1 f73_b call n = f73_L1 call n := by
  rw [f73_l1]; rfl
/-- pigeonhole/pigeonholeref31.in -/
def f73_T (call : CallF) (n : Nat) (j1 : Bool → OR) (a0 : Int) : OR :=
  bif (decide (a0 ≥ (-9007199254740992 : Int))) then (
    j1 (decide (a0 ≤ (9007199254740992 : Int)))) else (
    j1 false)
def f73_L (call : CallF) (n : Nat) (a0 : Int) : OR :=
  f73_T call n (f73_L1 call n) a0
theorem f73_o (X0 : Code) (call : CallF) (n : Nat) (B : Code) (hB : B = (hole f73_b [1, 1] X0)) : f73_P B call n = f73_T call n (f73_P1 B call n) := by
  subst hB; funext a0; kernel_rfl
theorem f73_l (call : CallF) (n : Nat) : f73_P f73_b call n = f73_T call n (f73_P1 f73_b call n) :=
  f73_o (piece [1, 1] f73_b) call n _ (by kernel_rfl)
theorem f73_e (call : CallF) (n : Nat) : f73_P f73_b call n = f73_L call n := by
  rw [f73_l, f73_e1]; rfl
theorem f73_eq (n : Nat) (a0 : Int) : acall AXE AXF (n + 1) 73 [.one (.int .i64 a0)] [] = f73_L (acall AXE AXF n) (n + 1) a0 :=
  (show _ = f73_P f73_b (acall AXE AXF n) (n + 1) a0 by kernel_rfl).trans (by rw [f73_e])
def f74_P5 (B : Code) (call : CallF) (n : Nat) (m0 : Nat) (x0 : Int) (x1 : LB) : OR :=
  aloop 1000004 (pruneAt f74_h 1000004) (f74_x B call n [1, 1, 1, 0, 0, 0]) (kBlk 0 (kSeq (f74_x B call n [1, 1, 1, 1]) (kEnd AXE 0 f74_r))) m0 ⟨[(0, .one (.int .i64 x0)), (3, .one (.str x1))], []⟩
def f74_P (B : Code) (call : CallF) (n : Nat) (a0 : Int) : OR :=
  f74_x B call n [] (kEnd AXE 0 f74_r) ⟨[(0, .one (.int .i64 a0))], []⟩
def f74_T5 (call : CallF) (n : Nat) (j5m : Int → LB → OR) (x0 : Int) (x1 : LB) : OR :=
  bif (decide (x0 ≥ (10 : Int))) then (
    bytesK ([.int .u8 (IntKind.wrap .u8 (IntKind.wrap .i64 ((48 : Int) + (Int.tmod (IntKind.wrap .i64 (Int.tdiv x0 (10 : Int))) (10 : Int)))))] : List Cell) fun s1 =>
    bif decide ((s1).length + (x1).length ≤ strLim) then (
      j5m (IntKind.wrap .i64 (Int.tdiv x0 (10 : Int))) (s1 ++ x1)) else none) else (
    some (.one (.str x1), []))
theorem f74_o5 (call : CallF) (n : Nat) (m0 : Nat) (B : Code) (hB : B = f74_b) : f74_P5 B call n (m0 + 1) = f74_T5 call n (f74_P5 B call n m0) := by
  subst hB; funext x0 x1; kernel_rfl
theorem f74_l5 (call : CallF) (n : Nat) (m0 : Nat) : f74_P5 f74_b call n (m0 + 1) = f74_T5 call n (f74_P5 f74_b call n m0) :=
  f74_o5 call n m0 _ (by kernel_rfl)
def f74_L5 (call : CallF) (n : Nat) : Nat → Int → LB → OR
  | 0 => fun _ _ => none
  | m0 + 1 => f74_T5 call n (f74_L5 call n m0)
theorem f74_e5 (call : CallF) (n : Nat) : ∀ m0 : Nat, f74_P5 f74_b call n m0 = f74_L5 call n m0
  | 0 => by funext x0 x1; kernel_rfl
  | m0 + 1 => by rw [f74_l5, f74_e5 call n m0]; rfl
/-- pigeonhole/pigeonholeref31.digits -/
def f74_T (call : CallF) (n : Nat) (j5n : Int → LB → OR) (a0 : Int) : OR :=
  bif (decide (a0 < (0 : Int))) then (
    callK call 74 [.one (.int .i64 (IntKind.wrap .i64 (0 - a0)))] fun v5 =>
    oS v5 fun s6 =>
    bif decide ((([45] : List UInt8)).length + (s6).length ≤ strLim) then (
      some (.one (.str (([45] : List UInt8) ++ s6)), [])) else none) else (
    bytesK ([.int .u8 (IntKind.wrap .u8 (IntKind.wrap .i64 ((48 : Int) + (Int.tmod a0 (10 : Int)))))] : List Cell) fun s7 =>
    j5n a0 s7)
def f74_L (call : CallF) (n : Nat) (a0 : Int) : OR :=
  f74_T call n (f74_L5 call n n) a0
theorem f74_o (call : CallF) (n : Nat) (B : Code) (hB : B = f74_b) : f74_P B call n = f74_T call n (f74_P5 B call n n) := by
  subst hB; funext a0; kernel_rfl
theorem f74_l (call : CallF) (n : Nat) : f74_P f74_b call n = f74_T call n (f74_P5 f74_b call n n) :=
  f74_o call n _ (by kernel_rfl)
theorem f74_e (call : CallF) (n : Nat) : f74_P f74_b call n = f74_L call n := by
  rw [f74_l, f74_e5]; rfl
theorem f74_eq (n : Nat) (a0 : Int) : acall AXE AXF (n + 1) 74 [.one (.int .i64 a0)] [] = f74_L (acall AXE AXF n) (n + 1) a0 :=
  (show _ = f74_P f74_b (acall AXE AXF n) (n + 1) a0 by kernel_rfl).trans (by rw [f74_e])
end
end AX
end Go.Proofs.YtfbicbgdfcbhpaaDoor
