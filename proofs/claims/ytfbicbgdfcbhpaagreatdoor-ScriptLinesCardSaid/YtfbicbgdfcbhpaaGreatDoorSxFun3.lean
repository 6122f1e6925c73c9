/-
  The functions, printed, and that they are the reckoning.
-/
import Derived.Test.YtfbicbgdfcbhpaaGreatDoorSxTab
set_option maxRecDepth 20000
set_option linter.unusedVariables false
set_option linter.unusedSimpArgs false
set_option linter.unusedSectionVars false
namespace Go.Proofs.YtfbicbgdfcbhpaaGreatDoor
namespace AX
set_option linter.unusedVariables false
noncomputable section
def f61_P2 (B : Code) (call : CallF) (n : Nat) (x0 : LB) (x1 : Bool) : OR :=
  f61_x B call n [1, 0, 1, 0, 1] (kSeq (f61_x B call n [1, 1]) (kEnd AXE 0 f61_r)) ⟨[(4, .one (.str x0)), (5, .one (.bool x1))], []⟩
def f61_P4 (B : Code) (call : CallF) (n : Nat) (x0 : LB) (x1 : Bool) : OR :=
  f61_x B call n [1, 1, 1] (kEnd AXE 0 f61_r) ⟨[(4, .one (.str x0)), (5, .one (.bool x1))], []⟩
def f61_P3 (B : Code) (call : CallF) (n : Nat) (x0 : LB) : OR :=
  f61_x B call n [1, 1] (kEnd AXE 0 f61_r) ⟨[(0, .one (.str x0))], []⟩
def f61_P1 (B : Code) (call : CallF) (n : Nat) (x0 : LB) (x1 : Bool) : OR :=
  f61_x B call n [1, 0, 1] (kSeq (f61_x B call n [1, 1]) (kEnd AXE 0 f61_r)) ⟨[(0, .one (.str x0)), (10, .one (.bool x1))], []⟩
def f61_P (B : Code) (call : CallF) (n : Nat) (a0 : LB) (a1 : Bool) : OR :=
  f61_x B call n [] (kEnd AXE 0 f61_r) ⟨[(0, .one (.str a0)), (1, .one (.bool a1))], []⟩
def f61_T2 (call : CallF) (n : Nat) (x0 : LB) (x1 : Bool) : OR :=
  some (.tup [.one (.str x0), .one (.bool x1)], [])
theorem f61_o2 (call : CallF) (n : Nat) (B : Code) (hB : B = f61_b) : f61_P2 B call n = f61_T2 call n := by
  subst hB; funext x0 x1; kernel_rfl
theorem f61_l2 (call : CallF) (n : Nat) : f61_P2 f61_b call n = f61_T2 call n :=
  f61_o2 call n _ (by kernel_rfl)
def f61_L2 (call : CallF) (n : Nat) : LB → Bool → OR :=
  f61_T2 call n
theorem f61_e2 (call : CallF) (n : Nat) : f61_P2 f61_b call n = f61_L2 call n := by
  rw [f61_l2]; rfl
def f61_T4 (call : CallF) (n : Nat) (x0 : LB) (x1 : Bool) : OR :=
  some (.tup [.one (.str x0), .one (.bool x1)], [])
theorem f61_o4 (call : CallF) (n : Nat) (B : Code) (hB : B = f61_b) : f61_P4 B call n = f61_T4 call n := by
  subst hB; funext x0 x1; kernel_rfl
theorem f61_l4 (call : CallF) (n : Nat) : f61_P4 f61_b call n = f61_T4 call n :=
  f61_o4 call n _ (by kernel_rfl)
def f61_L4 (call : CallF) (n : Nat) : LB → Bool → OR :=
  f61_T4 call n
theorem f61_e4 (call : CallF) (n : Nat) : f61_P4 f61_b call n = f61_L4 call n := by
  rw [f61_l4]; rfl
def f61_T3 (call : CallF) (n : Nat) (j4 : LB → Bool → OR) (x0 : LB) : OR :=
  callK call 85 [.one (.str x0)] fun v1 =>
  oB v1 fun b2 =>
  j4 x0 b2
theorem f61_o3 (X0 : Code) (call : CallF) (n : Nat) (B : Code) (hB : B = (hole f61_b [1, 1, 1] X0)) : f61_P3 B call n = f61_T3 call n (f61_P4 B call n) := by
  subst hB; funext x0; kernel_rfl
theorem f61_l3 (call : CallF) (n : Nat) : f61_P3 f61_b call n = f61_T3 call n (f61_P4 f61_b call n) :=
  f61_o3 (piece [1, 1, 1] f61_b) call n _ (by kernel_rfl)
def f61_L3 (call : CallF) (n : Nat) : LB → OR :=
  f61_T3 call n (f61_L4 call n)
theorem f61_e3 (call : CallF) (n : Nat) : f61_P3 f61_b call n = f61_L3 call n := by
  rw [f61_l3, f61_e4]; rfl
def f61_T1 (call : CallF) (n : Nat) (j2 : LB → Bool → OR) (j3 : LB → OR) (x0 : LB) (x1 : Bool) : OR :=
  bif x1 then (
    j2 ([] : List UInt8) true) else (
    j3 x0)
theorem f61_o1 (X0 X1 : Code) (call : CallF) (n : Nat) (B : Code) (hB : B = (hole (hole f61_b [1, 0, 1, 0, 1] X0) [1, 1] X1)) : f61_P1 B call n = f61_T1 call n (f61_P2 B call n) (f61_P3 B call n) := by
  subst hB; funext x0 x1; cases x1 <;> kernel_rfl
theorem f61_l1 (call : CallF) (n : Nat) : f61_P1 f61_b call n = f61_T1 call n (f61_P2 f61_b call n) (f61_P3 f61_b call n) :=
  f61_o1 (piece [1, 0, 1, 0, 1] f61_b) (piece [1, 1] f61_b) call n _ (by kernel_rfl)
def f61_L1 (call : CallF) (n : Nat) : LB → Bool → OR :=
  f61_T1 call n (f61_L2 call n) (f61_L3 call n)
theorem f61_e1 (call : CallF) (n : Nat) : f61_P1 f61_b call n = f61_L1 call n := by
  rw [f61_l1, f61_e2, f61_e3]; rfl
/-- pigeonhole/pigeonholeref31.unname -/
def f61_T (call : CallF) (n : Nat) (j1 : LB → Bool → OR) (a0 : LB) (a1 : Bool) : OR :=
  bif (a0 == ([42] : List UInt8)) then (
    j1 a0 a1) else (
    j1 a0 false)
def f61_L (call : CallF) (n : Nat) (a0 : LB) (a1 : Bool) : OR :=
  f61_T call n (f61_L1 call n) a0 a1
theorem f61_o (X0 : Code) (call : CallF) (n : Nat) (B : Code) (hB : B = (hole f61_b [1, 0, 1] X0)) : f61_P B call n = f61_T call n (f61_P1 B call n) := by
  subst hB; funext a0 a1; kernel_rfl
theorem f61_l (call : CallF) (n : Nat) : f61_P f61_b call n = f61_T call n (f61_P1 f61_b call n) :=
  f61_o (piece [1, 0, 1] f61_b) call n _ (by kernel_rfl)
theorem f61_e (call : CallF) (n : Nat) : f61_P f61_b call n = f61_L call n := by
  rw [f61_l, f61_e1]; rfl
theorem f61_eq (n : Nat) (a0 : LB) (a1 : Bool) : acall AXE AXF (n + 1) 61 [.one (.str a0), .one (.bool a1)] [] = f61_L (acall AXE AXF n) (n + 1) a0 a1 :=
  (show _ = f61_P f61_b (acall AXE AXF n) (n + 1) a0 a1 by kernel_rfl).trans (by rw [f61_e])
def f62_P2 (B : Code) (call : CallF) (n : Nat) (m0 : Nat) (x0 : LC) (x1 : Int) : OR :=
  aloop 1000002 (pruneAt f62_h 1000002) (f62_x B call n [1, 0, 1, 0, 0]) (kBlk 0 (kSeq (f62_x B call n [1, 1]) (kEnd AXE 0 f62_r))) m0 ⟨[(0, .one (.sl none 1 x0)), (3, .one (.int .i64 x1))], []⟩
def f62_P (B : Code) (call : CallF) (n : Nat) (a0 : LC) : OR :=
  f62_x B call n [] (kEnd AXE 0 f62_r) ⟨[(0, .one (.sl none 1 a0))], []⟩
def f62_T2 (call : CallF) (n : Nat) (j2m : LC → Int → OR) (x0 : LC) (x1 : Int) : OR :=
  bif (decide (x1 < (((x0).length / 1 : Nat) : Int))) then (
    itemK x0 x1 fun c1 =>
    castS c1 fun s2 =>
    callK call 85 [.one (.str s2)] fun v3 =>
    oB v3 fun b4 =>
    bif (!b4) then (
      some (.one (.bool false), [])) else (
      j2m x0 (IntKind.wrap .i64 (x1 + (1 : Int))))) else (
    some (.one (.bool (decide ((((x0).length / 1 : Nat) : Int) > (0 : Int)))), []))
theorem f62_o2 (call : CallF) (n : Nat) (m0 : Nat) (B : Code) (hB : B = f62_b) : f62_P2 B call n (m0 + 1) = f62_T2 call n (f62_P2 B call n m0) := by
  subst hB; funext x0 x1; kernel_rfl
theorem f62_l2 (call : CallF) (n : Nat) (m0 : Nat) : f62_P2 f62_b call n (m0 + 1) = f62_T2 call n (f62_P2 f62_b call n m0) :=
  f62_o2 call n m0 _ (by kernel_rfl)
def f62_L2 (call : CallF) (n : Nat) : Nat → LC → Int → OR
  | 0 => fun _ _ => none
  | m0 + 1 => f62_T2 call n (f62_L2 call n m0)
theorem f62_e2 (call : CallF) (n : Nat) : ∀ m0 : Nat, f62_P2 f62_b call n m0 = f62_L2 call n m0
  | 0 => by funext x0 x1; kernel_rfl
  | m0 + 1 => by rw [f62_l2, f62_e2 call n m0]; rfl
/-- pigeonhole/pigeonholeref31.names -/
def f62_T (call : CallF) (n : Nat) (j2n : LC → Int → OR) (a0 : LC) : OR :=
  j2n a0 (0 : Int)
def f62_L (call : CallF) (n : Nat) (a0 : LC) : OR :=
  f62_T call n (f62_L2 call n n) a0
theorem f62_o (call : CallF) (n : Nat) (B : Code) (hB : B = f62_b) : f62_P B call n = f62_T call n (f62_P2 B call n n) := by
  subst hB; funext a0; kernel_rfl
theorem f62_l (call : CallF) (n : Nat) : f62_P f62_b call n = f62_T call n (f62_P2 f62_b call n n) :=
  f62_o call n _ (by kernel_rfl)
theorem f62_e (call : CallF) (n : Nat) : f62_P f62_b call n = f62_L call n := by
  rw [f62_l, f62_e2]; rfl
theorem f62_eq (n : Nat) (a0 : LC) : acall AXE AXF (n + 1) 62 [.one (.sl none 1 a0)] [] = f62_L (acall AXE AXF n) (n + 1) a0 :=
  (show _ = f62_P f62_b (acall AXE AXF n) (n + 1) a0 by kernel_rfl).trans (by rw [f62_e])
def f63_P3 (B : Code) (call : CallF) (n : Nat) (m0 : Nat) (x0 x1 : LC) (x2 : Int) : OR :=
  aloop 1000003 (pruneAt f63_h 1000003) (f63_x B call n [1, 1, 0, 1, 0, 0]) (kBlk 0 (kSeq (f63_x B call n [1, 1, 1]) (kEnd AXE 0 f63_r))) m0 ⟨[(0, .one (.sl none 1 x0)), (4, .one (.sl (some ⟨4, 0, 3⟩) 1 x1)), (5, .one (.int .i64 x2))], []⟩
def f63_P (B : Code) (call : CallF) (n : Nat) (a0 : LC) : OR :=
  f63_x B call n [] (kEnd AXE 0 f63_r) ⟨[(0, .one (.sl none 1 a0))], []⟩
def f63_T3 (call : CallF) (n : Nat) (j3m : LC → LC → Int → OR) (x0 x1 : LC) (x2 : Int) : OR :=
  bif (decide (x2 < (((x0).length / 1 : Nat) : Int))) then (
    itemK x0 x2 fun c1 =>
    castS c1 fun s2 =>
    callK call 86 [.one (.str s2)] fun v3 =>
    castTup v3 fun v4 =>
    zI .i64 v4 fun n5 r6 =>
    zB r6 fun b7 r8 =>
    nilK r8 (
      bif (!b7) then (
        some (.tup [.one (.sl (some ⟨2, 0, 3⟩) 1 ([] : List Cell)), .one (.bool false)], [])) else (
        guardB (decide (((x1).length + (([.int .i64 n5] : List Cell)).length) * 1000 ≤ rowLim)) (
          j3m x0 (x1 ++ ([.int .i64 n5] : List Cell)) (IntKind.wrap .i64 (x2 + (1 : Int))))))) else (
    some (.tup [.one (.sl (some ⟨2, 0, 3⟩) 1 x1), .one (.bool true)], []))
theorem f63_o3 (call : CallF) (n : Nat) (m0 : Nat) (B : Code) (hB : B = f63_b) : f63_P3 B call n (m0 + 1) = f63_T3 call n (f63_P3 B call n m0) := by
  subst hB; funext x0 x1 x2; kernel_rfl
theorem f63_l3 (call : CallF) (n : Nat) (m0 : Nat) : f63_P3 f63_b call n (m0 + 1) = f63_T3 call n (f63_P3 f63_b call n m0) :=
  f63_o3 call n m0 _ (by kernel_rfl)
def f63_L3 (call : CallF) (n : Nat) : Nat → LC → LC → Int → OR
  | 0 => fun _ _ _ => none
  | m0 + 1 => f63_T3 call n (f63_L3 call n m0)
theorem f63_e3 (call : CallF) (n : Nat) : ∀ m0 : Nat, f63_P3 f63_b call n m0 = f63_L3 call n m0
  | 0 => by funext x0 x1 x2; kernel_rfl
  | m0 + 1 => by rw [f63_l3, f63_e3 call n m0]; rfl
/-- pigeonhole/pigeonholeref31.numbers -/
def f63_T (call : CallF) (n : Nat) (j3n : LC → LC → Int → OR) (a0 : LC) : OR :=
  j3n a0 ([] : List Cell) (0 : Int)
def f63_L (call : CallF) (n : Nat) (a0 : LC) : OR :=
  f63_T call n (f63_L3 call n n) a0
theorem f63_o (call : CallF) (n : Nat) (B : Code) (hB : B = f63_b) : f63_P B call n = f63_T call n (f63_P3 B call n n) := by
  subst hB; funext a0; kernel_rfl
theorem f63_l (call : CallF) (n : Nat) : f63_P f63_b call n = f63_T call n (f63_P3 f63_b call n n) :=
  f63_o call n _ (by kernel_rfl)
theorem f63_e (call : CallF) (n : Nat) : f63_P f63_b call n = f63_L call n := by
  rw [f63_l, f63_e3]; rfl
theorem f63_eq (n : Nat) (a0 : LC) : acall AXE AXF (n + 1) 63 [.one (.sl none 1 a0)] [] = f63_L (acall AXE AXF n) (n + 1) a0 :=
  (show _ = f63_P f63_b (acall AXE AXF n) (n + 1) a0 by kernel_rfl).trans (by rw [f63_e])
def f65_P5 (B : Code) (call : CallF) (n : Nat) (x0 : LC) (x1 : Bool) : OR :=
  f65_x B call n [1, 0, 1, 0, 1] (kSeq (f65_x B call n [1, 1]) (kEnd AXE 0 f65_r)) ⟨[(2, .one (.sl (some ⟨2, 0, 5⟩) 1 x0)), (3, .one (.bool x1))], []⟩
def f65_P26 (B : Code) (call : CallF) (n : Nat) (m0 : Nat) (x0 : LB) (x1 : LC) (x2 : LB) (x3 : Int) : OR :=
  f65_x B call n [1, 1, 1, 0, 1, 0, 0, 1, 0, 1, 1, 1] (kBlk 1 (kSeq (fun k => prK 1000005 (pruneAt f65_h 1000005) (aloop 1000005 (pruneAt f65_h 1000005) (f65_x B call n [1, 1, 1, 0, 1, 0, 0]) k m0)) (kBlk 0 (kSeq (f65_x B call n [1, 1, 1, 1]) (kEnd AXE 0 f65_r))))) ⟨[(0, .one (.str x0)), (4, .one (.sl (some ⟨4, 0, 5⟩) 1 x1)), (5, .one (.str x2)), (7, .one (.int .i64 x3))], []⟩
def f65_P24 (B : Code) (call : CallF) (n : Nat) (m0 : Nat) (x0 : LB) (x1 : LC) (x2 : LB) (x3 x4 : Int) : OR :=
  f65_x B call n [1, 1, 1, 0, 1, 0, 0, 1, 0, 1, 1] (kBlk 1 (kSeq (fun k => prK 1000005 (pruneAt f65_h 1000005) (aloop 1000005 (pruneAt f65_h 1000005) (f65_x B call n [1, 1, 1, 0, 1, 0, 0]) k m0)) (kBlk 0 (kSeq (f65_x B call n [1, 1, 1, 1]) (kEnd AXE 0 f65_r))))) ⟨[(0, .one (.str x0)), (4, .one (.sl (some ⟨4, 0, 5⟩) 1 x1)), (5, .one (.str x2)), (6, .one (.int .u8 x3)), (7, .one (.int .i64 x4))], []⟩
def f65_P25 (B : Code) (call : CallF) (n : Nat) (x0 : LC) (x1 : Bool) : OR :=
  f65_x B call n [1, 1, 1, 1, 1] (kEnd AXE 0 f65_r) ⟨[(2, .one (.sl (some ⟨2, 0, 5⟩) 1 x0)), (3, .one (.bool x1))], []⟩
def f65_P6 (B : Code) (call : CallF) (n : Nat) (m0 : Nat) (x0 : LB) (x1 : LC) (x2 : LB) : OR :=
  aloop 1000005 (pruneAt f65_h 1000005) (f65_x B call n [1, 1, 1, 0, 1, 0, 0]) (kBlk 0 (kSeq (f65_x B call n [1, 1, 1, 1]) (kEnd AXE 0 f65_r))) m0 ⟨[(0, .one (.str x0)), (4, .one (.sl (some ⟨4, 0, 5⟩) 1 x1)), (5, .one (.str x2))], []⟩
def f65_P1 (B : Code) (call : CallF) (n : Nat) (x0 : LB) (x1 : Bool) : OR :=
  f65_x B call n [1, 0, 1] (kSeq (f65_x B call n [1, 1]) (kEnd AXE 0 f65_r)) ⟨[(0, .one (.str x0)), (23, .one (.bool x1))], []⟩
def f65_P (B : Code) (call : CallF) (n : Nat) (a0 : LB) : OR :=
  f65_x B call n [] (kEnd AXE 0 f65_r) ⟨[(0, .one (.str a0))], []⟩
def f65_T5 (call : CallF) (n : Nat) (x0 : LC) (x1 : Bool) : OR :=
  some (.tup [.one (.sl (some ⟨2, 0, 5⟩) 1 x0), .one (.bool x1)], [])
theorem f65_o5 (call : CallF) (n : Nat) (B : Code) (hB : B = f65_b) : f65_P5 B call n = f65_T5 call n := by
  subst hB; funext x0 x1; kernel_rfl
theorem f65_l5 (call : CallF) (n : Nat) : f65_P5 f65_b call n = f65_T5 call n :=
  f65_o5 call n _ (by kernel_rfl)
def f65_L5 (call : CallF) (n : Nat) : LC → Bool → OR :=
  f65_T5 call n
theorem f65_e5 (call : CallF) (n : Nat) : f65_P5 f65_b call n = f65_L5 call n := by
  rw [f65_l5]; rfl
def f65_T26 (call : CallF) (n : Nat) (j6m : LB → LC → LB → OR) (x0 : LB) (x1 : LC) (x2 : LB) (x3 : Int) : OR :=
  bif decide (0 ≤ x3 ∧ (Int.toNat x3) ≤ (x2).length) then (
    j6m x0 x1 ((x2.take (x2).length).drop (Int.toNat x3))) else none
theorem f65_o26 (call : CallF) (n : Nat) (m0 : Nat) (B : Code) (hB : B = f65_b) : f65_P26 B call n m0 = f65_T26 call n (f65_P6 B call n m0) := by
  subst hB; funext x0 x1 x2 x3; kernel_rfl
theorem f65_l26 (call : CallF) (n : Nat) (m0 : Nat) : f65_P26 f65_b call n m0 = f65_T26 call n (f65_P6 f65_b call n m0) :=
  f65_o26 call n m0 _ (by kernel_rfl)
def f65_L26 (call : CallF) (n : Nat) (h_m0 : LB → LC → LB → OR) : LB → LC → LB → Int → OR :=
  f65_T26 call n h_m0
theorem f65_e26 (call : CallF) (n : Nat) (m0 : Nat) : f65_P26 f65_b call n m0 = f65_L26 call n (f65_P6 f65_b call n m0) := by
  rw [f65_l26]; rfl
def f65_T24 (call : CallF) (n : Nat) (j26 : LB → LC → LB → Int → OR) (x0 : LB) (x1 : LC) (x2 : LB) (x3 x4 : Int) : OR :=
  guardB (decide (((x1).length + (([.int .u8 x3] : List Cell)).length) * 1000 ≤ rowLim)) (
    j26 x0 (x1 ++ ([.int .u8 x3] : List Cell)) x2 x4)
theorem f65_o24 (X0 : Code) (call : CallF) (n : Nat) (m0 : Nat) (B : Code) (hB : B = (hole f65_b [1, 1, 1, 0, 1, 0, 0, 1, 0, 1, 1, 1] X0)) : f65_P24 B call n m0 = f65_T24 call n (f65_P26 B call n m0) := by
  subst hB; funext x0 x1 x2 x3 x4; kernel_rfl
theorem f65_l24 (call : CallF) (n : Nat) (m0 : Nat) : f65_P24 f65_b call n m0 = f65_T24 call n (f65_P26 f65_b call n m0) :=
  f65_o24 (piece [1, 1, 1, 0, 1, 0, 0, 1, 0, 1, 1, 1] f65_b) call n m0 _ (by kernel_rfl)
def f65_L24 (call : CallF) (n : Nat) (h_m0 : LB → LC → LB → OR) : LB → LC → LB → Int → Int → OR :=
  f65_T24 call n (f65_L26 call n h_m0)
theorem f65_e24 (call : CallF) (n : Nat) (m0 : Nat) : f65_P24 f65_b call n m0 = f65_L24 call n (f65_P6 f65_b call n m0) := by
  rw [f65_l24, f65_e26]; rfl
def f65_T25 (call : CallF) (n : Nat) (x0 : LC) (x1 : Bool) : OR :=
  some (.tup [.one (.sl (some ⟨2, 0, 5⟩) 1 x0), .one (.bool x1)], [])
theorem f65_o25 (call : CallF) (n : Nat) (B : Code) (hB : B = f65_b) : f65_P25 B call n = f65_T25 call n := by
  subst hB; funext x0 x1; kernel_rfl
theorem f65_l25 (call : CallF) (n : Nat) : f65_P25 f65_b call n = f65_T25 call n :=
  f65_o25 call n _ (by kernel_rfl)
def f65_L25 (call : CallF) (n : Nat) : LC → Bool → OR :=
  f65_T25 call n
theorem f65_e25 (call : CallF) (n : Nat) : f65_P25 f65_b call n = f65_L25 call n := by
  rw [f65_l25]; rfl
def f65_T6 (call : CallF) (n : Nat) (j24 : LB → LC → LB → Int → Int → OR) (j25 : LC → Bool → OR) (x0 : LB) (x1 : LC) (x2 : LB) : OR :=
  bif (!(x2 == ([] : List UInt8))) then (
    itemK x2 (0 : Int) fun u1 =>
    bif ((UInt8.toNat u1 : Int) == (92 : Int)) then (
      bif (decide (((x2).length : Int) < (2 : Int))) then (
        some (.tup [.one (.sl (some ⟨2, 0, 5⟩) 1 ([] : List Cell)), .one (.bool false)], [])) else (
        itemK x2 (1 : Int) fun u2 =>
        bif ((UInt8.toNat u2 : Int) == (114 : Int)) then (
          j24 x0 x1 x2 (13 : Int) (2 : Int)) else (
          bif ((UInt8.toNat u2 : Int) == (110 : Int)) then (
            j24 x0 x1 x2 (10 : Int) (2 : Int)) else (
            bif ((UInt8.toNat u2 : Int) == (120 : Int)) then (
              bif (decide (((x2).length : Int) < (4 : Int))) then (
                some (.tup [.one (.sl (some ⟨2, 0, 5⟩) 1 ([] : List Cell)), .one (.bool false)], [])) else (
                itemK x2 (2 : Int) fun u3 =>
                primK pIndexByte [.one (.str ([48, 49, 50, 51, 52, 53, 54, 55, 56, 57, 97, 98, 99, 100, 101, 102] : List UInt8)), .one (.int .u8 (UInt8.toNat u3 : Int))] fun v4 =>
                oI .i64 v4 fun n5 =>
                itemK x2 (3 : Int) fun u6 =>
                primK pIndexByte [.one (.str ([48, 49, 50, 51, 52, 53, 54, 55, 56, 57, 97, 98, 99, 100, 101, 102] : List UInt8)), .one (.int .u8 (UInt8.toNat u6 : Int))] fun v7 =>
                oI .i64 v7 fun n8 =>
                j24 x0 x1 x2 (IntKind.wrap .u8 (IntKind.wrap .i64 ((BitVec.toNat ((BitVec.ofInt (IntKind.bits .i64) (IntKind.wrap .i64 (n5 * ((2 : Int) ^ (min (Int.toNat (4 : Int)) (IntKind.bits .i64)))))) ||| (BitVec.ofInt (IntKind.bits .i64) (IntKind.wrap .i64 ((BitVec.toNat ((BitVec.ofInt (IntKind.bits .i64) n8) &&& (BitVec.ofInt (IntKind.bits .i64) (15 : Int))) : Nat) : Int)))) : Nat) : Int))) (4 : Int))) else (
              j24 x0 x1 x2 (UInt8.toNat u2 : Int) (2 : Int)))))) else (
      j24 x0 x1 x2 (UInt8.toNat u1 : Int) (1 : Int))) else (
    callK call 53 [.one (.sl none 1 x1)] fun v9 =>
    oS v9 fun s10 =>
    bif (s10 == x0) then (
      j25 x1 (decide ((((x1).length / 1 : Nat) : Int) ≤ (4096 : Int)))) else (
      j25 x1 false))
theorem f65_o6 (X0 X1 : Code) (call : CallF) (n : Nat) (m0 : Nat) (B : Code) (hB : B = (hole (hole f65_b [1, 1, 1, 0, 1, 0, 0, 1, 0, 1, 1] X0) [1, 1, 1, 1, 1] X1)) : f65_P6 B call n (m0 + 1) = f65_T6 call n (f65_P24 B call n m0) (f65_P25 B call n) := by
  subst hB; funext x0 x1 x2; kernel_rfl
theorem f65_l6 (call : CallF) (n : Nat) (m0 : Nat) : f65_P6 f65_b call n (m0 + 1) = f65_T6 call n (f65_P24 f65_b call n m0) (f65_P25 f65_b call n) :=
  f65_o6 (piece [1, 1, 1, 0, 1, 0, 0, 1, 0, 1, 1] f65_b) (piece [1, 1, 1, 1, 1] f65_b) call n m0 _ (by kernel_rfl)
def f65_L6 (call : CallF) (n : Nat) : Nat → LB → LC → LB → OR
  | 0 => fun _ _ _ => none
  | m0 + 1 => f65_T6 call n (f65_L24 call n (f65_L6 call n m0)) (f65_L25 call n)
theorem f65_e6 (call : CallF) (n : Nat) : ∀ m0 : Nat, f65_P6 f65_b call n m0 = f65_L6 call n m0
  | 0 => by funext x0 x1 x2; kernel_rfl
  | m0 + 1 => by rw [f65_l6, f65_e24, f65_e25, f65_e6 call n m0]; rfl
def f65_T1 (call : CallF) (n : Nat) (j5 : LC → Bool → OR) (j6n : LB → LC → LB → OR) (x0 : LB) (x1 : Bool) : OR :=
  bif x1 then (
    j5 ([] : List Cell) false) else (
    bif decide (0 ≤ (1 : Int) ∧ (1 : Int) ≤ (IntKind.wrap .i64 (((x0).length : Int) - (1 : Int))) ∧ (Int.toNat (IntKind.wrap .i64 (((x0).length : Int) - (1 : Int)))) ≤ (x0).length) then (
      j6n x0 ([] : List Cell) ((x0.take (Int.toNat (IntKind.wrap .i64 (((x0).length : Int) - (1 : Int))))).drop (Int.toNat (1 : Int)))) else none)
theorem f65_o1 (X0 : Code) (call : CallF) (n : Nat) (B : Code) (hB : B = (hole f65_b [1, 0, 1, 0, 1] X0)) : f65_P1 B call n = f65_T1 call n (f65_P5 B call n) (f65_P6 B call n n) := by
  subst hB; funext x0 x1; cases x1 <;> kernel_rfl
theorem f65_l1 (call : CallF) (n : Nat) : f65_P1 f65_b call n = f65_T1 call n (f65_P5 f65_b call n) (f65_P6 f65_b call n n) :=
  f65_o1 (piece [1, 0, 1, 0, 1] f65_b) call n _ (by kernel_rfl)
def f65_L1 (call : CallF) (n : Nat) : LB → Bool → OR :=
  f65_T1 call n (f65_L5 call n) (f65_L6 call n n)
theorem f65_e1 (call : CallF) (n : Nat) : f65_P1 f65_b call n = f65_L1 call n := by
  rw [f65_l1, f65_e5, f65_e6]; rfl
/-- pigeonhole/script.unquoted -/
def f65_T (call : CallF) (n : Nat) (j1 : LB → Bool → OR) (a0 : LB) : OR :=
  bif (decide (((a0).length : Int) < (2 : Int))) then (
    j1 a0 true) else (
    itemK a0 (0 : Int) fun u13 =>
    bif ((UInt8.toNat u13 : Int) != (34 : Int)) then (
      j1 a0 true) else (
      itemK a0 (IntKind.wrap .i64 (((a0).length : Int) - (1 : Int))) fun u14 =>
      j1 a0 ((UInt8.toNat u14 : Int) != (34 : Int))))
def f65_L (call : CallF) (n : Nat) (a0 : LB) : OR :=
  f65_T call n (f65_L1 call n) a0
theorem f65_o (X0 : Code) (call : CallF) (n : Nat) (B : Code) (hB : B = (hole f65_b [1, 0, 1] X0)) : f65_P B call n = f65_T call n (f65_P1 B call n) := by
  subst hB; funext a0; kernel_rfl
theorem f65_l (call : CallF) (n : Nat) : f65_P f65_b call n = f65_T call n (f65_P1 f65_b call n) :=
  f65_o (piece [1, 0, 1] f65_b) call n _ (by kernel_rfl)
theorem f65_e (call : CallF) (n : Nat) : f65_P f65_b call n = f65_L call n := by
  rw [f65_l, f65_e1]; rfl
theorem f65_eq (n : Nat) (a0 : LB) : acall AXE AXF (n + 1) 65 [.one (.str a0)] [] = f65_L (acall AXE AXF n) (n + 1) a0 :=
  (show _ = f65_P f65_b (acall AXE AXF n) (n + 1) a0 by kernel_rfl).trans (by rw [f65_e])
def f66_P16 (B : Code) (call : CallF) (n : Nat) (x0 : Bool) (x1 : S_api_Event) : OR :=
  f66_x B call n [1, 1, 0, 1, 0, 1, 0, 1, 1] (kBlk 0 (kSeq (f66_x B call n [1, 1, 1]) (kEnd AXE 1 f66_r))) ⟨[(6, .one (.bool x0))], [[.int .i64 x1.fKind, .int .i64 x1.fSlot, .int .i64 x1.fN, .int .i64 x1.fK, .bool x1.fLmtp, .str x1.fName, .int .i64 x1.fLimit_Bytes, .int .i64 x1.fLimit_Count, .sl none 1 x1.fTo, .sl none 1 x1.fData, .int .i64 x1.fCode, .sl (some ⟨1000000, 11, 3⟩) 1 x1.fKeep]]⟩
def f66_P17 (B : Code) (call : CallF) (n : Nat) (x0 : Bool) (x1 : S_api_Event) : OR :=
  f66_x B call n [1, 1, 0, 1, 0, 1, 1, 1, 0, 1, 1] (kBlk 0 (kSeq (f66_x B call n [1, 1, 1]) (kEnd AXE 1 f66_r))) ⟨[(6, .one (.bool x0))], [[.int .i64 x1.fKind, .int .i64 x1.fSlot, .int .i64 x1.fN, .int .i64 x1.fK, .bool x1.fLmtp, .str x1.fName, .int .i64 x1.fLimit_Bytes, .int .i64 x1.fLimit_Count, .sl none 1 x1.fTo, .sl none 1 x1.fData, .int .i64 x1.fCode, .sl (some ⟨1000000, 11, 3⟩) 1 x1.fKeep]]⟩
def f66_P22 (B : Code) (call : CallF) (n : Nat) (x0 : Bool) (x1 : S_api_Event) : OR :=
  f66_x B call n [1, 1, 1, 1] (kEnd AXE 1 f66_r) ⟨[(6, .one (.bool x0))], [[.int .i64 x1.fKind, .int .i64 x1.fSlot, .int .i64 x1.fN, .int .i64 x1.fK, .bool x1.fLmtp, .str x1.fName, .int .i64 x1.fLimit_Bytes, .int .i64 x1.fLimit_Count, .sl none 1 x1.fTo, .sl none 1 x1.fData, .int .i64 x1.fCode, .sl (some ⟨1000000, 11, 3⟩) 1 x1.fKeep]]⟩
def f66_P18 (B : Code) (call : CallF) (n : Nat) (x0 : Bool) (x1 : S_api_Event) : OR :=
  f66_x B call n [1, 1, 1] (kEnd AXE 1 f66_r) ⟨[(8, .one (.bool x0))], [[.int .i64 x1.fKind, .int .i64 x1.fSlot, .int .i64 x1.fN, .int .i64 x1.fK, .bool x1.fLmtp, .str x1.fName, .int .i64 x1.fLimit_Bytes, .int .i64 x1.fLimit_Count, .sl none 1 x1.fTo, .sl none 1 x1.fData, .int .i64 x1.fCode, .sl (some ⟨1000000, 11, 3⟩) 1 x1.fKeep]]⟩
def f66_P19 (B : Code) (call : CallF) (n : Nat) (x0 : Bool) (x1 : S_api_Event) : OR :=
  f66_x B call n [1, 1, 0, 1, 0, 1, 1, 1, 1, 1, 1, 1, 1, 1, 1, 1, 1, 1, 0, 1, 1] (kBlk 0 (kSeq (f66_x B call n [1, 1, 1]) (kEnd AXE 1 f66_r))) ⟨[(6, .one (.bool x0))], [[.int .i64 x1.fKind, .int .i64 x1.fSlot, .int .i64 x1.fN, .int .i64 x1.fK, .bool x1.fLmtp, .str x1.fName, .int .i64 x1.fLimit_Bytes, .int .i64 x1.fLimit_Count, .sl none 1 x1.fTo, .sl none 1 x1.fData, .int .i64 x1.fCode, .sl (some ⟨1000000, 11, 3⟩) 1 x1.fKeep]]⟩
def f66_P26 (B : Code) (call : CallF) (n : Nat) (x0 : Bool) (x1 : S_api_Event) : OR :=
  f66_x B call n [1, 1, 0, 1, 0, 1, 1, 1, 1, 1, 1, 1, 1, 1, 1, 1, 1, 1, 1, 1, 0, 1, 0, 1, 0, 1, 1] (kSeq (f66_x B call n [1, 1, 0, 1, 0, 1, 1, 1, 1, 1, 1, 1, 1, 1, 1, 1, 1, 1, 1, 1, 0, 1, 1]) (kBlk 0 (kSeq (f66_x B call n [1, 1, 1]) (kEnd AXE 1 f66_r)))) ⟨[(6, .one (.bool x0))], [[.int .i64 x1.fKind, .int .i64 x1.fSlot, .int .i64 x1.fN, .int .i64 x1.fK, .bool x1.fLmtp, .str x1.fName, .int .i64 x1.fLimit_Bytes, .int .i64 x1.fLimit_Count, .sl none 1 x1.fTo, .sl none 1 x1.fData, .int .i64 x1.fCode, .sl (some ⟨1000000, 11, 3⟩) 1 x1.fKeep]]⟩
def f66_P24 (B : Code) (call : CallF) (n : Nat) (x0 : S_api_Event) : OR :=
  f66_x B call n [1, 1, 0, 1, 0, 1, 1, 1, 1, 1, 1, 1, 1, 1, 1, 1, 1, 1, 1, 1, 0, 1, 0, 1, 0, 1] (kSeq (f66_x B call n [1, 1, 0, 1, 0, 1, 1, 1, 1, 1, 1, 1, 1, 1, 1, 1, 1, 1, 1, 1, 0, 1, 1]) (kBlk 0 (kSeq (f66_x B call n [1, 1, 1]) (kEnd AXE 1 f66_r)))) ⟨[], [[.int .i64 x0.fKind, .int .i64 x0.fSlot, .int .i64 x0.fN, .int .i64 x0.fK, .bool x0.fLmtp, .str x0.fName, .int .i64 x0.fLimit_Bytes, .int .i64 x0.fLimit_Count, .sl none 1 x0.fTo, .sl none 1 x0.fData, .int .i64 x0.fCode, .sl (some ⟨1000000, 11, 3⟩) 1 x0.fKeep]]⟩
def f66_P27 (B : Code) (call : CallF) (n : Nat) (x0 : Bool) (x1 : S_api_Event) : OR :=
  f66_x B call n [1, 1, 0, 1, 0, 1, 1, 1, 1, 1, 1, 1, 1, 1, 1, 1, 1, 1, 1, 1, 0, 1, 1, 1] (kBlk 0 (kSeq (f66_x B call n [1, 1, 1]) (kEnd AXE 1 f66_r))) ⟨[(6, .one (.bool x0))], [[.int .i64 x1.fKind, .int .i64 x1.fSlot, .int .i64 x1.fN, .int .i64 x1.fK, .bool x1.fLmtp, .str x1.fName, .int .i64 x1.fLimit_Bytes, .int .i64 x1.fLimit_Count, .sl none 1 x1.fTo, .sl none 1 x1.fData, .int .i64 x1.fCode, .sl (some ⟨1000000, 11, 3⟩) 1 x1.fKeep]]⟩
def f66_P25 (B : Code) (call : CallF) (n : Nat) (x0 : LB) (x1 : S_api_Event) : OR :=
  f66_x B call n [1, 1, 0, 1, 0, 1, 1, 1, 1, 1, 1, 1, 1, 1, 1, 1, 1, 1, 1, 1, 0, 1, 1] (kBlk 0 (kSeq (f66_x B call n [1, 1, 1]) (kEnd AXE 1 f66_r))) ⟨[(0, .one (.ptr 0 0)), (2, .one (.str x0))], [[.int .i64 x1.fKind, .int .i64 x1.fSlot, .int .i64 x1.fN, .int .i64 x1.fK, .bool x1.fLmtp, .str x1.fName, .int .i64 x1.fLimit_Bytes, .int .i64 x1.fLimit_Count, .sl none 1 x1.fTo, .sl none 1 x1.fData, .int .i64 x1.fCode, .sl (some ⟨1000000, 11, 3⟩) 1 x1.fKeep]]⟩
def f66_P23 (B : Code) (call : CallF) (n : Nat) (x0 : LB) (x1 : Bool) (x2 : S_api_Event) : OR :=
  f66_x B call n [1, 1, 0, 1, 0, 1, 1, 1, 1, 1, 1, 1, 1, 1, 1, 1, 1, 1, 1, 1, 0, 1, 0, 1] (kSeq (f66_x B call n [1, 1, 0, 1, 0, 1, 1, 1, 1, 1, 1, 1, 1, 1, 1, 1, 1, 1, 1, 1, 0, 1, 1]) (kBlk 0 (kSeq (f66_x B call n [1, 1, 1]) (kEnd AXE 1 f66_r)))) ⟨[(0, .one (.ptr 0 0)), (2, .one (.str x0)), (96, .one (.bool x1))], [[.int .i64 x2.fKind, .int .i64 x2.fSlot, .int .i64 x2.fN, .int .i64 x2.fK, .bool x2.fLmtp, .str x2.fName, .int .i64 x2.fLimit_Bytes, .int .i64 x2.fLimit_Count, .sl none 1 x2.fTo, .sl none 1 x2.fData, .int .i64 x2.fCode, .sl (some ⟨1000000, 11, 3⟩) 1 x2.fKeep]]⟩
def f66_P20 (B : Code) (call : CallF) (n : Nat) (x0 : Int) (x1 : LB) (x2 : S_api_Event) : OR :=
  f66_x B call n [1, 1, 0, 1, 0, 1, 1, 1, 1, 1, 1, 1, 1, 1, 1, 1, 1, 1, 1, 1, 0, 1] (kBlk 0 (kSeq (f66_x B call n [1, 1, 1]) (kEnd AXE 1 f66_r))) ⟨[(0, .one (.ptr 0 0)), (1, .one (.int .u8 x0)), (2, .one (.str x1))], [[.int .i64 x2.fKind, .int .i64 x2.fSlot, .int .i64 x2.fN, .int .i64 x2.fK, .bool x2.fLmtp, .str x2.fName, .int .i64 x2.fLimit_Bytes, .int .i64 x2.fLimit_Count, .sl none 1 x2.fTo, .sl none 1 x2.fData, .int .i64 x2.fCode, .sl (some ⟨1000000, 11, 3⟩) 1 x2.fKeep]]⟩
def f66_P21 (B : Code) (call : CallF) (n : Nat) (x0 : Bool) (x1 : Int) (x2 : LB) (x3 : Bool) (x4 : S_api_Event) : OR :=
  f66_x B call n [1, 1, 1] (kEnd AXE 1 f66_r) ⟨[(84, .one (.bool x0)), (0, .one (.ptr 0 0)), (1, .one (.int .u8 x1)), (2, .one (.str x2)), (8, .one (.bool x3))], [[.int .i64 x4.fKind, .int .i64 x4.fSlot, .int .i64 x4.fN, .int .i64 x4.fK, .bool x4.fLmtp, .str x4.fName, .int .i64 x4.fLimit_Bytes, .int .i64 x4.fLimit_Count, .sl none 1 x4.fTo, .sl none 1 x4.fData, .int .i64 x4.fCode, .sl (some ⟨1000000, 11, 3⟩) 1 x4.fKeep]]⟩
def f66_P (B : Code) (call : CallF) (n : Nat) (a0 : S_api_Event) (a1 : Int) (a2 : LB) : OR :=
  f66_x B call n [] (kEnd AXE 1 f66_r) ⟨[(0, .one (.ptr 0 0)), (1, .one (.int .u8 a1)), (2, .one (.str a2))], [[.int .i64 a0.fKind, .int .i64 a0.fSlot, .int .i64 a0.fN, .int .i64 a0.fK, .bool a0.fLmtp, .str a0.fName, .int .i64 a0.fLimit_Bytes, .int .i64 a0.fLimit_Count, .sl none 1 a0.fTo, .sl none 1 a0.fData, .int .i64 a0.fCode, .sl (some ⟨1000000, 11, 3⟩) 1 a0.fKeep]]⟩
def f66_T16 (call : CallF) (n : Nat) (x0 : Bool) (x1 : S_api_Event) : OR :=
  some (.one (.bool x0), [[.int .i64 x1.fKind, .int .i64 x1.fSlot, .int .i64 x1.fN, .int .i64 x1.fK, .bool x1.fLmtp, .str x1.fName, .int .i64 x1.fLimit_Bytes, .int .i64 x1.fLimit_Count, .sl none 1 x1.fTo, .sl none 1 x1.fData, .int .i64 x1.fCode, .sl (some ⟨1000000, 11, 3⟩) 1 x1.fKeep]])
theorem f66_o16 (call : CallF) (n : Nat) (B : Code) (hB : B = f66_b) : f66_P16 B call n = f66_T16 call n := by
  subst hB; funext x0 x1; kernel_rfl
theorem f66_l16 (call : CallF) (n : Nat) : f66_P16 f66_b call n = f66_T16 call n :=
  f66_o16 call n _ (by kernel_rfl)
def f66_L16 (call : CallF) (n : Nat) : Bool → S_api_Event → OR :=
  f66_T16 call n
theorem f66_e16 (call : CallF) (n : Nat) : f66_P16 f66_b call n = f66_L16 call n := by
  rw [f66_l16]; rfl
def f66_T17 (call : CallF) (n : Nat) (x0 : Bool) (x1 : S_api_Event) : OR :=
  some (.one (.bool x0), [[.int .i64 x1.fKind, .int .i64 x1.fSlot, .int .i64 x1.fN, .int .i64 x1.fK, .bool x1.fLmtp, .str x1.fName, .int .i64 x1.fLimit_Bytes, .int .i64 x1.fLimit_Count, .sl none 1 x1.fTo, .sl none 1 x1.fData, .int .i64 x1.fCode, .sl (some ⟨1000000, 11, 3⟩) 1 x1.fKeep]])
theorem f66_o17 (call : CallF) (n : Nat) (B : Code) (hB : B = f66_b) : f66_P17 B call n = f66_T17 call n := by
  subst hB; funext x0 x1; kernel_rfl
theorem f66_l17 (call : CallF) (n : Nat) : f66_P17 f66_b call n = f66_T17 call n :=
  f66_o17 call n _ (by kernel_rfl)
def f66_L17 (call : CallF) (n : Nat) : Bool → S_api_Event → OR :=
  f66_T17 call n
theorem f66_e17 (call : CallF) (n : Nat) : f66_P17 f66_b call n = f66_L17 call n := by
  rw [f66_l17]; rfl
def f66_T22 (call : CallF) (n : Nat) (x0 : Bool) (x1 : S_api_Event) : OR :=
  some (.one (.bool x0), [[.int .i64 x1.fKind, .int .i64 x1.fSlot, .int .i64 x1.fN, .int .i64 x1.fK, .bool x1.fLmtp, .str x1.fName, .int .i64 x1.fLimit_Bytes, .int .i64 x1.fLimit_Count, .sl none 1 x1.fTo, .sl none 1 x1.fData, .int .i64 x1.fCode, .sl (some ⟨1000000, 11, 3⟩) 1 x1.fKeep]])
theorem f66_o22 (call : CallF) (n : Nat) (B : Code) (hB : B = f66_b) : f66_P22 B call n = f66_T22 call n := by
  subst hB; funext x0 x1; kernel_rfl
theorem f66_l22 (call : CallF) (n : Nat) : f66_P22 f66_b call n = f66_T22 call n :=
  f66_o22 call n _ (by kernel_rfl)
def f66_L22 (call : CallF) (n : Nat) : Bool → S_api_Event → OR :=
  f66_T22 call n
theorem f66_e22 (call : CallF) (n : Nat) : f66_P22 f66_b call n = f66_L22 call n := by
  rw [f66_l22]; rfl
def f66_T18 (call : CallF) (n : Nat) (j22 : Bool → S_api_Event → OR) (x0 : Bool) (x1 : S_api_Event) : OR :=
  j22 x0 x1
theorem f66_o18 (X0 : Code) (call : CallF) (n : Nat) (B : Code) (hB : B = (hole f66_b [1, 1, 1, 1] X0)) : f66_P18 B call n = f66_T18 call n (f66_P22 B call n) := by
  subst hB; funext x0 x1; kernel_rfl
theorem f66_l18 (call : CallF) (n : Nat) : f66_P18 f66_b call n = f66_T18 call n (f66_P22 f66_b call n) :=
  f66_o18 (piece [1, 1, 1, 1] f66_b) call n _ (by kernel_rfl)
def f66_L18 (call : CallF) (n : Nat) : Bool → S_api_Event → OR :=
  f66_T18 call n (f66_L22 call n)
theorem f66_e18 (call : CallF) (n : Nat) : f66_P18 f66_b call n = f66_L18 call n := by
  rw [f66_l18, f66_e22]; rfl
def f66_T19 (call : CallF) (n : Nat) (x0 : Bool) (x1 : S_api_Event) : OR :=
  some (.one (.bool x0), [[.int .i64 x1.fKind, .int .i64 x1.fSlot, .int .i64 x1.fN, .int .i64 x1.fK, .bool x1.fLmtp, .str x1.fName, .int .i64 x1.fLimit_Bytes, .int .i64 x1.fLimit_Count, .sl none 1 x1.fTo, .sl none 1 x1.fData, .int .i64 x1.fCode, .sl (some ⟨1000000, 11, 3⟩) 1 x1.fKeep]])
theorem f66_o19 (call : CallF) (n : Nat) (B : Code) (hB : B = f66_b) : f66_P19 B call n = f66_T19 call n := by
  subst hB; funext x0 x1; kernel_rfl
theorem f66_l19 (call : CallF) (n : Nat) : f66_P19 f66_b call n = f66_T19 call n :=
  f66_o19 call n _ (by kernel_rfl)
def f66_L19 (call : CallF) (n : Nat) : Bool → S_api_Event → OR :=
  f66_T19 call n
theorem f66_e19 (call : CallF) (n : Nat) : f66_P19 f66_b call n = f66_L19 call n := by
  rw [f66_l19]; rfl
def f66_T26 (call : CallF) (n : Nat) (x0 : Bool) (x1 : S_api_Event) : OR :=
  some (.one (.bool x0), [[.int .i64 x1.fKind, .int .i64 x1.fSlot, .int .i64 x1.fN, .int .i64 x1.fK, .bool x1.fLmtp, .str x1.fName, .int .i64 x1.fLimit_Bytes, .int .i64 x1.fLimit_Count, .sl none 1 x1.fTo, .sl none 1 x1.fData, .int .i64 x1.fCode, .sl (some ⟨1000000, 11, 3⟩) 1 x1.fKeep]])
theorem f66_o26 (call : CallF) (n : Nat) (B : Code) (hB : B = f66_b) : f66_P26 B call n = f66_T26 call n := by
  subst hB; funext x0 x1; kernel_rfl
theorem f66_l26 (call : CallF) (n : Nat) : f66_P26 f66_b call n = f66_T26 call n :=
  f66_o26 call n _ (by kernel_rfl)
def f66_L26 (call : CallF) (n : Nat) : Bool → S_api_Event → OR :=
  f66_T26 call n
theorem f66_e26 (call : CallF) (n : Nat) : f66_P26 f66_b call n = f66_L26 call n := by
  rw [f66_l26]; rfl
def f66_T24 (call : CallF) (n : Nat) (j26 : Bool → S_api_Event → OR) (x0 : S_api_Event) : OR :=
  j26 true x0
theorem f66_o24 (X0 : Code) (call : CallF) (n : Nat) (B : Code) (hB : B = (hole f66_b [1, 1, 0, 1, 0, 1, 1, 1, 1, 1, 1, 1, 1, 1, 1, 1, 1, 1, 1, 1, 0, 1, 0, 1, 0, 1, 1] X0)) : f66_P24 B call n = f66_T24 call n (f66_P26 B call n) := by
  subst hB; funext x0; kernel_rfl
theorem f66_l24 (call : CallF) (n : Nat) : f66_P24 f66_b call n = f66_T24 call n (f66_P26 f66_b call n) :=
  f66_o24 (piece [1, 1, 0, 1, 0, 1, 1, 1, 1, 1, 1, 1, 1, 1, 1, 1, 1, 1, 1, 1, 0, 1, 0, 1, 0, 1, 1] f66_b) call n _ (by kernel_rfl)
def f66_L24 (call : CallF) (n : Nat) : S_api_Event → OR :=
  f66_T24 call n (f66_L26 call n)
theorem f66_e24 (call : CallF) (n : Nat) : f66_P24 f66_b call n = f66_L24 call n := by
  rw [f66_l24, f66_e26]; rfl
def f66_T27 (call : CallF) (n : Nat) (x0 : Bool) (x1 : S_api_Event) : OR :=
  some (.one (.bool x0), [[.int .i64 x1.fKind, .int .i64 x1.fSlot, .int .i64 x1.fN, .int .i64 x1.fK, .bool x1.fLmtp, .str x1.fName, .int .i64 x1.fLimit_Bytes, .int .i64 x1.fLimit_Count, .sl none 1 x1.fTo, .sl none 1 x1.fData, .int .i64 x1.fCode, .sl (some ⟨1000000, 11, 3⟩) 1 x1.fKeep]])
theorem f66_o27 (call : CallF) (n : Nat) (B : Code) (hB : B = f66_b) : f66_P27 B call n = f66_T27 call n := by
  subst hB; funext x0 x1; kernel_rfl
theorem f66_l27 (call : CallF) (n : Nat) : f66_P27 f66_b call n = f66_T27 call n :=
  f66_o27 call n _ (by kernel_rfl)
def f66_L27 (call : CallF) (n : Nat) : Bool → S_api_Event → OR :=
  f66_T27 call n
theorem f66_e27 (call : CallF) (n : Nat) : f66_P27 f66_b call n = f66_L27 call n := by
  rw [f66_l27]; rfl
def f66_T25 (call : CallF) (n : Nat) (j27 : Bool → S_api_Event → OR) (x0 : LB) (x1 : S_api_Event) : OR :=
  callK call 90 [.one (.str x0)] fun v1 =>
  oB v1 fun b2 =>
  j27 b2 x1
theorem f66_o25 (X0 : Code) (call : CallF) (n : Nat) (B : Code) (hB : B = (hole f66_b [1, 1, 0, 1, 0, 1, 1, 1, 1, 1, 1, 1, 1, 1, 1, 1, 1, 1, 1, 1, 0, 1, 1, 1] X0)) : f66_P25 B call n = f66_T25 call n (f66_P27 B call n) := by
  subst hB; funext x0 x1; kernel_rfl
theorem f66_l25 (call : CallF) (n : Nat) : f66_P25 f66_b call n = f66_T25 call n (f66_P27 f66_b call n) :=
  f66_o25 (piece [1, 1, 0, 1, 0, 1, 1, 1, 1, 1, 1, 1, 1, 1, 1, 1, 1, 1, 1, 1, 0, 1, 1, 1] f66_b) call n _ (by kernel_rfl)
def f66_L25 (call : CallF) (n : Nat) : LB → S_api_Event → OR :=
  f66_T25 call n (f66_L27 call n)
theorem f66_e25 (call : CallF) (n : Nat) : f66_P25 f66_b call n = f66_L25 call n := by
  rw [f66_l25, f66_e27]; rfl
def f66_T23 (call : CallF) (n : Nat) (j24 : S_api_Event → OR) (j25 : LB → S_api_Event → OR) (x0 : LB) (x1 : Bool) (x2 : S_api_Event) : OR :=
  bif x1 then (
    j24 ({ x2 with fName := ([] : List UInt8) } : S_api_Event)) else (
    j25 x0 x2)
theorem f66_o23 (X0 X1 : Code) (call : CallF) (n : Nat) (B : Code) (hB : B = (hole (hole f66_b [1, 1, 0, 1, 0, 1, 1, 1, 1, 1, 1, 1, 1, 1, 1, 1, 1, 1, 1, 1, 0, 1, 0, 1, 0, 1] X0) [1, 1, 0, 1, 0, 1, 1, 1, 1, 1, 1, 1, 1, 1, 1, 1, 1, 1, 1, 1, 0, 1, 1] X1)) : f66_P23 B call n = f66_T23 call n (f66_P24 B call n) (f66_P25 B call n) := by
  subst hB; funext x0 x1 x2; cases x1 <;> kernel_rfl
theorem f66_l23 (call : CallF) (n : Nat) : f66_P23 f66_b call n = f66_T23 call n (f66_P24 f66_b call n) (f66_P25 f66_b call n) :=
  f66_o23 (piece [1, 1, 0, 1, 0, 1, 1, 1, 1, 1, 1, 1, 1, 1, 1, 1, 1, 1, 1, 1, 0, 1, 0, 1, 0, 1] f66_b) (piece [1, 1, 0, 1, 0, 1, 1, 1, 1, 1, 1, 1, 1, 1, 1, 1, 1, 1, 1, 1, 0, 1, 1] f66_b) call n _ (by kernel_rfl)
def f66_L23 (call : CallF) (n : Nat) : LB → Bool → S_api_Event → OR :=
  f66_T23 call n (f66_L24 call n) (f66_L25 call n)
theorem f66_e23 (call : CallF) (n : Nat) : f66_P23 f66_b call n = f66_L23 call n := by
  rw [f66_l23, f66_e24, f66_e25]; rfl
def f66_T20 (call : CallF) (n : Nat) (j23 : LB → Bool → S_api_Event → OR) (x0 : Int) (x1 : LB) (x2 : S_api_Event) : OR :=
  bif (x1 == ([42] : List UInt8)) then (
    j23 x1 (x0 == (109 : Int)) x2) else (
    j23 x1 false x2)
theorem f66_o20 (X0 : Code) (call : CallF) (n : Nat) (B : Code) (hB : B = (hole f66_b [1, 1, 0, 1, 0, 1, 1, 1, 1, 1, 1, 1, 1, 1, 1, 1, 1, 1, 1, 1, 0, 1, 0, 1] X0)) : f66_P20 B call n = f66_T20 call n (f66_P23 B call n) := by
  subst hB; funext x0 x1 x2; kernel_rfl
theorem f66_l20 (call : CallF) (n : Nat) : f66_P20 f66_b call n = f66_T20 call n (f66_P23 f66_b call n) :=
  f66_o20 (piece [1, 1, 0, 1, 0, 1, 1, 1, 1, 1, 1, 1, 1, 1, 1, 1, 1, 1, 1, 1, 0, 1, 0, 1] f66_b) call n _ (by kernel_rfl)
def f66_L20 (call : CallF) (n : Nat) : Int → LB → S_api_Event → OR :=
  f66_T20 call n (f66_L23 call n)
theorem f66_e20 (call : CallF) (n : Nat) : f66_P20 f66_b call n = f66_L20 call n := by
  rw [f66_l20, f66_e23]; rfl
def f66_T21 (call : CallF) (n : Nat) (j22 : Bool → S_api_Event → OR) (x0 : Bool) (x1 : Int) (x2 : LB) (x3 : Bool) (x4 : S_api_Event) : OR :=
  j22 x3 x4
theorem f66_o21 (X0 : Code) (call : CallF) (n : Nat) (B : Code) (hB : B = (hole f66_b [1, 1, 1, 1] X0)) : f66_P21 B call n = f66_T21 call n (f66_P22 B call n) := by
  subst hB; funext x0 x1 x2 x3 x4; kernel_rfl
theorem f66_l21 (call : CallF) (n : Nat) : f66_P21 f66_b call n = f66_T21 call n (f66_P22 f66_b call n) :=
  f66_o21 (piece [1, 1, 1, 1] f66_b) call n _ (by kernel_rfl)
def f66_L21 (call : CallF) (n : Nat) : Bool → Int → LB → Bool → S_api_Event → OR :=
  f66_T21 call n (f66_L22 call n)
theorem f66_e21 (call : CallF) (n : Nat) : f66_P21 f66_b call n = f66_L21 call n := by
  rw [f66_l21, f66_e22]; rfl
/-- pigeonhole/script.field -/
def f66_T (call : CallF) (n : Nat) (j16 : Bool → S_api_Event → OR) (j17 : Bool → S_api_Event → OR) (j18 : Bool → S_api_Event → OR) (j19 : Bool → S_api_Event → OR) (j20 : Int → LB → S_api_Event → OR) (j21 : Bool → Int → LB → Bool → S_api_Event → OR) (a0 : S_api_Event) (a1 : Int) (a2 : LB) : OR :=
  callK call 89 [.one (.str a2)] fun v9 =>
  castTup v9 fun v10 =>
  zI .i64 v10 fun n11 r12 =>
  zB r12 fun b13 r14 =>
  nilK r14 (
    bif (a1 == (115 : Int)) then (
      bif b13 then (
        bif (decide (n11 ≥ (0 : Int))) then (
          j16 (decide (n11 < (8 : Int))) ({ a0 with fSlot := n11 } : S_api_Event)) else (
          j16 false ({ a0 with fSlot := n11 } : S_api_Event))) else (
        j16 false ({ a0 with fSlot := n11 } : S_api_Event))) else (
      bif (a1 == (112 : Int)) then (
        bif (a2 == ([108, 109, 116, 112] : List UInt8)) then (
          j17 true ({ a0 with fLmtp := (a2 == ([108, 109, 116, 112] : List UInt8)) } : S_api_Event)) else (
          j17 (a2 == ([115, 109, 116, 112] : List UInt8)) ({ a0 with fLmtp := (a2 == ([108, 109, 116, 112] : List UInt8)) } : S_api_Event))) else (
        bif (a1 == (110 : Int)) then (
          j18 b13 ({ a0 with fN := n11 } : S_api_Event)) else (
          bif (a1 == (107 : Int)) then (
            j18 b13 ({ a0 with fK := n11 } : S_api_Event)) else (
            bif (a1 == (98 : Int)) then (
              j18 b13 ({ a0 with fLimit_Bytes := n11 } : S_api_Event)) else (
              bif (a1 == (99 : Int)) then (
                j18 b13 ({ a0 with fLimit_Count := n11 } : S_api_Event)) else (
                bif (a1 == (101 : Int)) then (
                  bif b13 then (
                    bif (decide (n11 ≥ (0 : Int))) then (
                      j19 (decide (n11 ≤ (17 : Int))) ({ a0 with fCode := n11 } : S_api_Event)) else (
                      j19 false ({ a0 with fCode := n11 } : S_api_Event))) else (
                    j19 false ({ a0 with fCode := n11 } : S_api_Event))) else (
                  bif (a1 == (109 : Int)) then (
                    j20 a1 a2 ({ a0 with fName := a2 } : S_api_Event)) else (
                    bif (a1 == (117 : Int)) then (
                      j20 a1 a2 ({ a0 with fName := a2 } : S_api_Event)) else (
                      j21 false a1 a2 b13 a0))))))))))
def f66_L (call : CallF) (n : Nat) (a0 : S_api_Event) (a1 : Int) (a2 : LB) : OR :=
  f66_T call n (f66_L16 call n) (f66_L17 call n) (f66_L18 call n) (f66_L19 call n) (f66_L20 call n) (f66_L21 call n) a0 a1 a2
theorem f66_o (X0 X1 X2 X3 X4 : Code) (call : CallF) (n : Nat) (B : Code) (hB : B = (hole (hole (hole (hole (hole f66_b [1, 1, 0, 1, 0, 1, 1, 1, 1, 1, 1, 1, 1, 1, 1, 1, 1, 1, 1, 1, 0, 1] X0) [1, 1, 0, 1, 0, 1, 1, 1, 1, 1, 1, 1, 1, 1, 1, 1, 1, 1, 0, 1, 1] X1) [1, 1, 0, 1, 0, 1, 1, 1, 0, 1, 1] X2) [1, 1, 0, 1, 0, 1, 0, 1, 1] X3) [1, 1, 1] X4)) : f66_P B call n = f66_T call n (f66_P16 B call n) (f66_P17 B call n) (f66_P18 B call n) (f66_P19 B call n) (f66_P20 B call n) (f66_P21 B call n) := by
  subst hB; funext a0 a1 a2; kernel_rfl
theorem f66_l (call : CallF) (n : Nat) : f66_P f66_b call n = f66_T call n (f66_P16 f66_b call n) (f66_P17 f66_b call n) (f66_P18 f66_b call n) (f66_P19 f66_b call n) (f66_P20 f66_b call n) (f66_P21 f66_b call n) :=
  f66_o (piece [1, 1, 0, 1, 0, 1, 1, 1, 1, 1, 1, 1, 1, 1, 1, 1, 1, 1, 1, 1, 0, 1] f66_b) (piece [1, 1, 0, 1, 0, 1, 1, 1, 1, 1, 1, 1, 1, 1, 1, 1, 1, 1, 0, 1, 1] f66_b) (piece [1, 1, 0, 1, 0, 1, 1, 1, 0, 1, 1] f66_b) (piece [1, 1, 0, 1, 0, 1, 0, 1, 1] f66_b) (piece [1, 1, 1] f66_b) call n _ (by kernel_rfl)
theorem f66_e (call : CallF) (n : Nat) : f66_P f66_b call n = f66_L call n := by
  rw [f66_l, f66_e16, f66_e17, f66_e18, f66_e19, f66_e20, f66_e21]; rfl
theorem f66_eq (n : Nat) (a0 : S_api_Event) (a1 : Int) (a2 : LB) : acall AXE AXF (n + 1) 66 [.one (.ptr 0 0), .one (.int .u8 a1), .one (.str a2)] [[.int .i64 a0.fKind, .int .i64 a0.fSlot, .int .i64 a0.fN, .int .i64 a0.fK, .bool a0.fLmtp, .str a0.fName, .int .i64 a0.fLimit_Bytes, .int .i64 a0.fLimit_Count, .sl none 1 a0.fTo, .sl none 1 a0.fData, .int .i64 a0.fCode, .sl (some ⟨1000000, 11, 3⟩) 1 a0.fKeep]] = f66_L (acall AXE AXF n) (n + 1) a0 a1 a2 :=
  (show _ = f66_P f66_b (acall AXE AXF n) (n + 1) a0 a1 a2 by kernel_rfl).trans (by rw [f66_e])
def f67_P2 (B : Code) (call : CallF) (n : Nat) (m0 : Nat) (x0 : LC) (x1 x2 : Int) : OR :=
  aloop 1000002 (pruneAt f67_h 1000002) (f67_x B call n [1, 0, 1, 0, 0]) (kBlk 0 (kSeq (f67_x B call n [1, 1]) (kEnd AXE 0 f67_r))) m0 ⟨[(5, .one (.sl none 1 x0)), (6, .one (.int .i64 x1)), (7, .one (.int .i64 x2))], []⟩
def f67_P (B : Code) (call : CallF) (n : Nat) (a0 : LC) : OR :=
  f67_x B call n [] (kEnd AXE 0 f67_r) ⟨[(0, .one (.sl none 1 a0))], []⟩
def f67_T2 (call : CallF) (n : Nat) (j2m : LC → Int → Int → OR) (x0 : LC) (x1 x2 : Int) : OR :=
  bif (decide (x2 < x1)) then (
    itemK x0 x2 fun c1 =>
    castS c1 fun s2 =>
    callK call 90 [.one (.str s2)] fun v3 =>
    oB v3 fun b4 =>
    bif (!b4) then (
      some (.one (.bool false), [])) else (
      j2m x0 x1 (IntKind.wrap .i64 (x2 + (1 : Int))))) else (
    some (.one (.bool true), []))
theorem f67_o2 (call : CallF) (n : Nat) (m0 : Nat) (B : Code) (hB : B = f67_b) : f67_P2 B call n (m0 + 1) = f67_T2 call n (f67_P2 B call n m0) := by
  subst hB; funext x0 x1 x2; kernel_rfl
theorem f67_l2 (call : CallF) (n : Nat) (m0 : Nat) : f67_P2 f67_b call n (m0 + 1) = f67_T2 call n (f67_P2 f67_b call n m0) :=
  f67_o2 call n m0 _ (by kernel_rfl)
def f67_L2 (call : CallF) (n : Nat) : Nat → LC → Int → Int → OR
  | 0 => fun _ _ _ => none
  | m0 + 1 => f67_T2 call n (f67_L2 call n m0)
theorem f67_e2 (call : CallF) (n : Nat) : ∀ m0 : Nat, f67_P2 f67_b call n m0 = f67_L2 call n m0
  | 0 => by funext x0 x1 x2; kernel_rfl
  | m0 + 1 => by rw [f67_l2, f67_e2 call n m0]; rfl
/-- pigeonhole/script.allNames -/
def f67_T (call : CallF) (n : Nat) (j2n : LC → Int → Int → OR) (a0 : LC) : OR :=
  j2n a0 (((a0).length / 1 : Nat) : Int) (0 : Int)
def f67_L (call : CallF) (n : Nat) (a0 : LC) : OR :=
  f67_T call n (f67_L2 call n n) a0
theorem f67_o (call : CallF) (n : Nat) (B : Code) (hB : B = f67_b) : f67_P B call n = f67_T call n (f67_P2 B call n n) := by
  subst hB; funext a0; kernel_rfl
theorem f67_l (call : CallF) (n : Nat) : f67_P f67_b call n = f67_T call n (f67_P2 f67_b call n n) :=
  f67_o call n _ (by kernel_rfl)
theorem f67_e (call : CallF) (n : Nat) : f67_P f67_b call n = f67_L call n := by
  rw [f67_l, f67_e2]; rfl
theorem f67_eq (n : Nat) (a0 : LC) : acall AXE AXF (n + 1) 67 [.one (.sl none 1 a0)] [] = f67_L (acall AXE AXF n) (n + 1) a0 :=
  (show _ = f67_P f67_b (acall AXE AXF n) (n + 1) a0 by kernel_rfl).trans (by rw [f67_e])
def f68_P2 (B : Code) (call : CallF) (n : Nat) (m0 : Nat) (x0 : LC) (x1 x2 : Int) (x3 : S_api_Event) : OR :=
  aloop 1000002 (pruneAt f68_h 1000002) (f68_x B call n [1, 0, 1, 0, 0]) (kBlk 0 (kSeq (f68_x B call n [1, 1]) (kEnd AXE 1 f68_r))) m0 ⟨[(0, .one (.ptr 0 0)), (9, .one (.sl none 1 x0)), (10, .one (.int .i64 x1)), (11, .one (.int .i64 x2))], [[.int .i64 x3.fKind, .int .i64 x3.fSlot, .int .i64 x3.fN, .int .i64 x3.fK, .bool x3.fLmtp, .str x3.fName, .int .i64 x3.fLimit_Bytes, .int .i64 x3.fLimit_Count, .sl none 1 x3.fTo, .sl none 1 x3.fData, .int .i64 x3.fCode, .sl (some ⟨1000000, 11, 3⟩) 1 x3.fKeep]]⟩
def f68_P (B : Code) (call : CallF) (n : Nat) (a0 : S_api_Event) (a1 : LC) : OR :=
  f68_x B call n [] (kEnd AXE 1 f68_r) ⟨[(0, .one (.ptr 0 0)), (1, .one (.sl none 1 a1))], [[.int .i64 a0.fKind, .int .i64 a0.fSlot, .int .i64 a0.fN, .int .i64 a0.fK, .bool a0.fLmtp, .str a0.fName, .int .i64 a0.fLimit_Bytes, .int .i64 a0.fLimit_Count, .sl none 1 a0.fTo, .sl none 1 a0.fData, .int .i64 a0.fCode, .sl (some ⟨1000000, 11, 3⟩) 1 a0.fKeep]]⟩
def f68_T2 (call : CallF) (n : Nat) (j2m : LC → Int → Int → S_api_Event → OR) (x0 : LC) (x1 x2 : Int) (x3 : S_api_Event) : OR :=
  bif (decide (x2 < x1)) then (
    itemK x0 x2 fun c1 =>
    castS c1 fun s2 =>
    callK call 89 [.one (.str s2)] fun v3 =>
    castTup v3 fun v4 =>
    zI .i64 v4 fun n5 r6 =>
    zB r6 fun b7 r8 =>
    nilK r8 (
      bif (!b7) then (
        some (.one (.bool false), [[.int .i64 x3.fKind, .int .i64 x3.fSlot, .int .i64 x3.fN, .int .i64 x3.fK, .bool x3.fLmtp, .str x3.fName, .int .i64 x3.fLimit_Bytes, .int .i64 x3.fLimit_Count, .sl none 1 x3.fTo, .sl none 1 x3.fData, .int .i64 x3.fCode, .sl (some ⟨1000000, 11, 3⟩) 1 x3.fKeep]])) else (
        guardB (decide (((x3.fKeep).length + (([.int .i64 n5] : List Cell)).length) * 1000 ≤ rowLim)) (
          j2m x0 x1 (IntKind.wrap .i64 (x2 + (1 : Int))) ({ x3 with fKeep := (x3.fKeep ++ ([.int .i64 n5] : List Cell)) } : S_api_Event))))) else (
    some (.one (.bool true), [[.int .i64 x3.fKind, .int .i64 x3.fSlot, .int .i64 x3.fN, .int .i64 x3.fK, .bool x3.fLmtp, .str x3.fName, .int .i64 x3.fLimit_Bytes, .int .i64 x3.fLimit_Count, .sl none 1 x3.fTo, .sl none 1 x3.fData, .int .i64 x3.fCode, .sl (some ⟨1000000, 11, 3⟩) 1 x3.fKeep]]))
theorem f68_o2 (call : CallF) (n : Nat) (m0 : Nat) (B : Code) (hB : B = f68_b) : f68_P2 B call n (m0 + 1) = f68_T2 call n (f68_P2 B call n m0) := by
  subst hB; funext x0 x1 x2 x3; kernel_rfl
theorem f68_l2 (call : CallF) (n : Nat) (m0 : Nat) : f68_P2 f68_b call n (m0 + 1) = f68_T2 call n (f68_P2 f68_b call n m0) :=
  f68_o2 call n m0 _ (by kernel_rfl)
def f68_L2 (call : CallF) (n : Nat) : Nat → LC → Int → Int → S_api_Event → OR
  | 0 => fun _ _ _ _ => none
  | m0 + 1 => f68_T2 call n (f68_L2 call n m0)
theorem f68_e2 (call : CallF) (n : Nat) : ∀ m0 : Nat, f68_P2 f68_b call n m0 = f68_L2 call n m0
  | 0 => by funext x0 x1 x2 x3; kernel_rfl
  | m0 + 1 => by rw [f68_l2, f68_e2 call n m0]; rfl
/-- pigeonhole/script.keep -/
def f68_T (call : CallF) (n : Nat) (j2n : LC → Int → Int → S_api_Event → OR) (a0 : S_api_Event) (a1 : LC) : OR :=
  j2n a1 (((a1).length / 1 : Nat) : Int) (0 : Int) a0
def f68_L (call : CallF) (n : Nat) (a0 : S_api_Event) (a1 : LC) : OR :=
  f68_T call n (f68_L2 call n n) a0 a1
theorem f68_o (call : CallF) (n : Nat) (B : Code) (hB : B = f68_b) : f68_P B call n = f68_T call n (f68_P2 B call n n) := by
  subst hB; funext a0 a1; kernel_rfl
theorem f68_l (call : CallF) (n : Nat) : f68_P f68_b call n = f68_T call n (f68_P2 f68_b call n n) :=
  f68_o call n _ (by kernel_rfl)
theorem f68_e (call : CallF) (n : Nat) : f68_P f68_b call n = f68_L call n := by
  rw [f68_l, f68_e2]; rfl
theorem f68_eq (n : Nat) (a0 : S_api_Event) (a1 : LC) : acall AXE AXF (n + 1) 68 [.one (.ptr 0 0), .one (.sl none 1 a1)] [[.int .i64 a0.fKind, .int .i64 a0.fSlot, .int .i64 a0.fN, .int .i64 a0.fK, .bool a0.fLmtp, .str a0.fName, .int .i64 a0.fLimit_Bytes, .int .i64 a0.fLimit_Count, .sl none 1 a0.fTo, .sl none 1 a0.fData, .int .i64 a0.fCode, .sl (some ⟨1000000, 11, 3⟩) 1 a0.fKeep]] = f68_L (acall AXE AXF n) (n + 1) a0 a1 :=
  (show _ = f68_P f68_b (acall AXE AXF n) (n + 1) a0 a1 by kernel_rfl).trans (by rw [f68_e])
def f83_P5 (B : Code) (call : CallF) (n : Nat) (x0 : Int) : OR :=
  f83_x B call n [1, 1, 0, 1, 0, 1] (kSeq (f83_x B call n [1, 1, 1]) (kEnd AXE 0 f83_r)) ⟨[(2, .one (.int .i64 x0))], []⟩
def f83_P2 (B : Code) (call : CallF) (n : Nat) (x0 : Int) (x1 : Bool) : OR :=
  f83_x B call n [1, 1, 0, 1] (kSeq (f83_x B call n [1, 1, 1]) (kEnd AXE 0 f83_r)) ⟨[(3, .one (.int .i64 x0)), (19, .one (.bool x1))], []⟩
def f83_P (B : Code) (call : CallF) (n : Nat) (a0 : LB) : OR :=
  f83_x B call n [] (kEnd AXE 0 f83_r) ⟨[(0, .one (.str a0))], []⟩
def f83_T5 (call : CallF) (n : Nat) (x0 : Int) : OR :=
  some (.one (.int .i64 x0), [])
theorem f83_o5 (call : CallF) (n : Nat) (B : Code) (hB : B = f83_b) : f83_P5 B call n = f83_T5 call n := by
  subst hB; funext x0; kernel_rfl
theorem f83_l5 (call : CallF) (n : Nat) : f83_P5 f83_b call n = f83_T5 call n :=
  f83_o5 call n _ (by kernel_rfl)
def f83_L5 (call : CallF) (n : Nat) : Int → OR :=
  f83_T5 call n
theorem f83_e5 (call : CallF) (n : Nat) : f83_P5 f83_b call n = f83_L5 call n := by
  rw [f83_l5]; rfl
def f83_T2 (call : CallF) (n : Nat) (j5 : Int → OR) (x0 : Int) (x1 : Bool) : OR :=
  bif x1 then (
    j5 (-1 : Int)) else (
    some (.one (.int .i64 x0), []))
theorem f83_o2 (X0 : Code) (call : CallF) (n : Nat) (B : Code) (hB : B = (hole f83_b [1, 1, 0, 1, 0, 1] X0)) : f83_P2 B call n = f83_T2 call n (f83_P5 B call n) := by
  subst hB; funext x0 x1; cases x1 <;> kernel_rfl
theorem f83_l2 (call : CallF) (n : Nat) : f83_P2 f83_b call n = f83_T2 call n (f83_P5 f83_b call n) :=
  f83_o2 (piece [1, 1, 0, 1, 0, 1] f83_b) call n _ (by kernel_rfl)
def f83_L2 (call : CallF) (n : Nat) : Int → Bool → OR :=
  f83_T2 call n (f83_L5 call n)
theorem f83_e2 (call : CallF) (n : Nat) : f83_P2 f83_b call n = f83_L2 call n := by
  rw [f83_l2, f83_e5]; rfl
/-- pigeonhole/pigeonholeref31.slot -/
def f83_T (call : CallF) (n : Nat) (j2 : Int → Bool → OR) (a0 : LB) : OR :=
  callK call 86 [.one (.str a0)] fun v7 =>
  castTup v7 fun v8 =>
  zI .i64 v8 fun n9 r10 =>
  zB r10 fun b11 r12 =>
  nilK r12 (
    bif (!b11) then (
      j2 n9 true) else (
      bif (decide (n9 < (0 : Int))) then (
        j2 n9 true) else (
        j2 n9 (decide (n9 > (7 : Int))))))
def f83_L (call : CallF) (n : Nat) (a0 : LB) : OR :=
  f83_T call n (f83_L2 call n) a0
theorem f83_o (X0 : Code) (call : CallF) (n : Nat) (B : Code) (hB : B = (hole f83_b [1, 1, 0, 1] X0)) : f83_P B call n = f83_T call n (f83_P2 B call n) := by
  subst hB; funext a0; kernel_rfl
theorem f83_l (call : CallF) (n : Nat) : f83_P f83_b call n = f83_T call n (f83_P2 f83_b call n) :=
  f83_o (piece [1, 1, 0, 1] f83_b) call n _ (by kernel_rfl)
theorem f83_e (call : CallF) (n : Nat) : f83_P f83_b call n = f83_L call n := by
  rw [f83_l, f83_e2]; rfl
theorem f83_eq (n : Nat) (a0 : LB) : acall AXE AXF (n + 1) 83 [.one (.str a0)] [] = f83_L (acall AXE AXF n) (n + 1) a0 :=
  (show _ = f83_P f83_b (acall AXE AXF n) (n + 1) a0 by kernel_rfl).trans (by rw [f83_e])
def f84_P6 (B : Code) (call : CallF) (n : Nat) (x0 : LC) (x1 : Bool) : OR :=
  f84_x B call n [1, 1, 0, 1, 0, 1] (kSeq (f84_x B call n [1, 1, 1]) (kEnd AXE 0 f84_r)) ⟨[(2, .one (.sl (some ⟨2, 0, 5⟩) 1 x0)), (3, .one (.bool x1))], []⟩
def f84_P22 (B : Code) (call : CallF) (n : Nat) (m0 : Nat) (x0 : LB) (x1 : Int) (x2 : LC) (x3 x4 : Int) : OR :=
  f84_x B call n [1, 1, 1, 1, 1, 0, 0, 0, 1, 0, 1, 1, 1] (kBlk 1 (kSeq (fun k => prK 1000006 (pruneAt f84_h 1000006) (aloop 1000006 (pruneAt f84_h 1000006) (f84_x B call n [1, 1, 1, 1, 1, 0, 0, 0]) k m0)) (kBlk 0 (kSeq (f84_x B call n [1, 1, 1, 1, 1, 1]) (kEnd AXE 0 f84_r))))) ⟨[(0, .one (.str x0)), (4, .one (.int .i64 x1)), (5, .one (.sl (some ⟨5, 0, 5⟩) 1 x2)), (6, .one (.int .i64 x3)), (7, .one (.int .u8 x4))], []⟩
def f84_P29 (B : Code) (call : CallF) (n : Nat) (m0 : Nat) (x0 : LC) (x1 : Bool) : OR :=
  f84_x B call n [1, 1, 1, 1, 1, 0, 0, 0, 1, 0, 1, 1, 0, 1, 0, 1, 1, 1, 1, 1, 1, 1, 1, 0, 0, 1, 0, 1] (kSeq (f84_x B call n [1, 1, 1, 1, 1, 0, 0, 0, 1, 0, 1, 1, 0, 1, 0, 1, 1, 1, 1, 1, 1, 1, 1, 0, 1]) (kSeq (f84_x B call n [1, 1, 1, 1, 1, 0, 0, 0, 1, 0, 1, 1, 1]) (kBlk 1 (kSeq (fun k => prK 1000006 (pruneAt f84_h 1000006) (aloop 1000006 (pruneAt f84_h 1000006) (f84_x B call n [1, 1, 1, 1, 1, 0, 0, 0]) k m0)) (kBlk 0 (kSeq (f84_x B call n [1, 1, 1, 1, 1, 1]) (kEnd AXE 0 f84_r))))))) ⟨[(2, .one (.sl (some ⟨2, 0, 5⟩) 1 x0)), (3, .one (.bool x1))], []⟩
def f84_P23 (B : Code) (call : CallF) (n : Nat) (m0 : Nat) (x0 : LB) (x1 : Int) (x2 : LC) (x3 : Int) (x4 : Bool) : OR :=
  f84_x B call n [1, 1, 1, 1, 1, 0, 0, 0, 1, 0, 1, 1, 0, 1, 0, 1, 1, 1, 1, 1, 1, 1, 1, 0, 0, 1] (kSeq (f84_x B call n [1, 1, 1, 1, 1, 0, 0, 0, 1, 0, 1, 1, 0, 1, 0, 1, 1, 1, 1, 1, 1, 1, 1, 0, 1]) (kSeq (f84_x B call n [1, 1, 1, 1, 1, 0, 0, 0, 1, 0, 1, 1, 1]) (kBlk 1 (kSeq (fun k => prK 1000006 (pruneAt f84_h 1000006) (aloop 1000006 (pruneAt f84_h 1000006) (f84_x B call n [1, 1, 1, 1, 1, 0, 0, 0]) k m0)) (kBlk 0 (kSeq (f84_x B call n [1, 1, 1, 1, 1, 1]) (kEnd AXE 0 f84_r))))))) ⟨[(0, .one (.str x0)), (4, .one (.int .i64 x1)), (5, .one (.sl (some ⟨5, 0, 5⟩) 1 x2)), (6, .one (.int .i64 x3)), (69, .one (.bool x4))], []⟩
def f84_P30 (B : Code) (call : CallF) (n : Nat) (x0 : LC) (x1 : Bool) : OR :=
  f84_x B call n [1, 1, 1, 1, 1, 1, 0, 1, 0, 1] (kSeq (f84_x B call n [1, 1, 1, 1, 1, 1, 1]) (kEnd AXE 0 f84_r)) ⟨[(2, .one (.sl (some ⟨2, 0, 5⟩) 1 x0)), (3, .one (.bool x1))], []⟩
def f84_P26 (B : Code) (call : CallF) (n : Nat) (x0 : LC) (x1 : Bool) : OR :=
  f84_x B call n [1, 1, 1, 1, 1, 1, 0, 1] (kSeq (f84_x B call n [1, 1, 1, 1, 1, 1, 1]) (kEnd AXE 0 f84_r)) ⟨[(5, .one (.sl (some ⟨5, 0, 5⟩) 1 x0)), (96, .one (.bool x1))], []⟩
def f84_P7 (B : Code) (call : CallF) (n : Nat) (m0 : Nat) (x0 : LB) (x1 : Int) (x2 : LC) (x3 : Int) : OR :=
  aloop 1000006 (pruneAt f84_h 1000006) (f84_x B call n [1, 1, 1, 1, 1, 0, 0, 0]) (kBlk 0 (kSeq (f84_x B call n [1, 1, 1, 1, 1, 1]) (kEnd AXE 0 f84_r))) m0 ⟨[(0, .one (.str x0)), (4, .one (.int .i64 x1)), (5, .one (.sl (some ⟨5, 0, 5⟩) 1 x2)), (6, .one (.int .i64 x3))], []⟩
def f84_P2 (B : Code) (call : CallF) (n : Nat) (x0 : LB) (x1 : Int) (x2 : Bool) : OR :=
  f84_x B call n [1, 1, 0, 1] (kSeq (f84_x B call n [1, 1, 1]) (kEnd AXE 0 f84_r)) ⟨[(0, .one (.str x0)), (4, .one (.int .i64 x1)), (23, .one (.bool x2))], []⟩
def f84_P (B : Code) (call : CallF) (n : Nat) (a0 : LB) : OR :=
  f84_x B call n [] (kEnd AXE 0 f84_r) ⟨[(0, .one (.str a0))], []⟩
def f84_T6 (call : CallF) (n : Nat) (x0 : LC) (x1 : Bool) : OR :=
  some (.tup [.one (.sl (some ⟨2, 0, 5⟩) 1 x0), .one (.bool x1)], [])
theorem f84_o6 (call : CallF) (n : Nat) (B : Code) (hB : B = f84_b) : f84_P6 B call n = f84_T6 call n := by
  subst hB; funext x0 x1; kernel_rfl
theorem f84_l6 (call : CallF) (n : Nat) : f84_P6 f84_b call n = f84_T6 call n :=
  f84_o6 call n _ (by kernel_rfl)
def f84_L6 (call : CallF) (n : Nat) : LC → Bool → OR :=
  f84_T6 call n
theorem f84_e6 (call : CallF) (n : Nat) : f84_P6 f84_b call n = f84_L6 call n := by
  rw [f84_l6]; rfl
def f84_T22 (call : CallF) (n : Nat) (j7m : LB → Int → LC → Int → OR) (x0 : LB) (x1 : Int) (x2 : LC) (x3 x4 : Int) : OR :=
  guardB (decide (((x2).length + (([.int .u8 x4] : List Cell)).length) * 1000 ≤ rowLim)) (
    j7m x0 x1 (x2 ++ ([.int .u8 x4] : List Cell)) x3)
theorem f84_o22 (call : CallF) (n : Nat) (m0 : Nat) (B : Code) (hB : B = f84_b) : f84_P22 B call n m0 = f84_T22 call n (f84_P7 B call n m0) := by
  subst hB; funext x0 x1 x2 x3 x4; kernel_rfl
theorem f84_l22 (call : CallF) (n : Nat) (m0 : Nat) : f84_P22 f84_b call n m0 = f84_T22 call n (f84_P7 f84_b call n m0) :=
  f84_o22 call n m0 _ (by kernel_rfl)
def f84_L22 (call : CallF) (n : Nat) (h_m0 : LB → Int → LC → Int → OR) : LB → Int → LC → Int → Int → OR :=
  f84_T22 call n h_m0
theorem f84_e22 (call : CallF) (n : Nat) (m0 : Nat) : f84_P22 f84_b call n m0 = f84_L22 call n (f84_P7 f84_b call n m0) := by
  rw [f84_l22]; rfl
def f84_T29 (call : CallF) (n : Nat) (x0 : LC) (x1 : Bool) : OR :=
  some (.tup [.one (.sl (some ⟨2, 0, 5⟩) 1 x0), .one (.bool x1)], [])
theorem f84_o29 (call : CallF) (n : Nat) (m0 : Nat) (B : Code) (hB : B = f84_b) : f84_P29 B call n m0 = f84_T29 call n := by
  subst hB; funext x0 x1; kernel_rfl
theorem f84_l29 (call : CallF) (n : Nat) (m0 : Nat) : f84_P29 f84_b call n m0 = f84_T29 call n :=
  f84_o29 call n m0 _ (by kernel_rfl)
def f84_L29 (call : CallF) (n : Nat) (h_m0 : LB → Int → LC → Int → OR) : LC → Bool → OR :=
  f84_T29 call n
theorem f84_e29 (call : CallF) (n : Nat) (m0 : Nat) : f84_P29 f84_b call n m0 = f84_L29 call n (f84_P7 f84_b call n m0) := by
  rw [f84_l29]; rfl
def f84_T23 (call : CallF) (n : Nat) (j29 : LC → Bool → OR) (j22 : LB → Int → LC → Int → Int → OR) (x0 : LB) (x1 : Int) (x2 : LC) (x3 : Int) (x4 : Bool) : OR :=
  bif x4 then (
    j29 ([] : List Cell) false) else (
    itemK x0 x3 fun u1 =>
    callK call 118 [.one (.int .u8 (UInt8.toNat u1 : Int))] fun v2 =>
    oI .i64 v2 fun n3 =>
    itemK x0 (IntKind.wrap .i64 (x3 + (1 : Int))) fun u4 =>
    callK call 118 [.one (.int .u8 (UInt8.toNat u4 : Int))] fun v5 =>
    oI .i64 v5 fun n6 =>
    j22 x0 x1 x2 (IntKind.wrap .i64 (x3 + (2 : Int))) (IntKind.wrap .u8 (IntKind.wrap .i64 ((IntKind.wrap .i64 ((16 : Int) * n3)) + n6))))
theorem f84_o23 (X0 X1 : Code) (call : CallF) (n : Nat) (m0 : Nat) (B : Code) (hB : B = (hole (hole f84_b [1, 1, 1, 1, 1, 0, 0, 0, 1, 0, 1, 1, 0, 1, 0, 1, 1, 1, 1, 1, 1, 1, 1, 0, 0, 1, 0, 1] X0) [1, 1, 1, 1, 1, 0, 0, 0, 1, 0, 1, 1, 1] X1)) : f84_P23 B call n m0 = f84_T23 call n (f84_P29 B call n m0) (f84_P22 B call n m0) := by
  subst hB; funext x0 x1 x2 x3 x4; cases x4 <;> kernel_rfl
theorem f84_l23 (call : CallF) (n : Nat) (m0 : Nat) : f84_P23 f84_b call n m0 = f84_T23 call n (f84_P29 f84_b call n m0) (f84_P22 f84_b call n m0) :=
  f84_o23 (piece [1, 1, 1, 1, 1, 0, 0, 0, 1, 0, 1, 1, 0, 1, 0, 1, 1, 1, 1, 1, 1, 1, 1, 0, 0, 1, 0, 1] f84_b) (piece [1, 1, 1, 1, 1, 0, 0, 0, 1, 0, 1, 1, 1] f84_b) call n m0 _ (by kernel_rfl)
def f84_L23 (call : CallF) (n : Nat) (h_m0 : LB → Int → LC → Int → OR) : LB → Int → LC → Int → Bool → OR :=
  f84_T23 call n (f84_L29 call n h_m0) (f84_L22 call n h_m0)
theorem f84_e23 (call : CallF) (n : Nat) (m0 : Nat) : f84_P23 f84_b call n m0 = f84_L23 call n (f84_P7 f84_b call n m0) := by
  rw [f84_l23, f84_e29, f84_e22]; rfl
def f84_T30 (call : CallF) (n : Nat) (x0 : LC) (x1 : Bool) : OR :=
  some (.tup [.one (.sl (some ⟨2, 0, 5⟩) 1 x0), .one (.bool x1)], [])
theorem f84_o30 (call : CallF) (n : Nat) (B : Code) (hB : B = f84_b) : f84_P30 B call n = f84_T30 call n := by
  subst hB; funext x0 x1; kernel_rfl
theorem f84_l30 (call : CallF) (n : Nat) : f84_P30 f84_b call n = f84_T30 call n :=
  f84_o30 call n _ (by kernel_rfl)
def f84_L30 (call : CallF) (n : Nat) : LC → Bool → OR :=
  f84_T30 call n
theorem f84_e30 (call : CallF) (n : Nat) : f84_P30 f84_b call n = f84_L30 call n := by
  rw [f84_l30]; rfl
def f84_T26 (call : CallF) (n : Nat) (j30 : LC → Bool → OR) (x0 : LC) (x1 : Bool) : OR :=
  bif x1 then (
    j30 ([] : List Cell) false) else (
    some (.tup [.one (.sl (some ⟨2, 0, 5⟩) 1 x0), .one (.bool true)], []))
theorem f84_o26 (X0 : Code) (call : CallF) (n : Nat) (B : Code) (hB : B = (hole f84_b [1, 1, 1, 1, 1, 1, 0, 1, 0, 1] X0)) : f84_P26 B call n = f84_T26 call n (f84_P30 B call n) := by
  subst hB; funext x0 x1; cases x1 <;> kernel_rfl
theorem f84_l26 (call : CallF) (n : Nat) : f84_P26 f84_b call n = f84_T26 call n (f84_P30 f84_b call n) :=
  f84_o26 (piece [1, 1, 1, 1, 1, 1, 0, 1, 0, 1] f84_b) call n _ (by kernel_rfl)
def f84_L26 (call : CallF) (n : Nat) : LC → Bool → OR :=
  f84_T26 call n (f84_L30 call n)
theorem f84_e26 (call : CallF) (n : Nat) : f84_P26 f84_b call n = f84_L26 call n := by
  rw [f84_l26, f84_e30]; rfl
def f84_T7 (call : CallF) (n : Nat) (j22 : LB → Int → LC → Int → Int → OR) (j23 : LB → Int → LC → Int → Bool → OR) (j26 : LC → Bool → OR) (x0 : LB) (x1 : Int) (x2 : LC) (x3 : Int) : OR :=
  bif (decide (x3 < (IntKind.wrap .i64 (x1 - (1 : Int))))) then (
    itemK x0 x3 fun u1 =>
    bif ((UInt8.toNat u1 : Int) == (92 : Int)) then (
      bif (decide ((IntKind.wrap .i64 (x3 + (1 : Int))) ≥ (IntKind.wrap .i64 (x1 - (1 : Int))))) then (
        some (.tup [.one (.sl (some ⟨2, 0, 5⟩) 1 ([] : List Cell)), .one (.bool false)], [])) else (
        itemK x0 (IntKind.wrap .i64 (x3 + (1 : Int))) fun u2 =>
        bif ((UInt8.toNat u2 : Int) == (114 : Int)) then (
          j22 x0 x1 x2 (IntKind.wrap .i64 ((IntKind.wrap .i64 (x3 + (1 : Int))) + (1 : Int))) (13 : Int)) else (
          bif ((UInt8.toNat u2 : Int) == (110 : Int)) then (
            j22 x0 x1 x2 (IntKind.wrap .i64 ((IntKind.wrap .i64 (x3 + (1 : Int))) + (1 : Int))) (10 : Int)) else (
            bif ((UInt8.toNat u2 : Int) == (120 : Int)) then (
              bif (decide ((IntKind.wrap .i64 ((IntKind.wrap .i64 ((IntKind.wrap .i64 (x3 + (1 : Int))) + (1 : Int))) + (2 : Int))) > (IntKind.wrap .i64 (x1 - (1 : Int))))) then (
                j23 x0 x1 x2 (IntKind.wrap .i64 ((IntKind.wrap .i64 (x3 + (1 : Int))) + (1 : Int))) true) else (
                itemK x0 (IntKind.wrap .i64 ((IntKind.wrap .i64 (x3 + (1 : Int))) + (1 : Int))) fun u3 =>
                callK call 118 [.one (.int .u8 (UInt8.toNat u3 : Int))] fun v4 =>
                oI .i64 v4 fun n5 =>
                bif (decide (n5 < (0 : Int))) then (
                  j23 x0 x1 x2 (IntKind.wrap .i64 ((IntKind.wrap .i64 (x3 + (1 : Int))) + (1 : Int))) true) else (
                  itemK x0 (IntKind.wrap .i64 ((IntKind.wrap .i64 ((IntKind.wrap .i64 (x3 + (1 : Int))) + (1 : Int))) + (1 : Int))) fun u6 =>
                  callK call 118 [.one (.int .u8 (UInt8.toNat u6 : Int))] fun v7 =>
                  oI .i64 v7 fun n8 =>
                  j23 x0 x1 x2 (IntKind.wrap .i64 ((IntKind.wrap .i64 (x3 + (1 : Int))) + (1 : Int))) (decide (n8 < (0 : Int)))))) else (
              j22 x0 x1 x2 (IntKind.wrap .i64 ((IntKind.wrap .i64 (x3 + (1 : Int))) + (1 : Int))) (UInt8.toNat u2 : Int)))))) else (
      j22 x0 x1 x2 (IntKind.wrap .i64 (x3 + (1 : Int))) (UInt8.toNat u1 : Int))) else (
    callK call 26 [.one (.sl none 1 x2)] fun v9 =>
    oS v9 fun s10 =>
    bif (!(s10 == x0)) then (
      j26 x2 true) else (
      j26 x2 (decide ((((x2).length / 1 : Nat) : Int) > (4096 : Int)))))
theorem f84_o7 (X0 X1 X2 : Code) (call : CallF) (n : Nat) (m0 : Nat) (B : Code) (hB : B = (hole (hole (hole f84_b [1, 1, 1, 1, 1, 0, 0, 0, 1, 0, 1, 1, 0, 1, 0, 1, 1, 1, 1, 1, 1, 1, 1, 0, 0, 1] X0) [1, 1, 1, 1, 1, 0, 0, 0, 1, 0, 1, 1, 1] X1) [1, 1, 1, 1, 1, 1, 0, 1] X2)) : f84_P7 B call n (m0 + 1) = f84_T7 call n (f84_P22 B call n m0) (f84_P23 B call n m0) (f84_P26 B call n) := by
  subst hB; funext x0 x1 x2 x3; kernel_rfl
theorem f84_l7 (call : CallF) (n : Nat) (m0 : Nat) : f84_P7 f84_b call n (m0 + 1) = f84_T7 call n (f84_P22 f84_b call n m0) (f84_P23 f84_b call n m0) (f84_P26 f84_b call n) :=
  f84_o7 (piece [1, 1, 1, 1, 1, 0, 0, 0, 1, 0, 1, 1, 0, 1, 0, 1, 1, 1, 1, 1, 1, 1, 1, 0, 0, 1] f84_b) (piece [1, 1, 1, 1, 1, 0, 0, 0, 1, 0, 1, 1, 1] f84_b) (piece [1, 1, 1, 1, 1, 1, 0, 1] f84_b) call n m0 _ (by kernel_rfl)
def f84_L7 (call : CallF) (n : Nat) : Nat → LB → Int → LC → Int → OR
  | 0 => fun _ _ _ _ => none
  | m0 + 1 => f84_T7 call n (f84_L22 call n (f84_L7 call n m0)) (f84_L23 call n (f84_L7 call n m0)) (f84_L26 call n)
theorem f84_e7 (call : CallF) (n : Nat) : ∀ m0 : Nat, f84_P7 f84_b call n m0 = f84_L7 call n m0
  | 0 => by funext x0 x1 x2 x3; kernel_rfl
  | m0 + 1 => by rw [f84_l7, f84_e22, f84_e23, f84_e26, f84_e7 call n m0]; rfl
def f84_T2 (call : CallF) (n : Nat) (j6 : LC → Bool → OR) (j7n : LB → Int → LC → Int → OR) (x0 : LB) (x1 : Int) (x2 : Bool) : OR :=
  bif x2 then (
    j6 ([] : List Cell) false) else (
    j7n x0 x1 ([] : List Cell) (1 : Int))
theorem f84_o2 (X0 : Code) (call : CallF) (n : Nat) (B : Code) (hB : B = (hole f84_b [1, 1, 0, 1, 0, 1] X0)) : f84_P2 B call n = f84_T2 call n (f84_P6 B call n) (f84_P7 B call n n) := by
  subst hB; funext x0 x1 x2; cases x2 <;> kernel_rfl
theorem f84_l2 (call : CallF) (n : Nat) : f84_P2 f84_b call n = f84_T2 call n (f84_P6 f84_b call n) (f84_P7 f84_b call n n) :=
  f84_o2 (piece [1, 1, 0, 1, 0, 1] f84_b) call n _ (by kernel_rfl)
def f84_L2 (call : CallF) (n : Nat) : LB → Int → Bool → OR :=
  f84_T2 call n (f84_L6 call n) (f84_L7 call n n)
theorem f84_e2 (call : CallF) (n : Nat) : f84_P2 f84_b call n = f84_L2 call n := by
  rw [f84_l2, f84_e6, f84_e7]; rfl
/-- pigeonhole/pigeonholeref31.data -/
def f84_T (call : CallF) (n : Nat) (j2 : LB → Int → Bool → OR) (a0 : LB) : OR :=
  bif (decide (((a0).length : Int) < (2 : Int))) then (
    j2 a0 ((a0).length : Int) true) else (
    itemK a0 (0 : Int) fun u19 =>
    bif ((UInt8.toNat u19 : Int) != (34 : Int)) then (
      j2 a0 ((a0).length : Int) true) else (
      itemK a0 (IntKind.wrap .i64 (((a0).length : Int) - (1 : Int))) fun u20 =>
      j2 a0 ((a0).length : Int) ((UInt8.toNat u20 : Int) != (34 : Int))))
def f84_L (call : CallF) (n : Nat) (a0 : LB) : OR :=
  f84_T call n (f84_L2 call n) a0
theorem f84_o (X0 : Code) (call : CallF) (n : Nat) (B : Code) (hB : B = (hole f84_b [1, 1, 0, 1] X0)) : f84_P B call n = f84_T call n (f84_P2 B call n) := by
  subst hB; funext a0; kernel_rfl
theorem f84_l (call : CallF) (n : Nat) : f84_P f84_b call n = f84_T call n (f84_P2 f84_b call n) :=
  f84_o (piece [1, 1, 0, 1] f84_b) call n _ (by kernel_rfl)
theorem f84_e (call : CallF) (n : Nat) : f84_P f84_b call n = f84_L call n := by
  rw [f84_l, f84_e2]; rfl
theorem f84_eq (n : Nat) (a0 : LB) : acall AXE AXF (n + 1) 84 [.one (.str a0)] [] = f84_L (acall AXE AXF n) (n + 1) a0 :=
  (show _ = f84_P f84_b (acall AXE AXF n) (n + 1) a0 by kernel_rfl).trans (by rw [f84_e])
def f85_P9 (B : Code) (call : CallF) (n : Nat) (m0 : Nat) (x0 : Bool) : OR :=
  f85_x B call n [1, 0, 1, 0, 0, 1, 0, 0, 1, 1, 0, 1] (kBlk 1 (kSeq (f85_x B call n [1, 0, 1, 0, 0, 1, 1]) (kSeq (fun k => prK 1000002 (pruneAt f85_h 1000002) (aloop 1000002 (pruneAt f85_h 1000002) (f85_x B call n [1, 0, 1, 0, 0]) k m0)) (kBlk 0 (kSeq (f85_x B call n [1, 1]) (kEnd AXE 0 f85_r)))))) ⟨[(2, .one (.bool x0))], []⟩
def f85_P10 (B : Code) (call : CallF) (n : Nat) (m0 : Nat) (x0 : LB) (x1 : Int) : OR :=
  f85_x B call n [1, 0, 1, 0, 0, 1, 1] (kSeq (fun k => prK 1000002 (pruneAt f85_h 1000002) (aloop 1000002 (pruneAt f85_h 1000002) (f85_x B call n [1, 0, 1, 0, 0]) k m0)) (kBlk 0 (kSeq (f85_x B call n [1, 1]) (kEnd AXE 0 f85_r)))) ⟨[(0, .one (.str x0)), (3, .one (.int .i64 x1))], []⟩
def f85_P7 (B : Code) (call : CallF) (n : Nat) (m0 : Nat) (x0 : LB) (x1 : Int) (x2 : Bool) : OR :=
  f85_x B call n [1, 0, 1, 0, 0, 1, 0, 0, 1, 1] (kBlk 1 (kSeq (f85_x B call n [1, 0, 1, 0, 0, 1, 1]) (kSeq (fun k => prK 1000002 (pruneAt f85_h 1000002) (aloop 1000002 (pruneAt f85_h 1000002) (f85_x B call n [1, 0, 1, 0, 0]) k m0)) (kBlk 0 (kSeq (f85_x B call n [1, 1]) (kEnd AXE 0 f85_r)))))) ⟨[(0, .one (.str x0)), (3, .one (.int .i64 x1)), (41, .one (.bool x2))], []⟩
def f85_P8 (B : Code) (call : CallF) (n : Nat) (x0 : Bool) : OR :=
  f85_x B call n [1, 1, 1] (kEnd AXE 0 f85_r) ⟨[(2, .one (.bool x0))], []⟩
def f85_P2 (B : Code) (call : CallF) (n : Nat) (m0 : Nat) (x0 : LB) (x1 : Int) : OR :=
  aloop 1000002 (pruneAt f85_h 1000002) (f85_x B call n [1, 0, 1, 0, 0]) (kBlk 0 (kSeq (f85_x B call n [1, 1]) (kEnd AXE 0 f85_r))) m0 ⟨[(0, .one (.str x0)), (3, .one (.int .i64 x1))], []⟩
def f85_P (B : Code) (call : CallF) (n : Nat) (a0 : LB) : OR :=
  f85_x B call n [] (kEnd AXE 0 f85_r) ⟨[(0, .one (.str a0))], []⟩
def f85_T9 (call : CallF) (n : Nat) (x0 : Bool) : OR :=
  some (.one (.bool x0), [])
theorem f85_o9 (call : CallF) (n : Nat) (m0 : Nat) (B : Code) (hB : B = f85_b) : f85_P9 B call n m0 = f85_T9 call n := by
  subst hB; funext x0; kernel_rfl
theorem f85_l9 (call : CallF) (n : Nat) (m0 : Nat) : f85_P9 f85_b call n m0 = f85_T9 call n :=
  f85_o9 call n m0 _ (by kernel_rfl)
def f85_L9 (call : CallF) (n : Nat) (h_m0 : LB → Int → OR) : Bool → OR :=
  f85_T9 call n
theorem f85_e9 (call : CallF) (n : Nat) (m0 : Nat) : f85_P9 f85_b call n m0 = f85_L9 call n (f85_P2 f85_b call n m0) := by
  rw [f85_l9]; rfl
def f85_T10 (call : CallF) (n : Nat) (j2m : LB → Int → OR) (x0 : LB) (x1 : Int) : OR :=
  j2m x0 (IntKind.wrap .i64 (x1 + (1 : Int)))
theorem f85_o10 (call : CallF) (n : Nat) (m0 : Nat) (B : Code) (hB : B = f85_b) : f85_P10 B call n m0 = f85_T10 call n (f85_P2 B call n m0) := by
  subst hB; funext x0 x1; kernel_rfl
theorem f85_l10 (call : CallF) (n : Nat) (m0 : Nat) : f85_P10 f85_b call n m0 = f85_T10 call n (f85_P2 f85_b call n m0) :=
  f85_o10 call n m0 _ (by kernel_rfl)
def f85_L10 (call : CallF) (n : Nat) (h_m0 : LB → Int → OR) : LB → Int → OR :=
  f85_T10 call n h_m0
theorem f85_e10 (call : CallF) (n : Nat) (m0 : Nat) : f85_P10 f85_b call n m0 = f85_L10 call n (f85_P2 f85_b call n m0) := by
  rw [f85_l10]; rfl
def f85_T7 (call : CallF) (n : Nat) (j9 : Bool → OR) (j10 : LB → Int → OR) (x0 : LB) (x1 : Int) (x2 : Bool) : OR :=
  bif x2 then (
    j9 false) else (
    j10 x0 x1)
theorem f85_o7 (X0 X1 : Code) (call : CallF) (n : Nat) (m0 : Nat) (B : Code) (hB : B = (hole (hole f85_b [1, 0, 1, 0, 0, 1, 0, 0, 1, 1, 0, 1] X0) [1, 0, 1, 0, 0, 1, 1] X1)) : f85_P7 B call n m0 = f85_T7 call n (f85_P9 B call n m0) (f85_P10 B call n m0) := by
  subst hB; funext x0 x1 x2; cases x2 <;> kernel_rfl
theorem f85_l7 (call : CallF) (n : Nat) (m0 : Nat) : f85_P7 f85_b call n m0 = f85_T7 call n (f85_P9 f85_b call n m0) (f85_P10 f85_b call n m0) :=
  f85_o7 (piece [1, 0, 1, 0, 0, 1, 0, 0, 1, 1, 0, 1] f85_b) (piece [1, 0, 1, 0, 0, 1, 1] f85_b) call n m0 _ (by kernel_rfl)
def f85_L7 (call : CallF) (n : Nat) (h_m0 : LB → Int → OR) : LB → Int → Bool → OR :=
  f85_T7 call n (f85_L9 call n h_m0) (f85_L10 call n h_m0)
theorem f85_e7 (call : CallF) (n : Nat) (m0 : Nat) : f85_P7 f85_b call n m0 = f85_L7 call n (f85_P2 f85_b call n m0) := by
  rw [f85_l7, f85_e9, f85_e10]; rfl
def f85_T8 (call : CallF) (n : Nat) (x0 : Bool) : OR :=
  some (.one (.bool x0), [])
theorem f85_o8 (call : CallF) (n : Nat) (B : Code) (hB : B = f85_b) : f85_P8 B call n = f85_T8 call n := by
  subst hB; funext x0; kernel_rfl
theorem f85_l8 (call : CallF) (n : Nat) : f85_P8 f85_b call n = f85_T8 call n :=
  f85_o8 call n _ (by kernel_rfl)
def f85_L8 (call : CallF) (n : Nat) : Bool → OR :=
  f85_T8 call n
theorem f85_e8 (call : CallF) (n : Nat) : f85_P8 f85_b call n = f85_L8 call n := by
  rw [f85_l8]; rfl
def f85_T2 (call : CallF) (n : Nat) (j7 : LB → Int → Bool → OR) (j8 : Bool → OR) (x0 : LB) (x1 : Int) : OR :=
  bif (decide (x1 < ((x0).length : Int))) then (
    itemK x0 x1 fun u1 =>
    bif (decide ((UInt8.toNat u1 : Int) ≥ (97 : Int))) then (
      bif (!(decide ((UInt8.toNat u1 : Int) ≤ (122 : Int)))) then (
        bif (decide ((UInt8.toNat u1 : Int) ≥ (48 : Int))) then (
          bif (!(decide ((UInt8.toNat u1 : Int) ≤ (57 : Int)))) then (
            bif ((UInt8.toNat u1 : Int) != (46 : Int)) then (
              bif ((UInt8.toNat u1 : Int) != (45 : Int)) then (
                j7 x0 x1 ((UInt8.toNat u1 : Int) != (95 : Int))) else (
                j7 x0 x1 false)) else (
              j7 x0 x1 false)) else (
            j7 x0 x1 false)) else (
          bif ((UInt8.toNat u1 : Int) != (46 : Int)) then (
            bif ((UInt8.toNat u1 : Int) != (45 : Int)) then (
              j7 x0 x1 ((UInt8.toNat u1 : Int) != (95 : Int))) else (
              j7 x0 x1 false)) else (
            j7 x0 x1 false))) else (
        j7 x0 x1 false)) else (
      bif (decide ((UInt8.toNat u1 : Int) ≥ (48 : Int))) then (
        bif (!(decide ((UInt8.toNat u1 : Int) ≤ (57 : Int)))) then (
          bif ((UInt8.toNat u1 : Int) != (46 : Int)) then (
            bif ((UInt8.toNat u1 : Int) != (45 : Int)) then (
              j7 x0 x1 ((UInt8.toNat u1 : Int) != (95 : Int))) else (
              j7 x0 x1 false)) else (
            j7 x0 x1 false)) else (
          j7 x0 x1 false)) else (
        bif ((UInt8.toNat u1 : Int) != (46 : Int)) then (
          bif ((UInt8.toNat u1 : Int) != (45 : Int)) then (
            j7 x0 x1 ((UInt8.toNat u1 : Int) != (95 : Int))) else (
            j7 x0 x1 false)) else (
          j7 x0 x1 false)))) else (
    bif (decide (((x0).length : Int) ≥ (1 : Int))) then (
      j8 (decide (((x0).length : Int) ≤ (32 : Int)))) else (
      j8 false))
theorem f85_o2 (X0 X1 : Code) (call : CallF) (n : Nat) (m0 : Nat) (B : Code) (hB : B = (hole (hole f85_b [1, 0, 1, 0, 0, 1, 0, 0, 1, 1] X0) [1, 1, 1] X1)) : f85_P2 B call n (m0 + 1) = f85_T2 call n (f85_P7 B call n m0) (f85_P8 B call n) := by
  subst hB; funext x0 x1; kernel_rfl
theorem f85_l2 (call : CallF) (n : Nat) (m0 : Nat) : f85_P2 f85_b call n (m0 + 1) = f85_T2 call n (f85_P7 f85_b call n m0) (f85_P8 f85_b call n) :=
  f85_o2 (piece [1, 0, 1, 0, 0, 1, 0, 0, 1, 1] f85_b) (piece [1, 1, 1] f85_b) call n m0 _ (by kernel_rfl)
def f85_L2 (call : CallF) (n : Nat) : Nat → LB → Int → OR
  | 0 => fun _ _ => none
  | m0 + 1 => f85_T2 call n (f85_L7 call n (f85_L2 call n m0)) (f85_L8 call n)
theorem f85_e2 (call : CallF) (n : Nat) : ∀ m0 : Nat, f85_P2 f85_b call n m0 = f85_L2 call n m0
  | 0 => by funext x0 x1; kernel_rfl
  | m0 + 1 => by rw [f85_l2, f85_e7, f85_e8, f85_e2 call n m0]; rfl
/-- pigeonhole/pigeonholeref13.Name -/
def f85_T (call : CallF) (n : Nat) (j2n : LB → Int → OR) (a0 : LB) : OR :=
  j2n a0 (0 : Int)
def f85_L (call : CallF) (n : Nat) (a0 : LB) : OR :=
  f85_T call n (f85_L2 call n n) a0
theorem f85_o (call : CallF) (n : Nat) (B : Code) (hB : B = f85_b) : f85_P B call n = f85_T call n (f85_P2 B call n n) := by
  subst hB; funext a0; kernel_rfl
theorem f85_l (call : CallF) (n : Nat) : f85_P f85_b call n = f85_T call n (f85_P2 f85_b call n n) :=
  f85_o call n _ (by kernel_rfl)
theorem f85_e (call : CallF) (n : Nat) : f85_P f85_b call n = f85_L call n := by
  rw [f85_l, f85_e2]; rfl
theorem f85_eq (n : Nat) (a0 : LB) : acall AXE AXF (n + 1) 85 [.one (.str a0)] [] = f85_L (acall AXE AXF n) (n + 1) a0 :=
  (show _ = f85_P f85_b (acall AXE AXF n) (n + 1) a0 by kernel_rfl).trans (by rw [f85_e])
def f86_P9 (B : Code) (call : CallF) (n : Nat) (m0 : Nat) (x0 : LB) (x1 x2 : Int) : OR :=
  f86_x B call n [1, 1, 0, 1, 0, 0, 1, 1] (kSeq (fun k => prK 1000003 (pruneAt f86_h 1000003) (aloop 1000003 (pruneAt f86_h 1000003) (f86_x B call n [1, 1, 0, 1, 0, 0]) k m0)) (kBlk 0 (kSeq (f86_x B call n [1, 1, 1]) (kEnd AXE 0 f86_r)))) ⟨[(0, .one (.str x0)), (4, .one (.int .i64 x1)), (5, .one (.int .i64 x2))], []⟩
def f86_P17 (B : Code) (call : CallF) (n : Nat) (m0 : Nat) (x0 : Int) (x1 : Bool) : OR :=
  f86_x B call n [1, 1, 0, 1, 0, 0, 1, 0, 0, 1, 0, 1, 0, 1] (kSeq (f86_x B call n [1, 1, 0, 1, 0, 0, 1, 0, 0, 1, 1]) (kBlk 1 (kSeq (f86_x B call n [1, 1, 0, 1, 0, 0, 1, 1]) (kSeq (fun k => prK 1000003 (pruneAt f86_h 1000003) (aloop 1000003 (pruneAt f86_h 1000003) (f86_x B call n [1, 1, 0, 1, 0, 0]) k m0)) (kBlk 0 (kSeq (f86_x B call n [1, 1, 1]) (kEnd AXE 0 f86_r))))))) ⟨[(2, .one (.int .i64 x0)), (3, .one (.bool x1))], []⟩
def f86_P12 (B : Code) (call : CallF) (n : Nat) (m0 : Nat) (x0 : LB) (x1 x2 : Int) (x3 : Bool) : OR :=
  f86_x B call n [1, 1, 0, 1, 0, 0, 1, 0, 0, 1, 0, 1] (kSeq (f86_x B call n [1, 1, 0, 1, 0, 0, 1, 0, 0, 1, 1]) (kBlk 1 (kSeq (f86_x B call n [1, 1, 0, 1, 0, 0, 1, 1]) (kSeq (fun k => prK 1000003 (pruneAt f86_h 1000003) (aloop 1000003 (pruneAt f86_h 1000003) (f86_x B call n [1, 1, 0, 1, 0, 0]) k m0)) (kBlk 0 (kSeq (f86_x B call n [1, 1, 1]) (kEnd AXE 0 f86_r))))))) ⟨[(0, .one (.str x0)), (4, .one (.int .i64 x1)), (5, .one (.int .i64 x2)), (32, .one (.bool x3))], []⟩
def f86_P10 (B : Code) (call : CallF) (n : Nat) (m0 : Nat) (x0 : LB) (x1 x2 : Int) : OR :=
  f86_x B call n [1, 1, 0, 1, 0, 0, 1, 0, 0, 1] (kBlk 1 (kSeq (f86_x B call n [1, 1, 0, 1, 0, 0, 1, 1]) (kSeq (fun k => prK 1000003 (pruneAt f86_h 1000003) (aloop 1000003 (pruneAt f86_h 1000003) (f86_x B call n [1, 1, 0, 1, 0, 0]) k m0)) (kBlk 0 (kSeq (f86_x B call n [1, 1, 1]) (kEnd AXE 0 f86_r)))))) ⟨[(0, .one (.str x0)), (4, .one (.int .i64 x1)), (5, .one (.int .i64 x2))], []⟩
def f86_P7 (B : Code) (call : CallF) (n : Nat) (m0 : Nat) (x0 : LB) (x1 x2 : Int) (x3 : Bool) : OR :=
  f86_x B call n [1, 1, 0, 1, 0, 0, 1, 0, 0, 0, 1] (kSeq (f86_x B call n [1, 1, 0, 1, 0, 0, 1, 0, 0, 1]) (kBlk 1 (kSeq (f86_x B call n [1, 1, 0, 1, 0, 0, 1, 1]) (kSeq (fun k => prK 1000003 (pruneAt f86_h 1000003) (aloop 1000003 (pruneAt f86_h 1000003) (f86_x B call n [1, 1, 0, 1, 0, 0]) k m0)) (kBlk 0 (kSeq (f86_x B call n [1, 1, 1]) (kEnd AXE 0 f86_r))))))) ⟨[(0, .one (.str x0)), (4, .one (.int .i64 x1)), (5, .one (.int .i64 x2)), (18, .one (.bool x3))], []⟩
def f86_P18 (B : Code) (call : CallF) (n : Nat) (x0 : Int) (x1 : Bool) : OR :=
  f86_x B call n [1, 1, 1, 1, 0, 1, 0, 1] (kSeq (f86_x B call n [1, 1, 1, 1, 1]) (kEnd AXE 0 f86_r)) ⟨[(2, .one (.int .i64 x0)), (3, .one (.bool x1))], []⟩
def f86_P14 (B : Code) (call : CallF) (n : Nat) (x0 : Int) (x1 : Bool) : OR :=
  f86_x B call n [1, 1, 1, 1, 0, 1] (kSeq (f86_x B call n [1, 1, 1, 1, 1]) (kEnd AXE 0 f86_r)) ⟨[(4, .one (.int .i64 x0)), (59, .one (.bool x1))], []⟩
def f86_P11 (B : Code) (call : CallF) (n : Nat) (x0 : LB) (x1 : Int) : OR :=
  f86_x B call n [1, 1, 1, 1] (kEnd AXE 0 f86_r) ⟨[(0, .one (.str x0)), (4, .one (.int .i64 x1))], []⟩
def f86_P8 (B : Code) (call : CallF) (n : Nat) (x0 : LB) (x1 : Int) (x2 : Bool) : OR :=
  f86_x B call n [1, 1, 1, 0, 1] (kSeq (f86_x B call n [1, 1, 1, 1]) (kEnd AXE 0 f86_r)) ⟨[(0, .one (.str x0)), (4, .one (.int .i64 x1)), (48, .one (.bool x2))], []⟩
def f86_P3 (B : Code) (call : CallF) (n : Nat) (m0 : Nat) (x0 : LB) (x1 x2 : Int) : OR :=
  aloop 1000003 (pruneAt f86_h 1000003) (f86_x B call n [1, 1, 0, 1, 0, 0]) (kBlk 0 (kSeq (f86_x B call n [1, 1, 1]) (kEnd AXE 0 f86_r))) m0 ⟨[(0, .one (.str x0)), (4, .one (.int .i64 x1)), (5, .one (.int .i64 x2))], []⟩
def f86_P (B : Code) (call : CallF) (n : Nat) (a0 : LB) : OR :=
  f86_x B call n [] (kEnd AXE 0 f86_r) ⟨[(0, .one (.str a0))], []⟩
def f86_T9 (call : CallF) (n : Nat) (j3m : LB → Int → Int → OR) (x0 : LB) (x1 x2 : Int) : OR :=
  j3m x0 x1 (IntKind.wrap .i64 (x2 + (1 : Int)))
theorem f86_o9 (call : CallF) (n : Nat) (m0 : Nat) (B : Code) (hB : B = f86_b) : f86_P9 B call n m0 = f86_T9 call n (f86_P3 B call n m0) := by
  subst hB; funext x0 x1 x2; kernel_rfl
theorem f86_l9 (call : CallF) (n : Nat) (m0 : Nat) : f86_P9 f86_b call n m0 = f86_T9 call n (f86_P3 f86_b call n m0) :=
  f86_o9 call n m0 _ (by kernel_rfl)
def f86_L9 (call : CallF) (n : Nat) (h_m0 : LB → Int → Int → OR) : LB → Int → Int → OR :=
  f86_T9 call n h_m0
theorem f86_e9 (call : CallF) (n : Nat) (m0 : Nat) : f86_P9 f86_b call n m0 = f86_L9 call n (f86_P3 f86_b call n m0) := by
  rw [f86_l9]; rfl
def f86_T17 (call : CallF) (n : Nat) (x0 : Int) (x1 : Bool) : OR :=
  some (.tup [.one (.int .i64 x0), .one (.bool x1)], [])
theorem f86_o17 (call : CallF) (n : Nat) (m0 : Nat) (B : Code) (hB : B = f86_b) : f86_P17 B call n m0 = f86_T17 call n := by
  subst hB; funext x0 x1; kernel_rfl
theorem f86_l17 (call : CallF) (n : Nat) (m0 : Nat) : f86_P17 f86_b call n m0 = f86_T17 call n :=
  f86_o17 call n m0 _ (by kernel_rfl)
def f86_L17 (call : CallF) (n : Nat) (h_m0 : LB → Int → Int → OR) : Int → Bool → OR :=
  f86_T17 call n
theorem f86_e17 (call : CallF) (n : Nat) (m0 : Nat) : f86_P17 f86_b call n m0 = f86_L17 call n (f86_P3 f86_b call n m0) := by
  rw [f86_l17]; rfl
def f86_T12 (call : CallF) (n : Nat) (j17 : Int → Bool → OR) (j9 : LB → Int → Int → OR) (x0 : LB) (x1 x2 : Int) (x3 : Bool) : OR :=
  bif x3 then (
    j17 (0 : Int) false) else (
    itemK x0 x2 fun u1 =>
    j9 x0 (IntKind.wrap .i64 ((IntKind.wrap .i64 ((IntKind.wrap .i64 ((10 : Int) * x1)) + (IntKind.wrap .i64 (UInt8.toNat u1 : Int)))) - (48 : Int))) x2)
theorem f86_o12 (X0 X1 : Code) (call : CallF) (n : Nat) (m0 : Nat) (B : Code) (hB : B = (hole (hole f86_b [1, 1, 0, 1, 0, 0, 1, 0, 0, 1, 0, 1, 0, 1] X0) [1, 1, 0, 1, 0, 0, 1, 1] X1)) : f86_P12 B call n m0 = f86_T12 call n (f86_P17 B call n m0) (f86_P9 B call n m0) := by
  subst hB; funext x0 x1 x2 x3; cases x3 <;> kernel_rfl
theorem f86_l12 (call : CallF) (n : Nat) (m0 : Nat) : f86_P12 f86_b call n m0 = f86_T12 call n (f86_P17 f86_b call n m0) (f86_P9 f86_b call n m0) :=
  f86_o12 (piece [1, 1, 0, 1, 0, 0, 1, 0, 0, 1, 0, 1, 0, 1] f86_b) (piece [1, 1, 0, 1, 0, 0, 1, 1] f86_b) call n m0 _ (by kernel_rfl)
def f86_L12 (call : CallF) (n : Nat) (h_m0 : LB → Int → Int → OR) : LB → Int → Int → Bool → OR :=
  f86_T12 call n (f86_L17 call n h_m0) (f86_L9 call n h_m0)
theorem f86_e12 (call : CallF) (n : Nat) (m0 : Nat) : f86_P12 f86_b call n m0 = f86_L12 call n (f86_P3 f86_b call n m0) := by
  rw [f86_l12, f86_e17, f86_e9]; rfl
def f86_T10 (call : CallF) (n : Nat) (j12 : LB → Int → Int → Bool → OR) (x0 : LB) (x1 x2 : Int) : OR :=
  itemK x0 x2 fun u1 =>
  bif (decide ((UInt8.toNat u1 : Int) < (48 : Int))) then (
    j12 x0 x1 x2 true) else (
    itemK x0 x2 fun u2 =>
    bif (decide ((UInt8.toNat u2 : Int) > (57 : Int))) then (
      j12 x0 x1 x2 true) else (
      j12 x0 x1 x2 (decide (x1 > (9007199254740992 : Int)))))
theorem f86_o10 (X0 : Code) (call : CallF) (n : Nat) (m0 : Nat) (B : Code) (hB : B = (hole f86_b [1, 1, 0, 1, 0, 0, 1, 0, 0, 1, 0, 1] X0)) : f86_P10 B call n m0 = f86_T10 call n (f86_P12 B call n m0) := by
  subst hB; funext x0 x1 x2; kernel_rfl
theorem f86_l10 (call : CallF) (n : Nat) (m0 : Nat) : f86_P10 f86_b call n m0 = f86_T10 call n (f86_P12 f86_b call n m0) :=
  f86_o10 (piece [1, 1, 0, 1, 0, 0, 1, 0, 0, 1, 0, 1] f86_b) call n m0 _ (by kernel_rfl)
def f86_L10 (call : CallF) (n : Nat) (h_m0 : LB → Int → Int → OR) : LB → Int → Int → OR :=
  f86_T10 call n (f86_L12 call n h_m0)
theorem f86_e10 (call : CallF) (n : Nat) (m0 : Nat) : f86_P10 f86_b call n m0 = f86_L10 call n (f86_P3 f86_b call n m0) := by
  rw [f86_l10, f86_e12]; rfl
def f86_T7 (call : CallF) (n : Nat) (j9 : LB → Int → Int → OR) (j10 : LB → Int → Int → OR) (x0 : LB) (x1 x2 : Int) (x3 : Bool) : OR :=
  bif x3 then (
    j9 x0 x1 x2) else (
    j10 x0 x1 x2)
theorem f86_o7 (X0 X1 : Code) (call : CallF) (n : Nat) (m0 : Nat) (B : Code) (hB : B = (hole (hole f86_b [1, 1, 0, 1, 0, 0, 1, 0, 0, 1] X0) [1, 1, 0, 1, 0, 0, 1, 1] X1)) : f86_P7 B call n m0 = f86_T7 call n (f86_P9 B call n m0) (f86_P10 B call n m0) := by
  subst hB; funext x0 x1 x2 x3; cases x3 <;> kernel_rfl
theorem f86_l7 (call : CallF) (n : Nat) (m0 : Nat) : f86_P7 f86_b call n m0 = f86_T7 call n (f86_P9 f86_b call n m0) (f86_P10 f86_b call n m0) :=
  f86_o7 (piece [1, 1, 0, 1, 0, 0, 1, 0, 0, 1] f86_b) (piece [1, 1, 0, 1, 0, 0, 1, 1] f86_b) call n m0 _ (by kernel_rfl)
def f86_L7 (call : CallF) (n : Nat) (h_m0 : LB → Int → Int → OR) : LB → Int → Int → Bool → OR :=
  f86_T7 call n (f86_L9 call n h_m0) (f86_L10 call n h_m0)
theorem f86_e7 (call : CallF) (n : Nat) (m0 : Nat) : f86_P7 f86_b call n m0 = f86_L7 call n (f86_P3 f86_b call n m0) := by
  rw [f86_l7, f86_e9, f86_e10]; rfl
def f86_T18 (call : CallF) (n : Nat) (x0 : Int) (x1 : Bool) : OR :=
  some (.tup [.one (.int .i64 x0), .one (.bool x1)], [])
theorem f86_o18 (call : CallF) (n : Nat) (B : Code) (hB : B = f86_b) : f86_P18 B call n = f86_T18 call n := by
  subst hB; funext x0 x1; kernel_rfl
theorem f86_l18 (call : CallF) (n : Nat) : f86_P18 f86_b call n = f86_T18 call n :=
  f86_o18 call n _ (by kernel_rfl)
def f86_L18 (call : CallF) (n : Nat) : Int → Bool → OR :=
  f86_T18 call n
theorem f86_e18 (call : CallF) (n : Nat) : f86_P18 f86_b call n = f86_L18 call n := by
  rw [f86_l18]; rfl
def f86_T14 (call : CallF) (n : Nat) (j18 : Int → Bool → OR) (x0 : Int) (x1 : Bool) : OR :=
  bif x1 then (
    j18 (0 : Int) false) else (
    some (.tup [.one (.int .i64 x0), .one (.bool true)], []))
theorem f86_o14 (X0 : Code) (call : CallF) (n : Nat) (B : Code) (hB : B = (hole f86_b [1, 1, 1, 1, 0, 1, 0, 1] X0)) : f86_P14 B call n = f86_T14 call n (f86_P18 B call n) := by
  subst hB; funext x0 x1; cases x1 <;> kernel_rfl
theorem f86_l14 (call : CallF) (n : Nat) : f86_P14 f86_b call n = f86_T14 call n (f86_P18 f86_b call n) :=
  f86_o14 (piece [1, 1, 1, 1, 0, 1, 0, 1] f86_b) call n _ (by kernel_rfl)
def f86_L14 (call : CallF) (n : Nat) : Int → Bool → OR :=
  f86_T14 call n (f86_L18 call n)
theorem f86_e14 (call : CallF) (n : Nat) : f86_P14 f86_b call n = f86_L14 call n := by
  rw [f86_l14, f86_e18]; rfl
def f86_T11 (call : CallF) (n : Nat) (j14 : Int → Bool → OR) (x0 : LB) (x1 : Int) : OR :=
  callK call 23 [.one (.int .i64 x1)] fun v1 =>
  oB v1 fun b2 =>
  bif (!b2) then (
    j14 x1 true) else (
    callK call 25 [.one (.int .i64 x1)] fun v3 =>
    oS v3 fun s4 =>
    j14 x1 (!(s4 == x0)))
theorem f86_o11 (X0 : Code) (call : CallF) (n : Nat) (B : Code) (hB : B = (hole f86_b [1, 1, 1, 1, 0, 1] X0)) : f86_P11 B call n = f86_T11 call n (f86_P14 B call n) := by
  subst hB; funext x0 x1; kernel_rfl
theorem f86_l11 (call : CallF) (n : Nat) : f86_P11 f86_b call n = f86_T11 call n (f86_P14 f86_b call n) :=
  f86_o11 (piece [1, 1, 1, 1, 0, 1] f86_b) call n _ (by kernel_rfl)
def f86_L11 (call : CallF) (n : Nat) : LB → Int → OR :=
  f86_T11 call n (f86_L14 call n)
theorem f86_e11 (call : CallF) (n : Nat) : f86_P11 f86_b call n = f86_L11 call n := by
  rw [f86_l11, f86_e14]; rfl
def f86_T8 (call : CallF) (n : Nat) (j11 : LB → Int → OR) (x0 : LB) (x1 : Int) (x2 : Bool) : OR :=
  bif x2 then (
    j11 x0 (IntKind.wrap .i64 (0 - x1))) else (
    j11 x0 x1)
theorem f86_o8 (X0 : Code) (call : CallF) (n : Nat) (B : Code) (hB : B = (hole f86_b [1, 1, 1, 1] X0)) : f86_P8 B call n = f86_T8 call n (f86_P11 B call n) := by
  subst hB; funext x0 x1 x2; cases x2 <;> kernel_rfl
theorem f86_l8 (call : CallF) (n : Nat) : f86_P8 f86_b call n = f86_T8 call n (f86_P11 f86_b call n) :=
  f86_o8 (piece [1, 1, 1, 1] f86_b) call n _ (by kernel_rfl)
def f86_L8 (call : CallF) (n : Nat) : LB → Int → Bool → OR :=
  f86_T8 call n (f86_L11 call n)
theorem f86_e8 (call : CallF) (n : Nat) : f86_P8 f86_b call n = f86_L8 call n := by
  rw [f86_l8, f86_e11]; rfl
def f86_T3 (call : CallF) (n : Nat) (j7 : LB → Int → Int → Bool → OR) (j8 : LB → Int → Bool → OR) (x0 : LB) (x1 x2 : Int) : OR :=
  bif (decide (x2 < ((x0).length : Int))) then (
    bif (x2 == (0 : Int)) then (
      itemK x0 (0 : Int) fun u1 =>
      j7 x0 x1 x2 ((UInt8.toNat u1 : Int) == (45 : Int))) else (
      j7 x0 x1 x2 false)) else (
    bif (decide (((x0).length : Int) > (0 : Int))) then (
      itemK x0 (0 : Int) fun u2 =>
      j8 x0 x1 ((UInt8.toNat u2 : Int) == (45 : Int))) else (
      j8 x0 x1 false))
theorem f86_o3 (X0 X1 : Code) (call : CallF) (n : Nat) (m0 : Nat) (B : Code) (hB : B = (hole (hole f86_b [1, 1, 0, 1, 0, 0, 1, 0, 0, 0, 1] X0) [1, 1, 1, 0, 1] X1)) : f86_P3 B call n (m0 + 1) = f86_T3 call n (f86_P7 B call n m0) (f86_P8 B call n) := by
  subst hB; funext x0 x1 x2; kernel_rfl
theorem f86_l3 (call : CallF) (n : Nat) (m0 : Nat) : f86_P3 f86_b call n (m0 + 1) = f86_T3 call n (f86_P7 f86_b call n m0) (f86_P8 f86_b call n) :=
  f86_o3 (piece [1, 1, 0, 1, 0, 0, 1, 0, 0, 0, 1] f86_b) (piece [1, 1, 1, 0, 1] f86_b) call n m0 _ (by kernel_rfl)
def f86_L3 (call : CallF) (n : Nat) : Nat → LB → Int → Int → OR
  | 0 => fun _ _ _ => none
  | m0 + 1 => f86_T3 call n (f86_L7 call n (f86_L3 call n m0)) (f86_L8 call n)
theorem f86_e3 (call : CallF) (n : Nat) : ∀ m0 : Nat, f86_P3 f86_b call n m0 = f86_L3 call n m0
  | 0 => by funext x0 x1 x2; kernel_rfl
  | m0 + 1 => by rw [f86_l3, f86_e7, f86_e8, f86_e3 call n m0]; rfl
/-- pigeonhole/pigeonholeref31.Number -/
def f86_T (call : CallF) (n : Nat) (j3n : LB → Int → Int → OR) (a0 : LB) : OR :=
  j3n a0 (0 : Int) (0 : Int)
def f86_L (call : CallF) (n : Nat) (a0 : LB) : OR :=
  f86_T call n (f86_L3 call n n) a0
theorem f86_o (call : CallF) (n : Nat) (B : Code) (hB : B = f86_b) : f86_P B call n = f86_T call n (f86_P3 B call n n) := by
  subst hB; funext a0; kernel_rfl
theorem f86_l (call : CallF) (n : Nat) : f86_P f86_b call n = f86_T call n (f86_P3 f86_b call n n) :=
  f86_o call n _ (by kernel_rfl)
theorem f86_e (call : CallF) (n : Nat) : f86_P f86_b call n = f86_L call n := by
  rw [f86_l, f86_e3]; rfl
theorem f86_eq (n : Nat) (a0 : LB) : acall AXE AXF (n + 1) 86 [.one (.str a0)] [] = f86_L (acall AXE AXF n) (n + 1) a0 :=
  (show _ = f86_P f86_b (acall AXE AXF n) (n + 1) a0 by kernel_rfl).trans (by rw [f86_e])
def f89_P2 (B : Code) (call : CallF) (n : Nat) (x0 : Int) (x1 : Bool) : OR :=
  f89_x B call n [1, 1, 1] (kEnd AXE 0 f89_r) ⟨[(2, .one (.int .i64 x0)), (3, .one (.bool x1))], []⟩
def f89_P (B : Code) (call : CallF) (n : Nat) (a0 : LB) : OR :=
  f89_x B call n [] (kEnd AXE 0 f89_r) ⟨[(0, .one (.str a0))], []⟩
def f89_T2 (call : CallF) (n : Nat) (x0 : Int) (x1 : Bool) : OR :=
  some (.tup [.one (.int .i64 x0), .one (.bool x1)], [])
theorem f89_o2 (call : CallF) (n : Nat) (B : Code) (hB : B = f89_b) : f89_P2 B call n = f89_T2 call n := by
  subst hB; funext x0 x1; kernel_rfl
theorem f89_l2 (call : CallF) (n : Nat) : f89_P2 f89_b call n = f89_T2 call n :=
  f89_o2 call n _ (by kernel_rfl)
def f89_L2 (call : CallF) (n : Nat) : Int → Bool → OR :=
  f89_T2 call n
theorem f89_e2 (call : CallF) (n : Nat) : f89_P2 f89_b call n = f89_L2 call n := by
  rw [f89_l2]; rfl
/-- pigeonhole/script.number -/
def f89_T (call : CallF) (n : Nat) (j2 : Int → Bool → OR) (a0 : LB) : OR :=
  primK pAtoi [.one (.str a0)] fun v9 =>
  castTup v9 fun v10 =>
  zI .i64 v10 fun n11 r12 =>
  zE r12 fun b13 r14 =>
  nilK r14 (
    bif (!b13) then (
      primK pItoa [.one (.int .i64 n11)] fun v15 =>
      oS v15 fun s16 =>
      bif (s16 == a0) then (
        bif (decide (n11 ≥ (-9007199254740992 : Int))) then (
          j2 n11 (decide (n11 ≤ (9007199254740992 : Int)))) else (
          j2 n11 false)) else (
        j2 n11 false)) else (
      j2 n11 false))
def f89_L (call : CallF) (n : Nat) (a0 : LB) : OR :=
  f89_T call n (f89_L2 call n) a0
theorem f89_o (X0 : Code) (call : CallF) (n : Nat) (B : Code) (hB : B = (hole f89_b [1, 1, 1] X0)) : f89_P B call n = f89_T call n (f89_P2 B call n) := by
  subst hB; funext a0; kernel_rfl
theorem f89_l (call : CallF) (n : Nat) : f89_P f89_b call n = f89_T call n (f89_P2 f89_b call n) :=
  f89_o (piece [1, 1, 1] f89_b) call n _ (by kernel_rfl)
theorem f89_e (call : CallF) (n : Nat) : f89_P f89_b call n = f89_L call n := by
  rw [f89_l, f89_e2]; rfl
theorem f89_eq (n : Nat) (a0 : LB) : acall AXE AXF (n + 1) 89 [.one (.str a0)] [] = f89_L (acall AXE AXF n) (n + 1) a0 :=
  (show _ = f89_P f89_b (acall AXE AXF n) (n + 1) a0 by kernel_rfl).trans (by rw [f89_e])
def f90_P11 (B : Code) (call : CallF) (n : Nat) (m0 : Nat) (x0 : Bool) (x1 : LB) (x2 : Int) (x3 : LC) (x4 x5 : Int) : OR :=
  f90_x B call n [1, 0, 1, 0, 0, 1, 1, 1] (kSeq (fun k => prK 1000002 (pruneAt f90_h 1000002) (aloop 1000002 (pruneAt f90_h 1000002) (f90_x B call n [1, 0, 1, 0, 0]) k m0)) (kBlk 0 (kSeq (f90_x B call n [1, 1]) (kEnd AXE 0 f90_r)))) ⟨[(12, .one (.bool x0)), (0, .one (.str x1)), (4, .one (.int .u8 x2)), (6, .one (.sl none 1 x3)), (7, .one (.int .i64 x4)), (8, .one (.int .i64 x5))], []⟩
def f90_P12 (B : Code) (call : CallF) (n : Nat) (m0 : Nat) (x0 : Bool) : OR :=
  f90_x B call n [1, 0, 1, 0, 0, 1, 1, 0, 0, 1, 0, 1, 1, 1] (kBlk 2 (kBlk 1 (kSeq (f90_x B call n [1, 0, 1, 0, 0, 1, 1, 1]) (kSeq (fun k => prK 1000002 (pruneAt f90_h 1000002) (aloop 1000002 (pruneAt f90_h 1000002) (f90_x B call n [1, 0, 1, 0, 0]) k m0)) (kBlk 0 (kSeq (f90_x B call n [1, 1]) (kEnd AXE 0 f90_r))))))) ⟨[(2, .one (.bool x0))], []⟩
def f90_P9 (B : Code) (call : CallF) (n : Nat) (m0 : Nat) (x0 : Bool) (x1 : LB) (x2 : Int) (x3 : LC) (x4 x5 : Int) : OR :=
  f90_x B call n [1, 0, 1, 0, 0, 1, 1, 0, 0, 1, 0, 1] (kBlk 2 (kBlk 1 (kSeq (f90_x B call n [1, 0, 1, 0, 0, 1, 1, 1]) (kSeq (fun k => prK 1000002 (pruneAt f90_h 1000002) (aloop 1000002 (pruneAt f90_h 1000002) (f90_x B call n [1, 0, 1, 0, 0]) k m0)) (kBlk 0 (kSeq (f90_x B call n [1, 1]) (kEnd AXE 0 f90_r))))))) ⟨[(12, .one (.bool x0)), (0, .one (.str x1)), (4, .one (.int .u8 x2)), (6, .one (.sl none 1 x3)), (7, .one (.int .i64 x4)), (8, .one (.int .i64 x5))], []⟩
def f90_P16 (B : Code) (call : CallF) (n : Nat) (m0 : Nat) (x0 : Bool) (x1 : LB) (x2 : LC) (x3 x4 : Int) : OR :=
  f90_x B call n [1, 0, 1, 0, 0, 1, 1, 1] (kSeq (fun k => prK 1000002 (pruneAt f90_h 1000002) (aloop 1000002 (pruneAt f90_h 1000002) (f90_x B call n [1, 0, 1, 0, 0]) k m0)) (kBlk 0 (kSeq (f90_x B call n [1, 1]) (kEnd AXE 0 f90_r)))) ⟨[(12, .one (.bool x0)), (0, .one (.str x1)), (6, .one (.sl none 1 x2)), (7, .one (.int .i64 x3)), (8, .one (.int .i64 x4))], []⟩
def f90_P15 (B : Code) (call : CallF) (n : Nat) (m0 : Nat) (x0 : LB) (x1 : LC) (x2 x3 : Int) (x4 : Bool) : OR :=
  f90_x B call n [1, 0, 1, 0, 0, 1, 1, 0, 0, 1, 0, 1] (kBlk 2 (kBlk 1 (kSeq (f90_x B call n [1, 0, 1, 0, 0, 1, 1, 1]) (kSeq (fun k => prK 1000002 (pruneAt f90_h 1000002) (aloop 1000002 (pruneAt f90_h 1000002) (f90_x B call n [1, 0, 1, 0, 0]) k m0)) (kBlk 0 (kSeq (f90_x B call n [1, 1]) (kEnd AXE 0 f90_r))))))) ⟨[(0, .one (.str x0)), (6, .one (.sl none 1 x1)), (7, .one (.int .i64 x2)), (8, .one (.int .i64 x3)), (12, .one (.bool x4))], []⟩
def f90_P14 (B : Code) (call : CallF) (n : Nat) (m0 : Nat) (x0 : LB) (x1 : Int) (x2 : LC) (x3 x4 : Int) (x5 : Bool) : OR :=
  f90_x B call n [1, 0, 1, 0, 0, 1, 1, 0, 0, 1, 0, 0, 1, 1, 1, 1, 1, 1, 1] (kSeq (f90_x B call n [1, 0, 1, 0, 0, 1, 1, 0, 0, 1, 0, 1]) (kBlk 2 (kBlk 1 (kSeq (f90_x B call n [1, 0, 1, 0, 0, 1, 1, 1]) (kSeq (fun k => prK 1000002 (pruneAt f90_h 1000002) (aloop 1000002 (pruneAt f90_h 1000002) (f90_x B call n [1, 0, 1, 0, 0]) k m0)) (kBlk 0 (kSeq (f90_x B call n [1, 1]) (kEnd AXE 0 f90_r)))))))) ⟨[(0, .one (.str x0)), (4, .one (.int .u8 x1)), (6, .one (.sl none 1 x2)), (7, .one (.int .i64 x3)), (8, .one (.int .i64 x4)), (12, .one (.bool x5))], []⟩
def f90_P13 (B : Code) (call : CallF) (n : Nat) (m0 : Nat) (x0 : LB) (x1 : Int) (x2 : LC) (x3 x4 : Int) (x5 : Bool) : OR :=
  f90_x B call n [1, 0, 1, 0, 0, 1, 1, 0, 0, 1, 0, 0, 1, 1, 1, 1, 1] (kSeq (f90_x B call n [1, 0, 1, 0, 0, 1, 1, 0, 0, 1, 0, 1]) (kBlk 2 (kBlk 1 (kSeq (f90_x B call n [1, 0, 1, 0, 0, 1, 1, 1]) (kSeq (fun k => prK 1000002 (pruneAt f90_h 1000002) (aloop 1000002 (pruneAt f90_h 1000002) (f90_x B call n [1, 0, 1, 0, 0]) k m0)) (kBlk 0 (kSeq (f90_x B call n [1, 1]) (kEnd AXE 0 f90_r)))))))) ⟨[(0, .one (.str x0)), (4, .one (.int .u8 x1)), (6, .one (.sl none 1 x2)), (7, .one (.int .i64 x3)), (8, .one (.int .i64 x4)), (12, .one (.bool x5))], []⟩
def f90_P10 (B : Code) (call : CallF) (n : Nat) (m0 : Nat) (x0 : LB) (x1 : Int) (x2 : LC) (x3 x4 : Int) (x5 : Bool) : OR :=
  f90_x B call n [1, 0, 1, 0, 0, 1, 1, 0, 0, 1, 0, 0, 1, 1, 1] (kSeq (f90_x B call n [1, 0, 1, 0, 0, 1, 1, 0, 0, 1, 0, 1]) (kBlk 2 (kBlk 1 (kSeq (f90_x B call n [1, 0, 1, 0, 0, 1, 1, 1]) (kSeq (fun k => prK 1000002 (pruneAt f90_h 1000002) (aloop 1000002 (pruneAt f90_h 1000002) (f90_x B call n [1, 0, 1, 0, 0]) k m0)) (kBlk 0 (kSeq (f90_x B call n [1, 1]) (kEnd AXE 0 f90_r)))))))) ⟨[(0, .one (.str x0)), (4, .one (.int .u8 x1)), (6, .one (.sl none 1 x2)), (7, .one (.int .i64 x3)), (8, .one (.int .i64 x4)), (12, .one (.bool x5))], []⟩
def f90_P7 (B : Code) (call : CallF) (n : Nat) (m0 : Nat) (x0 : LB) (x1 : Int) (x2 : LC) (x3 x4 : Int) (x5 : Bool) : OR :=
  f90_x B call n [1, 0, 1, 0, 0, 1, 1, 0, 0, 1, 0, 0, 1] (kSeq (f90_x B call n [1, 0, 1, 0, 0, 1, 1, 0, 0, 1, 0, 1]) (kBlk 2 (kBlk 1 (kSeq (f90_x B call n [1, 0, 1, 0, 0, 1, 1, 1]) (kSeq (fun k => prK 1000002 (pruneAt f90_h 1000002) (aloop 1000002 (pruneAt f90_h 1000002) (f90_x B call n [1, 0, 1, 0, 0]) k m0)) (kBlk 0 (kSeq (f90_x B call n [1, 1]) (kEnd AXE 0 f90_r)))))))) ⟨[(0, .one (.str x0)), (4, .one (.int .u8 x1)), (6, .one (.sl none 1 x2)), (7, .one (.int .i64 x3)), (8, .one (.int .i64 x4)), (12, .one (.bool x5))], []⟩
def f90_P8 (B : Code) (call : CallF) (n : Nat) (x0 : Bool) : OR :=
  f90_x B call n [1, 1, 1] (kEnd AXE 0 f90_r) ⟨[(2, .one (.bool x0))], []⟩
def f90_P2 (B : Code) (call : CallF) (n : Nat) (m0 : Nat) (x0 : LB) (x1 : LC) (x2 x3 : Int) : OR :=
  aloop 1000002 (pruneAt f90_h 1000002) (f90_x B call n [1, 0, 1, 0, 0]) (kBlk 0 (kSeq (f90_x B call n [1, 1]) (kEnd AXE 0 f90_r))) m0 ⟨[(0, .one (.str x0)), (6, .one (.sl none 1 x1)), (7, .one (.int .i64 x2)), (8, .one (.int .i64 x3))], []⟩
def f90_P (B : Code) (call : CallF) (n : Nat) (a0 : LB) : OR :=
  f90_x B call n [] (kEnd AXE 0 f90_r) ⟨[(0, .one (.str a0))], []⟩
def f90_T11 (call : CallF) (n : Nat) (j2m : LB → LC → Int → Int → OR) (x0 : Bool) (x1 : LB) (x2 : Int) (x3 : LC) (x4 x5 : Int) : OR :=
  j2m x1 x3 x4 (IntKind.wrap .i64 (x5 + (1 : Int)))
theorem f90_o11 (call : CallF) (n : Nat) (m0 : Nat) (B : Code) (hB : B = f90_b) : f90_P11 B call n m0 = f90_T11 call n (f90_P2 B call n m0) := by
  subst hB; funext x0 x1 x2 x3 x4 x5; kernel_rfl
theorem f90_l11 (call : CallF) (n : Nat) (m0 : Nat) : f90_P11 f90_b call n m0 = f90_T11 call n (f90_P2 f90_b call n m0) :=
  f90_o11 call n m0 _ (by kernel_rfl)
def f90_L11 (call : CallF) (n : Nat) (h_m0 : LB → LC → Int → Int → OR) : Bool → LB → Int → LC → Int → Int → OR :=
  f90_T11 call n h_m0
theorem f90_e11 (call : CallF) (n : Nat) (m0 : Nat) : f90_P11 f90_b call n m0 = f90_L11 call n (f90_P2 f90_b call n m0) := by
  rw [f90_l11]; rfl
def f90_T12 (call : CallF) (n : Nat) (x0 : Bool) : OR :=
  some (.one (.bool x0), [])
theorem f90_o12 (call : CallF) (n : Nat) (m0 : Nat) (B : Code) (hB : B = f90_b) : f90_P12 B call n m0 = f90_T12 call n := by
  subst hB; funext x0; kernel_rfl
theorem f90_l12 (call : CallF) (n : Nat) (m0 : Nat) : f90_P12 f90_b call n m0 = f90_T12 call n :=
  f90_o12 call n m0 _ (by kernel_rfl)
def f90_L12 (call : CallF) (n : Nat) (h_m0 : LB → LC → Int → Int → OR) : Bool → OR :=
  f90_T12 call n
theorem f90_e12 (call : CallF) (n : Nat) (m0 : Nat) : f90_P12 f90_b call n m0 = f90_L12 call n (f90_P2 f90_b call n m0) := by
  rw [f90_l12]; rfl
def f90_T9 (call : CallF) (n : Nat) (j11 : Bool → LB → Int → LC → Int → Int → OR) (j12 : Bool → OR) (x0 : Bool) (x1 : LB) (x2 : Int) (x3 : LC) (x4 x5 : Int) : OR :=
  bif x0 then (
    j11 true x1 x2 x3 x4 x5) else (
    j12 false)
theorem f90_o9 (X0 X1 : Code) (call : CallF) (n : Nat) (m0 : Nat) (B : Code) (hB : B = (hole (hole f90_b [1, 0, 1, 0, 0, 1, 1, 0, 0, 1, 0, 1, 1, 1] X0) [1, 0, 1, 0, 0, 1, 1, 1] X1)) : f90_P9 B call n m0 = f90_T9 call n (f90_P11 B call n m0) (f90_P12 B call n m0) := by
  subst hB; funext x0 x1 x2 x3 x4 x5; cases x0 <;> kernel_rfl
theorem f90_l9 (call : CallF) (n : Nat) (m0 : Nat) : f90_P9 f90_b call n m0 = f90_T9 call n (f90_P11 f90_b call n m0) (f90_P12 f90_b call n m0) :=
  f90_o9 (piece [1, 0, 1, 0, 0, 1, 1, 0, 0, 1, 0, 1, 1, 1] f90_b) (piece [1, 0, 1, 0, 0, 1, 1, 1] f90_b) call n m0 _ (by kernel_rfl)
def f90_L9 (call : CallF) (n : Nat) (h_m0 : LB → LC → Int → Int → OR) : Bool → LB → Int → LC → Int → Int → OR :=
  f90_T9 call n (f90_L11 call n h_m0) (f90_L12 call n h_m0)
theorem f90_e9 (call : CallF) (n : Nat) (m0 : Nat) : f90_P9 f90_b call n m0 = f90_L9 call n (f90_P2 f90_b call n m0) := by
  rw [f90_l9, f90_e11, f90_e12]; rfl
def f90_T16 (call : CallF) (n : Nat) (j2m : LB → LC → Int → Int → OR) (x0 : Bool) (x1 : LB) (x2 : LC) (x3 x4 : Int) : OR :=
  j2m x1 x2 x3 (IntKind.wrap .i64 (x4 + (1 : Int)))
theorem f90_o16 (call : CallF) (n : Nat) (m0 : Nat) (B : Code) (hB : B = f90_b) : f90_P16 B call n m0 = f90_T16 call n (f90_P2 B call n m0) := by
  subst hB; funext x0 x1 x2 x3 x4; kernel_rfl
theorem f90_l16 (call : CallF) (n : Nat) (m0 : Nat) : f90_P16 f90_b call n m0 = f90_T16 call n (f90_P2 f90_b call n m0) :=
  f90_o16 call n m0 _ (by kernel_rfl)
def f90_L16 (call : CallF) (n : Nat) (h_m0 : LB → LC → Int → Int → OR) : Bool → LB → LC → Int → Int → OR :=
  f90_T16 call n h_m0
theorem f90_e16 (call : CallF) (n : Nat) (m0 : Nat) : f90_P16 f90_b call n m0 = f90_L16 call n (f90_P2 f90_b call n m0) := by
  rw [f90_l16]; rfl
def f90_T15 (call : CallF) (n : Nat) (j16 : Bool → LB → LC → Int → Int → OR) (j12 : Bool → OR) (x0 : LB) (x1 : LC) (x2 x3 : Int) (x4 : Bool) : OR :=
  bif x4 then (
    j16 true x0 x1 x2 x3) else (
    j12 false)
theorem f90_o15 (X0 X1 : Code) (call : CallF) (n : Nat) (m0 : Nat) (B : Code) (hB : B = (hole (hole f90_b [1, 0, 1, 0, 0, 1, 1, 0, 0, 1, 0, 1, 1, 1] X0) [1, 0, 1, 0, 0, 1, 1, 1] X1)) : f90_P15 B call n m0 = f90_T15 call n (f90_P16 B call n m0) (f90_P12 B call n m0) := by
  subst hB; funext x0 x1 x2 x3 x4; cases x4 <;> kernel_rfl
theorem f90_l15 (call : CallF) (n : Nat) (m0 : Nat) : f90_P15 f90_b call n m0 = f90_T15 call n (f90_P16 f90_b call n m0) (f90_P12 f90_b call n m0) :=
  f90_o15 (piece [1, 0, 1, 0, 0, 1, 1, 0, 0, 1, 0, 1, 1, 1] f90_b) (piece [1, 0, 1, 0, 0, 1, 1, 1] f90_b) call n m0 _ (by kernel_rfl)
def f90_L15 (call : CallF) (n : Nat) (h_m0 : LB → LC → Int → Int → OR) : LB → LC → Int → Int → Bool → OR :=
  f90_T15 call n (f90_L16 call n h_m0) (f90_L12 call n h_m0)
theorem f90_e15 (call : CallF) (n : Nat) (m0 : Nat) : f90_P15 f90_b call n m0 = f90_L15 call n (f90_P2 f90_b call n m0) := by
  rw [f90_l15, f90_e16, f90_e12]; rfl
def f90_T14 (call : CallF) (n : Nat) (j9 : Bool → LB → Int → LC → Int → Int → OR) (j15 : LB → LC → Int → Int → Bool → OR) (x0 : LB) (x1 : Int) (x2 : LC) (x3 x4 : Int) (x5 : Bool) : OR :=
  bif x5 then (
    j9 true x0 x1 x2 x3 x4) else (
    j15 x0 x2 x3 x4 (x1 == (95 : Int)))
theorem f90_o14 (X0 : Code) (call : CallF) (n : Nat) (m0 : Nat) (B : Code) (hB : B = (hole f90_b [1, 0, 1, 0, 0, 1, 1, 0, 0, 1, 0, 1] X0)) : f90_P14 B call n m0 = f90_T14 call n (f90_P9 B call n m0) (f90_P15 B call n m0) := by
  subst hB; funext x0 x1 x2 x3 x4 x5; cases x5 <;> kernel_rfl
theorem f90_l14 (call : CallF) (n : Nat) (m0 : Nat) : f90_P14 f90_b call n m0 = f90_T14 call n (f90_P9 f90_b call n m0) (f90_P15 f90_b call n m0) :=
  f90_o14 (piece [1, 0, 1, 0, 0, 1, 1, 0, 0, 1, 0, 1] f90_b) call n m0 _ (by kernel_rfl)
def f90_L14 (call : CallF) (n : Nat) (h_m0 : LB → LC → Int → Int → OR) : LB → Int → LC → Int → Int → Bool → OR :=
  f90_T14 call n (f90_L9 call n h_m0) (f90_L15 call n h_m0)
theorem f90_e14 (call : CallF) (n : Nat) (m0 : Nat) : f90_P14 f90_b call n m0 = f90_L14 call n (f90_P2 f90_b call n m0) := by
  rw [f90_l14, f90_e9, f90_e15]; rfl
def f90_T13 (call : CallF) (n : Nat) (j9 : Bool → LB → Int → LC → Int → Int → OR) (j14 : LB → Int → LC → Int → Int → Bool → OR) (x0 : LB) (x1 : Int) (x2 : LC) (x3 x4 : Int) (x5 : Bool) : OR :=
  bif x5 then (
    j9 true x0 x1 x2 x3 x4) else (
    j14 x0 x1 x2 x3 x4 (x1 == (45 : Int)))
theorem f90_o13 (X0 X1 : Code) (call : CallF) (n : Nat) (m0 : Nat) (B : Code) (hB : B = (hole (hole f90_b [1, 0, 1, 0, 0, 1, 1, 0, 0, 1, 0, 0, 1, 1, 1, 1, 1, 1, 1] X0) [1, 0, 1, 0, 0, 1, 1, 0, 0, 1, 0, 1] X1)) : f90_P13 B call n m0 = f90_T13 call n (f90_P9 B call n m0) (f90_P14 B call n m0) := by
  subst hB; funext x0 x1 x2 x3 x4 x5; cases x5 <;> kernel_rfl
theorem f90_l13 (call : CallF) (n : Nat) (m0 : Nat) : f90_P13 f90_b call n m0 = f90_T13 call n (f90_P9 f90_b call n m0) (f90_P14 f90_b call n m0) :=
  f90_o13 (piece [1, 0, 1, 0, 0, 1, 1, 0, 0, 1, 0, 0, 1, 1, 1, 1, 1, 1, 1] f90_b) (piece [1, 0, 1, 0, 0, 1, 1, 0, 0, 1, 0, 1] f90_b) call n m0 _ (by kernel_rfl)
def f90_L13 (call : CallF) (n : Nat) (h_m0 : LB → LC → Int → Int → OR) : LB → Int → LC → Int → Int → Bool → OR :=
  f90_T13 call n (f90_L9 call n h_m0) (f90_L14 call n h_m0)
theorem f90_e13 (call : CallF) (n : Nat) (m0 : Nat) : f90_P13 f90_b call n m0 = f90_L13 call n (f90_P2 f90_b call n m0) := by
  rw [f90_l13, f90_e9, f90_e14]; rfl
def f90_T10 (call : CallF) (n : Nat) (j9 : Bool → LB → Int → LC → Int → Int → OR) (j13 : LB → Int → LC → Int → Int → Bool → OR) (x0 : LB) (x1 : Int) (x2 : LC) (x3 x4 : Int) (x5 : Bool) : OR :=
  bif x5 then (
    j9 true x0 x1 x2 x3 x4) else (
    j13 x0 x1 x2 x3 x4 (x1 == (46 : Int)))
theorem f90_o10 (X0 X1 : Code) (call : CallF) (n : Nat) (m0 : Nat) (B : Code) (hB : B = (hole (hole f90_b [1, 0, 1, 0, 0, 1, 1, 0, 0, 1, 0, 0, 1, 1, 1, 1, 1] X0) [1, 0, 1, 0, 0, 1, 1, 0, 0, 1, 0, 1] X1)) : f90_P10 B call n m0 = f90_T10 call n (f90_P9 B call n m0) (f90_P13 B call n m0) := by
  subst hB; funext x0 x1 x2 x3 x4 x5; cases x5 <;> kernel_rfl
theorem f90_l10 (call : CallF) (n : Nat) (m0 : Nat) : f90_P10 f90_b call n m0 = f90_T10 call n (f90_P9 f90_b call n m0) (f90_P13 f90_b call n m0) :=
  f90_o10 (piece [1, 0, 1, 0, 0, 1, 1, 0, 0, 1, 0, 0, 1, 1, 1, 1, 1] f90_b) (piece [1, 0, 1, 0, 0, 1, 1, 0, 0, 1, 0, 1] f90_b) call n m0 _ (by kernel_rfl)
def f90_L10 (call : CallF) (n : Nat) (h_m0 : LB → LC → Int → Int → OR) : LB → Int → LC → Int → Int → Bool → OR :=
  f90_T10 call n (f90_L9 call n h_m0) (f90_L13 call n h_m0)
theorem f90_e10 (call : CallF) (n : Nat) (m0 : Nat) : f90_P10 f90_b call n m0 = f90_L10 call n (f90_P2 f90_b call n m0) := by
  rw [f90_l10, f90_e9, f90_e13]; rfl
def f90_T7 (call : CallF) (n : Nat) (j9 : Bool → LB → Int → LC → Int → Int → OR) (j10 : LB → Int → LC → Int → Int → Bool → OR) (x0 : LB) (x1 : Int) (x2 : LC) (x3 x4 : Int) (x5 : Bool) : OR :=
  bif x5 then (
    j9 true x0 x1 x2 x3 x4) else (
    bif (decide (x1 ≥ (48 : Int))) then (
      j10 x0 x1 x2 x3 x4 (decide (x1 ≤ (57 : Int)))) else (
      j10 x0 x1 x2 x3 x4 false))
theorem f90_o7 (X0 X1 : Code) (call : CallF) (n : Nat) (m0 : Nat) (B : Code) (hB : B = (hole (hole f90_b [1, 0, 1, 0, 0, 1, 1, 0, 0, 1, 0, 0, 1, 1, 1] X0) [1, 0, 1, 0, 0, 1, 1, 0, 0, 1, 0, 1] X1)) : f90_P7 B call n m0 = f90_T7 call n (f90_P9 B call n m0) (f90_P10 B call n m0) := by
  subst hB; funext x0 x1 x2 x3 x4 x5; cases x5 <;> kernel_rfl
theorem f90_l7 (call : CallF) (n : Nat) (m0 : Nat) : f90_P7 f90_b call n m0 = f90_T7 call n (f90_P9 f90_b call n m0) (f90_P10 f90_b call n m0) :=
  f90_o7 (piece [1, 0, 1, 0, 0, 1, 1, 0, 0, 1, 0, 0, 1, 1, 1] f90_b) (piece [1, 0, 1, 0, 0, 1, 1, 0, 0, 1, 0, 1] f90_b) call n m0 _ (by kernel_rfl)
def f90_L7 (call : CallF) (n : Nat) (h_m0 : LB → LC → Int → Int → OR) : LB → Int → LC → Int → Int → Bool → OR :=
  f90_T7 call n (f90_L9 call n h_m0) (f90_L10 call n h_m0)
theorem f90_e7 (call : CallF) (n : Nat) (m0 : Nat) : f90_P7 f90_b call n m0 = f90_L7 call n (f90_P2 f90_b call n m0) := by
  rw [f90_l7, f90_e9, f90_e10]; rfl
def f90_T8 (call : CallF) (n : Nat) (x0 : Bool) : OR :=
  some (.one (.bool x0), [])
theorem f90_o8 (call : CallF) (n : Nat) (B : Code) (hB : B = f90_b) : f90_P8 B call n = f90_T8 call n := by
  subst hB; funext x0; kernel_rfl
theorem f90_l8 (call : CallF) (n : Nat) : f90_P8 f90_b call n = f90_T8 call n :=
  f90_o8 call n _ (by kernel_rfl)
def f90_L8 (call : CallF) (n : Nat) : Bool → OR :=
  f90_T8 call n
theorem f90_e8 (call : CallF) (n : Nat) : f90_P8 f90_b call n = f90_L8 call n := by
  rw [f90_l8]; rfl
def f90_T2 (call : CallF) (n : Nat) (j7 : LB → Int → LC → Int → Int → Bool → OR) (j8 : Bool → OR) (x0 : LB) (x1 : LC) (x2 x3 : Int) : OR :=
  bif (decide (x3 < x2)) then (
    itemK x1 x3 fun c1 =>
    castI .u8 c1 fun n2 =>
    bif (decide (n2 ≥ (97 : Int))) then (
      j7 x0 n2 x1 x2 x3 (decide (n2 ≤ (122 : Int)))) else (
      j7 x0 n2 x1 x2 x3 false)) else (
    bif (!(x0 == ([] : List UInt8))) then (
      j8 (decide (((x0).length : Int) ≤ (32 : Int)))) else (
      j8 false))
theorem f90_o2 (X0 X1 : Code) (call : CallF) (n : Nat) (m0 : Nat) (B : Code) (hB : B = (hole (hole f90_b [1, 0, 1, 0, 0, 1, 1, 0, 0, 1, 0, 0, 1] X0) [1, 1, 1] X1)) : f90_P2 B call n (m0 + 1) = f90_T2 call n (f90_P7 B call n m0) (f90_P8 B call n) := by
  subst hB; funext x0 x1 x2 x3; kernel_rfl
theorem f90_l2 (call : CallF) (n : Nat) (m0 : Nat) : f90_P2 f90_b call n (m0 + 1) = f90_T2 call n (f90_P7 f90_b call n m0) (f90_P8 f90_b call n) :=
  f90_o2 (piece [1, 0, 1, 0, 0, 1, 1, 0, 0, 1, 0, 0, 1] f90_b) (piece [1, 1, 1] f90_b) call n m0 _ (by kernel_rfl)
def f90_L2 (call : CallF) (n : Nat) : Nat → LB → LC → Int → Int → OR
  | 0 => fun _ _ _ _ => none
  | m0 + 1 => f90_T2 call n (f90_L7 call n (f90_L2 call n m0)) (f90_L8 call n)
theorem f90_e2 (call : CallF) (n : Nat) : ∀ m0 : Nat, f90_P2 f90_b call n m0 = f90_L2 call n m0
  | 0 => by funext x0 x1 x2 x3; kernel_rfl
  | m0 + 1 => by rw [f90_l2, f90_e7, f90_e8, f90_e2 call n m0]; rfl
/-- pigeonhole/script.isName -/
def f90_T (call : CallF) (n : Nat) (j2n : LB → LC → Int → Int → OR) (a0 : LB) : OR :=
  j2n a0 (byteCells a0) ((((byteCells a0)).length / 1 : Nat) : Int) (0 : Int)
def f90_L (call : CallF) (n : Nat) (a0 : LB) : OR :=
  f90_T call n (f90_L2 call n n) a0
theorem f90_o (call : CallF) (n : Nat) (B : Code) (hB : B = f90_b) : f90_P B call n = f90_T call n (f90_P2 B call n n) := by
  subst hB; funext a0; kernel_rfl
theorem f90_l (call : CallF) (n : Nat) : f90_P f90_b call n = f90_T call n (f90_P2 f90_b call n n) :=
  f90_o call n _ (by kernel_rfl)
theorem f90_e (call : CallF) (n : Nat) : f90_P f90_b call n = f90_L call n := by
  rw [f90_l, f90_e2]; rfl
theorem f90_eq (n : Nat) (a0 : LB) : acall AXE AXF (n + 1) 90 [.one (.str a0)] [] = f90_L (acall AXE AXF n) (n + 1) a0 :=
  (show _ = f90_P f90_b (acall AXE AXF n) (n + 1) a0 by kernel_rfl).trans (by rw [f90_e])
def f118_P2 (B : Code) (call : CallF) (n : Nat) (x0 : Int) : OR :=
  f118_x B call n [1, 0, 1, 0, 1] (kSeq (f118_x B call n [1, 1]) (kEnd AXE 0 f118_r)) ⟨[(2, .one (.int .i64 x0))], []⟩
def f118_P5 (B : Code) (call : CallF) (n : Nat) (x0 : Int) : OR :=
  f118_x B call n [1, 1, 0, 1, 0, 1] (kSeq (f118_x B call n [1, 1, 1]) (kEnd AXE 0 f118_r)) ⟨[(2, .one (.int .i64 x0))], []⟩
def f118_P7 (B : Code) (call : CallF) (n : Nat) (x0 : Int) : OR :=
  f118_x B call n [1, 1, 1, 1] (kEnd AXE 0 f118_r) ⟨[(2, .one (.int .i64 x0))], []⟩
def f118_P6 (B : Code) (call : CallF) (n : Nat) (x0 : Int) : OR :=
  f118_x B call n [1, 1, 1] (kEnd AXE 0 f118_r) ⟨[(0, .one (.int .u8 x0))], []⟩
def f118_P4 (B : Code) (call : CallF) (n : Nat) (x0 : Int) (x1 : Bool) : OR :=
  f118_x B call n [1, 1, 0, 1] (kSeq (f118_x B call n [1, 1, 1]) (kEnd AXE 0 f118_r)) ⟨[(0, .one (.int .u8 x0)), (17, .one (.bool x1))], []⟩
def f118_P3 (B : Code) (call : CallF) (n : Nat) (x0 : Int) : OR :=
  f118_x B call n [1, 1] (kEnd AXE 0 f118_r) ⟨[(0, .one (.int .u8 x0))], []⟩
def f118_P1 (B : Code) (call : CallF) (n : Nat) (x0 : Int) (x1 : Bool) : OR :=
  f118_x B call n [1, 0, 1] (kSeq (f118_x B call n [1, 1]) (kEnd AXE 0 f118_r)) ⟨[(0, .one (.int .u8 x0)), (8, .one (.bool x1))], []⟩
def f118_P (B : Code) (call : CallF) (n : Nat) (a0 : Int) : OR :=
  f118_x B call n [] (kEnd AXE 0 f118_r) ⟨[(0, .one (.int .u8 a0))], []⟩
def f118_T2 (call : CallF) (n : Nat) (x0 : Int) : OR :=
  some (.one (.int .i64 x0), [])
theorem f118_o2 (call : CallF) (n : Nat) (B : Code) (hB : B = f118_b) : f118_P2 B call n = f118_T2 call n := by
  subst hB; funext x0; kernel_rfl
theorem f118_l2 (call : CallF) (n : Nat) : f118_P2 f118_b call n = f118_T2 call n :=
  f118_o2 call n _ (by kernel_rfl)
def f118_L2 (call : CallF) (n : Nat) : Int → OR :=
  f118_T2 call n
theorem f118_e2 (call : CallF) (n : Nat) : f118_P2 f118_b call n = f118_L2 call n := by
  rw [f118_l2]; rfl
def f118_T5 (call : CallF) (n : Nat) (x0 : Int) : OR :=
  some (.one (.int .i64 x0), [])
theorem f118_o5 (call : CallF) (n : Nat) (B : Code) (hB : B = f118_b) : f118_P5 B call n = f118_T5 call n := by
  subst hB; funext x0; kernel_rfl
theorem f118_l5 (call : CallF) (n : Nat) : f118_P5 f118_b call n = f118_T5 call n :=
  f118_o5 call n _ (by kernel_rfl)
def f118_L5 (call : CallF) (n : Nat) : Int → OR :=
  f118_T5 call n
theorem f118_e5 (call : CallF) (n : Nat) : f118_P5 f118_b call n = f118_L5 call n := by
  rw [f118_l5]; rfl
def f118_T7 (call : CallF) (n : Nat) (x0 : Int) : OR :=
  some (.one (.int .i64 x0), [])
theorem f118_o7 (call : CallF) (n : Nat) (B : Code) (hB : B = f118_b) : f118_P7 B call n = f118_T7 call n := by
  subst hB; funext x0; kernel_rfl
theorem f118_l7 (call : CallF) (n : Nat) : f118_P7 f118_b call n = f118_T7 call n :=
  f118_o7 call n _ (by kernel_rfl)
def f118_L7 (call : CallF) (n : Nat) : Int → OR :=
  f118_T7 call n
theorem f118_e7 (call : CallF) (n : Nat) : f118_P7 f118_b call n = f118_L7 call n := by
  rw [f118_l7]; rfl
def f118_T6 (call : CallF) (n : Nat) (j7 : Int → OR) (x0 : Int) : OR :=
  j7 (-1 : Int)
theorem f118_o6 (X0 : Code) (call : CallF) (n : Nat) (B : Code) (hB : B = (hole f118_b [1, 1, 1, 1] X0)) : f118_P6 B call n = f118_T6 call n (f118_P7 B call n) := by
  subst hB; funext x0; kernel_rfl
theorem f118_l6 (call : CallF) (n : Nat) : f118_P6 f118_b call n = f118_T6 call n (f118_P7 f118_b call n) :=
  f118_o6 (piece [1, 1, 1, 1] f118_b) call n _ (by kernel_rfl)
def f118_L6 (call : CallF) (n : Nat) : Int → OR :=
  f118_T6 call n (f118_L7 call n)
theorem f118_e6 (call : CallF) (n : Nat) : f118_P6 f118_b call n = f118_L6 call n := by
  rw [f118_l6, f118_e7]; rfl
def f118_T4 (call : CallF) (n : Nat) (j5 : Int → OR) (j6 : Int → OR) (x0 : Int) (x1 : Bool) : OR :=
  bif x1 then (
    j5 (IntKind.wrap .i64 ((IntKind.wrap .i64 x0) - (87 : Int)))) else (
    j6 x0)
theorem f118_o4 (X0 X1 : Code) (call : CallF) (n : Nat) (B : Code) (hB : B = (hole (hole f118_b [1, 1, 0, 1, 0, 1] X0) [1, 1, 1] X1)) : f118_P4 B call n = f118_T4 call n (f118_P5 B call n) (f118_P6 B call n) := by
  subst hB; funext x0 x1; cases x1 <;> kernel_rfl
theorem f118_l4 (call : CallF) (n : Nat) : f118_P4 f118_b call n = f118_T4 call n (f118_P5 f118_b call n) (f118_P6 f118_b call n) :=
  f118_o4 (piece [1, 1, 0, 1, 0, 1] f118_b) (piece [1, 1, 1] f118_b) call n _ (by kernel_rfl)
def f118_L4 (call : CallF) (n : Nat) : Int → Bool → OR :=
  f118_T4 call n (f118_L5 call n) (f118_L6 call n)
theorem f118_e4 (call : CallF) (n : Nat) : f118_P4 f118_b call n = f118_L4 call n := by
  rw [f118_l4, f118_e5, f118_e6]; rfl
def f118_T3 (call : CallF) (n : Nat) (j4 : Int → Bool → OR) (x0 : Int) : OR :=
  bif (decide (x0 ≥ (97 : Int))) then (
    j4 x0 (decide (x0 ≤ (102 : Int)))) else (
    j4 x0 false)
theorem f118_o3 (X0 : Code) (call : CallF) (n : Nat) (B : Code) (hB : B = (hole f118_b [1, 1, 0, 1] X0)) : f118_P3 B call n = f118_T3 call n (f118_P4 B call n) := by
  subst hB; funext x0; kernel_rfl
theorem f118_l3 (call : CallF) (n : Nat) : f118_P3 f118_b call n = f118_T3 call n (f118_P4 f118_b call n) :=
  f118_o3 (piece [1, 1, 0, 1] f118_b) call n _ (by kernel_rfl)
def f118_L3 (call : CallF) (n : Nat) : Int → OR :=
  f118_T3 call n (f118_L4 call n)
theorem f118_e3 (call : CallF) (n : Nat) : f118_P3 f118_b call n = f118_L3 call n := by
  rw [f118_l3, f118_e4]; rfl
def f118_T1 (call : CallF) (n : Nat) (j2 : Int → OR) (j3 : Int → OR) (x0 : Int) (x1 : Bool) : OR :=
  bif x1 then (
    j2 (IntKind.wrap .i64 ((IntKind.wrap .i64 x0) - (48 : Int)))) else (
    j3 x0)
theorem f118_o1 (X0 X1 : Code) (call : CallF) (n : Nat) (B : Code) (hB : B = (hole (hole f118_b [1, 0, 1, 0, 1] X0) [1, 1] X1)) : f118_P1 B call n = f118_T1 call n (f118_P2 B call n) (f118_P3 B call n) := by
  subst hB; funext x0 x1; cases x1 <;> kernel_rfl
theorem f118_l1 (call : CallF) (n : Nat) : f118_P1 f118_b call n = f118_T1 call n (f118_P2 f118_b call n) (f118_P3 f118_b call n) :=
  f118_o1 (piece [1, 0, 1, 0, 1] f118_b) (piece [1, 1] f118_b) call n _ (by kernel_rfl)
def f118_L1 (call : CallF) (n : Nat) : Int → Bool → OR :=
  f118_T1 call n (f118_L2 call n) (f118_L3 call n)
theorem f118_e1 (call : CallF) (n : Nat) : f118_P1 f118_b call n = f118_L1 call n := by
  rw [f118_l1, f118_e2, f118_e3]; rfl
/-- pigeonhole/pigeonholeref31.nibble -/
def f118_T (call : CallF) (n : Nat) (j1 : Int → Bool → OR) (a0 : Int) : OR :=
  bif (decide (a0 ≥ (48 : Int))) then (
    j1 a0 (decide (a0 ≤ (57 : Int)))) else (
    j1 a0 false)
def f118_L (call : CallF) (n : Nat) (a0 : Int) : OR :=
  f118_T call n (f118_L1 call n) a0
theorem f118_o (X0 : Code) (call : CallF) (n : Nat) (B : Code) (hB : B = (hole f118_b [1, 0, 1] X0)) : f118_P B call n = f118_T call n (f118_P1 B call n) := by
  subst hB; funext a0; kernel_rfl
theorem f118_l (call : CallF) (n : Nat) : f118_P f118_b call n = f118_T call n (f118_P1 f118_b call n) :=
  f118_o (piece [1, 0, 1] f118_b) call n _ (by kernel_rfl)
theorem f118_e (call : CallF) (n : Nat) : f118_P f118_b call n = f118_L call n := by
  rw [f118_l, f118_e1]; rfl
theorem f118_eq (n : Nat) (a0 : Int) : acall AXE AXF (n + 1) 118 [.one (.int .u8 a0)] [] = f118_L (acall AXE AXF n) (n + 1) a0 :=
  (show _ = f118_P f118_b (acall AXE AXF n) (n + 1) a0 by kernel_rfl).trans (by rw [f118_e])
end
end AX
end Go.Proofs.YtfbicbgdfcbhpaaGreatDoor
