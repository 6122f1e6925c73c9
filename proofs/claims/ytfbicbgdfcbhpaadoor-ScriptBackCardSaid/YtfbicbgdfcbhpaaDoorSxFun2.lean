/-
  The functions, printed, and that they are the reckoning.
-/
import Derived.Test.YtfbicbgdfcbhpaaDoorSxTab
set_option maxRecDepth 20000
set_option linter.unusedVariables false
set_option linter.unusedSimpArgs false
set_option linter.unusedSectionVars false
namespace Go.Proofs.YtfbicbgdfcbhpaaDoor
namespace AX
set_option linter.unusedVariables false
noncomputable section
def f54_P10 (B : Code) (call : CallF) (n : Nat) (m0 : Nat) (x0 x1 : LC) (x2 x3 : Int) : OR :=
  f54_x B call n [1, 1, 0, 1, 0, 0, 1, 1, 1] (kSeq (fun k => prK 1000003 (pruneAt f54_h 1000003) (aloop 1000003 (pruneAt f54_h 1000003) (f54_x B call n [1, 1, 0, 1, 0, 0]) k m0)) (kBlk 0 (kSeq (f54_x B call n [1, 1, 1]) (kEnd AXE 0 f54_r)))) ⟨[(3, .one (.sl (some ⟨3, 0, 5⟩) 1 x0)), (7, .one (.sl none 1 x1)), (8, .one (.int .i64 x2)), (9, .one (.int .i64 x3))], []⟩
def f54_P13 (B : Code) (call : CallF) (n : Nat) (m0 : Nat) (x0 : LC) (x1 : Int) (x2 : LC) (x3 x4 : Int) (x5 : Bool) : OR :=
  f54_x B call n [1, 1, 0, 1, 0, 0, 1, 1, 0, 0, 1, 0, 1, 1, 1, 1, 1, 1, 1] (kBlk 2 (kBlk 1 (kSeq (f54_x B call n [1, 1, 0, 1, 0, 0, 1, 1, 1]) (kSeq (fun k => prK 1000003 (pruneAt f54_h 1000003) (aloop 1000003 (pruneAt f54_h 1000003) (f54_x B call n [1, 1, 0, 1, 0, 0]) k m0)) (kBlk 0 (kSeq (f54_x B call n [1, 1, 1]) (kEnd AXE 0 f54_r))))))) ⟨[(3, .one (.sl (some ⟨3, 0, 5⟩) 1 x0)), (5, .one (.int .u8 x1)), (7, .one (.sl none 1 x2)), (8, .one (.int .i64 x3)), (9, .one (.int .i64 x4)), (50, .one (.bool x5))], []⟩
def f54_P12 (B : Code) (call : CallF) (n : Nat) (m0 : Nat) (x0 : LC) (x1 : Int) (x2 : LC) (x3 x4 : Int) (x5 : Bool) : OR :=
  f54_x B call n [1, 1, 0, 1, 0, 0, 1, 1, 0, 0, 1, 0, 1, 1, 1, 1, 1] (kBlk 2 (kBlk 1 (kSeq (f54_x B call n [1, 1, 0, 1, 0, 0, 1, 1, 1]) (kSeq (fun k => prK 1000003 (pruneAt f54_h 1000003) (aloop 1000003 (pruneAt f54_h 1000003) (f54_x B call n [1, 1, 0, 1, 0, 0]) k m0)) (kBlk 0 (kSeq (f54_x B call n [1, 1, 1]) (kEnd AXE 0 f54_r))))))) ⟨[(3, .one (.sl (some ⟨3, 0, 5⟩) 1 x0)), (5, .one (.int .u8 x1)), (7, .one (.sl none 1 x2)), (8, .one (.int .i64 x3)), (9, .one (.int .i64 x4)), (44, .one (.bool x5))], []⟩
def f54_P11 (B : Code) (call : CallF) (n : Nat) (m0 : Nat) (x0 : LC) (x1 : Int) (x2 : LC) (x3 x4 : Int) (x5 : Bool) : OR :=
  f54_x B call n [1, 1, 0, 1, 0, 0, 1, 1, 0, 0, 1, 0, 1, 1, 1] (kBlk 2 (kBlk 1 (kSeq (f54_x B call n [1, 1, 0, 1, 0, 0, 1, 1, 1]) (kSeq (fun k => prK 1000003 (pruneAt f54_h 1000003) (aloop 1000003 (pruneAt f54_h 1000003) (f54_x B call n [1, 1, 0, 1, 0, 0]) k m0)) (kBlk 0 (kSeq (f54_x B call n [1, 1, 1]) (kEnd AXE 0 f54_r))))))) ⟨[(3, .one (.sl (some ⟨3, 0, 5⟩) 1 x0)), (5, .one (.int .u8 x1)), (7, .one (.sl none 1 x2)), (8, .one (.int .i64 x3)), (9, .one (.int .i64 x4)), (33, .one (.bool x5))], []⟩
def f54_P9 (B : Code) (call : CallF) (n : Nat) (m0 : Nat) (x0 : LC) (x1 : Int) (x2 : LC) (x3 x4 : Int) (x5 : Bool) : OR :=
  f54_x B call n [1, 1, 0, 1, 0, 0, 1, 1, 0, 0, 1, 0, 1] (kBlk 2 (kBlk 1 (kSeq (f54_x B call n [1, 1, 0, 1, 0, 0, 1, 1, 1]) (kSeq (fun k => prK 1000003 (pruneAt f54_h 1000003) (aloop 1000003 (pruneAt f54_h 1000003) (f54_x B call n [1, 1, 0, 1, 0, 0]) k m0)) (kBlk 0 (kSeq (f54_x B call n [1, 1, 1]) (kEnd AXE 0 f54_r))))))) ⟨[(3, .one (.sl (some ⟨3, 0, 5⟩) 1 x0)), (5, .one (.int .u8 x1)), (7, .one (.sl none 1 x2)), (8, .one (.int .i64 x3)), (9, .one (.int .i64 x4)), (22, .one (.bool x5))], []⟩
def f54_P3 (B : Code) (call : CallF) (n : Nat) (m0 : Nat) (x0 x1 : LC) (x2 x3 : Int) : OR :=
  aloop 1000003 (pruneAt f54_h 1000003) (f54_x B call n [1, 1, 0, 1, 0, 0]) (kBlk 0 (kSeq (f54_x B call n [1, 1, 1]) (kEnd AXE 0 f54_r))) m0 ⟨[(3, .one (.sl (some ⟨3, 0, 5⟩) 1 x0)), (7, .one (.sl none 1 x1)), (8, .one (.int .i64 x2)), (9, .one (.int .i64 x3))], []⟩
def f54_P (B : Code) (call : CallF) (n : Nat) (a0 : LC) : OR :=
  f54_x B call n [] (kEnd AXE 0 f54_r) ⟨[(0, .one (.sl none 1 a0))], []⟩
def f54_T10 (call : CallF) (n : Nat) (j3m : LC → LC → Int → Int → OR) (x0 x1 : LC) (x2 x3 : Int) : OR :=
  j3m x0 x1 x2 (IntKind.wrap .i64 (x3 + (1 : Int)))
theorem f54_o10 (call : CallF) (n : Nat) (m0 : Nat) (B : Code) (hB : B = f54_b) : f54_P10 B call n m0 = f54_T10 call n (f54_P3 B call n m0) := by
  subst hB; funext x0 x1 x2 x3; kernel_rfl
theorem f54_l10 (call : CallF) (n : Nat) (m0 : Nat) : f54_P10 f54_b call n m0 = f54_T10 call n (f54_P3 f54_b call n m0) :=
  f54_o10 call n m0 _ (by kernel_rfl)
def f54_L10 (call : CallF) (n : Nat) (h_m0 : LC → LC → Int → Int → OR) : LC → LC → Int → Int → OR :=
  f54_T10 call n h_m0
theorem f54_e10 (call : CallF) (n : Nat) (m0 : Nat) : f54_P10 f54_b call n m0 = f54_L10 call n (f54_P3 f54_b call n m0) := by
  rw [f54_l10]; rfl
def f54_T13 (call : CallF) (n : Nat) (j10 : LC → LC → Int → Int → OR) (x0 : LC) (x1 : Int) (x2 : LC) (x3 x4 : Int) (x5 : Bool) : OR :=
  bif x5 then (
    guardB (decide (((x0).length + (([.int .u8 (92 : Int), .int .u8 (110 : Int)] : List Cell)).length) * 1000 ≤ rowLim)) (
      j10 (x0 ++ ([.int .u8 (92 : Int), .int .u8 (110 : Int)] : List Cell)) x2 x3 x4)) else (
    itemK ([48, 49, 50, 51, 52, 53, 54, 55, 56, 57, 97, 98, 99, 100, 101, 102] : List UInt8) (Int.fdiv x1 ((2 : Int) ^ (min (Int.toNat (4 : Int)) (IntKind.bits .u8)))) fun u1 =>
    itemK ([48, 49, 50, 51, 52, 53, 54, 55, 56, 57, 97, 98, 99, 100, 101, 102] : List UInt8) (IntKind.wrap .u8 ((BitVec.toNat ((BitVec.ofInt (IntKind.bits .u8) x1) &&& (BitVec.ofInt (IntKind.bits .u8) (15 : Int))) : Nat) : Int)) fun u2 =>
    guardB (decide (((x0).length + (([.int .u8 (92 : Int), .int .u8 (120 : Int), .int .u8 (UInt8.toNat u1 : Int), .int .u8 (UInt8.toNat u2 : Int)] : List Cell)).length) * 1000 ≤ rowLim)) (
      j10 (x0 ++ ([.int .u8 (92 : Int), .int .u8 (120 : Int), .int .u8 (UInt8.toNat u1 : Int), .int .u8 (UInt8.toNat u2 : Int)] : List Cell)) x2 x3 x4))
theorem f54_o13 (X0 : Code) (call : CallF) (n : Nat) (m0 : Nat) (B : Code) (hB : B = (hole f54_b [1, 1, 0, 1, 0, 0, 1, 1, 1] X0)) : f54_P13 B call n m0 = f54_T13 call n (f54_P10 B call n m0) := by
  subst hB; funext x0 x1 x2 x3 x4 x5; cases x5 <;> kernel_rfl
theorem f54_l13 (call : CallF) (n : Nat) (m0 : Nat) : f54_P13 f54_b call n m0 = f54_T13 call n (f54_P10 f54_b call n m0) :=
  f54_o13 (piece [1, 1, 0, 1, 0, 0, 1, 1, 1] f54_b) call n m0 _ (by kernel_rfl)
def f54_L13 (call : CallF) (n : Nat) (h_m0 : LC → LC → Int → Int → OR) : LC → Int → LC → Int → Int → Bool → OR :=
  f54_T13 call n (f54_L10 call n h_m0)
theorem f54_e13 (call : CallF) (n : Nat) (m0 : Nat) : f54_P13 f54_b call n m0 = f54_L13 call n (f54_P3 f54_b call n m0) := by
  rw [f54_l13, f54_e10]; rfl
def f54_T12 (call : CallF) (n : Nat) (j10 : LC → LC → Int → Int → OR) (j13 : LC → Int → LC → Int → Int → Bool → OR) (x0 : LC) (x1 : Int) (x2 : LC) (x3 x4 : Int) (x5 : Bool) : OR :=
  bif x5 then (
    guardB (decide (((x0).length + (([.int .u8 (92 : Int), .int .u8 (114 : Int)] : List Cell)).length) * 1000 ≤ rowLim)) (
      j10 (x0 ++ ([.int .u8 (92 : Int), .int .u8 (114 : Int)] : List Cell)) x2 x3 x4)) else (
    j13 x0 x1 x2 x3 x4 (x1 == (10 : Int)))
theorem f54_o12 (X0 X1 : Code) (call : CallF) (n : Nat) (m0 : Nat) (B : Code) (hB : B = (hole (hole f54_b [1, 1, 0, 1, 0, 0, 1, 1, 0, 0, 1, 0, 1, 1, 1, 1, 1, 1, 1] X0) [1, 1, 0, 1, 0, 0, 1, 1, 1] X1)) : f54_P12 B call n m0 = f54_T12 call n (f54_P10 B call n m0) (f54_P13 B call n m0) := by
  subst hB; funext x0 x1 x2 x3 x4 x5; cases x5 <;> kernel_rfl
theorem f54_l12 (call : CallF) (n : Nat) (m0 : Nat) : f54_P12 f54_b call n m0 = f54_T12 call n (f54_P10 f54_b call n m0) (f54_P13 f54_b call n m0) :=
  f54_o12 (piece [1, 1, 0, 1, 0, 0, 1, 1, 0, 0, 1, 0, 1, 1, 1, 1, 1, 1, 1] f54_b) (piece [1, 1, 0, 1, 0, 0, 1, 1, 1] f54_b) call n m0 _ (by kernel_rfl)
def f54_L12 (call : CallF) (n : Nat) (h_m0 : LC → LC → Int → Int → OR) : LC → Int → LC → Int → Int → Bool → OR :=
  f54_T12 call n (f54_L10 call n h_m0) (f54_L13 call n h_m0)
theorem f54_e12 (call : CallF) (n : Nat) (m0 : Nat) : f54_P12 f54_b call n m0 = f54_L12 call n (f54_P3 f54_b call n m0) := by
  rw [f54_l12, f54_e10, f54_e13]; rfl
def f54_T11 (call : CallF) (n : Nat) (j10 : LC → LC → Int → Int → OR) (j12 : LC → Int → LC → Int → Int → Bool → OR) (x0 : LC) (x1 : Int) (x2 : LC) (x3 x4 : Int) (x5 : Bool) : OR :=
  bif x5 then (
    guardB (decide (((x0).length + (([.int .u8 x1] : List Cell)).length) * 1000 ≤ rowLim)) (
      j10 (x0 ++ ([.int .u8 x1] : List Cell)) x2 x3 x4)) else (
    j12 x0 x1 x2 x3 x4 (x1 == (13 : Int)))
theorem f54_o11 (X0 X1 : Code) (call : CallF) (n : Nat) (m0 : Nat) (B : Code) (hB : B = (hole (hole f54_b [1, 1, 0, 1, 0, 0, 1, 1, 0, 0, 1, 0, 1, 1, 1, 1, 1] X0) [1, 1, 0, 1, 0, 0, 1, 1, 1] X1)) : f54_P11 B call n m0 = f54_T11 call n (f54_P10 B call n m0) (f54_P12 B call n m0) := by
  subst hB; funext x0 x1 x2 x3 x4 x5; cases x5 <;> kernel_rfl
theorem f54_l11 (call : CallF) (n : Nat) (m0 : Nat) : f54_P11 f54_b call n m0 = f54_T11 call n (f54_P10 f54_b call n m0) (f54_P12 f54_b call n m0) :=
  f54_o11 (piece [1, 1, 0, 1, 0, 0, 1, 1, 0, 0, 1, 0, 1, 1, 1, 1, 1] f54_b) (piece [1, 1, 0, 1, 0, 0, 1, 1, 1] f54_b) call n m0 _ (by kernel_rfl)
def f54_L11 (call : CallF) (n : Nat) (h_m0 : LC → LC → Int → Int → OR) : LC → Int → LC → Int → Int → Bool → OR :=
  f54_T11 call n (f54_L10 call n h_m0) (f54_L12 call n h_m0)
theorem f54_e11 (call : CallF) (n : Nat) (m0 : Nat) : f54_P11 f54_b call n m0 = f54_L11 call n (f54_P3 f54_b call n m0) := by
  rw [f54_l11, f54_e10, f54_e12]; rfl
def f54_T9 (call : CallF) (n : Nat) (j10 : LC → LC → Int → Int → OR) (j11 : LC → Int → LC → Int → Int → Bool → OR) (x0 : LC) (x1 : Int) (x2 : LC) (x3 x4 : Int) (x5 : Bool) : OR :=
  bif x5 then (
    guardB (decide (((x0).length + (([.int .u8 (92 : Int), .int .u8 x1] : List Cell)).length) * 1000 ≤ rowLim)) (
      j10 (x0 ++ ([.int .u8 (92 : Int), .int .u8 x1] : List Cell)) x2 x3 x4)) else (
    bif (decide (x1 ≥ (32 : Int))) then (
      j11 x0 x1 x2 x3 x4 (decide (x1 ≤ (126 : Int)))) else (
      j11 x0 x1 x2 x3 x4 false))
theorem f54_o9 (X0 X1 : Code) (call : CallF) (n : Nat) (m0 : Nat) (B : Code) (hB : B = (hole (hole f54_b [1, 1, 0, 1, 0, 0, 1, 1, 0, 0, 1, 0, 1, 1, 1] X0) [1, 1, 0, 1, 0, 0, 1, 1, 1] X1)) : f54_P9 B call n m0 = f54_T9 call n (f54_P10 B call n m0) (f54_P11 B call n m0) := by
  subst hB; funext x0 x1 x2 x3 x4 x5; cases x5 <;> kernel_rfl
theorem f54_l9 (call : CallF) (n : Nat) (m0 : Nat) : f54_P9 f54_b call n m0 = f54_T9 call n (f54_P10 f54_b call n m0) (f54_P11 f54_b call n m0) :=
  f54_o9 (piece [1, 1, 0, 1, 0, 0, 1, 1, 0, 0, 1, 0, 1, 1, 1] f54_b) (piece [1, 1, 0, 1, 0, 0, 1, 1, 1] f54_b) call n m0 _ (by kernel_rfl)
def f54_L9 (call : CallF) (n : Nat) (h_m0 : LC → LC → Int → Int → OR) : LC → Int → LC → Int → Int → Bool → OR :=
  f54_T9 call n (f54_L10 call n h_m0) (f54_L11 call n h_m0)
theorem f54_e9 (call : CallF) (n : Nat) (m0 : Nat) : f54_P9 f54_b call n m0 = f54_L9 call n (f54_P3 f54_b call n m0) := by
  rw [f54_l9, f54_e10, f54_e11]; rfl
def f54_T3 (call : CallF) (n : Nat) (j9 : LC → Int → LC → Int → Int → Bool → OR) (x0 x1 : LC) (x2 x3 : Int) : OR :=
  bif (decide (x3 < x2)) then (
    itemK x1 x3 fun c1 =>
    castI .u8 c1 fun n2 =>
    bif (n2 == (34 : Int)) then (
      j9 x0 n2 x1 x2 x3 true) else (
      j9 x0 n2 x1 x2 x3 (n2 == (92 : Int)))) else (
    guardB (decide (((x0).length + (([.int .u8 (34 : Int)] : List Cell)).length) * 1000 ≤ rowLim)) (
      bytesK (x0 ++ ([.int .u8 (34 : Int)] : List Cell)) fun s3 =>
      some (.one (.str s3), [])))
theorem f54_o3 (X0 : Code) (call : CallF) (n : Nat) (m0 : Nat) (B : Code) (hB : B = (hole f54_b [1, 1, 0, 1, 0, 0, 1, 1, 0, 0, 1, 0, 1] X0)) : f54_P3 B call n (m0 + 1) = f54_T3 call n (f54_P9 B call n m0) := by
  subst hB; funext x0 x1 x2 x3; kernel_rfl
theorem f54_l3 (call : CallF) (n : Nat) (m0 : Nat) : f54_P3 f54_b call n (m0 + 1) = f54_T3 call n (f54_P9 f54_b call n m0) :=
  f54_o3 (piece [1, 1, 0, 1, 0, 0, 1, 1, 0, 0, 1, 0, 1] f54_b) call n m0 _ (by kernel_rfl)
def f54_L3 (call : CallF) (n : Nat) : Nat → LC → LC → Int → Int → OR
  | 0 => fun _ _ _ _ => none
  | m0 + 1 => f54_T3 call n (f54_L9 call n (f54_L3 call n m0))
theorem f54_e3 (call : CallF) (n : Nat) : ∀ m0 : Nat, f54_P3 f54_b call n m0 = f54_L3 call n m0
  | 0 => by funext x0 x1 x2 x3; kernel_rfl
  | m0 + 1 => by rw [f54_l3, f54_e9, f54_e3 call n m0]; rfl
/-- pigeonhole/script.quoted -/
def f54_T (call : CallF) (n : Nat) (j3n : LC → LC → Int → Int → OR) (a0 : LC) : OR :=
  j3n ([.int .u8 (34 : Int)] : List Cell) a0 (((a0).length / 1 : Nat) : Int) (0 : Int)
def f54_L (call : CallF) (n : Nat) (a0 : LC) : OR :=
  f54_T call n (f54_L3 call n n) a0
theorem f54_o (call : CallF) (n : Nat) (B : Code) (hB : B = f54_b) : f54_P B call n = f54_T call n (f54_P3 B call n n) := by
  subst hB; funext a0; kernel_rfl
theorem f54_l (call : CallF) (n : Nat) : f54_P f54_b call n = f54_T call n (f54_P3 f54_b call n n) :=
  f54_o call n _ (by kernel_rfl)
theorem f54_e (call : CallF) (n : Nat) : f54_P f54_b call n = f54_L call n := by
  rw [f54_l, f54_e3]; rfl
theorem f54_eq (n : Nat) (a0 : LC) : acall AXE AXF (n + 1) 54 [.one (.sl none 1 a0)] [] = f54_L (acall AXE AXF n) (n + 1) a0 :=
  (show _ = f54_P f54_b (acall AXE AXF n) (n + 1) a0 by kernel_rfl).trans (by rw [f54_e])
def f55_P (B : Code) (call : CallF) (n : Nat) (a0 : LB) : OR :=
  f55_x B call n [] (kEnd AXE 0 f55_r) ⟨[(0, .one (.str a0))], []⟩
/-- pigeonhole/script.named -/
def f55_T (call : CallF) (n : Nat) (a0 : LB) : OR :=
  bif (a0 == ([] : List UInt8)) then (
    some (.one (.str ([42] : List UInt8)), [])) else (
    some (.one (.str a0), []))
def f55_L (call : CallF) (n : Nat) (a0 : LB) : OR :=
  f55_T call n a0
theorem f55_o (call : CallF) (n : Nat) (B : Code) (hB : B = f55_b) : f55_P B call n = f55_T call n := by
  subst hB; funext a0; kernel_rfl
theorem f55_l (call : CallF) (n : Nat) : f55_P f55_b call n = f55_T call n :=
  f55_o call n _ (by kernel_rfl)
theorem f55_e (call : CallF) (n : Nat) : f55_P f55_b call n = f55_L call n := by
  rw [f55_l]; rfl
theorem f55_eq (n : Nat) (a0 : LB) : acall AXE AXF (n + 1) 55 [.one (.str a0)] [] = f55_L (acall AXE AXF n) (n + 1) a0 :=
  (show _ = f55_P f55_b (acall AXE AXF n) (n + 1) a0 by kernel_rfl).trans (by rw [f55_e])
def f57_P5 (B : Code) (call : CallF) (n : Nat) (m0 : Nat) (x0 x1 : LC) (x2 x3 : Int) : OR :=
  aloop 1000004 (pruneAt f57_h 1000004) (f57_x B call n [1, 1, 0, 1, 0, 0]) (kBlk 0 (kSeq (f57_x B call n [1, 1, 1]) (kEnd AXE 0 f57_r))) m0 ⟨[(0, .one (.sl none 1 x0)), (1, .one (.sl none 1 x1)), (12, .one (.int .i64 x2)), (13, .one (.int .i64 x3))], []⟩
def f57_P (B : Code) (call : CallF) (n : Nat) (a0 a1 : LC) : OR :=
  f57_x B call n [] (kEnd AXE 0 f57_r) ⟨[(0, .one (.sl none 1 a0)), (1, .one (.sl none 1 a1))], []⟩
def f57_T5 (call : CallF) (n : Nat) (j5m : LC → LC → Int → Int → OR) (x0 x1 : LC) (x2 x3 : Int) : OR :=
  bif (decide (x3 < x2)) then (
    itemK x0 x3 fun c1 =>
    castS c1 fun s2 =>
    itemK x1 x3 fun c3 =>
    castS c3 fun s4 =>
    bif (!(s2 == s4)) then (
      some (.one (.bool false), [])) else (
      j5m x0 x1 x2 (IntKind.wrap .i64 (x3 + (1 : Int))))) else (
    some (.one (.bool true), []))
theorem f57_o5 (call : CallF) (n : Nat) (m0 : Nat) (B : Code) (hB : B = f57_b) : f57_P5 B call n (m0 + 1) = f57_T5 call n (f57_P5 B call n m0) := by
  subst hB; funext x0 x1 x2 x3; kernel_rfl
theorem f57_l5 (call : CallF) (n : Nat) (m0 : Nat) : f57_P5 f57_b call n (m0 + 1) = f57_T5 call n (f57_P5 f57_b call n m0) :=
  f57_o5 call n m0 _ (by kernel_rfl)
def f57_L5 (call : CallF) (n : Nat) : Nat → LC → LC → Int → Int → OR
  | 0 => fun _ _ _ _ => none
  | m0 + 1 => f57_T5 call n (f57_L5 call n m0)
theorem f57_e5 (call : CallF) (n : Nat) : ∀ m0 : Nat, f57_P5 f57_b call n m0 = f57_L5 call n m0
  | 0 => by funext x0 x1 x2 x3; kernel_rfl
  | m0 + 1 => by rw [f57_l5, f57_e5 call n m0]; rfl
/-- slices.Equal[[]string,string] -/
def f57_T (call : CallF) (n : Nat) (j5n : LC → LC → Int → Int → OR) (a0 a1 : LC) : OR :=
  bif ((((a0).length / 1 : Nat) : Int) != (((a1).length / 1 : Nat) : Int)) then (
    some (.one (.bool false), [])) else (
    j5n a0 a1 (((a0).length / 1 : Nat) : Int) (0 : Int))
def f57_L (call : CallF) (n : Nat) (a0 a1 : LC) : OR :=
  f57_T call n (f57_L5 call n n) a0 a1
theorem f57_o (call : CallF) (n : Nat) (B : Code) (hB : B = f57_b) : f57_P B call n = f57_T call n (f57_P5 B call n n) := by
  subst hB; funext a0 a1; kernel_rfl
theorem f57_l (call : CallF) (n : Nat) : f57_P f57_b call n = f57_T call n (f57_P5 f57_b call n n) :=
  f57_o call n _ (by kernel_rfl)
theorem f57_e (call : CallF) (n : Nat) : f57_P f57_b call n = f57_L call n := by
  rw [f57_l, f57_e5]; rfl
theorem f57_eq (n : Nat) (a0 a1 : LC) : acall AXE AXF (n + 1) 57 [.one (.sl none 1 a0), .one (.sl none 1 a1)] [] = f57_L (acall AXE AXF n) (n + 1) a0 a1 :=
  (show _ = f57_P f57_b (acall AXE AXF n) (n + 1) a0 a1 by kernel_rfl).trans (by rw [f57_e])
def f58_P5 (B : Code) (call : CallF) (n : Nat) (m0 : Nat) (x0 x1 : LC) (x2 x3 : Int) : OR :=
  aloop 1000004 (pruneAt f58_h 1000004) (f58_x B call n [1, 1, 0, 1, 0, 0]) (kBlk 0 (kSeq (f58_x B call n [1, 1, 1]) (kEnd AXE 0 f58_r))) m0 ⟨[(0, .one (.sl none 1 x0)), (1, .one (.sl none 1 x1)), (12, .one (.int .i64 x2)), (13, .one (.int .i64 x3))], []⟩
def f58_P (B : Code) (call : CallF) (n : Nat) (a0 a1 : LC) : OR :=
  f58_x B call n [] (kEnd AXE 0 f58_r) ⟨[(0, .one (.sl none 1 a0)), (1, .one (.sl none 1 a1))], []⟩
def f58_T5 (call : CallF) (n : Nat) (j5m : LC → LC → Int → Int → OR) (x0 x1 : LC) (x2 x3 : Int) : OR :=
  bif (decide (x3 < x2)) then (
    itemK x0 x3 fun c1 =>
    castI .i64 c1 fun n2 =>
    itemK x1 x3 fun c3 =>
    castI .i64 c3 fun n4 =>
    bif (n2 != n4) then (
      some (.one (.bool false), [])) else (
      j5m x0 x1 x2 (IntKind.wrap .i64 (x3 + (1 : Int))))) else (
    some (.one (.bool true), []))
theorem f58_o5 (call : CallF) (n : Nat) (m0 : Nat) (B : Code) (hB : B = f58_b) : f58_P5 B call n (m0 + 1) = f58_T5 call n (f58_P5 B call n m0) := by
  subst hB; funext x0 x1 x2 x3; kernel_rfl
theorem f58_l5 (call : CallF) (n : Nat) (m0 : Nat) : f58_P5 f58_b call n (m0 + 1) = f58_T5 call n (f58_P5 f58_b call n m0) :=
  f58_o5 call n m0 _ (by kernel_rfl)
def f58_L5 (call : CallF) (n : Nat) : Nat → LC → LC → Int → Int → OR
  | 0 => fun _ _ _ _ => none
  | m0 + 1 => f58_T5 call n (f58_L5 call n m0)
theorem f58_e5 (call : CallF) (n : Nat) : ∀ m0 : Nat, f58_P5 f58_b call n m0 = f58_L5 call n m0
  | 0 => by funext x0 x1 x2 x3; kernel_rfl
  | m0 + 1 => by rw [f58_l5, f58_e5 call n m0]; rfl
/-- slices.Equal[[]int,int] -/
def f58_T (call : CallF) (n : Nat) (j5n : LC → LC → Int → Int → OR) (a0 a1 : LC) : OR :=
  bif ((((a0).length / 1 : Nat) : Int) != (((a1).length / 1 : Nat) : Int)) then (
    some (.one (.bool false), [])) else (
    j5n a0 a1 (((a0).length / 1 : Nat) : Int) (0 : Int))
def f58_L (call : CallF) (n : Nat) (a0 a1 : LC) : OR :=
  f58_T call n (f58_L5 call n n) a0 a1
theorem f58_o (call : CallF) (n : Nat) (B : Code) (hB : B = f58_b) : f58_P B call n = f58_T call n (f58_P5 B call n n) := by
  subst hB; funext a0 a1; kernel_rfl
theorem f58_l (call : CallF) (n : Nat) : f58_P f58_b call n = f58_T call n (f58_P5 f58_b call n n) :=
  f58_o call n _ (by kernel_rfl)
theorem f58_e (call : CallF) (n : Nat) : f58_P f58_b call n = f58_L call n := by
  rw [f58_l, f58_e5]; rfl
theorem f58_eq (n : Nat) (a0 a1 : LC) : acall AXE AXF (n + 1) 58 [.one (.sl none 1 a0), .one (.sl none 1 a1)] [] = f58_L (acall AXE AXF n) (n + 1) a0 a1 :=
  (show _ = f58_P f58_b (acall AXE AXF n) (n + 1) a0 a1 by kernel_rfl).trans (by rw [f58_e])
def f69_P2 (B : Code) (call : CallF) (n : Nat) (x0 : Int) (x1 : Bool) : OR :=
  f69_x B call n [1, 1, 1] (kEnd AXE 0 f69_r) ⟨[(2, .one (.int .i64 x0)), (3, .one (.bool x1))], []⟩
def f69_P (B : Code) (call : CallF) (n : Nat) (a0 : LB) : OR :=
  f69_x B call n [] (kEnd AXE 0 f69_r) ⟨[(0, .one (.str a0))], []⟩
def f69_T2 (call : CallF) (n : Nat) (x0 : Int) (x1 : Bool) : OR :=
  some (.tup [.one (.int .i64 x0), .one (.bool x1)], [])
theorem f69_o2 (call : CallF) (n : Nat) (B : Code) (hB : B = f69_b) : f69_P2 B call n = f69_T2 call n := by
  subst hB; funext x0 x1; kernel_rfl
theorem f69_l2 (call : CallF) (n : Nat) : f69_P2 f69_b call n = f69_T2 call n :=
  f69_o2 call n _ (by kernel_rfl)
def f69_L2 (call : CallF) (n : Nat) : Int → Bool → OR :=
  f69_T2 call n
theorem f69_e2 (call : CallF) (n : Nat) : f69_P2 f69_b call n = f69_L2 call n := by
  rw [f69_l2]; rfl
/-- pigeonhole/script.number -/
def f69_T (call : CallF) (n : Nat) (j2 : Int → Bool → OR) (a0 : LB) : OR :=
  primK pAtoi [.one (.str a0)] fun v9 =>
  castTup v9 fun v10 =>
  zI .i64 v10 fun n11 r12 =>
  zE r12 fun b13 r14 =>
  nilK r14 (
    bif (!b13) then (
      primK pItoa [.one (.int .i64 n11)] fun v15 =>
      oS v15 fun s16 =>
      bif (s16 == a0) then (
        bif (decide (n11 ≥ (-9007199254740992 : Int))) then (
          j2 n11 (decide (n11 ≤ (9007199254740992 : Int)))) else (
          j2 n11 false)) else (
        j2 n11 false)) else (
      j2 n11 false))
def f69_L (call : CallF) (n : Nat) (a0 : LB) : OR :=
  f69_T call n (f69_L2 call n) a0
theorem f69_o (X0 : Code) (call : CallF) (n : Nat) (B : Code) (hB : B = (hole f69_b [1, 1, 1] X0)) : f69_P B call n = f69_T call n (f69_P2 B call n) := by
  subst hB; funext a0; kernel_rfl
theorem f69_l (call : CallF) (n : Nat) : f69_P f69_b call n = f69_T call n (f69_P2 f69_b call n) :=
  f69_o (piece [1, 1, 1] f69_b) call n _ (by kernel_rfl)
theorem f69_e (call : CallF) (n : Nat) : f69_P f69_b call n = f69_L call n := by
  rw [f69_l, f69_e2]; rfl
theorem f69_eq (n : Nat) (a0 : LB) : acall AXE AXF (n + 1) 69 [.one (.str a0)] [] = f69_L (acall AXE AXF n) (n + 1) a0 :=
  (show _ = f69_P f69_b (acall AXE AXF n) (n + 1) a0 by kernel_rfl).trans (by rw [f69_e])
def f70_P11 (B : Code) (call : CallF) (n : Nat) (m0 : Nat) (x0 : Bool) (x1 : LB) (x2 : Int) (x3 : LC) (x4 x5 : Int) : OR :=
  f70_x B call n [1, 0, 1, 0, 0, 1, 1, 1] (kSeq (fun k => prK 1000002 (pruneAt f70_h 1000002) (aloop 1000002 (pruneAt f70_h 1000002) (f70_x B call n [1, 0, 1, 0, 0]) k m0)) (kBlk 0 (kSeq (f70_x B call n [1, 1]) (kEnd AXE 0 f70_r)))) ⟨[(12, .one (.bool x0)), (0, .one (.str x1)), (4, .one (.int .u8 x2)), (6, .one (.sl none 1 x3)), (7, .one (.int .i64 x4)), (8, .one (.int .i64 x5))], []⟩
def f70_P12 (B : Code) (call : CallF) (n : Nat) (m0 : Nat) (x0 : Bool) : OR :=
  f70_x B call n [1, 0, 1, 0, 0, 1, 1, 0, 0, 1, 0, 1, 1, 1] (kBlk 2 (kBlk 1 (kSeq (f70_x B call n [1, 0, 1, 0, 0, 1, 1, 1]) (kSeq (fun k => prK 1000002 (pruneAt f70_h 1000002) (aloop 1000002 (pruneAt f70_h 1000002) (f70_x B call n [1, 0, 1, 0, 0]) k m0)) (kBlk 0 (kSeq (f70_x B call n [1, 1]) (kEnd AXE 0 f70_r))))))) ⟨[(2, .one (.bool x0))], []⟩
def f70_P9 (B : Code) (call : CallF) (n : Nat) (m0 : Nat) (x0 : Bool) (x1 : LB) (x2 : Int) (x3 : LC) (x4 x5 : Int) : OR :=
  f70_x B call n [1, 0, 1, 0, 0, 1, 1, 0, 0, 1, 0, 1] (kBlk 2 (kBlk 1 (kSeq (f70_x B call n [1, 0, 1, 0, 0, 1, 1, 1]) (kSeq (fun k => prK 1000002 (pruneAt f70_h 1000002) (aloop 1000002 (pruneAt f70_h 1000002) (f70_x B call n [1, 0, 1, 0, 0]) k m0)) (kBlk 0 (kSeq (f70_x B call n [1, 1]) (kEnd AXE 0 f70_r))))))) ⟨[(12, .one (.bool x0)), (0, .one (.str x1)), (4, .one (.int .u8 x2)), (6, .one (.sl none 1 x3)), (7, .one (.int .i64 x4)), (8, .one (.int .i64 x5))], []⟩
def f70_P16 (B : Code) (call : CallF) (n : Nat) (m0 : Nat) (x0 : Bool) (x1 : LB) (x2 : LC) (x3 x4 : Int) : OR :=
  f70_x B call n [1, 0, 1, 0, 0, 1, 1, 1] (kSeq (fun k => prK 1000002 (pruneAt f70_h 1000002) (aloop 1000002 (pruneAt f70_h 1000002) (f70_x B call n [1, 0, 1, 0, 0]) k m0)) (kBlk 0 (kSeq (f70_x B call n [1, 1]) (kEnd AXE 0 f70_r)))) ⟨[(12, .one (.bool x0)), (0, .one (.str x1)), (6, .one (.sl none 1 x2)), (7, .one (.int .i64 x3)), (8, .one (.int .i64 x4))], []⟩
def f70_P15 (B : Code) (call : CallF) (n : Nat) (m0 : Nat) (x0 : LB) (x1 : LC) (x2 x3 : Int) (x4 : Bool) : OR :=
  f70_x B call n [1, 0, 1, 0, 0, 1, 1, 0, 0, 1, 0, 1] (kBlk 2 (kBlk 1 (kSeq (f70_x B call n [1, 0, 1, 0, 0, 1, 1, 1]) (kSeq (fun k => prK 1000002 (pruneAt f70_h 1000002) (aloop 1000002 (pruneAt f70_h 1000002) (f70_x B call n [1, 0, 1, 0, 0]) k m0)) (kBlk 0 (kSeq (f70_x B call n [1, 1]) (kEnd AXE 0 f70_r))))))) ⟨[(0, .one (.str x0)), (6, .one (.sl none 1 x1)), (7, .one (.int .i64 x2)), (8, .one (.int .i64 x3)), (12, .one (.bool x4))], []⟩
def f70_P14 (B : Code) (call : CallF) (n : Nat) (m0 : Nat) (x0 : LB) (x1 : Int) (x2 : LC) (x3 x4 : Int) (x5 : Bool) : OR :=
  f70_x B call n [1, 0, 1, 0, 0, 1, 1, 0, 0, 1, 0, 0, 1, 1, 1, 1, 1, 1, 1] (kSeq (f70_x B call n [1, 0, 1, 0, 0, 1, 1, 0, 0, 1, 0, 1]) (kBlk 2 (kBlk 1 (kSeq (f70_x B call n [1, 0, 1, 0, 0, 1, 1, 1]) (kSeq (fun k => prK 1000002 (pruneAt f70_h 1000002) (aloop 1000002 (pruneAt f70_h 1000002) (f70_x B call n [1, 0, 1, 0, 0]) k m0)) (kBlk 0 (kSeq (f70_x B call n [1, 1]) (kEnd AXE 0 f70_r)))))))) ⟨[(0, .one (.str x0)), (4, .one (.int .u8 x1)), (6, .one (.sl none 1 x2)), (7, .one (.int .i64 x3)), (8, .one (.int .i64 x4)), (12, .one (.bool x5))], []⟩
def f70_P13 (B : Code) (call : CallF) (n : Nat) (m0 : Nat) (x0 : LB) (x1 : Int) (x2 : LC) (x3 x4 : Int) (x5 : Bool) : OR :=
  f70_x B call n [1, 0, 1, 0, 0, 1, 1, 0, 0, 1, 0, 0, 1, 1, 1, 1, 1] (kSeq (f70_x B call n [1, 0, 1, 0, 0, 1, 1, 0, 0, 1, 0, 1]) (kBlk 2 (kBlk 1 (kSeq (f70_x B call n [1, 0, 1, 0, 0, 1, 1, 1]) (kSeq (fun k => prK 1000002 (pruneAt f70_h 1000002) (aloop 1000002 (pruneAt f70_h 1000002) (f70_x B call n [1, 0, 1, 0, 0]) k m0)) (kBlk 0 (kSeq (f70_x B call n [1, 1]) (kEnd AXE 0 f70_r)))))))) ⟨[(0, .one (.str x0)), (4, .one (.int .u8 x1)), (6, .one (.sl none 1 x2)), (7, .one (.int .i64 x3)), (8, .one (.int .i64 x4)), (12, .one (.bool x5))], []⟩
def f70_P10 (B : Code) (call : CallF) (n : Nat) (m0 : Nat) (x0 : LB) (x1 : Int) (x2 : LC) (x3 x4 : Int) (x5 : Bool) : OR :=
  f70_x B call n [1, 0, 1, 0, 0, 1, 1, 0, 0, 1, 0, 0, 1, 1, 1] (kSeq (f70_x B call n [1, 0, 1, 0, 0, 1, 1, 0, 0, 1, 0, 1]) (kBlk 2 (kBlk 1 (kSeq (f70_x B call n [1, 0, 1, 0, 0, 1, 1, 1]) (kSeq (fun k => prK 1000002 (pruneAt f70_h 1000002) (aloop 1000002 (pruneAt f70_h 1000002) (f70_x B call n [1, 0, 1, 0, 0]) k m0)) (kBlk 0 (kSeq (f70_x B call n [1, 1]) (kEnd AXE 0 f70_r)))))))) ⟨[(0, .one (.str x0)), (4, .one (.int .u8 x1)), (6, .one (.sl none 1 x2)), (7, .one (.int .i64 x3)), (8, .one (.int .i64 x4)), (12, .one (.bool x5))], []⟩
def f70_P7 (B : Code) (call : CallF) (n : Nat) (m0 : Nat) (x0 : LB) (x1 : Int) (x2 : LC) (x3 x4 : Int) (x5 : Bool) : OR :=
  f70_x B call n [1, 0, 1, 0, 0, 1, 1, 0, 0, 1, 0, 0, 1] (kSeq (f70_x B call n [1, 0, 1, 0, 0, 1, 1, 0, 0, 1, 0, 1]) (kBlk 2 (kBlk 1 (kSeq (f70_x B call n [1, 0, 1, 0, 0, 1, 1, 1]) (kSeq (fun k => prK 1000002 (pruneAt f70_h 1000002) (aloop 1000002 (pruneAt f70_h 1000002) (f70_x B call n [1, 0, 1, 0, 0]) k m0)) (kBlk 0 (kSeq (f70_x B call n [1, 1]) (kEnd AXE 0 f70_r)))))))) ⟨[(0, .one (.str x0)), (4, .one (.int .u8 x1)), (6, .one (.sl none 1 x2)), (7, .one (.int .i64 x3)), (8, .one (.int .i64 x4)), (12, .one (.bool x5))], []⟩
def f70_P8 (B : Code) (call : CallF) (n : Nat) (x0 : Bool) : OR :=
  f70_x B call n [1, 1, 1] (kEnd AXE 0 f70_r) ⟨[(2, .one (.bool x0))], []⟩
def f70_P2 (B : Code) (call : CallF) (n : Nat) (m0 : Nat) (x0 : LB) (x1 : LC) (x2 x3 : Int) : OR :=
  aloop 1000002 (pruneAt f70_h 1000002) (f70_x B call n [1, 0, 1, 0, 0]) (kBlk 0 (kSeq (f70_x B call n [1, 1]) (kEnd AXE 0 f70_r))) m0 ⟨[(0, .one (.str x0)), (6, .one (.sl none 1 x1)), (7, .one (.int .i64 x2)), (8, .one (.int .i64 x3))], []⟩
def f70_P (B : Code) (call : CallF) (n : Nat) (a0 : LB) : OR :=
  f70_x B call n [] (kEnd AXE 0 f70_r) ⟨[(0, .one (.str a0))], []⟩
def f70_T11 (call : CallF) (n : Nat) (j2m : LB → LC → Int → Int → OR) (x0 : Bool) (x1 : LB) (x2 : Int) (x3 : LC) (x4 x5 : Int) : OR :=
  j2m x1 x3 x4 (IntKind.wrap .i64 (x5 + (1 : Int)))
theorem f70_o11 (call : CallF) (n : Nat) (m0 : Nat) (B : Code) (hB : B = f70_b) : f70_P11 B call n m0 = f70_T11 call n (f70_P2 B call n m0) := by
  subst hB; funext x0 x1 x2 x3 x4 x5; kernel_rfl
theorem f70_l11 (call : CallF) (n : Nat) (m0 : Nat) : f70_P11 f70_b call n m0 = f70_T11 call n (f70_P2 f70_b call n m0) :=
  f70_o11 call n m0 _ (by kernel_rfl)
def f70_L11 (call : CallF) (n : Nat) (h_m0 : LB → LC → Int → Int → OR) : Bool → LB → Int → LC → Int → Int → OR :=
  f70_T11 call n h_m0
theorem f70_e11 (call : CallF) (n : Nat) (m0 : Nat) : f70_P11 f70_b call n m0 = f70_L11 call n (f70_P2 f70_b call n m0) := by
  rw [f70_l11]; rfl
def f70_T12 (call : CallF) (n : Nat) (x0 : Bool) : OR :=
  some (.one (.bool x0), [])
theorem f70_o12 (call : CallF) (n : Nat) (m0 : Nat) (B : Code) (hB : B = f70_b) : f70_P12 B call n m0 = f70_T12 call n := by
  subst hB; funext x0; kernel_rfl
theorem f70_l12 (call : CallF) (n : Nat) (m0 : Nat) : f70_P12 f70_b call n m0 = f70_T12 call n :=
  f70_o12 call n m0 _ (by kernel_rfl)
def f70_L12 (call : CallF) (n : Nat) (h_m0 : LB → LC → Int → Int → OR) : Bool → OR :=
  f70_T12 call n
theorem f70_e12 (call : CallF) (n : Nat) (m0 : Nat) : f70_P12 f70_b call n m0 = f70_L12 call n (f70_P2 f70_b call n m0) := by
  rw [f70_l12]; rfl
def f70_T9 (call : CallF) (n : Nat) (j11 : Bool → LB → Int → LC → Int → Int → OR) (j12 : Bool → OR) (x0 : Bool) (x1 : LB) (x2 : Int) (x3 : LC) (x4 x5 : Int) : OR :=
  bif x0 then (
    j11 true x1 x2 x3 x4 x5) else (
    j12 false)
theorem f70_o9 (X0 X1 : Code) (call : CallF) (n : Nat) (m0 : Nat) (B : Code) (hB : B = (hole (hole f70_b [1, 0, 1, 0, 0, 1, 1, 0, 0, 1, 0, 1, 1, 1] X0) [1, 0, 1, 0, 0, 1, 1, 1] X1)) : f70_P9 B call n m0 = f70_T9 call n (f70_P11 B call n m0) (f70_P12 B call n m0) := by
  subst hB; funext x0 x1 x2 x3 x4 x5; cases x0 <;> kernel_rfl
theorem f70_l9 (call : CallF) (n : Nat) (m0 : Nat) : f70_P9 f70_b call n m0 = f70_T9 call n (f70_P11 f70_b call n m0) (f70_P12 f70_b call n m0) :=
  f70_o9 (piece [1, 0, 1, 0, 0, 1, 1, 0, 0, 1, 0, 1, 1, 1] f70_b) (piece [1, 0, 1, 0, 0, 1, 1, 1] f70_b) call n m0 _ (by kernel_rfl)
def f70_L9 (call : CallF) (n : Nat) (h_m0 : LB → LC → Int → Int → OR) : Bool → LB → Int → LC → Int → Int → OR :=
  f70_T9 call n (f70_L11 call n h_m0) (f70_L12 call n h_m0)
theorem f70_e9 (call : CallF) (n : Nat) (m0 : Nat) : f70_P9 f70_b call n m0 = f70_L9 call n (f70_P2 f70_b call n m0) := by
  rw [f70_l9, f70_e11, f70_e12]; rfl
def f70_T16 (call : CallF) (n : Nat) (j2m : LB → LC → Int → Int → OR) (x0 : Bool) (x1 : LB) (x2 : LC) (x3 x4 : Int) : OR :=
  j2m x1 x2 x3 (IntKind.wrap .i64 (x4 + (1 : Int)))
theorem f70_o16 (call : CallF) (n : Nat) (m0 : Nat) (B : Code) (hB : B = f70_b) : f70_P16 B call n m0 = f70_T16 call n (f70_P2 B call n m0) := by
  subst hB; funext x0 x1 x2 x3 x4; kernel_rfl
theorem f70_l16 (call : CallF) (n : Nat) (m0 : Nat) : f70_P16 f70_b call n m0 = f70_T16 call n (f70_P2 f70_b call n m0) :=
  f70_o16 call n m0 _ (by kernel_rfl)
def f70_L16 (call : CallF) (n : Nat) (h_m0 : LB → LC → Int → Int → OR) : Bool → LB → LC → Int → Int → OR :=
  f70_T16 call n h_m0
theorem f70_e16 (call : CallF) (n : Nat) (m0 : Nat) : f70_P16 f70_b call n m0 = f70_L16 call n (f70_P2 f70_b call n m0) := by
  rw [f70_l16]; rfl
def f70_T15 (call : CallF) (n : Nat) (j16 : Bool → LB → LC → Int → Int → OR) (j12 : Bool → OR) (x0 : LB) (x1 : LC) (x2 x3 : Int) (x4 : Bool) : OR :=
  bif x4 then (
    j16 true x0 x1 x2 x3) else (
    j12 false)
theorem f70_o15 (X0 X1 : Code) (call : CallF) (n : Nat) (m0 : Nat) (B : Code) (hB : B = (hole (hole f70_b [1, 0, 1, 0, 0, 1, 1, 0, 0, 1, 0, 1, 1, 1] X0) [1, 0, 1, 0, 0, 1, 1, 1] X1)) : f70_P15 B call n m0 = f70_T15 call n (f70_P16 B call n m0) (f70_P12 B call n m0) := by
  subst hB; funext x0 x1 x2 x3 x4; cases x4 <;> kernel_rfl
theorem f70_l15 (call : CallF) (n : Nat) (m0 : Nat) : f70_P15 f70_b call n m0 = f70_T15 call n (f70_P16 f70_b call n m0) (f70_P12 f70_b call n m0) :=
  f70_o15 (piece [1, 0, 1, 0, 0, 1, 1, 0, 0, 1, 0, 1, 1, 1] f70_b) (piece [1, 0, 1, 0, 0, 1, 1, 1] f70_b) call n m0 _ (by kernel_rfl)
def f70_L15 (call : CallF) (n : Nat) (h_m0 : LB → LC → Int → Int → OR) : LB → LC → Int → Int → Bool → OR :=
  f70_T15 call n (f70_L16 call n h_m0) (f70_L12 call n h_m0)
theorem f70_e15 (call : CallF) (n : Nat) (m0 : Nat) : f70_P15 f70_b call n m0 = f70_L15 call n (f70_P2 f70_b call n m0) := by
  rw [f70_l15, f70_e16, f70_e12]; rfl
def f70_T14 (call : CallF) (n : Nat) (j9 : Bool → LB → Int → LC → Int → Int → OR) (j15 : LB → LC → Int → Int → Bool → OR) (x0 : LB) (x1 : Int) (x2 : LC) (x3 x4 : Int) (x5 : Bool) : OR :=
  bif x5 then (
    j9 true x0 x1 x2 x3 x4) else (
    j15 x0 x2 x3 x4 (x1 == (95 : Int)))
theorem f70_o14 (X0 : Code) (call : CallF) (n : Nat) (m0 : Nat) (B : Code) (hB : B = (hole f70_b [1, 0, 1, 0, 0, 1, 1, 0, 0, 1, 0, 1] X0)) : f70_P14 B call n m0 = f70_T14 call n (f70_P9 B call n m0) (f70_P15 B call n m0) := by
  subst hB; funext x0 x1 x2 x3 x4 x5; cases x5 <;> kernel_rfl
theorem f70_l14 (call : CallF) (n : Nat) (m0 : Nat) : f70_P14 f70_b call n m0 = f70_T14 call n (f70_P9 f70_b call n m0) (f70_P15 f70_b call n m0) :=
  f70_o14 (piece [1, 0, 1, 0, 0, 1, 1, 0, 0, 1, 0, 1] f70_b) call n m0 _ (by kernel_rfl)
def f70_L14 (call : CallF) (n : Nat) (h_m0 : LB → LC → Int → Int → OR) : LB → Int → LC → Int → Int → Bool → OR :=
  f70_T14 call n (f70_L9 call n h_m0) (f70_L15 call n h_m0)
theorem f70_e14 (call : CallF) (n : Nat) (m0 : Nat) : f70_P14 f70_b call n m0 = f70_L14 call n (f70_P2 f70_b call n m0) := by
  rw [f70_l14, f70_e9, f70_e15]; rfl
def f70_T13 (call : CallF) (n : Nat) (j9 : Bool → LB → Int → LC → Int → Int → OR) (j14 : LB → Int → LC → Int → Int → Bool → OR) (x0 : LB) (x1 : Int) (x2 : LC) (x3 x4 : Int) (x5 : Bool) : OR :=
  bif x5 then (
    j9 true x0 x1 x2 x3 x4) else (
    j14 x0 x1 x2 x3 x4 (x1 == (45 : Int)))
theorem f70_o13 (X0 X1 : Code) (call : CallF) (n : Nat) (m0 : Nat) (B : Code) (hB : B = (hole (hole f70_b [1, 0, 1, 0, 0, 1, 1, 0, 0, 1, 0, 0, 1, 1, 1, 1, 1, 1, 1] X0) [1, 0, 1, 0, 0, 1, 1, 0, 0, 1, 0, 1] X1)) : f70_P13 B call n m0 = f70_T13 call n (f70_P9 B call n m0) (f70_P14 B call n m0) := by
  subst hB; funext x0 x1 x2 x3 x4 x5; cases x5 <;> kernel_rfl
theorem f70_l13 (call : CallF) (n : Nat) (m0 : Nat) : f70_P13 f70_b call n m0 = f70_T13 call n (f70_P9 f70_b call n m0) (f70_P14 f70_b call n m0) :=
  f70_o13 (piece [1, 0, 1, 0, 0, 1, 1, 0, 0, 1, 0, 0, 1, 1, 1, 1, 1, 1, 1] f70_b) (piece [1, 0, 1, 0, 0, 1, 1, 0, 0, 1, 0, 1] f70_b) call n m0 _ (by kernel_rfl)
def f70_L13 (call : CallF) (n : Nat) (h_m0 : LB → LC → Int → Int → OR) : LB → Int → LC → Int → Int → Bool → OR :=
  f70_T13 call n (f70_L9 call n h_m0) (f70_L14 call n h_m0)
theorem f70_e13 (call : CallF) (n : Nat) (m0 : Nat) : f70_P13 f70_b call n m0 = f70_L13 call n (f70_P2 f70_b call n m0) := by
  rw [f70_l13, f70_e9, f70_e14]; rfl
def f70_T10 (call : CallF) (n : Nat) (j9 : Bool → LB → Int → LC → Int → Int → OR) (j13 : LB → Int → LC → Int → Int → Bool → OR) (x0 : LB) (x1 : Int) (x2 : LC) (x3 x4 : Int) (x5 : Bool) : OR :=
  bif x5 then (
    j9 true x0 x1 x2 x3 x4) else (
    j13 x0 x1 x2 x3 x4 (x1 == (46 : Int)))
theorem f70_o10 (X0 X1 : Code) (call : CallF) (n : Nat) (m0 : Nat) (B : Code) (hB : B = (hole (hole f70_b [1, 0, 1, 0, 0, 1, 1, 0, 0, 1, 0, 0, 1, 1, 1, 1, 1] X0) [1, 0, 1, 0, 0, 1, 1, 0, 0, 1, 0, 1] X1)) : f70_P10 B call n m0 = f70_T10 call n (f70_P9 B call n m0) (f70_P13 B call n m0) := by
  subst hB; funext x0 x1 x2 x3 x4 x5; cases x5 <;> kernel_rfl
theorem f70_l10 (call : CallF) (n : Nat) (m0 : Nat) : f70_P10 f70_b call n m0 = f70_T10 call n (f70_P9 f70_b call n m0) (f70_P13 f70_b call n m0) :=
  f70_o10 (piece [1, 0, 1, 0, 0, 1, 1, 0, 0, 1, 0, 0, 1, 1, 1, 1, 1] f70_b) (piece [1, 0, 1, 0, 0, 1, 1, 0, 0, 1, 0, 1] f70_b) call n m0 _ (by kernel_rfl)
def f70_L10 (call : CallF) (n : Nat) (h_m0 : LB → LC → Int → Int → OR) : LB → Int → LC → Int → Int → Bool → OR :=
  f70_T10 call n (f70_L9 call n h_m0) (f70_L13 call n h_m0)
theorem f70_e10 (call : CallF) (n : Nat) (m0 : Nat) : f70_P10 f70_b call n m0 = f70_L10 call n (f70_P2 f70_b call n m0) := by
  rw [f70_l10, f70_e9, f70_e13]; rfl
def f70_T7 (call : CallF) (n : Nat) (j9 : Bool → LB → Int → LC → Int → Int → OR) (j10 : LB → Int → LC → Int → Int → Bool → OR) (x0 : LB) (x1 : Int) (x2 : LC) (x3 x4 : Int) (x5 : Bool) : OR :=
  bif x5 then (
    j9 true x0 x1 x2 x3 x4) else (
    bif (decide (x1 ≥ (48 : Int))) then (
      j10 x0 x1 x2 x3 x4 (decide (x1 ≤ (57 : Int)))) else (
      j10 x0 x1 x2 x3 x4 false))
theorem f70_o7 (X0 X1 : Code) (call : CallF) (n : Nat) (m0 : Nat) (B : Code) (hB : B = (hole (hole f70_b [1, 0, 1, 0, 0, 1, 1, 0, 0, 1, 0, 0, 1, 1, 1] X0) [1, 0, 1, 0, 0, 1, 1, 0, 0, 1, 0, 1] X1)) : f70_P7 B call n m0 = f70_T7 call n (f70_P9 B call n m0) (f70_P10 B call n m0) := by
  subst hB; funext x0 x1 x2 x3 x4 x5; cases x5 <;> kernel_rfl
theorem f70_l7 (call : CallF) (n : Nat) (m0 : Nat) : f70_P7 f70_b call n m0 = f70_T7 call n (f70_P9 f70_b call n m0) (f70_P10 f70_b call n m0) :=
  f70_o7 (piece [1, 0, 1, 0, 0, 1, 1, 0, 0, 1, 0, 0, 1, 1, 1] f70_b) (piece [1, 0, 1, 0, 0, 1, 1, 0, 0, 1, 0, 1] f70_b) call n m0 _ (by kernel_rfl)
def f70_L7 (call : CallF) (n : Nat) (h_m0 : LB → LC → Int → Int → OR) : LB → Int → LC → Int → Int → Bool → OR :=
  f70_T7 call n (f70_L9 call n h_m0) (f70_L10 call n h_m0)
theorem f70_e7 (call : CallF) (n : Nat) (m0 : Nat) : f70_P7 f70_b call n m0 = f70_L7 call n (f70_P2 f70_b call n m0) := by
  rw [f70_l7, f70_e9, f70_e10]; rfl
def f70_T8 (call : CallF) (n : Nat) (x0 : Bool) : OR :=
  some (.one (.bool x0), [])
theorem f70_o8 (call : CallF) (n : Nat) (B : Code) (hB : B = f70_b) : f70_P8 B call n = f70_T8 call n := by
  subst hB; funext x0; kernel_rfl
theorem f70_l8 (call : CallF) (n : Nat) : f70_P8 f70_b call n = f70_T8 call n :=
  f70_o8 call n _ (by kernel_rfl)
def f70_L8 (call : CallF) (n : Nat) : Bool → OR :=
  f70_T8 call n
theorem f70_e8 (call : CallF) (n : Nat) : f70_P8 f70_b call n = f70_L8 call n := by
  rw [f70_l8]; rfl
def f70_T2 (call : CallF) (n : Nat) (j7 : LB → Int → LC → Int → Int → Bool → OR) (j8 : Bool → OR) (x0 : LB) (x1 : LC) (x2 x3 : Int) : OR :=
  bif (decide (x3 < x2)) then (
    itemK x1 x3 fun c1 =>
    castI .u8 c1 fun n2 =>
    bif (decide (n2 ≥ (97 : Int))) then (
      j7 x0 n2 x1 x2 x3 (decide (n2 ≤ (122 : Int)))) else (
      j7 x0 n2 x1 x2 x3 false)) else (
    bif (!(x0 == ([] : List UInt8))) then (
      j8 (decide (((x0).length : Int) ≤ (32 : Int)))) else (
      j8 false))
theorem f70_o2 (X0 X1 : Code) (call : CallF) (n : Nat) (m0 : Nat) (B : Code) (hB : B = (hole (hole f70_b [1, 0, 1, 0, 0, 1, 1, 0, 0, 1, 0, 0, 1] X0) [1, 1, 1] X1)) : f70_P2 B call n (m0 + 1) = f70_T2 call n (f70_P7 B call n m0) (f70_P8 B call n) := by
  subst hB; funext x0 x1 x2 x3; kernel_rfl
theorem f70_l2 (call : CallF) (n : Nat) (m0 : Nat) : f70_P2 f70_b call n (m0 + 1) = f70_T2 call n (f70_P7 f70_b call n m0) (f70_P8 f70_b call n) :=
  f70_o2 (piece [1, 0, 1, 0, 0, 1, 1, 0, 0, 1, 0, 0, 1] f70_b) (piece [1, 1, 1] f70_b) call n m0 _ (by kernel_rfl)
def f70_L2 (call : CallF) (n : Nat) : Nat → LB → LC → Int → Int → OR
  | 0 => fun _ _ _ _ => none
  | m0 + 1 => f70_T2 call n (f70_L7 call n (f70_L2 call n m0)) (f70_L8 call n)
theorem f70_e2 (call : CallF) (n : Nat) : ∀ m0 : Nat, f70_P2 f70_b call n m0 = f70_L2 call n m0
  | 0 => by funext x0 x1 x2 x3; kernel_rfl
  | m0 + 1 => by rw [f70_l2, f70_e7, f70_e8, f70_e2 call n m0]; rfl
/-- pigeonhole/script.isName -/
def f70_T (call : CallF) (n : Nat) (j2n : LB → LC → Int → Int → OR) (a0 : LB) : OR :=
  j2n a0 (byteCells a0) ((((byteCells a0)).length / 1 : Nat) : Int) (0 : Int)
def f70_L (call : CallF) (n : Nat) (a0 : LB) : OR :=
  f70_T call n (f70_L2 call n n) a0
theorem f70_o (call : CallF) (n : Nat) (B : Code) (hB : B = f70_b) : f70_P B call n = f70_T call n (f70_P2 B call n n) := by
  subst hB; funext a0; kernel_rfl
theorem f70_l (call : CallF) (n : Nat) : f70_P f70_b call n = f70_T call n (f70_P2 f70_b call n n) :=
  f70_o call n _ (by kernel_rfl)
theorem f70_e (call : CallF) (n : Nat) : f70_P f70_b call n = f70_L call n := by
  rw [f70_l, f70_e2]; rfl
theorem f70_eq (n : Nat) (a0 : LB) : acall AXE AXF (n + 1) 70 [.one (.str a0)] [] = f70_L (acall AXE AXF n) (n + 1) a0 :=
  (show _ = f70_P f70_b (acall AXE AXF n) (n + 1) a0 by kernel_rfl).trans (by rw [f70_e])
end
end AX
end Go.Proofs.YtfbicbgdfcbhpaaDoor
