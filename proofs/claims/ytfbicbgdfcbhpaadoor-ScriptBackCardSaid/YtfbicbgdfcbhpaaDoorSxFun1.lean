/-
  The functions, printed, and that they are the reckoning.
-/
import Derived.Test.YtfbicbgdfcbhpaaDoorSxTab
set_option maxRecDepth 20000
set_option linter.unusedVariables false
set_option linter.unusedSimpArgs false
set_option linter.unusedSectionVars false
namespace Go.Proofs.YtfbicbgdfcbhpaaDoor
namespace AX
set_option linter.unusedVariables false
noncomputable section
def f4_P20 (B : Code) (call : CallF) (n : Nat) (m0 : Nat) (x0 : LC) (x1 x2 : Bool) (x3 : Int) : OR :=
  f4_x B call n [1, 1, 1, 1, 0, 1, 0, 0, 1, 1] (kSeq (fun k => prK 1000007 (pruneAt f4_h 1000007) (aloop 1000007 (pruneAt f4_h 1000007) (f4_x B call n [1, 1, 1, 1, 0, 1, 0, 0]) k m0)) (kBlk 0 (kSeq (f4_x B call n [1, 1, 1, 1, 1]) (kEnd AXE 0 f4_r)))) ⟨[(0, .one (.sl none 12 x0)), (1, .one (.bool x1)), (5, .one (.bool x2)), (6, .one (.int .i64 x3))], []⟩
def f4_P21 (B : Code) (call : CallF) (n : Nat) (x0 : Bool) : OR :=
  f4_x B call n [1, 1, 1, 1, 1, 1, 0, 1, 0, 1] (kSeq (f4_x B call n [1, 1, 1, 1, 1, 1, 1]) (kEnd AXE 0 f4_r)) ⟨[(4, .one (.bool x0))], []⟩
def f4_P25 (B : Code) (call : CallF) (n : Nat) (x0 : Bool) : OR :=
  f4_x B call n [1, 1, 1, 1, 1, 1, 1, 1, 0, 1, 0, 1] (kSeq (f4_x B call n [1, 1, 1, 1, 1, 1, 1, 1, 1]) (kEnd AXE 0 f4_r)) ⟨[(4, .one (.bool x0))], []⟩
def f4_P48 (B : Code) (call : CallF) (n : Nat) (x0 : Bool) : OR :=
  f4_x B call n [1, 1, 1, 1, 1, 1, 1, 1, 1, 1, 1, 1, 1, 1, 1, 1, 1, 1] (kEnd AXE 0 f4_r) ⟨[(4, .one (.bool x0))], []⟩
def f4_P39 (B : Code) (call : CallF) (n : Nat) (m0 : Nat) (x0 : LC) (x1 : LB) (x2 : Int) : OR :=
  aloop 1000028 (pruneAt f4_h 1000028) (f4_x B call n [1, 1, 1, 1, 1, 1, 1, 1, 1, 1, 1, 1, 1, 0, 1, 0, 0]) (kBlk 4 (kSeq (f4_x B call n [1, 1, 1, 1, 1, 1, 1, 1, 1, 1, 1, 1, 1, 1]) (kEnd AXE 0 f4_r))) m0 ⟨[(13, .one (.sl (some ⟨13, 0, 30⟩) 12 x0)), (14, .one (.str x1)), (15, .one (.int .i64 x2))], []⟩
def f4_P26 (B : Code) (call : CallF) (n : Nat) (m0 : Nat) (x0 : LC) (x1 : Bool) (x2 : LC) (x3 : Int) : OR :=
  aloop 1000019 (pruneAt f4_h 1000019) (f4_x B call n [1, 1, 1, 1, 1, 1, 1, 1, 1, 0, 1, 0, 0]) (kBlk 2 (kSeq (f4_x B call n [1, 1, 1, 1, 1, 1, 1, 1, 1, 1]) (kEnd AXE 0 f4_r))) m0 ⟨[(0, .one (.sl none 12 x0)), (1, .one (.bool x1)), (9, .one (.sl none 12 x2)), (12, .one (.int .i64 x3))], []⟩
def f4_P22 (B : Code) (call : CallF) (n : Nat) (x0 : LC) (x1 : Bool) (x2 : LC) (x3 : Bool) : OR :=
  f4_x B call n [1, 1, 1, 1, 1, 1, 1, 1, 0, 1] (kSeq (f4_x B call n [1, 1, 1, 1, 1, 1, 1, 1, 1]) (kEnd AXE 0 f4_r)) ⟨[(0, .one (.sl none 12 x0)), (1, .one (.bool x1)), (9, .one (.sl none 12 x2)), (82, .one (.bool x3))], []⟩
def f4_P9 (B : Code) (call : CallF) (n : Nat) (m0 : Nat) (x0 : LC) (x1 x2 : Bool) (x3 : Int) : OR :=
  aloop 1000007 (pruneAt f4_h 1000007) (f4_x B call n [1, 1, 1, 1, 0, 1, 0, 0]) (kBlk 0 (kSeq (f4_x B call n [1, 1, 1, 1, 1]) (kEnd AXE 0 f4_r))) m0 ⟨[(0, .one (.sl none 12 x0)), (1, .one (.bool x1)), (5, .one (.bool x2)), (6, .one (.int .i64 x3))], []⟩
def f4_P (B : Code) (call : CallF) (n : Nat) (a0 : LC) (a1 : Bool) : OR :=
  f4_x B call n [] (kEnd AXE 0 f4_r) ⟨[(0, .one (.sl none 12 a0)), (1, .one (.bool a1))], []⟩
def f4_T20 (call : CallF) (n : Nat) (j9m : LC → Bool → Bool → Int → OR) (x0 : LC) (x1 x2 : Bool) (x3 : Int) : OR :=
  j9m x0 x1 x2 (IntKind.wrap .i64 (x3 + (1 : Int)))
theorem f4_o20 (call : CallF) (n : Nat) (m0 : Nat) (B : Code) (hB : B = f4_b) : f4_P20 B call n m0 = f4_T20 call n (f4_P9 B call n m0) := by
  subst hB; funext x0 x1 x2 x3; kernel_rfl
theorem f4_l20 (call : CallF) (n : Nat) (m0 : Nat) : f4_P20 f4_b call n m0 = f4_T20 call n (f4_P9 f4_b call n m0) :=
  f4_o20 call n m0 _ (by kernel_rfl)
def f4_L20 (call : CallF) (n : Nat) (h_m0 : LC → Bool → Bool → Int → OR) : LC → Bool → Bool → Int → OR :=
  f4_T20 call n h_m0
theorem f4_e20 (call : CallF) (n : Nat) (m0 : Nat) : f4_P20 f4_b call n m0 = f4_L20 call n (f4_P9 f4_b call n m0) := by
  rw [f4_l20]; rfl
def f4_T21 (call : CallF) (n : Nat) (x0 : Bool) : OR :=
  some (.one (.bool x0), [])
theorem f4_o21 (call : CallF) (n : Nat) (B : Code) (hB : B = f4_b) : f4_P21 B call n = f4_T21 call n := by
  subst hB; funext x0; kernel_rfl
theorem f4_l21 (call : CallF) (n : Nat) : f4_P21 f4_b call n = f4_T21 call n :=
  f4_o21 call n _ (by kernel_rfl)
def f4_L21 (call : CallF) (n : Nat) : Bool → OR :=
  f4_T21 call n
theorem f4_e21 (call : CallF) (n : Nat) : f4_P21 f4_b call n = f4_L21 call n := by
  rw [f4_l21]; rfl
def f4_T25 (call : CallF) (n : Nat) (x0 : Bool) : OR :=
  some (.one (.bool x0), [])
theorem f4_o25 (call : CallF) (n : Nat) (B : Code) (hB : B = f4_b) : f4_P25 B call n = f4_T25 call n := by
  subst hB; funext x0; kernel_rfl
theorem f4_l25 (call : CallF) (n : Nat) : f4_P25 f4_b call n = f4_T25 call n :=
  f4_o25 call n _ (by kernel_rfl)
def f4_L25 (call : CallF) (n : Nat) : Bool → OR :=
  f4_T25 call n
theorem f4_e25 (call : CallF) (n : Nat) : f4_P25 f4_b call n = f4_L25 call n := by
  rw [f4_l25]; rfl
def f4_T48 (call : CallF) (n : Nat) (x0 : Bool) : OR :=
  some (.one (.bool x0), [])
theorem f4_o48 (call : CallF) (n : Nat) (B : Code) (hB : B = f4_b) : f4_P48 B call n = f4_T48 call n := by
  subst hB; funext x0; kernel_rfl
theorem f4_l48 (call : CallF) (n : Nat) : f4_P48 f4_b call n = f4_T48 call n :=
  f4_o48 call n _ (by kernel_rfl)
def f4_L48 (call : CallF) (n : Nat) : Bool → OR :=
  f4_T48 call n
theorem f4_e48 (call : CallF) (n : Nat) : f4_P48 f4_b call n = f4_L48 call n := by
  rw [f4_l48]; rfl
def f4_T39 (call : CallF) (n : Nat) (j39m : LC → LB → Int → OR) (j48 : Bool → OR) (x0 : LC) (x1 : LB) (x2 : Int) : OR :=
  bif (decide (x2 < (1001 : Int))) then (
    guardB (decide (((x0).length + (([.int .i64 (5 : Int), .int .i64 (0 : Int), .int .i64 (0 : Int), .int .i64 (0 : Int), .bool false, .str ([] : List UInt8), .int .i64 (0 : Int), .int .i64 (0 : Int), .sl none 1 ([] : List Cell), .sl none 1 ([] : List Cell), .int .i64 (0 : Int), .sl none 1 ([] : List Cell)] : List Cell)).length) * 1000 ≤ rowLim)) (
      bif decide ((x1).length + (([114, 117, 110, 10] : List UInt8)).length ≤ strLim) then (
        j39m (x0 ++ ([.int .i64 (5 : Int), .int .i64 (0 : Int), .int .i64 (0 : Int), .int .i64 (0 : Int), .bool false, .str ([] : List UInt8), .int .i64 (0 : Int), .int .i64 (0 : Int), .sl none 1 ([] : List Cell), .sl none 1 ([] : List Cell), .int .i64 (0 : Int), .sl none 1 ([] : List Cell)] : List Cell)) (x1 ++ ([114, 117, 110, 10] : List UInt8)) (IntKind.wrap .i64 (x2 + (1 : Int)))) else none)) else (
    callK call 16 [.one (.sl none 12 x0)] fun v1 =>
    castTup v1 fun v2 =>
    zS v2 fun s3 r4 =>
    zI .i64 r4 fun n5 r6 =>
    nilK r6 (
      callK call 12 [.one (.str x1)] fun v7 =>
      castTup v7 fun v8 =>
      zL 12 v8 fun l9 r10 =>
      zI .i64 r10 fun n11 r12 =>
      zI .i64 r12 fun n13 r14 =>
      nilK r14 (
        bif decide (0 ≤ (1 : Int) ∧ (Int.toNat (1 : Int)) ≤ (x0.length / 12)) then (
          callK call 16 [.one (.sl none 12 ((x0.take ((x0.length / 12) * 12)).drop ((Int.toNat (1 : Int)) * 12)))] fun v15 =>
          castTup v15 fun v16 =>
          zS v16 fun s17 r18 =>
          zI .i64 r18 fun n19 r20 =>
          nilK r20 (
            bif (n5 == (4 : Int)) then (
              bif (n11 == (1001 : Int)) then (
                bif (n13 == (4 : Int)) then (
                  j48 (n19 == (0 : Int))) else (
                  j48 false)) else (
                j48 false)) else (
              j48 false))) else none)))
theorem f4_o39 (X0 : Code) (call : CallF) (n : Nat) (m0 : Nat) (B : Code) (hB : B = (hole f4_b [1, 1, 1, 1, 1, 1, 1, 1, 1, 1, 1, 1, 1, 1, 1, 1, 1, 1] X0)) : f4_P39 B call n (m0 + 1) = f4_T39 call n (f4_P39 B call n m0) (f4_P48 B call n) := by
  subst hB; funext x0 x1 x2; kernel_rfl
theorem f4_l39 (call : CallF) (n : Nat) (m0 : Nat) : f4_P39 f4_b call n (m0 + 1) = f4_T39 call n (f4_P39 f4_b call n m0) (f4_P48 f4_b call n) :=
  f4_o39 (piece [1, 1, 1, 1, 1, 1, 1, 1, 1, 1, 1, 1, 1, 1, 1, 1, 1, 1] f4_b) call n m0 _ (by kernel_rfl)
def f4_L39 (call : CallF) (n : Nat) : Nat → LC → LB → Int → OR
  | 0 => fun _ _ _ => none
  | m0 + 1 => f4_T39 call n (f4_L39 call n m0) (f4_L48 call n)
theorem f4_e39 (call : CallF) (n : Nat) : ∀ m0 : Nat, f4_P39 f4_b call n m0 = f4_L39 call n m0
  | 0 => by funext x0 x1 x2; kernel_rfl
  | m0 + 1 => by rw [f4_l39, f4_e48, f4_e39 call n m0]; rfl
def f4_T26 (call : CallF) (n : Nat) (j26m : LC → Bool → LC → Int → OR) (j39n : LC → LB → Int → OR) (x0 : LC) (x1 : Bool) (x2 : LC) (x3 : Int) : OR :=
  bif (decide (x3 < (((x0).length / 12 : Nat) : Int))) then (
    guardB (decide (0 ≤ x3) && decide ((Int.toNat x3) * 12 + 12 ≤ x2.length)) (
      takeS_api_Event ((x2.drop ((Int.toNat x3) * 12)).take 12) fun w1 r2 =>
      guardB (decide (0 ≤ x3) && decide ((Int.toNat x3) * 12 + 12 ≤ x0.length)) (
        takeS_api_Event ((x0.drop ((Int.toNat x3) * 12)).take 12) fun w3 r4 =>
        callK call 10 [.agg w1.cells, .agg w3.cells] fun v5 =>
        oB v5 fun b6 =>
        bif (!b6) then (
          some (.one (.bool false), [])) else (
          j26m x0 x1 x2 (IntKind.wrap .i64 (x3 + (1 : Int))))))) else (
    bif (!x1) then (
      some (.one (.bool true), [])) else (
      j39n ([] : List Cell) ([] : List UInt8) (0 : Int)))
theorem f4_o26 (call : CallF) (n : Nat) (m0 : Nat) (B : Code) (hB : B = f4_b) : f4_P26 B call n (m0 + 1) = f4_T26 call n (f4_P26 B call n m0) (f4_P39 B call n n) := by
  subst hB; funext x0 x1 x2 x3; kernel_rfl
theorem f4_l26 (call : CallF) (n : Nat) (m0 : Nat) : f4_P26 f4_b call n (m0 + 1) = f4_T26 call n (f4_P26 f4_b call n m0) (f4_P39 f4_b call n n) :=
  f4_o26 call n m0 _ (by kernel_rfl)
def f4_L26 (call : CallF) (n : Nat) : Nat → LC → Bool → LC → Int → OR
  | 0 => fun _ _ _ _ => none
  | m0 + 1 => f4_T26 call n (f4_L26 call n m0) (f4_L39 call n n)
theorem f4_e26 (call : CallF) (n : Nat) : ∀ m0 : Nat, f4_P26 f4_b call n m0 = f4_L26 call n m0
  | 0 => by funext x0 x1 x2 x3; kernel_rfl
  | m0 + 1 => by rw [f4_l26, f4_e39, f4_e26 call n m0]; rfl
def f4_T22 (call : CallF) (n : Nat) (j25 : Bool → OR) (j26n : LC → Bool → LC → Int → OR) (x0 : LC) (x1 : Bool) (x2 : LC) (x3 : Bool) : OR :=
  bif x3 then (
    j25 false) else (
    j26n x0 x1 x2 (0 : Int))
theorem f4_o22 (X0 : Code) (call : CallF) (n : Nat) (B : Code) (hB : B = (hole f4_b [1, 1, 1, 1, 1, 1, 1, 1, 0, 1, 0, 1] X0)) : f4_P22 B call n = f4_T22 call n (f4_P25 B call n) (f4_P26 B call n n) := by
  subst hB; funext x0 x1 x2 x3; cases x3 <;> kernel_rfl
theorem f4_l22 (call : CallF) (n : Nat) : f4_P22 f4_b call n = f4_T22 call n (f4_P25 f4_b call n) (f4_P26 f4_b call n n) :=
  f4_o22 (piece [1, 1, 1, 1, 1, 1, 1, 1, 0, 1, 0, 1] f4_b) call n _ (by kernel_rfl)
def f4_L22 (call : CallF) (n : Nat) : LC → Bool → LC → Bool → OR :=
  f4_T22 call n (f4_L25 call n) (f4_L26 call n n)
theorem f4_e22 (call : CallF) (n : Nat) : f4_P22 f4_b call n = f4_L22 call n := by
  rw [f4_l22, f4_e25, f4_e26]; rfl
def f4_T9 (call : CallF) (n : Nat) (j20 : LC → Bool → Bool → Int → OR) (j21 : Bool → OR) (j22 : LC → Bool → LC → Bool → OR) (x0 : LC) (x1 x2 : Bool) (x3 : Int) : OR :=
  bif (decide (x3 < (((x0).length / 12 : Nat) : Int))) then (
    guardB (decide (0 ≤ x3) && decide ((Int.toNat x3) * 12 + 12 ≤ x0.length)) (
      takeS_api_Event ((x0.drop ((Int.toNat x3) * 12)).take 12) fun w1 r2 =>
      callK call 14 [.agg w1.cells] fun v3 =>
      oB v3 fun b4 =>
      bif (!b4) then (
        some (.one (.bool true), [])) else (
        bif x2 then (
          guardB (decide (0 ≤ x3) && decide ((Int.toNat x3) * 12 + 12 ≤ x0.length)) (
            takeS_api_Event ((x0.drop ((Int.toNat x3) * 12)).take 12) fun w5 r6 =>
            callK call 15 [.agg w5.cells] fun v7 =>
            oB v7 fun b8 =>
            j20 x0 x1 b8 x3)) else (
          j20 x0 x1 false x3)))) else (
    callK call 16 [.one (.sl none 12 x0)] fun v9 =>
    castTup v9 fun v10 =>
    zS v10 fun s11 r12 =>
    zI .i64 r12 fun n13 r14 =>
    nilK r14 (
      bif (!x2) then (
        bif (s11 == ([] : List UInt8)) then (
          j21 (n13 == (3 : Int))) else (
          j21 false)) else (
        callK call 12 [.one (.str s11)] fun v15 =>
        castTup v15 fun v16 =>
        zL 12 v16 fun l17 r18 =>
        zI .i64 r18 fun n19 r20 =>
        zI .i64 r20 fun n21 r22 =>
        nilK r22 (
          bif (n13 != (0 : Int)) then (
            j22 x0 x1 l17 true) else (
            bif (n21 != (0 : Int)) then (
              j22 x0 x1 l17 true) else (
              bif (n19 != (0 : Int)) then (
                j22 x0 x1 l17 true) else (
                j22 x0 x1 l17 ((((l17).length / 12 : Nat) : Int) != (((x0).length / 12 : Nat) : Int)))))))))
theorem f4_o9 (X0 X1 X2 : Code) (call : CallF) (n : Nat) (m0 : Nat) (B : Code) (hB : B = (hole (hole (hole f4_b [1, 1, 1, 1, 0, 1, 0, 0, 1, 1] X0) [1, 1, 1, 1, 1, 1, 0, 1, 0, 1] X1) [1, 1, 1, 1, 1, 1, 1, 1, 0, 1] X2)) : f4_P9 B call n (m0 + 1) = f4_T9 call n (f4_P20 B call n m0) (f4_P21 B call n) (f4_P22 B call n) := by
  subst hB; funext x0 x1 x2 x3; kernel_rfl
theorem f4_l9 (call : CallF) (n : Nat) (m0 : Nat) : f4_P9 f4_b call n (m0 + 1) = f4_T9 call n (f4_P20 f4_b call n m0) (f4_P21 f4_b call n) (f4_P22 f4_b call n) :=
  f4_o9 (piece [1, 1, 1, 1, 0, 1, 0, 0, 1, 1] f4_b) (piece [1, 1, 1, 1, 1, 1, 0, 1, 0, 1] f4_b) (piece [1, 1, 1, 1, 1, 1, 1, 1, 0, 1] f4_b) call n m0 _ (by kernel_rfl)
def f4_L9 (call : CallF) (n : Nat) : Nat → LC → Bool → Bool → Int → OR
  | 0 => fun _ _ _ _ => none
  | m0 + 1 => f4_T9 call n (f4_L20 call n (f4_L9 call n m0)) (f4_L21 call n) (f4_L22 call n)
theorem f4_e9 (call : CallF) (n : Nat) : ∀ m0 : Nat, f4_P9 f4_b call n m0 = f4_L9 call n m0
  | 0 => by funext x0 x1 x2 x3; kernel_rfl
  | m0 + 1 => by rw [f4_l9, f4_e20, f4_e21, f4_e22, f4_e9 call n m0]; rfl
/-- pigeonhole/pigeonholelaw31.ScriptBack -/
def f4_T (call : CallF) (n : Nat) (j9n : LC → Bool → Bool → Int → OR) (a0 : LC) (a1 : Bool) : OR :=
  callK call 7 [] fun v51 =>
  oB v51 fun b52 =>
  bif (!b52) then (
    some (.one (.bool false), [])) else (
    bif (decide ((((a0).length / 12 : Nat) : Int) > (60 : Int))) then (
      some (.one (.bool true), [])) else (
      j9n a0 a1 true (0 : Int)))
def f4_L (call : CallF) (n : Nat) (a0 : LC) (a1 : Bool) : OR :=
  f4_T call n (f4_L9 call n n) a0 a1
theorem f4_o (call : CallF) (n : Nat) (B : Code) (hB : B = f4_b) : f4_P B call n = f4_T call n (f4_P9 B call n n) := by
  subst hB; funext a0 a1; kernel_rfl
theorem f4_l (call : CallF) (n : Nat) : f4_P f4_b call n = f4_T call n (f4_P9 f4_b call n n) :=
  f4_o call n _ (by kernel_rfl)
theorem f4_e (call : CallF) (n : Nat) : f4_P f4_b call n = f4_L call n := by
  rw [f4_l, f4_e9]; rfl
theorem f4_eq (n : Nat) (a0 : LC) (a1 : Bool) : acall AXE AXF (n + 1) 4 [.one (.sl none 12 a0), .one (.bool a1)] [] = f4_L (acall AXE AXF n) (n + 1) a0 a1 :=
  (show _ = f4_P f4_b (acall AXE AXF n) (n + 1) a0 a1 by kernel_rfl).trans (by rw [f4_e])
def f7_P5 (B : Code) (call : CallF) (n : Nat) (x0 : Bool) : OR :=
  f7_x B call n [1, 1, 1, 1, 1, 1] (kEnd AXE 0 f7_r) ⟨[(0, .one (.bool x0))], []⟩
def f7_P (B : Code) (call : CallF) (n : Nat) : OR :=
  f7_x B call n [] (kEnd AXE 0 f7_r) ⟨[], []⟩
def f7_T5 (call : CallF) (n : Nat) (x0 : Bool) : OR :=
  some (.one (.bool x0), [])
theorem f7_o5 (call : CallF) (n : Nat) (B : Code) (hB : B = f7_b) : f7_P5 B call n = f7_T5 call n := by
  subst hB; funext x0; kernel_rfl
theorem f7_l5 (call : CallF) (n : Nat) : f7_P5 f7_b call n = f7_T5 call n :=
  f7_o5 call n _ (by kernel_rfl)
def f7_L5 (call : CallF) (n : Nat) : Bool → OR :=
  f7_T5 call n
theorem f7_e5 (call : CallF) (n : Nat) : f7_P5 f7_b call n = f7_L5 call n := by
  rw [f7_l5]; rfl
/-- pigeonhole/pigeonholelaw31.awake -/
def f7_T (call : CallF) (n : Nat) (j5 : Bool → OR) : OR :=
  callK call 8 [.one (.str ([98, 121, 116, 101, 115, 32, 48, 32, 34, 78, 79, 79, 80, 92, 114, 92, 110, 34] : List UInt8))] fun v39 =>
  castTup v39 fun v40 =>
  consK v40 fun z41 r42 =>
  aggV z41 fun r43 =>
  takeS_api_Event r43 fun w44 r45 =>
  nilK r45 (
    zI .i64 r42 fun n46 r47 =>
    nilK r47 (
      callK call 11 [.agg (⟨(10 : Int), (0 : Int), (1 : Int), (0 : Int), false, ([] : List UInt8), (0 : Int), (0 : Int), ([] : List Cell), ([] : List Cell), (0 : Int), ([] : List Cell)⟩ : S_api_Event).cells] fun v48 =>
      castTup v48 fun v49 =>
      zS v49 fun s50 r51 =>
      zB r51 fun b52 r53 =>
      nilK r53 (
        callK call 12 [.one (.str ([35, 32, 97, 10, 117, 115, 101, 114, 32, 97, 110, 110, 32, 49, 48, 48, 32, 45, 49, 10, 10, 114, 117, 110] : List UInt8))] fun v54 =>
        castTup v54 fun v55 =>
        zL 12 v55 fun l56 r57 =>
        zI .i64 r57 fun n58 r59 =>
        zI .i64 r59 fun n60 r61 =>
        nilK r61 (
          callK call 12 [.one (.str ([114, 117, 110, 10, 102, 108, 121, 32, 49] : List UInt8))] fun v62 =>
          castTup v62 fun v63 =>
          zL 12 v63 fun l64 r65 =>
          zI .i64 r65 fun n66 r67 =>
          zI .i64 r67 fun n68 r69 =>
          nilK r69 (
            bif (n46 == (0 : Int)) then (
              bif (w44.fKind == (2 : Int)) then (
                bytesK w44.fData fun s70 =>
                bif (s70 == ([78, 79, 79, 80, 13, 10] : List UInt8)) then (
                  bif (s50 == ([101, 120, 112, 117, 110, 103, 101, 32, 42, 32, 49] : List UInt8)) then (
                    bif b52 then (
                      bif (n60 == (0 : Int)) then (
                        bif (n58 == (0 : Int)) then (
                          bif ((((l56).length / 12 : Nat) : Int) == (2 : Int)) then (
                            guardB (decide (0 ≤ (0 : Int)) && decide ((Int.toNat (0 : Int)) * 12 + 12 ≤ l56.length)) (
                              cI .i64 ((((l56.drop ((Int.toNat (0 : Int)) * 12)).take 12).drop 6).take 2) fun n71 r72 =>
                              cI .i64 r72 fun n73 r74 =>
                              bif ((n71 == (100 : Int)) && ((n73 == (-1 : Int)) && true)) then (
                                bif (n66 == (2 : Int)) then (
                                  bif (n68 == (15 : Int)) then (
                                    callK call 15 [.agg w44.cells] fun v75 =>
                                    oB v75 fun b76 =>
                                    j5 b76) else (
                                    j5 false)) else (
                                  j5 false)) else (
                                j5 false))) else (
                            j5 false)) else (
                          j5 false)) else (
                        j5 false)) else (
                      j5 false)) else (
                    j5 false)) else (
                  j5 false)) else (
                j5 false)) else (
              j5 false))))))
def f7_L (call : CallF) (n : Nat) : OR :=
  f7_T call n (f7_L5 call n)
theorem f7_o (X0 : Code) (call : CallF) (n : Nat) (B : Code) (hB : B = (hole f7_b [1, 1, 1, 1, 1, 1] X0)) : f7_P B call n = f7_T call n (f7_P5 B call n) := by
  subst hB; kernel_rfl
theorem f7_l (call : CallF) (n : Nat) : f7_P f7_b call n = f7_T call n (f7_P5 f7_b call n) :=
  f7_o (piece [1, 1, 1, 1, 1, 1] f7_b) call n _ (by kernel_rfl)
theorem f7_e (call : CallF) (n : Nat) : f7_P f7_b call n = f7_L call n := by
  rw [f7_l, f7_e5]; rfl
theorem f7_eq (n : Nat) : acall AXE AXF (n + 1) 7 [] [] = f7_L (acall AXE AXF n) (n + 1) :=
  (show _ = f7_P f7_b (acall AXE AXF n) (n + 1) by kernel_rfl).trans (by rw [f7_e])
def f10_P4 (B : Code) (call : CallF) (n : Nat) (x0 : Bool) : OR :=
  f10_x B call n [1, 0, 1, 0, 1] (kSeq (f10_x B call n [1, 1]) (kEnd AXE 0 f10_r)) ⟨[(4, .one (.bool x0))], []⟩
def f10_P5 (B : Code) (call : CallF) (n : Nat) (m0 : Nat) (x0 : Int) (x1 x2 : S_api_Event) : OR :=
  aloop 1000004 (pruneAt f10_h 1000004) (f10_x B call n [1, 1, 0, 1, 0, 0]) (kBlk 0 (kSeq (f10_x B call n [1, 1, 1]) (kEnd AXE 0 f10_r))) m0 ⟨[(2, .one (.ptr 0 0)), (3, .one (.ptr 1 0)), (5, .one (.int .i64 x0))], [x1.cells, x2.cells]⟩
def f10_P1 (B : Code) (call : CallF) (n : Nat) (x0 : Bool) (x1 x2 : S_api_Event) : OR :=
  f10_x B call n [1, 0, 1] (kSeq (f10_x B call n [1, 1]) (kEnd AXE 0 f10_r)) ⟨[(2, .one (.ptr 0 0)), (3, .one (.ptr 1 0)), (77, .one (.bool x0))], [x1.cells, x2.cells]⟩
def f10_P (B : Code) (call : CallF) (n : Nat) (a0 a1 : S_api_Event) : OR :=
  f10_x B call n [] (kEnd AXE 0 f10_r) ⟨[(0, .agg a0.cells), (1, .agg a1.cells)], []⟩
def f10_T4 (call : CallF) (n : Nat) (x0 : Bool) : OR :=
  some (.one (.bool x0), [])
theorem f10_o4 (call : CallF) (n : Nat) (B : Code) (hB : B = f10_b) : f10_P4 B call n = f10_T4 call n := by
  subst hB; funext x0; kernel_rfl
theorem f10_l4 (call : CallF) (n : Nat) : f10_P4 f10_b call n = f10_T4 call n :=
  f10_o4 call n _ (by kernel_rfl)
def f10_L4 (call : CallF) (n : Nat) : Bool → OR :=
  f10_T4 call n
theorem f10_e4 (call : CallF) (n : Nat) : f10_P4 f10_b call n = f10_L4 call n := by
  rw [f10_l4]; rfl
def f10_T5 (call : CallF) (n : Nat) (j5m : Int → S_api_Event → S_api_Event → OR) (x0 : Int) (x1 x2 : S_api_Event) : OR :=
  bif (decide (x0 < (((x1.fTo).length / 1 : Nat) : Int))) then (
    itemK x1.fTo x0 fun c1 =>
    castS c1 fun s2 =>
    itemK x2.fTo x0 fun c3 =>
    castS c3 fun s4 =>
    bif (!(s2 == s4)) then (
      some (.one (.bool false), [])) else (
      j5m (IntKind.wrap .i64 (x0 + (1 : Int))) x1 x2)) else (
    callK call 30 [.one (.sl none 1 x1.fKeep), .one (.sl none 1 x2.fKeep)] fun v5 =>
    oB v5 fun b6 =>
    some (.one (.bool b6), []))
theorem f10_o5 (call : CallF) (n : Nat) (m0 : Nat) (B : Code) (hB : B = f10_b) : f10_P5 B call n (m0 + 1) = f10_T5 call n (f10_P5 B call n m0) := by
  subst hB; funext x0 x1 x2; kernel_rfl
theorem f10_l5 (call : CallF) (n : Nat) (m0 : Nat) : f10_P5 f10_b call n (m0 + 1) = f10_T5 call n (f10_P5 f10_b call n m0) :=
  f10_o5 call n m0 _ (by kernel_rfl)
def f10_L5 (call : CallF) (n : Nat) : Nat → Int → S_api_Event → S_api_Event → OR
  | 0 => fun _ _ _ => none
  | m0 + 1 => f10_T5 call n (f10_L5 call n m0)
theorem f10_e5 (call : CallF) (n : Nat) : ∀ m0 : Nat, f10_P5 f10_b call n m0 = f10_L5 call n m0
  | 0 => by funext x0 x1 x2; kernel_rfl
  | m0 + 1 => by rw [f10_l5, f10_e5 call n m0]; rfl
def f10_T1 (call : CallF) (n : Nat) (j4 : Bool → OR) (j5n : Int → S_api_Event → S_api_Event → OR) (x0 : Bool) (x1 x2 : S_api_Event) : OR :=
  bif x0 then (
    j4 false) else (
    j5n (0 : Int) x1 x2)
theorem f10_o1 (X0 : Code) (call : CallF) (n : Nat) (B : Code) (hB : B = (hole f10_b [1, 0, 1, 0, 1] X0)) : f10_P1 B call n = f10_T1 call n (f10_P4 B call n) (f10_P5 B call n n) := by
  subst hB; funext x0 x1 x2; cases x0 <;> kernel_rfl
theorem f10_l1 (call : CallF) (n : Nat) : f10_P1 f10_b call n = f10_T1 call n (f10_P4 f10_b call n) (f10_P5 f10_b call n n) :=
  f10_o1 (piece [1, 0, 1, 0, 1] f10_b) call n _ (by kernel_rfl)
def f10_L1 (call : CallF) (n : Nat) : Bool → S_api_Event → S_api_Event → OR :=
  f10_T1 call n (f10_L4 call n) (f10_L5 call n n)
theorem f10_e1 (call : CallF) (n : Nat) : f10_P1 f10_b call n = f10_L1 call n := by
  rw [f10_l1, f10_e4, f10_e5]; rfl
/-- pigeonhole/pigeonholeref31.Same -/
def f10_T (call : CallF) (n : Nat) (j1 : Bool → S_api_Event → S_api_Event → OR) (a0 a1 : S_api_Event) : OR :=
  bif (a0.fKind != a1.fKind) then (
    j1 true a0 a1) else (
    bif (a0.fSlot != a1.fSlot) then (
      j1 true a0 a1) else (
      bif (a0.fN != a1.fN) then (
        j1 true a0 a1) else (
        bif (a0.fK != a1.fK) then (
          j1 true a0 a1) else (
          bif (!(a0.fLmtp == a1.fLmtp)) then (
            j1 true a0 a1) else (
            bif (!(a0.fName == a1.fName)) then (
              j1 true a0 a1) else (
              bif (!((a0.fLimit_Bytes == a1.fLimit_Bytes) && ((a0.fLimit_Count == a1.fLimit_Count) && true))) then (
                j1 true a0 a1) else (
                bif (a0.fCode != a1.fCode) then (
                  j1 true a0 a1) else (
                  bytesK a0.fData fun s9 =>
                  bytesK a1.fData fun s10 =>
                  bif (!(s9 == s10)) then (
                    j1 true a0 a1) else (
                    j1 ((((a0.fTo).length / 1 : Nat) : Int) != (((a1.fTo).length / 1 : Nat) : Int)) a0 a1)))))))))
def f10_L (call : CallF) (n : Nat) (a0 a1 : S_api_Event) : OR :=
  f10_T call n (f10_L1 call n) a0 a1
theorem f10_o (X0 : Code) (call : CallF) (n : Nat) (B : Code) (hB : B = (hole f10_b [1, 0, 1] X0)) : f10_P B call n = f10_T call n (f10_P1 B call n) := by
  subst hB; funext a0 a1; kernel_rfl
theorem f10_l (call : CallF) (n : Nat) : f10_P f10_b call n = f10_T call n (f10_P1 f10_b call n) :=
  f10_o (piece [1, 0, 1] f10_b) call n _ (by kernel_rfl)
theorem f10_e (call : CallF) (n : Nat) : f10_P f10_b call n = f10_L call n := by
  rw [f10_l, f10_e1]; rfl
theorem f10_eq (n : Nat) (a0 a1 : S_api_Event) : acall AXE AXF (n + 1) 10 [.agg a0.cells, .agg a1.cells] [] = f10_L (acall AXE AXF n) (n + 1) a0 a1 :=
  (show _ = f10_P f10_b (acall AXE AXF n) (n + 1) a0 a1 by kernel_rfl).trans (by rw [f10_e])
def f12_P11 (B : Code) (call : CallF) (n : Nat) (m0 : Nat) (x0 : LC) (x1 : Int) (x2 : LB) (x3 : LC) (x4 x5 : Int) : OR :=
  f12_x B call n [1, 0, 1, 0, 0, 1, 1, 1] (kSeq (fun k => prK 1000002 (pruneAt f12_h 1000002) (aloop 1000002 (pruneAt f12_h 1000002) (f12_x B call n [1, 0, 1, 0, 0]) k m0)) (kBlk 0 (kSeq (f12_x B call n [1, 1]) (kEnd AXE 0 f12_r)))) ⟨[(2, .one (.sl (some ⟨2, 0, 30⟩) 12 x0)), (5, .one (.int .i64 x1)), (6, .one (.str x2)), (10, .one (.sl none 1 x3)), (11, .one (.int .i64 x4)), (12, .one (.int .i64 x5))], []⟩
def f12_P16 (B : Code) (call : CallF) (n : Nat) (m0 : Nat) (x0 : LC) (x1 x2 : Int) : OR :=
  f12_x B call n [1, 0, 1, 0, 0, 1, 1, 0, 0, 1, 1, 1, 1, 0, 1, 0, 1] (kSeq (f12_x B call n [1, 0, 1, 0, 0, 1, 1, 0, 0, 1, 1, 1, 1, 1]) (kBlk 1 (kSeq (f12_x B call n [1, 0, 1, 0, 0, 1, 1, 1]) (kSeq (fun k => prK 1000002 (pruneAt f12_h 1000002) (aloop 1000002 (pruneAt f12_h 1000002) (f12_x B call n [1, 0, 1, 0, 0]) k m0)) (kBlk 0 (kSeq (f12_x B call n [1, 1]) (kEnd AXE 0 f12_r))))))) ⟨[(2, .one (.sl (some ⟨2, 0, 30⟩) 12 x0)), (3, .one (.int .i64 x1)), (4, .one (.int .i64 x2))], []⟩
def f12_P17 (B : Code) (call : CallF) (n : Nat) (m0 : Nat) (x0 x1 : LC) (x2 x3 : Int) : OR :=
  f12_x B call n [1, 0, 1, 0, 0, 1, 1, 1] (kSeq (fun k => prK 1000002 (pruneAt f12_h 1000002) (aloop 1000002 (pruneAt f12_h 1000002) (f12_x B call n [1, 0, 1, 0, 0]) k m0)) (kBlk 0 (kSeq (f12_x B call n [1, 1]) (kEnd AXE 0 f12_r)))) ⟨[(2, .one (.sl (some ⟨2, 0, 30⟩) 12 x0)), (10, .one (.sl none 1 x1)), (11, .one (.int .i64 x2)), (12, .one (.int .i64 x3))], []⟩
def f12_P14 (B : Code) (call : CallF) (n : Nat) (m0 : Nat) (x0 : LC) (x1 x2 : Int) (x3 : LC) (x4 x5 : Int) (x6 : Bool) (x7 : S_api_Event) : OR :=
  f12_x B call n [1, 0, 1, 0, 0, 1, 1, 0, 0, 1, 1, 1, 1, 0, 1] (kSeq (f12_x B call n [1, 0, 1, 0, 0, 1, 1, 0, 0, 1, 1, 1, 1, 1]) (kBlk 1 (kSeq (f12_x B call n [1, 0, 1, 0, 0, 1, 1, 1]) (kSeq (fun k => prK 1000002 (pruneAt f12_h 1000002) (aloop 1000002 (pruneAt f12_h 1000002) (f12_x B call n [1, 0, 1, 0, 0]) k m0)) (kBlk 0 (kSeq (f12_x B call n [1, 1]) (kEnd AXE 0 f12_r))))))) ⟨[(2, .one (.sl (some ⟨2, 0, 30⟩) 12 x0)), (5, .one (.int .i64 x1)), (7, .one (.ptr 0 0)), (8, .one (.int .i64 x2)), (10, .one (.sl none 1 x3)), (11, .one (.int .i64 x4)), (12, .one (.int .i64 x5)), (37, .one (.bool x6))], [x7.cells]⟩
def f12_P13 (B : Code) (call : CallF) (n : Nat) (m0 : Nat) (x0 : LC) (x1 x2 : Int) (x3 : LC) (x4 x5 : Int) (x6 : S_api_Event) : OR :=
  f12_x B call n [1, 0, 1, 0, 0, 1, 1, 0, 0, 1, 1, 1, 1] (kBlk 1 (kSeq (f12_x B call n [1, 0, 1, 0, 0, 1, 1, 1]) (kSeq (fun k => prK 1000002 (pruneAt f12_h 1000002) (aloop 1000002 (pruneAt f12_h 1000002) (f12_x B call n [1, 0, 1, 0, 0]) k m0)) (kBlk 0 (kSeq (f12_x B call n [1, 1]) (kEnd AXE 0 f12_r)))))) ⟨[(2, .one (.sl (some ⟨2, 0, 30⟩) 12 x0)), (5, .one (.int .i64 x1)), (7, .one (.ptr 0 0)), (8, .one (.int .i64 x2)), (10, .one (.sl none 1 x3)), (11, .one (.int .i64 x4)), (12, .one (.int .i64 x5))], [x6.cells]⟩
def f12_P12 (B : Code) (call : CallF) (n : Nat) (m0 : Nat) (x0 : LC) (x1 x2 : Int) (x3 : LC) (x4 x5 : Int) (x6 : Bool) (x7 : S_api_Event) : OR :=
  f12_x B call n [1, 0, 1, 0, 0, 1, 1, 0, 0, 1, 1, 1, 0, 1] (kSeq (f12_x B call n [1, 0, 1, 0, 0, 1, 1, 0, 0, 1, 1, 1, 1]) (kBlk 1 (kSeq (f12_x B call n [1, 0, 1, 0, 0, 1, 1, 1]) (kSeq (fun k => prK 1000002 (pruneAt f12_h 1000002) (aloop 1000002 (pruneAt f12_h 1000002) (f12_x B call n [1, 0, 1, 0, 0]) k m0)) (kBlk 0 (kSeq (f12_x B call n [1, 1]) (kEnd AXE 0 f12_r))))))) ⟨[(2, .one (.sl (some ⟨2, 0, 30⟩) 12 x0)), (5, .one (.int .i64 x1)), (7, .one (.ptr 0 0)), (8, .one (.int .i64 x2)), (10, .one (.sl none 1 x3)), (11, .one (.int .i64 x4)), (12, .one (.int .i64 x5)), (35, .one (.bool x6))], [x7.cells]⟩
def f12_P8 (B : Code) (call : CallF) (n : Nat) (m0 : Nat) (x0 : LC) (x1 : Int) (x2 : LB) (x3 : LC) (x4 x5 : Int) (x6 : Bool) : OR :=
  f12_x B call n [1, 0, 1, 0, 0, 1, 1, 0, 0, 1, 0, 1] (kSeq (f12_x B call n [1, 0, 1, 0, 0, 1, 1, 0, 0, 1, 1]) (kBlk 1 (kSeq (f12_x B call n [1, 0, 1, 0, 0, 1, 1, 1]) (kSeq (fun k => prK 1000002 (pruneAt f12_h 1000002) (aloop 1000002 (pruneAt f12_h 1000002) (f12_x B call n [1, 0, 1, 0, 0]) k m0)) (kBlk 0 (kSeq (f12_x B call n [1, 1]) (kEnd AXE 0 f12_r))))))) ⟨[(2, .one (.sl (some ⟨2, 0, 30⟩) 12 x0)), (5, .one (.int .i64 x1)), (6, .one (.str x2)), (10, .one (.sl none 1 x3)), (11, .one (.int .i64 x4)), (12, .one (.int .i64 x5)), (23, .one (.bool x6))], []⟩
def f12_P2 (B : Code) (call : CallF) (n : Nat) (m0 : Nat) (x0 x1 : LC) (x2 x3 : Int) : OR :=
  aloop 1000002 (pruneAt f12_h 1000002) (f12_x B call n [1, 0, 1, 0, 0]) (kBlk 0 (kSeq (f12_x B call n [1, 1]) (kEnd AXE 0 f12_r))) m0 ⟨[(2, .one (.sl (some ⟨2, 0, 30⟩) 12 x0)), (10, .one (.sl none 1 x1)), (11, .one (.int .i64 x2)), (12, .one (.int .i64 x3))], []⟩
def f12_P (B : Code) (call : CallF) (n : Nat) (a0 : LB) : OR :=
  f12_x B call n [] (kEnd AXE 0 f12_r) ⟨[(0, .one (.str a0))], []⟩
def f12_T11 (call : CallF) (n : Nat) (j2m : LC → LC → Int → Int → OR) (x0 : LC) (x1 : Int) (x2 : LB) (x3 : LC) (x4 x5 : Int) : OR :=
  j2m x0 x3 x4 (IntKind.wrap .i64 (x5 + (1 : Int)))
theorem f12_o11 (call : CallF) (n : Nat) (m0 : Nat) (B : Code) (hB : B = f12_b) : f12_P11 B call n m0 = f12_T11 call n (f12_P2 B call n m0) := by
  subst hB; funext x0 x1 x2 x3 x4 x5; kernel_rfl
theorem f12_l11 (call : CallF) (n : Nat) (m0 : Nat) : f12_P11 f12_b call n m0 = f12_T11 call n (f12_P2 f12_b call n m0) :=
  f12_o11 call n m0 _ (by kernel_rfl)
def f12_L11 (call : CallF) (n : Nat) (h_m0 : LC → LC → Int → Int → OR) : LC → Int → LB → LC → Int → Int → OR :=
  f12_T11 call n h_m0
theorem f12_e11 (call : CallF) (n : Nat) (m0 : Nat) : f12_P11 f12_b call n m0 = f12_L11 call n (f12_P2 f12_b call n m0) := by
  rw [f12_l11]; rfl
def f12_T16 (call : CallF) (n : Nat) (x0 : LC) (x1 x2 : Int) : OR :=
  some (.tup [.one (.sl (some ⟨2, 0, 30⟩) 12 x0), .one (.int .i64 x1), .one (.int .i64 x2)], [])
theorem f12_o16 (call : CallF) (n : Nat) (m0 : Nat) (B : Code) (hB : B = f12_b) : f12_P16 B call n m0 = f12_T16 call n := by
  subst hB; funext x0 x1 x2; kernel_rfl
theorem f12_l16 (call : CallF) (n : Nat) (m0 : Nat) : f12_P16 f12_b call n m0 = f12_T16 call n :=
  f12_o16 call n m0 _ (by kernel_rfl)
def f12_L16 (call : CallF) (n : Nat) (h_m0 : LC → LC → Int → Int → OR) : LC → Int → Int → OR :=
  f12_T16 call n
theorem f12_e16 (call : CallF) (n : Nat) (m0 : Nat) : f12_P16 f12_b call n m0 = f12_L16 call n (f12_P2 f12_b call n m0) := by
  rw [f12_l16]; rfl
def f12_T17 (call : CallF) (n : Nat) (j2m : LC → LC → Int → Int → OR) (x0 x1 : LC) (x2 x3 : Int) : OR :=
  j2m x0 x1 x2 (IntKind.wrap .i64 (x3 + (1 : Int)))
theorem f12_o17 (call : CallF) (n : Nat) (m0 : Nat) (B : Code) (hB : B = f12_b) : f12_P17 B call n m0 = f12_T17 call n (f12_P2 B call n m0) := by
  subst hB; funext x0 x1 x2 x3; kernel_rfl
theorem f12_l17 (call : CallF) (n : Nat) (m0 : Nat) : f12_P17 f12_b call n m0 = f12_T17 call n (f12_P2 f12_b call n m0) :=
  f12_o17 call n m0 _ (by kernel_rfl)
def f12_L17 (call : CallF) (n : Nat) (h_m0 : LC → LC → Int → Int → OR) : LC → LC → Int → Int → OR :=
  f12_T17 call n h_m0
theorem f12_e17 (call : CallF) (n : Nat) (m0 : Nat) : f12_P17 f12_b call n m0 = f12_L17 call n (f12_P2 f12_b call n m0) := by
  rw [f12_l17]; rfl
def f12_T14 (call : CallF) (n : Nat) (j16 : LC → Int → Int → OR) (j17 : LC → LC → Int → Int → OR) (x0 : LC) (x1 x2 : Int) (x3 : LC) (x4 x5 : Int) (x6 : Bool) (x7 : S_api_Event) : OR :=
  bif x6 then (
    j16 ([] : List Cell) (IntKind.wrap .i64 (x1 + (1 : Int))) x2) else (
    guardB (decide (((x0).length + (([.int .i64 x7.fKind, .int .i64 x7.fSlot, .int .i64 x7.fN, .int .i64 x7.fK, .bool x7.fLmtp, .str x7.fName, .int .i64 x7.fLimit_Bytes, .int .i64 x7.fLimit_Count, .sl none 1 x7.fTo, .sl none 1 x7.fData, .int .i64 x7.fCode, .sl none 1 x7.fKeep] : List Cell)).length) * 1000 ≤ rowLim)) (
      j17 (x0 ++ ([.int .i64 x7.fKind, .int .i64 x7.fSlot, .int .i64 x7.fN, .int .i64 x7.fK, .bool x7.fLmtp, .str x7.fName, .int .i64 x7.fLimit_Bytes, .int .i64 x7.fLimit_Count, .sl none 1 x7.fTo, .sl none 1 x7.fData, .int .i64 x7.fCode, .sl none 1 x7.fKeep] : List Cell)) x3 x4 x5))
theorem f12_o14 (X0 X1 : Code) (call : CallF) (n : Nat) (m0 : Nat) (B : Code) (hB : B = (hole (hole f12_b [1, 0, 1, 0, 0, 1, 1, 0, 0, 1, 1, 1, 1, 0, 1, 0, 1] X0) [1, 0, 1, 0, 0, 1, 1, 1] X1)) : f12_P14 B call n m0 = f12_T14 call n (f12_P16 B call n m0) (f12_P17 B call n m0) := by
  subst hB; funext x0 x1 x2 x3 x4 x5 x6 x7; cases x6 <;> kernel_rfl
theorem f12_l14 (call : CallF) (n : Nat) (m0 : Nat) : f12_P14 f12_b call n m0 = f12_T14 call n (f12_P16 f12_b call n m0) (f12_P17 f12_b call n m0) :=
  f12_o14 (piece [1, 0, 1, 0, 0, 1, 1, 0, 0, 1, 1, 1, 1, 0, 1, 0, 1] f12_b) (piece [1, 0, 1, 0, 0, 1, 1, 1] f12_b) call n m0 _ (by kernel_rfl)
def f12_L14 (call : CallF) (n : Nat) (h_m0 : LC → LC → Int → Int → OR) : LC → Int → Int → LC → Int → Int → Bool → S_api_Event → OR :=
  f12_T14 call n (f12_L16 call n h_m0) (f12_L17 call n h_m0)
theorem f12_e14 (call : CallF) (n : Nat) (m0 : Nat) : f12_P14 f12_b call n m0 = f12_L14 call n (f12_P2 f12_b call n m0) := by
  rw [f12_l14, f12_e16, f12_e17]; rfl
def f12_T13 (call : CallF) (n : Nat) (j14 : LC → Int → Int → LC → Int → Int → Bool → S_api_Event → OR) (x0 : LC) (x1 x2 : Int) (x3 : LC) (x4 x5 : Int) (x6 : S_api_Event) : OR :=
  j14 x0 x1 x2 x3 x4 x5 (x2 != (0 : Int)) x6
theorem f12_o13 (X0 : Code) (call : CallF) (n : Nat) (m0 : Nat) (B : Code) (hB : B = (hole f12_b [1, 0, 1, 0, 0, 1, 1, 0, 0, 1, 1, 1, 1, 0, 1] X0)) : f12_P13 B call n m0 = f12_T13 call n (f12_P14 B call n m0) := by
  subst hB; funext x0 x1 x2 x3 x4 x5 x6; kernel_rfl
theorem f12_l13 (call : CallF) (n : Nat) (m0 : Nat) : f12_P13 f12_b call n m0 = f12_T13 call n (f12_P14 f12_b call n m0) :=
  f12_o13 (piece [1, 0, 1, 0, 0, 1, 1, 0, 0, 1, 1, 1, 1, 0, 1] f12_b) call n m0 _ (by kernel_rfl)
def f12_L13 (call : CallF) (n : Nat) (h_m0 : LC → LC → Int → Int → OR) : LC → Int → Int → LC → Int → Int → S_api_Event → OR :=
  f12_T13 call n (f12_L14 call n h_m0)
theorem f12_e13 (call : CallF) (n : Nat) (m0 : Nat) : f12_P13 f12_b call n m0 = f12_L13 call n (f12_P2 f12_b call n m0) := by
  rw [f12_l13, f12_e14]; rfl
def f12_T12 (call : CallF) (n : Nat) (j13 : LC → Int → Int → LC → Int → Int → S_api_Event → OR) (x0 : LC) (x1 x2 : Int) (x3 : LC) (x4 x5 : Int) (x6 : Bool) (x7 : S_api_Event) : OR :=
  bif x6 then (
    j13 x0 x1 (4 : Int) x3 x4 x5 x7) else (
    j13 x0 x1 x2 x3 x4 x5 x7)
theorem f12_o12 (X0 : Code) (call : CallF) (n : Nat) (m0 : Nat) (B : Code) (hB : B = (hole f12_b [1, 0, 1, 0, 0, 1, 1, 0, 0, 1, 1, 1, 1] X0)) : f12_P12 B call n m0 = f12_T12 call n (f12_P13 B call n m0) := by
  subst hB; funext x0 x1 x2 x3 x4 x5 x6 x7; cases x6 <;> kernel_rfl
theorem f12_l12 (call : CallF) (n : Nat) (m0 : Nat) : f12_P12 f12_b call n m0 = f12_T12 call n (f12_P13 f12_b call n m0) :=
  f12_o12 (piece [1, 0, 1, 0, 0, 1, 1, 0, 0, 1, 1, 1, 1] f12_b) call n m0 _ (by kernel_rfl)
def f12_L12 (call : CallF) (n : Nat) (h_m0 : LC → LC → Int → Int → OR) : LC → Int → Int → LC → Int → Int → Bool → S_api_Event → OR :=
  f12_T12 call n (f12_L13 call n h_m0)
theorem f12_e12 (call : CallF) (n : Nat) (m0 : Nat) : f12_P12 f12_b call n m0 = f12_L12 call n (f12_P2 f12_b call n m0) := by
  rw [f12_l12, f12_e13]; rfl
def f12_T8 (call : CallF) (n : Nat) (j11 : LC → Int → LB → LC → Int → Int → OR) (j12 : LC → Int → Int → LC → Int → Int → Bool → S_api_Event → OR) (x0 : LC) (x1 : Int) (x2 : LB) (x3 : LC) (x4 x5 : Int) (x6 : Bool) : OR :=
  bif x6 then (
    j11 x0 x1 x2 x3 x4 x5) else (
    callK call 8 [.one (.str x2)] fun v1 =>
    castTup v1 fun v2 =>
    consK v2 fun z3 r4 =>
    aggV z3 fun r5 =>
    takeS_api_Event r5 fun w6 r7 =>
    nilK r7 (
      zI .i64 r4 fun n8 r9 =>
      nilK r9 (
        bif (n8 == (0 : Int)) then (
          j12 x0 x1 n8 x3 x4 x5 ((((x0).length / 12 : Nat) : Int) == (1000 : Int)) w6) else (
          j12 x0 x1 n8 x3 x4 x5 false w6))))
theorem f12_o8 (X0 X1 : Code) (call : CallF) (n : Nat) (m0 : Nat) (B : Code) (hB : B = (hole (hole f12_b [1, 0, 1, 0, 0, 1, 1, 0, 0, 1, 1, 1, 0, 1] X0) [1, 0, 1, 0, 0, 1, 1, 1] X1)) : f12_P8 B call n m0 = f12_T8 call n (f12_P11 B call n m0) (f12_P12 B call n m0) := by
  subst hB; funext x0 x1 x2 x3 x4 x5 x6; cases x6 <;> kernel_rfl
theorem f12_l8 (call : CallF) (n : Nat) (m0 : Nat) : f12_P8 f12_b call n m0 = f12_T8 call n (f12_P11 f12_b call n m0) (f12_P12 f12_b call n m0) :=
  f12_o8 (piece [1, 0, 1, 0, 0, 1, 1, 0, 0, 1, 1, 1, 0, 1] f12_b) (piece [1, 0, 1, 0, 0, 1, 1, 1] f12_b) call n m0 _ (by kernel_rfl)
def f12_L8 (call : CallF) (n : Nat) (h_m0 : LC → LC → Int → Int → OR) : LC → Int → LB → LC → Int → Int → Bool → OR :=
  f12_T8 call n (f12_L11 call n h_m0) (f12_L12 call n h_m0)
theorem f12_e8 (call : CallF) (n : Nat) (m0 : Nat) : f12_P8 f12_b call n m0 = f12_L8 call n (f12_P2 f12_b call n m0) := by
  rw [f12_l8, f12_e11, f12_e12]; rfl
def f12_T2 (call : CallF) (n : Nat) (j8 : LC → Int → LB → LC → Int → Int → Bool → OR) (x0 x1 : LC) (x2 x3 : Int) : OR :=
  bif (decide (x3 < x2)) then (
    itemK x1 x3 fun c1 =>
    castS c1 fun s2 =>
    bif (s2 == ([] : List UInt8)) then (
      j8 x0 x3 s2 x1 x2 x3 true) else (
      itemK s2 (0 : Int) fun u3 =>
      j8 x0 x3 s2 x1 x2 x3 ((UInt8.toNat u3 : Int) == (35 : Int)))) else (
    some (.tup [.one (.sl (some ⟨2, 0, 30⟩) 12 x0), .one (.int .i64 (0 : Int)), .one (.int .i64 (0 : Int))], []))
theorem f12_o2 (X0 : Code) (call : CallF) (n : Nat) (m0 : Nat) (B : Code) (hB : B = (hole f12_b [1, 0, 1, 0, 0, 1, 1, 0, 0, 1, 0, 1] X0)) : f12_P2 B call n (m0 + 1) = f12_T2 call n (f12_P8 B call n m0) := by
  subst hB; funext x0 x1 x2 x3; kernel_rfl
theorem f12_l2 (call : CallF) (n : Nat) (m0 : Nat) : f12_P2 f12_b call n (m0 + 1) = f12_T2 call n (f12_P8 f12_b call n m0) :=
  f12_o2 (piece [1, 0, 1, 0, 0, 1, 1, 0, 0, 1, 0, 1] f12_b) call n m0 _ (by kernel_rfl)
def f12_L2 (call : CallF) (n : Nat) : Nat → LC → LC → Int → Int → OR
  | 0 => fun _ _ _ _ => none
  | m0 + 1 => f12_T2 call n (f12_L8 call n (f12_L2 call n m0))
theorem f12_e2 (call : CallF) (n : Nat) : ∀ m0 : Nat, f12_P2 f12_b call n m0 = f12_L2 call n m0
  | 0 => by funext x0 x1 x2 x3; kernel_rfl
  | m0 + 1 => by rw [f12_l2, f12_e8, f12_e2 call n m0]; rfl
/-- pigeonhole/script.Parse -/
def f12_T (call : CallF) (n : Nat) (j2n : LC → LC → Int → Int → OR) (a0 : LB) : OR :=
  primK pSplit [.one (.str a0), .one (.str ([10] : List UInt8))] fun v15 =>
  oL 1 v15 fun l16 =>
  j2n ([] : List Cell) l16 (((l16).length / 1 : Nat) : Int) (0 : Int)
def f12_L (call : CallF) (n : Nat) (a0 : LB) : OR :=
  f12_T call n (f12_L2 call n n) a0
theorem f12_o (call : CallF) (n : Nat) (B : Code) (hB : B = f12_b) : f12_P B call n = f12_T call n (f12_P2 B call n n) := by
  subst hB; funext a0; kernel_rfl
theorem f12_l (call : CallF) (n : Nat) : f12_P f12_b call n = f12_T call n (f12_P2 f12_b call n n) :=
  f12_o call n _ (by kernel_rfl)
theorem f12_e (call : CallF) (n : Nat) : f12_P f12_b call n = f12_L call n := by
  rw [f12_l, f12_e2]; rfl
theorem f12_eq (n : Nat) (a0 : LB) : acall AXE AXF (n + 1) 12 [.one (.str a0)] [] = f12_L (acall AXE AXF n) (n + 1) a0 :=
  (show _ = f12_P f12_b (acall AXE AXF n) (n + 1) a0 by kernel_rfl).trans (by rw [f12_e])
def f14_P4 (B : Code) (call : CallF) (n : Nat) (x0 : Bool) : OR :=
  f14_x B call n [1, 0, 1, 0, 1] (kSeq (f14_x B call n [1, 1]) (kEnd AXE 0 f14_r)) ⟨[(2, .one (.bool x0))], []⟩
def f14_P5 (B : Code) (call : CallF) (n : Nat) (m0 : Nat) (x0 : Int) (x1 : S_api_Event) : OR :=
  aloop 1000004 (pruneAt f14_h 1000004) (f14_x B call n [1, 1, 0, 1, 0, 0]) (kBlk 0 (kSeq (f14_x B call n [1, 1, 1]) (kEnd AXE 0 f14_r))) m0 ⟨[(1, .one (.ptr 0 0)), (3, .one (.int .i64 x0))], [x1.cells]⟩
def f14_P1 (B : Code) (call : CallF) (n : Nat) (x0 : Bool) (x1 : S_api_Event) : OR :=
  f14_x B call n [1, 0, 1] (kSeq (f14_x B call n [1, 1]) (kEnd AXE 0 f14_r)) ⟨[(1, .one (.ptr 0 0)), (25, .one (.bool x0))], [x1.cells]⟩
def f14_P (B : Code) (call : CallF) (n : Nat) (a0 : S_api_Event) : OR :=
  f14_x B call n [] (kEnd AXE 0 f14_r) ⟨[(0, .agg a0.cells)], []⟩
def f14_T4 (call : CallF) (n : Nat) (x0 : Bool) : OR :=
  some (.one (.bool x0), [])
theorem f14_o4 (call : CallF) (n : Nat) (B : Code) (hB : B = f14_b) : f14_P4 B call n = f14_T4 call n := by
  subst hB; funext x0; kernel_rfl
theorem f14_l4 (call : CallF) (n : Nat) : f14_P4 f14_b call n = f14_T4 call n :=
  f14_o4 call n _ (by kernel_rfl)
def f14_L4 (call : CallF) (n : Nat) : Bool → OR :=
  f14_T4 call n
theorem f14_e4 (call : CallF) (n : Nat) : f14_P4 f14_b call n = f14_L4 call n := by
  rw [f14_l4]; rfl
def f14_T5 (call : CallF) (n : Nat) (j5m : Int → S_api_Event → OR) (x0 : Int) (x1 : S_api_Event) : OR :=
  bif (decide (x0 < (((x1.fTo).length / 1 : Nat) : Int))) then (
    itemK x1.fTo x0 fun c1 =>
    castS c1 fun s2 =>
    bif (decide (((s2).length : Int) > (100 : Int))) then (
      some (.one (.bool false), [])) else (
      j5m (IntKind.wrap .i64 (x0 + (1 : Int))) x1)) else (
    some (.one (.bool true), []))
theorem f14_o5 (call : CallF) (n : Nat) (m0 : Nat) (B : Code) (hB : B = f14_b) : f14_P5 B call n (m0 + 1) = f14_T5 call n (f14_P5 B call n m0) := by
  subst hB; funext x0 x1; kernel_rfl
theorem f14_l5 (call : CallF) (n : Nat) (m0 : Nat) : f14_P5 f14_b call n (m0 + 1) = f14_T5 call n (f14_P5 f14_b call n m0) :=
  f14_o5 call n m0 _ (by kernel_rfl)
def f14_L5 (call : CallF) (n : Nat) : Nat → Int → S_api_Event → OR
  | 0 => fun _ _ => none
  | m0 + 1 => f14_T5 call n (f14_L5 call n m0)
theorem f14_e5 (call : CallF) (n : Nat) : ∀ m0 : Nat, f14_P5 f14_b call n m0 = f14_L5 call n m0
  | 0 => by funext x0 x1; kernel_rfl
  | m0 + 1 => by rw [f14_l5, f14_e5 call n m0]; rfl
def f14_T1 (call : CallF) (n : Nat) (j4 : Bool → OR) (j5n : Int → S_api_Event → OR) (x0 : Bool) (x1 : S_api_Event) : OR :=
  bif x0 then (
    j4 false) else (
    j5n (0 : Int) x1)
theorem f14_o1 (X0 : Code) (call : CallF) (n : Nat) (B : Code) (hB : B = (hole f14_b [1, 0, 1, 0, 1] X0)) : f14_P1 B call n = f14_T1 call n (f14_P4 B call n) (f14_P5 B call n n) := by
  subst hB; funext x0 x1; cases x0 <;> kernel_rfl
theorem f14_l1 (call : CallF) (n : Nat) : f14_P1 f14_b call n = f14_T1 call n (f14_P4 f14_b call n) (f14_P5 f14_b call n n) :=
  f14_o1 (piece [1, 0, 1, 0, 1] f14_b) call n _ (by kernel_rfl)
def f14_L1 (call : CallF) (n : Nat) : Bool → S_api_Event → OR :=
  f14_T1 call n (f14_L4 call n) (f14_L5 call n n)
theorem f14_e1 (call : CallF) (n : Nat) : f14_P1 f14_b call n = f14_L1 call n := by
  rw [f14_l1, f14_e4, f14_e5]; rfl
/-- pigeonhole/pigeonholeref31.Light -/
def f14_T (call : CallF) (n : Nat) (j1 : Bool → S_api_Event → OR) (a0 : S_api_Event) : OR :=
  bif (decide ((((a0.fData).length / 1 : Nat) : Int) > (1000 : Int))) then (
    j1 true a0) else (
    bif (decide (((a0.fName).length : Int) > (100 : Int))) then (
      j1 true a0) else (
      bif (decide ((((a0.fTo).length / 1 : Nat) : Int) > (20 : Int))) then (
        j1 true a0) else (
        j1 (decide ((((a0.fKeep).length / 1 : Nat) : Int) > (60 : Int))) a0)))
def f14_L (call : CallF) (n : Nat) (a0 : S_api_Event) : OR :=
  f14_T call n (f14_L1 call n) a0
theorem f14_o (X0 : Code) (call : CallF) (n : Nat) (B : Code) (hB : B = (hole f14_b [1, 0, 1] X0)) : f14_P B call n = f14_T call n (f14_P1 B call n) := by
  subst hB; funext a0; kernel_rfl
theorem f14_l (call : CallF) (n : Nat) : f14_P f14_b call n = f14_T call n (f14_P1 f14_b call n) :=
  f14_o (piece [1, 0, 1] f14_b) call n _ (by kernel_rfl)
theorem f14_e (call : CallF) (n : Nat) : f14_P f14_b call n = f14_L call n := by
  rw [f14_l, f14_e1]; rfl
theorem f14_eq (n : Nat) (a0 : S_api_Event) : acall AXE AXF (n + 1) 14 [.agg a0.cells] [] = f14_L (acall AXE AXF n) (n + 1) a0 :=
  (show _ = f14_P f14_b (acall AXE AXF n) (n + 1) a0 by kernel_rfl).trans (by rw [f14_e])
def f15_P (B : Code) (call : CallF) (n : Nat) (a0 : S_api_Event) : OR :=
  f15_x B call n [] (kEnd AXE 0 f15_r) ⟨[(0, .agg a0.cells)], []⟩
/-- pigeonhole/script.Check -/
def f15_T (call : CallF) (n : Nat) (a0 : S_api_Event) : OR :=
  callK call 11 [.agg a0.cells] fun v7 =>
  castTup v7 fun v8 =>
  zS v8 fun s9 r10 =>
  zB r10 fun b11 r12 =>
  nilK r12 (
    some (.one (.bool b11), []))
def f15_L (call : CallF) (n : Nat) (a0 : S_api_Event) : OR :=
  f15_T call n a0
theorem f15_o (call : CallF) (n : Nat) (B : Code) (hB : B = f15_b) : f15_P B call n = f15_T call n := by
  subst hB; funext a0; kernel_rfl
theorem f15_l (call : CallF) (n : Nat) : f15_P f15_b call n = f15_T call n :=
  f15_o call n _ (by kernel_rfl)
theorem f15_e (call : CallF) (n : Nat) : f15_P f15_b call n = f15_L call n := by
  rw [f15_l]; rfl
theorem f15_eq (n : Nat) (a0 : S_api_Event) : acall AXE AXF (n + 1) 15 [.agg a0.cells] [] = f15_L (acall AXE AXF n) (n + 1) a0 :=
  (show _ = f15_P f15_b (acall AXE AXF n) (n + 1) a0 by kernel_rfl).trans (by rw [f15_e])
def f16_P6 (B : Code) (call : CallF) (n : Nat) (m0 : Nat) (x0 : LC) (x1 x2 : Int) (x3 : LC) : OR :=
  aloop 1000005 (pruneAt f16_h 1000005) (f16_x B call n [1, 1, 1, 0, 1, 0, 0]) (kBlk 0 (kSeq (f16_x B call n [1, 1, 1, 1]) (kEnd AXE 0 f16_r))) m0 ⟨[(4, .one (.ptr 0 0)), (12, .one (.sl none 12 x0)), (13, .one (.int .i64 x1)), (14, .one (.int .i64 x2))], [[.selfp 78, .sl (some ⟨1000000, 1, 5⟩) 1 x3]]⟩
def f16_P (B : Code) (call : CallF) (n : Nat) (a0 : LC) : OR :=
  f16_x B call n [] (kEnd AXE 0 f16_r) ⟨[(0, .one (.sl none 12 a0))], []⟩
def f16_T6 (call : CallF) (n : Nat) (j6m : LC → Int → Int → LC → OR) (x0 : LC) (x1 x2 : Int) (x3 : LC) : OR :=
  bif (decide (x2 < x1)) then (
    guardB (decide (0 ≤ x2) && decide ((Int.toNat x2) * 12 + 12 ≤ x0.length)) (
      takeS_api_Event ((x0.drop ((Int.toNat x2) * 12)).take 12) fun w1 r2 =>
      callK call 11 [.agg w1.cells] fun v3 =>
      castTup v3 fun v4 =>
      zS v4 fun s5 r6 =>
      zB r6 fun b7 r8 =>
      nilK r8 (
        bif (!b7) then (
          some (.tup [.one (.str ([] : List UInt8)), .one (.int .i64 (3 : Int))], [])) else (
          bif decide ((s5).length + (([10] : List UInt8)).length ≤ strLim) then (
            primHK pBW [.one (.ptr 0 0), .one (.str (s5 ++ ([10] : List UInt8)))] [.selfp 78, .sl (some ⟨1000000, 1, 5⟩) 1 x3] fun v9 h10 =>
            consK h10 fun c11 r12 =>
            castSp 78 c11 (
              consK r12 fun c13 r14 =>
              castNm ⟨1000000, 1, 5⟩ 1 c13 fun l15 =>
              nilK r14 (
                castTup v9 fun v16 =>
                zI .i64 v16 fun n17 r18 =>
                zE r18 fun b19 r20 =>
                nilK r20 (
                  j6m x0 x1 (IntKind.wrap .i64 (x2 + (1 : Int))) l15)))) else none)))) else (
    primSK pBS [.one (.ptr 0 0)] [.selfp 78, .sl (some ⟨1000000, 1, 5⟩) 1 x3] fun v21 =>
    oS v21 fun s22 =>
    some (.tup [.one (.str s22), .one (.int .i64 (0 : Int))], []))
theorem f16_o6 (call : CallF) (n : Nat) (m0 : Nat) (B : Code) (hB : B = f16_b) : f16_P6 B call n (m0 + 1) = f16_T6 call n (f16_P6 B call n m0) := by
  subst hB; funext x0 x1 x2 x3; kernel_rfl
theorem f16_l6 (call : CallF) (n : Nat) (m0 : Nat) : f16_P6 f16_b call n (m0 + 1) = f16_T6 call n (f16_P6 f16_b call n m0) :=
  f16_o6 call n m0 _ (by kernel_rfl)
def f16_L6 (call : CallF) (n : Nat) : Nat → LC → Int → Int → LC → OR
  | 0 => fun _ _ _ _ => none
  | m0 + 1 => f16_T6 call n (f16_L6 call n m0)
theorem f16_e6 (call : CallF) (n : Nat) : ∀ m0 : Nat, f16_P6 f16_b call n m0 = f16_L6 call n m0
  | 0 => by funext x0 x1 x2 x3; kernel_rfl
  | m0 + 1 => by rw [f16_l6, f16_e6 call n m0]; rfl
/-- pigeonhole/script.Text -/
def f16_T (call : CallF) (n : Nat) (j6n : LC → Int → Int → LC → OR) (a0 : LC) : OR :=
  bif (decide ((((a0).length / 12 : Nat) : Int) > (1000 : Int))) then (
    some (.tup [.one (.str ([] : List UInt8)), .one (.int .i64 (4 : Int))], [])) else (
    j6n a0 (((a0).length / 12 : Nat) : Int) (0 : Int) ([] : List Cell))
def f16_L (call : CallF) (n : Nat) (a0 : LC) : OR :=
  f16_T call n (f16_L6 call n n) a0
theorem f16_o (call : CallF) (n : Nat) (B : Code) (hB : B = f16_b) : f16_P B call n = f16_T call n (f16_P6 B call n n) := by
  subst hB; funext a0; kernel_rfl
theorem f16_l (call : CallF) (n : Nat) : f16_P f16_b call n = f16_T call n (f16_P6 f16_b call n n) :=
  f16_o call n _ (by kernel_rfl)
theorem f16_e (call : CallF) (n : Nat) : f16_P f16_b call n = f16_L call n := by
  rw [f16_l, f16_e6]; rfl
theorem f16_eq (n : Nat) (a0 : LC) : acall AXE AXF (n + 1) 16 [.one (.sl none 12 a0)] [] = f16_L (acall AXE AXF n) (n + 1) a0 :=
  (show _ = f16_P f16_b (acall AXE AXF n) (n + 1) a0 by kernel_rfl).trans (by rw [f16_e])
def f8_P17 (B : Code) (call : CallF) (n : Nat) (m0 : Nat) (x0 x1 : LB) (x2 : Bool) (x3 : LC) (x4 x5 : Int) (x6 x7 : S_api_Event) : OR :=
  f8_x B call n [1, 1, 1, 0, 1, 0, 0, 1, 1, 1] (kSeq (fun k => prK 1000004 (pruneAt f8_h 1000004) (aloop 1000004 (pruneAt f8_h 1000004) (f8_x B call n [1, 1, 1, 0, 1, 0, 0]) k m0)) (kBlk 0 (kSeq (f8_x B call n [1, 1, 1, 1]) (kEnd AXE 0 f8_r)))) ⟨[(2, .one (.ptr 0 0)), (4, .one (.str x0)), (5, .one (.str x1)), (6, .one (.bool x2)), (7, .one (.ptr 1 0)), (16, .one (.sl none 1 x3)), (17, .one (.int .i64 x4)), (18, .one (.int .i64 x5))], [[.int .i64 x6.fKind, .int .i64 x6.fSlot, .int .i64 x6.fN, .int .i64 x6.fK, .bool x6.fLmtp, .str x6.fName, .int .i64 x6.fLimit_Bytes, .int .i64 x6.fLimit_Count, .sl (some ⟨1000000, 8, 9⟩) 1 x6.fTo, .sl (some ⟨1000000, 9, 5⟩) 1 x6.fData, .int .i64 x6.fCode, .sl (some ⟨1000000, 11, 3⟩) 1 x6.fKeep], [.int .i64 x7.fKind, .int .i64 x7.fSlot, .int .i64 x7.fN, .int .i64 x7.fK, .bool x7.fLmtp, .str x7.fName, .int .i64 x7.fLimit_Bytes, .int .i64 x7.fLimit_Count, .sl (some ⟨1000001, 8, 9⟩) 1 x7.fTo, .sl (some ⟨1000001, 9, 5⟩) 1 x7.fData, .int .i64 x7.fCode, .sl (some ⟨1000001, 11, 3⟩) 1 x7.fKeep]]⟩
def f8_P18 (B : Code) (call : CallF) (n : Nat) (m0 : Nat) (x0 x1 : LB) (x2 : Bool) (x3 : Int) (x4 : LC) (x5 x6 : Int) (x7 x8 : S_api_Event) : OR :=
  f8_x B call n [1, 1, 1, 0, 1, 0, 0, 1, 1, 1] (kSeq (fun k => prK 1000004 (pruneAt f8_h 1000004) (aloop 1000004 (pruneAt f8_h 1000004) (f8_x B call n [1, 1, 1, 0, 1, 0, 0]) k m0)) (kBlk 0 (kSeq (f8_x B call n [1, 1, 1, 1]) (kEnd AXE 0 f8_r)))) ⟨[(2, .one (.ptr 0 0)), (4, .one (.str x0)), (5, .one (.str x1)), (6, .one (.bool x2)), (7, .one (.ptr 1 0)), (8, .one (.int .i64 x3)), (16, .one (.sl none 1 x4)), (17, .one (.int .i64 x5)), (18, .one (.int .i64 x6))], [[.int .i64 x7.fKind, .int .i64 x7.fSlot, .int .i64 x7.fN, .int .i64 x7.fK, .bool x7.fLmtp, .str x7.fName, .int .i64 x7.fLimit_Bytes, .int .i64 x7.fLimit_Count, .sl (some ⟨1000000, 8, 9⟩) 1 x7.fTo, .sl (some ⟨1000000, 9, 5⟩) 1 x7.fData, .int .i64 x7.fCode, .sl (some ⟨1000000, 11, 3⟩) 1 x7.fKeep], [.int .i64 x8.fKind, .int .i64 x8.fSlot, .int .i64 x8.fN, .int .i64 x8.fK, .bool x8.fLmtp, .str x8.fName, .int .i64 x8.fLimit_Bytes, .int .i64 x8.fLimit_Count, .sl (some ⟨1000001, 8, 9⟩) 1 x8.fTo, .sl (some ⟨1000001, 9, 5⟩) 1 x8.fData, .int .i64 x8.fCode, .sl (some ⟨1000001, 11, 3⟩) 1 x8.fKeep]]⟩
def f8_P16 (B : Code) (call : CallF) (n : Nat) (m0 : Nat) (x0 x1 : LB) (x2 : Bool) (x3 : Int) (x4 : LC) (x5 x6 : Int) (x7 : Bool) (x8 x9 : S_api_Event) : OR :=
  f8_x B call n [1, 1, 1, 0, 1, 0, 0, 1, 1, 0, 0, 1, 1] (kBlk 1 (kSeq (f8_x B call n [1, 1, 1, 0, 1, 0, 0, 1, 1, 1]) (kSeq (fun k => prK 1000004 (pruneAt f8_h 1000004) (aloop 1000004 (pruneAt f8_h 1000004) (f8_x B call n [1, 1, 1, 0, 1, 0, 0]) k m0)) (kBlk 0 (kSeq (f8_x B call n [1, 1, 1, 1]) (kEnd AXE 0 f8_r)))))) ⟨[(2, .one (.ptr 0 0)), (4, .one (.str x0)), (5, .one (.str x1)), (6, .one (.bool x2)), (7, .one (.ptr 1 0)), (8, .one (.int .i64 x3)), (16, .one (.sl none 1 x4)), (17, .one (.int .i64 x5)), (18, .one (.int .i64 x6)), (29, .one (.bool x7))], [[.int .i64 x8.fKind, .int .i64 x8.fSlot, .int .i64 x8.fN, .int .i64 x8.fK, .bool x8.fLmtp, .str x8.fName, .int .i64 x8.fLimit_Bytes, .int .i64 x8.fLimit_Count, .sl (some ⟨1000000, 8, 9⟩) 1 x8.fTo, .sl (some ⟨1000000, 9, 5⟩) 1 x8.fData, .int .i64 x8.fCode, .sl (some ⟨1000000, 11, 3⟩) 1 x8.fKeep], [.int .i64 x9.fKind, .int .i64 x9.fSlot, .int .i64 x9.fN, .int .i64 x9.fK, .bool x9.fLmtp, .str x9.fName, .int .i64 x9.fLimit_Bytes, .int .i64 x9.fLimit_Count, .sl (some ⟨1000001, 8, 9⟩) 1 x9.fTo, .sl (some ⟨1000001, 9, 5⟩) 1 x9.fData, .int .i64 x9.fCode, .sl (some ⟨1000001, 11, 3⟩) 1 x9.fKeep]]⟩
def f8_P4 (B : Code) (call : CallF) (n : Nat) (m0 : Nat) (x0 x1 : LB) (x2 : Bool) (x3 : LC) (x4 x5 : Int) (x6 x7 : S_api_Event) : OR :=
  aloop 1000004 (pruneAt f8_h 1000004) (f8_x B call n [1, 1, 1, 0, 1, 0, 0]) (kBlk 0 (kSeq (f8_x B call n [1, 1, 1, 1]) (kEnd AXE 0 f8_r))) m0 ⟨[(2, .one (.ptr 0 0)), (4, .one (.str x0)), (5, .one (.str x1)), (6, .one (.bool x2)), (7, .one (.ptr 1 0)), (16, .one (.sl none 1 x3)), (17, .one (.int .i64 x4)), (18, .one (.int .i64 x5))], [[.int .i64 x6.fKind, .int .i64 x6.fSlot, .int .i64 x6.fN, .int .i64 x6.fK, .bool x6.fLmtp, .str x6.fName, .int .i64 x6.fLimit_Bytes, .int .i64 x6.fLimit_Count, .sl (some ⟨1000000, 8, 9⟩) 1 x6.fTo, .sl (some ⟨1000000, 9, 5⟩) 1 x6.fData, .int .i64 x6.fCode, .sl (some ⟨1000000, 11, 3⟩) 1 x6.fKeep], [.int .i64 x7.fKind, .int .i64 x7.fSlot, .int .i64 x7.fN, .int .i64 x7.fK, .bool x7.fLmtp, .str x7.fName, .int .i64 x7.fLimit_Bytes, .int .i64 x7.fLimit_Count, .sl (some ⟨1000001, 8, 9⟩) 1 x7.fTo, .sl (some ⟨1000001, 9, 5⟩) 1 x7.fData, .int .i64 x7.fCode, .sl (some ⟨1000001, 11, 3⟩) 1 x7.fKeep]]⟩
def f8_P (B : Code) (call : CallF) (n : Nat) (a0 : LB) : OR :=
  f8_x B call n [] (kEnd AXE 0 f8_r) ⟨[(0, .one (.str a0))], []⟩
def f8_T17 (call : CallF) (n : Nat) (j4m : LB → LB → Bool → LC → Int → Int → S_api_Event → S_api_Event → OR) (x0 x1 : LB) (x2 : Bool) (x3 : LC) (x4 x5 : Int) (x6 x7 : S_api_Event) : OR :=
  j4m x0 x1 x2 x3 x4 (IntKind.wrap .i64 (x5 + (1 : Int))) x6 x7
theorem f8_o17 (call : CallF) (n : Nat) (m0 : Nat) (B : Code) (hB : B = f8_b) : f8_P17 B call n m0 = f8_T17 call n (f8_P4 B call n m0) := by
  subst hB; funext x0 x1 x2 x3 x4 x5 x6 x7; kernel_rfl
theorem f8_l17 (call : CallF) (n : Nat) (m0 : Nat) : f8_P17 f8_b call n m0 = f8_T17 call n (f8_P4 f8_b call n m0) :=
  f8_o17 call n m0 _ (by kernel_rfl)
def f8_L17 (call : CallF) (n : Nat) (h_m0 : LB → LB → Bool → LC → Int → Int → S_api_Event → S_api_Event → OR) : LB → LB → Bool → LC → Int → Int → S_api_Event → S_api_Event → OR :=
  f8_T17 call n h_m0
theorem f8_e17 (call : CallF) (n : Nat) (m0 : Nat) : f8_P17 f8_b call n m0 = f8_L17 call n (f8_P4 f8_b call n m0) := by
  rw [f8_l17]; rfl
def f8_T18 (call : CallF) (n : Nat) (j4m : LB → LB → Bool → LC → Int → Int → S_api_Event → S_api_Event → OR) (x0 x1 : LB) (x2 : Bool) (x3 : Int) (x4 : LC) (x5 x6 : Int) (x7 x8 : S_api_Event) : OR :=
  j4m x0 x1 x2 x4 x5 (IntKind.wrap .i64 (x6 + (1 : Int))) x7 x8
theorem f8_o18 (call : CallF) (n : Nat) (m0 : Nat) (B : Code) (hB : B = f8_b) : f8_P18 B call n m0 = f8_T18 call n (f8_P4 B call n m0) := by
  subst hB; funext x0 x1 x2 x3 x4 x5 x6 x7 x8; kernel_rfl
theorem f8_l18 (call : CallF) (n : Nat) (m0 : Nat) : f8_P18 f8_b call n m0 = f8_T18 call n (f8_P4 f8_b call n m0) :=
  f8_o18 call n m0 _ (by kernel_rfl)
def f8_L18 (call : CallF) (n : Nat) (h_m0 : LB → LB → Bool → LC → Int → Int → S_api_Event → S_api_Event → OR) : LB → LB → Bool → Int → LC → Int → Int → S_api_Event → S_api_Event → OR :=
  f8_T18 call n h_m0
theorem f8_e18 (call : CallF) (n : Nat) (m0 : Nat) : f8_P18 f8_b call n m0 = f8_L18 call n (f8_P4 f8_b call n m0) := by
  rw [f8_l18]; rfl
def f8_T16 (call : CallF) (n : Nat) (j17 : LB → LB → Bool → LC → Int → Int → S_api_Event → S_api_Event → OR) (j18 : LB → LB → Bool → Int → LC → Int → Int → S_api_Event → S_api_Event → OR) (x0 x1 : LB) (x2 : Bool) (x3 : Int) (x4 : LC) (x5 x6 : Int) (x7 : Bool) (x8 x9 : S_api_Event) : OR :=
  bif x7 then (
    j17 x0 x1 x2 x4 x5 x6 x8 ({ x9 with fKind := x3 } : S_api_Event)) else (
    j18 x0 x1 x2 x3 x4 x5 x6 x8 x9)
theorem f8_o16 (X0 : Code) (call : CallF) (n : Nat) (m0 : Nat) (B : Code) (hB : B = (hole f8_b [1, 1, 1, 0, 1, 0, 0, 1, 1, 1] X0)) : f8_P16 B call n m0 = f8_T16 call n (f8_P17 B call n m0) (f8_P18 B call n m0) := by
  subst hB; funext x0 x1 x2 x3 x4 x5 x6 x7 x8 x9; cases x7 <;> kernel_rfl
theorem f8_l16 (call : CallF) (n : Nat) (m0 : Nat) : f8_P16 f8_b call n m0 = f8_T16 call n (f8_P17 f8_b call n m0) (f8_P18 f8_b call n m0) :=
  f8_o16 (piece [1, 1, 1, 0, 1, 0, 0, 1, 1, 1] f8_b) call n m0 _ (by kernel_rfl)
def f8_L16 (call : CallF) (n : Nat) (h_m0 : LB → LB → Bool → LC → Int → Int → S_api_Event → S_api_Event → OR) : LB → LB → Bool → Int → LC → Int → Int → Bool → S_api_Event → S_api_Event → OR :=
  f8_T16 call n (f8_L17 call n h_m0) (f8_L18 call n h_m0)
theorem f8_e16 (call : CallF) (n : Nat) (m0 : Nat) : f8_P16 f8_b call n m0 = f8_L16 call n (f8_P4 f8_b call n m0) := by
  rw [f8_l16, f8_e17, f8_e18]; rfl
def f8_T4 (call : CallF) (n : Nat) (j16 : LB → LB → Bool → Int → LC → Int → Int → Bool → S_api_Event → S_api_Event → OR) (x0 x1 : LB) (x2 : Bool) (x3 : LC) (x4 x5 : Int) (x6 x7 : S_api_Event) : OR :=
  bif (decide (x5 < x4)) then (
    itemK x3 x5 fun c1 =>
    castS c1 fun s2 =>
    bif (decide (x5 > (0 : Int))) then (
      j16 x0 x1 x2 x5 x3 x4 x5 (s2 == x0) x6 x7) else (
      j16 x0 x1 x2 x5 x3 x4 x5 false x6 x7)) else (
    bif (x7.fKind == (0 : Int)) then (
      some (.tup [.agg [.int .i64 x7.fKind, .int .i64 x7.fSlot, .int .i64 x7.fN, .int .i64 x7.fK, .bool x7.fLmtp, .str x7.fName, .int .i64 x7.fLimit_Bytes, .int .i64 x7.fLimit_Count, .sl (some ⟨1000000, 8, 9⟩) 1 x7.fTo, .sl (some ⟨1000000, 9, 5⟩) 1 x7.fData, .int .i64 x7.fCode, .sl (some ⟨1000000, 11, 3⟩) 1 x7.fKeep], .one (.int .i64 (15 : Int))], [])) else (
      callRK call 22 [.one (.ptr 0 0), .one (.str x1), .one (.bool x2)] [[.int .i64 x7.fKind, .int .i64 x7.fSlot, .int .i64 x7.fN, .int .i64 x7.fK, .bool x7.fLmtp, .str x7.fName, .int .i64 x7.fLimit_Bytes, .int .i64 x7.fLimit_Count, .sl none 1 x7.fTo, .sl none 1 x7.fData, .int .i64 x7.fCode, .sl (some ⟨1000000, 11, 3⟩) 1 x7.fKeep]] fun v3 h4 =>
      consK h4 fun r5 h6 =>
      consK r5 fun c7 r8 =>
      castI .i64 c7 fun n9 =>
      consK r8 fun c10 r11 =>
      castI .i64 c10 fun n12 =>
      consK r11 fun c13 r14 =>
      castI .i64 c13 fun n15 =>
      consK r14 fun c16 r17 =>
      castI .i64 c16 fun n18 =>
      consK r17 fun c19 r20 =>
      castB c19 fun b21 =>
      consK r20 fun c22 r23 =>
      castS c22 fun s24 =>
      consK r23 fun c25 r26 =>
      castI .i64 c25 fun n27 =>
      consK r26 fun c28 r29 =>
      castI .i64 c28 fun n30 =>
      consK r29 fun c31 r32 =>
      castL 1 c31 fun _ l33 =>
      consK r32 fun c34 r35 =>
      castL 1 c34 fun _ l36 =>
      consK r35 fun c37 r38 =>
      castI .i64 c37 fun n39 =>
      consK r38 fun c40 r41 =>
      castN 3 1 c40 fun l42 =>
      nilK r41 (
        nilK h6 (
          oB v3 fun b43 =>
          bif (!b43) then (
            some (.tup [.agg [.int .i64 (0 : Int), .int .i64 (0 : Int), .int .i64 (0 : Int), .int .i64 (0 : Int), .bool false, .str ([] : List UInt8), .int .i64 (0 : Int), .int .i64 (0 : Int), .sl (some ⟨1000000, 8, 9⟩) 1 ([] : List Cell), .sl (some ⟨1000000, 9, 5⟩) 1 ([] : List Cell), .int .i64 (0 : Int), .sl (some ⟨1000000, 11, 3⟩) 1 ([] : List Cell)], .one (.int .i64 (3 : Int))], [])) else (
            some (.tup [.agg [.int .i64 n9, .int .i64 n12, .int .i64 n15, .int .i64 n18, .bool b21, .str s24, .int .i64 n27, .int .i64 n30, .sl none 1 l33, .sl none 1 l36, .int .i64 n39, .sl (some ⟨1000000, 11, 3⟩) 1 l42], .one (.int .i64 (0 : Int))], []))))))
theorem f8_o4 (X0 : Code) (call : CallF) (n : Nat) (m0 : Nat) (B : Code) (hB : B = (hole f8_b [1, 1, 1, 0, 1, 0, 0, 1, 1, 0, 0, 1, 1] X0)) : f8_P4 B call n (m0 + 1) = f8_T4 call n (f8_P16 B call n m0) := by
  subst hB; funext x0 x1 x2 x3 x4 x5 x6 x7; kernel_rfl
theorem f8_l4 (call : CallF) (n : Nat) (m0 : Nat) : f8_P4 f8_b call n (m0 + 1) = f8_T4 call n (f8_P16 f8_b call n m0) :=
  f8_o4 (piece [1, 1, 1, 0, 1, 0, 0, 1, 1, 0, 0, 1, 1] f8_b) call n m0 _ (by kernel_rfl)
def f8_L4 (call : CallF) (n : Nat) : Nat → LB → LB → Bool → LC → Int → Int → S_api_Event → S_api_Event → OR
  | 0 => fun _ _ _ _ _ _ _ _ => none
  | m0 + 1 => f8_T4 call n (f8_L16 call n (f8_L4 call n m0))
theorem f8_e4 (call : CallF) (n : Nat) : ∀ m0 : Nat, f8_P4 f8_b call n m0 = f8_L4 call n m0
  | 0 => by funext x0 x1 x2 x3 x4 x5 x6 x7; kernel_rfl
  | m0 + 1 => by rw [f8_l4, f8_e16, f8_e4 call n m0]; rfl
/-- pigeonhole/script.Read -/
def f8_T (call : CallF) (n : Nat) (j4n : LB → LB → Bool → LC → Int → Int → S_api_Event → S_api_Event → OR) (a0 : LB) : OR :=
  primK pCut [.one (.str a0), .one (.str ([32] : List UInt8))] fun v54 =>
  castTup v54 fun v55 =>
  zS v55 fun s56 r57 =>
  zS r57 fun s58 r59 =>
  zB r59 fun b60 r61 =>
  nilK r61 (
    callK call 21 [] fun v62 =>
    oL 1 v62 fun l63 =>
    j4n s56 s58 b60 l63 (((l63).length / 1 : Nat) : Int) (0 : Int) (⟨(0 : Int), (0 : Int), (0 : Int), (0 : Int), false, ([] : List UInt8), (0 : Int), (0 : Int), ([] : List Cell), ([] : List Cell), (0 : Int), ([] : List Cell)⟩ : S_api_Event) (⟨(0 : Int), (0 : Int), (0 : Int), (0 : Int), false, ([] : List UInt8), (0 : Int), (0 : Int), ([] : List Cell), ([] : List Cell), (0 : Int), ([] : List Cell)⟩ : S_api_Event))
def f8_L (call : CallF) (n : Nat) (a0 : LB) : OR :=
  f8_T call n (f8_L4 call n n) a0
theorem f8_o (call : CallF) (n : Nat) (B : Code) (hB : B = f8_b) : f8_P B call n = f8_T call n (f8_P4 B call n n) := by
  subst hB; funext a0; kernel_rfl
theorem f8_l (call : CallF) (n : Nat) : f8_P f8_b call n = f8_T call n (f8_P4 f8_b call n n) :=
  f8_o call n _ (by kernel_rfl)
theorem f8_e (call : CallF) (n : Nat) : f8_P f8_b call n = f8_L call n := by
  rw [f8_l, f8_e4]; rfl
theorem f8_eq (n : Nat) (a0 : LB) : acall AXE AXF (n + 1) 8 [.one (.str a0)] [] = f8_L (acall AXE AXF n) (n + 1) a0 :=
  (show _ = f8_P f8_b (acall AXE AXF n) (n + 1) a0 by kernel_rfl).trans (by rw [f8_e])
def f11_P5 (B : Code) (call : CallF) (n : Nat) (x0 : LB) (x1 : Bool) : OR :=
  f11_x B call n [1, 0, 1, 0, 1] (kSeq (f11_x B call n [1, 1]) (kEnd AXE 0 f11_r)) ⟨[(2, .one (.str x0)), (3, .one (.bool x1))], []⟩
def f11_P9 (B : Code) (call : CallF) (n : Nat) (x0 : LB) (x1 : Bool) : OR :=
  f11_x B call n [1, 1, 1, 1, 0, 1, 0, 1] (kSeq (f11_x B call n [1, 1, 1, 1, 1]) (kEnd AXE 0 f11_r)) ⟨[(2, .one (.str x0)), (3, .one (.bool x1))], []⟩
def f11_P6 (B : Code) (call : CallF) (n : Nat) (x0 : LB) (x1 : Bool) : OR :=
  f11_x B call n [1, 1, 1, 1, 0, 1] (kSeq (f11_x B call n [1, 1, 1, 1, 1]) (kEnd AXE 0 f11_r)) ⟨[(4, .one (.str x0)), (29, .one (.bool x1))], []⟩
def f11_P1 (B : Code) (call : CallF) (n : Nat) (x0 : Bool) (x1 : S_api_Event) : OR :=
  f11_x B call n [1, 0, 1] (kSeq (f11_x B call n [1, 1]) (kEnd AXE 0 f11_r)) ⟨[(1, .one (.ptr 0 0)), (14, .one (.bool x0))], [x1.cells]⟩
def f11_P (B : Code) (call : CallF) (n : Nat) (a0 : S_api_Event) : OR :=
  f11_x B call n [] (kEnd AXE 0 f11_r) ⟨[(0, .agg a0.cells)], []⟩
def f11_T5 (call : CallF) (n : Nat) (x0 : LB) (x1 : Bool) : OR :=
  some (.tup [.one (.str x0), .one (.bool x1)], [])
theorem f11_o5 (call : CallF) (n : Nat) (B : Code) (hB : B = f11_b) : f11_P5 B call n = f11_T5 call n := by
  subst hB; funext x0 x1; kernel_rfl
theorem f11_l5 (call : CallF) (n : Nat) : f11_P5 f11_b call n = f11_T5 call n :=
  f11_o5 call n _ (by kernel_rfl)
def f11_L5 (call : CallF) (n : Nat) : LB → Bool → OR :=
  f11_T5 call n
theorem f11_e5 (call : CallF) (n : Nat) : f11_P5 f11_b call n = f11_L5 call n := by
  rw [f11_l5]; rfl
def f11_T9 (call : CallF) (n : Nat) (x0 : LB) (x1 : Bool) : OR :=
  some (.tup [.one (.str x0), .one (.bool x1)], [])
theorem f11_o9 (call : CallF) (n : Nat) (B : Code) (hB : B = f11_b) : f11_P9 B call n = f11_T9 call n := by
  subst hB; funext x0 x1; kernel_rfl
theorem f11_l9 (call : CallF) (n : Nat) : f11_P9 f11_b call n = f11_T9 call n :=
  f11_o9 call n _ (by kernel_rfl)
def f11_L9 (call : CallF) (n : Nat) : LB → Bool → OR :=
  f11_T9 call n
theorem f11_e9 (call : CallF) (n : Nat) : f11_P9 f11_b call n = f11_L9 call n := by
  rw [f11_l9]; rfl
def f11_T6 (call : CallF) (n : Nat) (j9 : LB → Bool → OR) (x0 : LB) (x1 : Bool) : OR :=
  bif x1 then (
    j9 ([] : List UInt8) false) else (
    some (.tup [.one (.str x0), .one (.bool true)], []))
theorem f11_o6 (X0 : Code) (call : CallF) (n : Nat) (B : Code) (hB : B = (hole f11_b [1, 1, 1, 1, 0, 1, 0, 1] X0)) : f11_P6 B call n = f11_T6 call n (f11_P9 B call n) := by
  subst hB; funext x0 x1; cases x1 <;> kernel_rfl
theorem f11_l6 (call : CallF) (n : Nat) : f11_P6 f11_b call n = f11_T6 call n (f11_P9 f11_b call n) :=
  f11_o6 (piece [1, 1, 1, 1, 0, 1, 0, 1] f11_b) call n _ (by kernel_rfl)
def f11_L6 (call : CallF) (n : Nat) : LB → Bool → OR :=
  f11_T6 call n (f11_L9 call n)
theorem f11_e6 (call : CallF) (n : Nat) : f11_P6 f11_b call n = f11_L6 call n := by
  rw [f11_l6, f11_e9]; rfl
def f11_T1 (call : CallF) (n : Nat) (j5 : LB → Bool → OR) (j6 : LB → Bool → OR) (x0 : Bool) (x1 : S_api_Event) : OR :=
  bif x0 then (
    j5 ([] : List UInt8) false) else (
    callK call 31 [.agg x1.cells] fun v1 =>
    oS v1 fun s2 =>
    callK call 8 [.one (.str s2)] fun v3 =>
    castTup v3 fun v4 =>
    consK v4 fun z5 r6 =>
    aggV z5 fun r7 =>
    takeS_api_Event r7 fun w8 r9 =>
    nilK r9 (
      zI .i64 r6 fun n10 r11 =>
      nilK r11 (
        bif (n10 != (0 : Int)) then (
          j6 s2 true) else (
          callK call 32 [.agg w8.cells, .agg x1.cells] fun v12 =>
          oB v12 fun b13 =>
          j6 s2 (!b13)))))
theorem f11_o1 (X0 X1 : Code) (call : CallF) (n : Nat) (B : Code) (hB : B = (hole (hole f11_b [1, 1, 1, 1, 0, 1] X0) [1, 0, 1, 0, 1] X1)) : f11_P1 B call n = f11_T1 call n (f11_P5 B call n) (f11_P6 B call n) := by
  subst hB; funext x0 x1; cases x0 <;> kernel_rfl
theorem f11_l1 (call : CallF) (n : Nat) : f11_P1 f11_b call n = f11_T1 call n (f11_P5 f11_b call n) (f11_P6 f11_b call n) :=
  f11_o1 (piece [1, 1, 1, 1, 0, 1] f11_b) (piece [1, 0, 1, 0, 1] f11_b) call n _ (by kernel_rfl)
def f11_L1 (call : CallF) (n : Nat) : Bool → S_api_Event → OR :=
  f11_T1 call n (f11_L5 call n) (f11_L6 call n)
theorem f11_e1 (call : CallF) (n : Nat) : f11_P1 f11_b call n = f11_L1 call n := by
  rw [f11_l1, f11_e5, f11_e6]; rfl
/-- pigeonhole/script.Line -/
def f11_T (call : CallF) (n : Nat) (j1 : Bool → S_api_Event → OR) (a0 : S_api_Event) : OR :=
  bif (decide (a0.fKind < (1 : Int))) then (
    j1 true a0) else (
    j1 (decide (a0.fKind > (17 : Int))) a0)
def f11_L (call : CallF) (n : Nat) (a0 : S_api_Event) : OR :=
  f11_T call n (f11_L1 call n) a0
theorem f11_o (X0 : Code) (call : CallF) (n : Nat) (B : Code) (hB : B = (hole f11_b [1, 0, 1] X0)) : f11_P B call n = f11_T call n (f11_P1 B call n) := by
  subst hB; funext a0; kernel_rfl
theorem f11_l (call : CallF) (n : Nat) : f11_P f11_b call n = f11_T call n (f11_P1 f11_b call n) :=
  f11_o (piece [1, 0, 1] f11_b) call n _ (by kernel_rfl)
theorem f11_e (call : CallF) (n : Nat) : f11_P f11_b call n = f11_L call n := by
  rw [f11_l, f11_e1]; rfl
theorem f11_eq (n : Nat) (a0 : S_api_Event) : acall AXE AXF (n + 1) 11 [.agg a0.cells] [] = f11_L (acall AXE AXF n) (n + 1) a0 :=
  (show _ = f11_P f11_b (acall AXE AXF n) (n + 1) a0 by kernel_rfl).trans (by rw [f11_e])
def f30_P5 (B : Code) (call : CallF) (n : Nat) (m0 : Nat) (x0 x1 : LC) (x2 : Int) : OR :=
  aloop 1000004 (pruneAt f30_h 1000004) (f30_x B call n [1, 1, 0, 1, 0, 0]) (kBlk 0 (kSeq (f30_x B call n [1, 1, 1]) (kEnd AXE 0 f30_r))) m0 ⟨[(0, .one (.sl none 1 x0)), (1, .one (.sl none 1 x1)), (5, .one (.int .i64 x2))], []⟩
def f30_P (B : Code) (call : CallF) (n : Nat) (a0 a1 : LC) : OR :=
  f30_x B call n [] (kEnd AXE 0 f30_r) ⟨[(0, .one (.sl none 1 a0)), (1, .one (.sl none 1 a1))], []⟩
def f30_T5 (call : CallF) (n : Nat) (j5m : LC → LC → Int → OR) (x0 x1 : LC) (x2 : Int) : OR :=
  bif (decide (x2 < (((x0).length / 1 : Nat) : Int))) then (
    itemK x0 x2 fun c1 =>
    castI .i64 c1 fun n2 =>
    itemK x1 x2 fun c3 =>
    castI .i64 c3 fun n4 =>
    bif (n2 != n4) then (
      some (.one (.bool false), [])) else (
      j5m x0 x1 (IntKind.wrap .i64 (x2 + (1 : Int))))) else (
    some (.one (.bool true), []))
theorem f30_o5 (call : CallF) (n : Nat) (m0 : Nat) (B : Code) (hB : B = f30_b) : f30_P5 B call n (m0 + 1) = f30_T5 call n (f30_P5 B call n m0) := by
  subst hB; funext x0 x1 x2; kernel_rfl
theorem f30_l5 (call : CallF) (n : Nat) (m0 : Nat) : f30_P5 f30_b call n (m0 + 1) = f30_T5 call n (f30_P5 f30_b call n m0) :=
  f30_o5 call n m0 _ (by kernel_rfl)
def f30_L5 (call : CallF) (n : Nat) : Nat → LC → LC → Int → OR
  | 0 => fun _ _ _ => none
  | m0 + 1 => f30_T5 call n (f30_L5 call n m0)
theorem f30_e5 (call : CallF) (n : Nat) : ∀ m0 : Nat, f30_P5 f30_b call n m0 = f30_L5 call n m0
  | 0 => by funext x0 x1 x2; kernel_rfl
  | m0 + 1 => by rw [f30_l5, f30_e5 call n m0]; rfl
/-- pigeonhole/pigeonholeref13.SameInts -/
def f30_T (call : CallF) (n : Nat) (j5n : LC → LC → Int → OR) (a0 a1 : LC) : OR :=
  bif ((((a0).length / 1 : Nat) : Int) != (((a1).length / 1 : Nat) : Int)) then (
    some (.one (.bool false), [])) else (
    j5n a0 a1 (0 : Int))
def f30_L (call : CallF) (n : Nat) (a0 a1 : LC) : OR :=
  f30_T call n (f30_L5 call n n) a0 a1
theorem f30_o (call : CallF) (n : Nat) (B : Code) (hB : B = f30_b) : f30_P B call n = f30_T call n (f30_P5 B call n n) := by
  subst hB; funext a0 a1; kernel_rfl
theorem f30_l (call : CallF) (n : Nat) : f30_P f30_b call n = f30_T call n (f30_P5 f30_b call n n) :=
  f30_o call n _ (by kernel_rfl)
theorem f30_e (call : CallF) (n : Nat) : f30_P f30_b call n = f30_L call n := by
  rw [f30_l, f30_e5]; rfl
theorem f30_eq (n : Nat) (a0 a1 : LC) : acall AXE AXF (n + 1) 30 [.one (.sl none 1 a0), .one (.sl none 1 a1)] [] = f30_L (acall AXE AXF n) (n + 1) a0 a1 :=
  (show _ = f30_P f30_b (acall AXE AXF n) (n + 1) a0 a1 by kernel_rfl).trans (by rw [f30_e])
def f21_P (B : Code) (call : CallF) (n : Nat) : OR :=
  f21_x B call n [] (kEnd AXE 0 f21_r) ⟨[], []⟩
/-- pigeonhole/script.words -/
def f21_T (call : CallF) (n : Nat) : OR :=
  some (.one (.sl (some ⟨0, 0, 9⟩) 1 ([.str ([] : List UInt8), .str ([111, 112, 101, 110] : List UInt8), .str ([98, 121, 116, 101, 115] : List UInt8), .str ([99, 108, 111, 115, 101] : List UInt8), .str ([116, 105, 99, 107] : List UInt8), .str ([114, 117, 110] : List UInt8), .str ([117, 115, 101, 114] : List UInt8), .str ([108, 105, 109, 105, 116] : List UInt8), .str ([97, 108, 105, 97, 115] : List UInt8), .str ([117, 110, 97, 108, 105, 97, 115] : List UInt8), .str ([101, 120, 112, 117, 110, 103, 101] : List UInt8), .str ([102, 108, 97, 103] : List UInt8), .str ([99, 111, 109, 112, 97, 99, 116] : List UInt8), .str ([112, 101, 114, 115, 105, 115, 116] : List UInt8), .str ([102, 97, 105, 108] : List UInt8), .str ([99, 114, 97, 115, 104] : List UInt8), .str ([98, 111, 111, 116] : List UInt8), .str ([114, 101, 112, 97, 105, 114] : List UInt8)] : List Cell)), [])
def f21_L (call : CallF) (n : Nat) : OR :=
  f21_T call n
theorem f21_o (call : CallF) (n : Nat) (B : Code) (hB : B = f21_b) : f21_P B call n = f21_T call n := by
  subst hB; kernel_rfl
theorem f21_l (call : CallF) (n : Nat) : f21_P f21_b call n = f21_T call n :=
  f21_o call n _ (by kernel_rfl)
theorem f21_e (call : CallF) (n : Nat) : f21_P f21_b call n = f21_L call n := by
  rw [f21_l]; rfl
theorem f21_eq (n : Nat) : acall AXE AXF (n + 1) 21 [] [] = f21_L (acall AXE AXF n) (n + 1) :=
  (show _ = f21_P f21_b (acall AXE AXF n) (n + 1) by kernel_rfl).trans (by rw [f21_e])
def f22_P13 (B : Code) (call : CallF) (n : Nat) (x0 : Bool) (x1 : S_api_Event) : OR :=
  f22_x B call n [1, 1, 0, 1, 0, 1, 1, 1, 1] (kSeq (f22_x B call n [1, 1, 1]) (kEnd AXE 1 f22_r)) ⟨[(6, .one (.bool x0))], [[.int .i64 x1.fKind, .int .i64 x1.fSlot, .int .i64 x1.fN, .int .i64 x1.fK, .bool x1.fLmtp, .str x1.fName, .int .i64 x1.fLimit_Bytes, .int .i64 x1.fLimit_Count, .sl none 1 x1.fTo, .sl none 1 x1.fData, .int .i64 x1.fCode, .sl (some ⟨1000000, 11, 3⟩) 1 x1.fKeep]]⟩
def f22_P26 (B : Code) (call : CallF) (n : Nat) (m0 : Nat) (x0 : Bool) (x1 : S_api_Event) : OR :=
  f22_x B call n [1, 1, 1, 1, 1, 0, 1, 0, 0, 1, 1, 0, 0, 1, 0, 1, 0, 1, 0, 1, 1] (kBlk 2 (kSeq (f22_x B call n [1, 1, 1, 1, 1, 0, 1, 0, 0, 1, 1, 0, 0, 1, 1]) (kBlk 1 (kSeq (f22_x B call n [1, 1, 1, 1, 1, 0, 1, 0, 0, 1, 1, 1]) (kSeq (fun k => prK 1000011 (pruneAt f22_h 1000011) (aloop 1000011 (pruneAt f22_h 1000011) (f22_x B call n [1, 1, 1, 1, 1, 0, 1, 0, 0]) k m0)) (kBlk 0 (kSeq (f22_x B call n [1, 1, 1, 1, 1, 1]) (kEnd AXE 1 f22_r)))))))) ⟨[(6, .one (.bool x0))], [[.int .i64 x1.fKind, .int .i64 x1.fSlot, .int .i64 x1.fN, .int .i64 x1.fK, .bool x1.fLmtp, .str x1.fName, .int .i64 x1.fLimit_Bytes, .int .i64 x1.fLimit_Count, .sl none 1 x1.fTo, .sl none 1 x1.fData, .int .i64 x1.fCode, .sl (some ⟨1000000, 11, 3⟩) 1 x1.fKeep]]⟩
def f22_P30 (B : Code) (call : CallF) (n : Nat) (m0 : Nat) (x0 : Bool) (x1 : S_api_Event) : OR :=
  f22_x B call n [1, 1, 1, 1, 1, 0, 1, 0, 0, 1, 1, 0, 0, 1, 1, 0, 1, 0, 1] (kSeq (f22_x B call n [1, 1, 1, 1, 1, 0, 1, 0, 0, 1, 1, 0, 0, 1, 1, 1]) (kBlk 1 (kSeq (f22_x B call n [1, 1, 1, 1, 1, 0, 1, 0, 0, 1, 1, 1]) (kSeq (fun k => prK 1000011 (pruneAt f22_h 1000011) (aloop 1000011 (pruneAt f22_h 1000011) (f22_x B call n [1, 1, 1, 1, 1, 0, 1, 0, 0]) k m0)) (kBlk 0 (kSeq (f22_x B call n [1, 1, 1, 1, 1, 1]) (kEnd AXE 1 f22_r))))))) ⟨[(6, .one (.bool x0))], [[.int .i64 x1.fKind, .int .i64 x1.fSlot, .int .i64 x1.fN, .int .i64 x1.fK, .bool x1.fLmtp, .str x1.fName, .int .i64 x1.fLimit_Bytes, .int .i64 x1.fLimit_Count, .sl none 1 x1.fTo, .sl none 1 x1.fData, .int .i64 x1.fCode, .sl (some ⟨1000000, 11, 3⟩) 1 x1.fKeep]]⟩
def f22_P27 (B : Code) (call : CallF) (n : Nat) (m0 : Nat) (x0 : LB) (x1 : LC) (x2 x3 : Int) (x4 : Bool) (x5 : S_api_Event) : OR :=
  f22_x B call n [1, 1, 1, 1, 1, 0, 1, 0, 0, 1, 1, 0, 0, 1, 1, 0, 1] (kSeq (f22_x B call n [1, 1, 1, 1, 1, 0, 1, 0, 0, 1, 1, 0, 0, 1, 1, 1]) (kBlk 1 (kSeq (f22_x B call n [1, 1, 1, 1, 1, 0, 1, 0, 0, 1, 1, 1]) (kSeq (fun k => prK 1000011 (pruneAt f22_h 1000011) (aloop 1000011 (pruneAt f22_h 1000011) (f22_x B call n [1, 1, 1, 1, 1, 0, 1, 0, 0]) k m0)) (kBlk 0 (kSeq (f22_x B call n [1, 1, 1, 1, 1, 1]) (kEnd AXE 1 f22_r))))))) ⟨[(0, .one (.ptr 0 0)), (7, .one (.str x0)), (13, .one (.sl none 1 x1)), (52, .one (.int .i64 x2)), (53, .one (.int .i64 x3)), (90, .one (.bool x4))], [[.int .i64 x5.fKind, .int .i64 x5.fSlot, .int .i64 x5.fN, .int .i64 x5.fK, .bool x5.fLmtp, .str x5.fName, .int .i64 x5.fLimit_Bytes, .int .i64 x5.fLimit_Count, .sl none 1 x5.fTo, .sl none 1 x5.fData, .int .i64 x5.fCode, .sl (some ⟨1000000, 11, 3⟩) 1 x5.fKeep]]⟩
def f22_P14 (B : Code) (call : CallF) (n : Nat) (m0 : Nat) (x0 : LB) (x1 x2 : Int) (x3 : LC) (x4 : S_api_Event) : OR :=
  aloop 1000011 (pruneAt f22_h 1000011) (f22_x B call n [1, 1, 1, 1, 1, 0, 1, 0, 0]) (kBlk 0 (kSeq (f22_x B call n [1, 1, 1, 1, 1, 1]) (kEnd AXE 1 f22_r))) m0 ⟨[(0, .one (.ptr 0 0)), (7, .one (.str x0)), (52, .one (.int .i64 x1)), (53, .one (.int .i64 x2)), (13, .one (.sl none 1 x3))], [[.int .i64 x4.fKind, .int .i64 x4.fSlot, .int .i64 x4.fN, .int .i64 x4.fK, .bool x4.fLmtp, .str x4.fName, .int .i64 x4.fLimit_Bytes, .int .i64 x4.fLimit_Count, .sl none 1 x4.fTo, .sl none 1 x4.fData, .int .i64 x4.fCode, .sl (some ⟨1000000, 11, 3⟩) 1 x4.fKeep]]⟩
def f22_P (B : Code) (call : CallF) (n : Nat) (a0 : S_api_Event) (a1 : LB) (a2 : Bool) : OR :=
  f22_x B call n [] (kEnd AXE 1 f22_r) ⟨[(0, .one (.ptr 0 0)), (1, .one (.str a1)), (2, .one (.bool a2))], [[.int .i64 a0.fKind, .int .i64 a0.fSlot, .int .i64 a0.fN, .int .i64 a0.fK, .bool a0.fLmtp, .str a0.fName, .int .i64 a0.fLimit_Bytes, .int .i64 a0.fLimit_Count, .sl none 1 a0.fTo, .sl none 1 a0.fData, .int .i64 a0.fCode, .sl (some ⟨1000000, 11, 3⟩) 1 a0.fKeep]]⟩
def f22_T13 (call : CallF) (n : Nat) (x0 : Bool) (x1 : S_api_Event) : OR :=
  some (.one (.bool x0), [[.int .i64 x1.fKind, .int .i64 x1.fSlot, .int .i64 x1.fN, .int .i64 x1.fK, .bool x1.fLmtp, .str x1.fName, .int .i64 x1.fLimit_Bytes, .int .i64 x1.fLimit_Count, .sl none 1 x1.fTo, .sl none 1 x1.fData, .int .i64 x1.fCode, .sl (some ⟨1000000, 11, 3⟩) 1 x1.fKeep]])
theorem f22_o13 (call : CallF) (n : Nat) (B : Code) (hB : B = f22_b) : f22_P13 B call n = f22_T13 call n := by
  subst hB; funext x0 x1; kernel_rfl
theorem f22_l13 (call : CallF) (n : Nat) : f22_P13 f22_b call n = f22_T13 call n :=
  f22_o13 call n _ (by kernel_rfl)
def f22_L13 (call : CallF) (n : Nat) : Bool → S_api_Event → OR :=
  f22_T13 call n
theorem f22_e13 (call : CallF) (n : Nat) : f22_P13 f22_b call n = f22_L13 call n := by
  rw [f22_l13]; rfl
def f22_T26 (call : CallF) (n : Nat) (x0 : Bool) (x1 : S_api_Event) : OR :=
  some (.one (.bool x0), [[.int .i64 x1.fKind, .int .i64 x1.fSlot, .int .i64 x1.fN, .int .i64 x1.fK, .bool x1.fLmtp, .str x1.fName, .int .i64 x1.fLimit_Bytes, .int .i64 x1.fLimit_Count, .sl none 1 x1.fTo, .sl none 1 x1.fData, .int .i64 x1.fCode, .sl (some ⟨1000000, 11, 3⟩) 1 x1.fKeep]])
theorem f22_o26 (call : CallF) (n : Nat) (m0 : Nat) (B : Code) (hB : B = f22_b) : f22_P26 B call n m0 = f22_T26 call n := by
  subst hB; funext x0 x1; kernel_rfl
theorem f22_l26 (call : CallF) (n : Nat) (m0 : Nat) : f22_P26 f22_b call n m0 = f22_T26 call n :=
  f22_o26 call n m0 _ (by kernel_rfl)
def f22_L26 (call : CallF) (n : Nat) (h_m0 : LB → Int → Int → LC → S_api_Event → OR) : Bool → S_api_Event → OR :=
  f22_T26 call n
theorem f22_e26 (call : CallF) (n : Nat) (m0 : Nat) : f22_P26 f22_b call n m0 = f22_L26 call n (f22_P14 f22_b call n m0) := by
  rw [f22_l26]; rfl
def f22_T30 (call : CallF) (n : Nat) (x0 : Bool) (x1 : S_api_Event) : OR :=
  some (.one (.bool x0), [[.int .i64 x1.fKind, .int .i64 x1.fSlot, .int .i64 x1.fN, .int .i64 x1.fK, .bool x1.fLmtp, .str x1.fName, .int .i64 x1.fLimit_Bytes, .int .i64 x1.fLimit_Count, .sl none 1 x1.fTo, .sl none 1 x1.fData, .int .i64 x1.fCode, .sl (some ⟨1000000, 11, 3⟩) 1 x1.fKeep]])
theorem f22_o30 (call : CallF) (n : Nat) (m0 : Nat) (B : Code) (hB : B = f22_b) : f22_P30 B call n m0 = f22_T30 call n := by
  subst hB; funext x0 x1; kernel_rfl
theorem f22_l30 (call : CallF) (n : Nat) (m0 : Nat) : f22_P30 f22_b call n m0 = f22_T30 call n :=
  f22_o30 call n m0 _ (by kernel_rfl)
def f22_L30 (call : CallF) (n : Nat) (h_m0 : LB → Int → Int → LC → S_api_Event → OR) : Bool → S_api_Event → OR :=
  f22_T30 call n
theorem f22_e30 (call : CallF) (n : Nat) (m0 : Nat) : f22_P30 f22_b call n m0 = f22_L30 call n (f22_P14 f22_b call n m0) := by
  rw [f22_l30]; rfl
def f22_T27 (call : CallF) (n : Nat) (j30 : Bool → S_api_Event → OR) (j14m : LB → Int → Int → LC → S_api_Event → OR) (x0 : LB) (x1 : LC) (x2 x3 : Int) (x4 : Bool) (x5 : S_api_Event) : OR :=
  bif x4 then (
    j30 false x5) else (
    bif decide (0 ≤ (1 : Int) ∧ (Int.toNat (1 : Int)) ≤ (x1.length / 1)) then (
      j14m x0 x2 (IntKind.wrap .i64 (x3 + (1 : Int))) ((x1.take ((x1.length / 1) * 1)).drop ((Int.toNat (1 : Int)) * 1)) x5) else none)
theorem f22_o27 (X0 : Code) (call : CallF) (n : Nat) (m0 : Nat) (B : Code) (hB : B = (hole f22_b [1, 1, 1, 1, 1, 0, 1, 0, 0, 1, 1, 0, 0, 1, 1, 0, 1, 0, 1] X0)) : f22_P27 B call n m0 = f22_T27 call n (f22_P30 B call n m0) (f22_P14 B call n m0) := by
  subst hB; funext x0 x1 x2 x3 x4 x5; cases x4 <;> kernel_rfl
theorem f22_l27 (call : CallF) (n : Nat) (m0 : Nat) : f22_P27 f22_b call n m0 = f22_T27 call n (f22_P30 f22_b call n m0) (f22_P14 f22_b call n m0) :=
  f22_o27 (piece [1, 1, 1, 1, 1, 0, 1, 0, 0, 1, 1, 0, 0, 1, 1, 0, 1, 0, 1] f22_b) call n m0 _ (by kernel_rfl)
def f22_L27 (call : CallF) (n : Nat) (h_m0 : LB → Int → Int → LC → S_api_Event → OR) : LB → LC → Int → Int → Bool → S_api_Event → OR :=
  f22_T27 call n (f22_L30 call n h_m0) h_m0
theorem f22_e27 (call : CallF) (n : Nat) (m0 : Nat) : f22_P27 f22_b call n m0 = f22_L27 call n (f22_P14 f22_b call n m0) := by
  rw [f22_l27, f22_e30]; rfl
def f22_T14 (call : CallF) (n : Nat) (j26 : Bool → S_api_Event → OR) (j27 : LB → LC → Int → Int → Bool → S_api_Event → OR) (x0 : LB) (x1 x2 : Int) (x3 : LC) (x4 : S_api_Event) : OR :=
  bif (decide (x2 < x1)) then (
    itemK x0 x2 fun u1 =>
    bif ((UInt8.toNat u1 : Int) == (116 : Int)) then (
      bif (decide ((((x3).length / 1 : Nat) : Int) > (0 : Int))) then (
        callK call 46 [.one (.sl none 1 x3)] fun v2 =>
        oB v2 fun b3 =>
        j26 b3 ({ x4 with fTo := x3 } : S_api_Event)) else (
        j26 false ({ x4 with fTo := x3 } : S_api_Event))) else (
      bif ((UInt8.toNat u1 : Int) == (119 : Int)) then (
        callRK call 47 [.one (.ptr 0 0), .one (.sl none 1 x3)] [[.int .i64 x4.fKind, .int .i64 x4.fSlot, .int .i64 x4.fN, .int .i64 x4.fK, .bool x4.fLmtp, .str x4.fName, .int .i64 x4.fLimit_Bytes, .int .i64 x4.fLimit_Count, .sl none 1 x4.fTo, .sl none 1 x4.fData, .int .i64 x4.fCode, .sl (some ⟨1000000, 11, 3⟩) 1 x4.fKeep]] fun v4 h5 =>
        consK h5 fun r6 h7 =>
        consK r6 fun c8 r9 =>
        castI .i64 c8 fun n10 =>
        consK r9 fun c11 r12 =>
        castI .i64 c11 fun n13 =>
        consK r12 fun c14 r15 =>
        castI .i64 c14 fun n16 =>
        consK r15 fun c17 r18 =>
        castI .i64 c17 fun n19 =>
        consK r18 fun c20 r21 =>
        castB c20 fun b22 =>
        consK r21 fun c23 r24 =>
        castS c23 fun s25 =>
        consK r24 fun c26 r27 =>
        castI .i64 c26 fun n28 =>
        consK r27 fun c29 r30 =>
        castI .i64 c29 fun n31 =>
        consK r30 fun c32 r33 =>
        castL 1 c32 fun _ l34 =>
        consK r33 fun c35 r36 =>
        castL 1 c35 fun _ l37 =>
        consK r36 fun c38 r39 =>
        castI .i64 c38 fun n40 =>
        consK r39 fun c41 r42 =>
        castN 3 1 c41 fun l43 =>
        nilK r42 (
          nilK h7 (
            oB v4 fun b44 =>
            some (.one (.bool b44), [[.int .i64 n10, .int .i64 n13, .int .i64 n16, .int .i64 n19, .bool b22, .str s25, .int .i64 n28, .int .i64 n31, .sl none 1 l34, .sl none 1 l37, .int .i64 n40, .sl (some ⟨1000000, 11, 3⟩) 1 l43]])))) else (
        bif ((((x3).length / 1 : Nat) : Int) == (0 : Int)) then (
          j27 x0 x3 x1 x2 true x4) else (
          itemK x0 x2 fun u45 =>
          itemK x3 (0 : Int) fun c46 =>
          castS c46 fun s47 =>
          callRK call 45 [.one (.ptr 0 0), .one (.int .u8 (UInt8.toNat u45 : Int)), .one (.str s47)] [[.int .i64 x4.fKind, .int .i64 x4.fSlot, .int .i64 x4.fN, .int .i64 x4.fK, .bool x4.fLmtp, .str x4.fName, .int .i64 x4.fLimit_Bytes, .int .i64 x4.fLimit_Count, .sl none 1 x4.fTo, .sl none 1 x4.fData, .int .i64 x4.fCode, .sl (some ⟨1000000, 11, 3⟩) 1 x4.fKeep]] fun v48 h49 =>
          consK h49 fun r50 h51 =>
          consK r50 fun c52 r53 =>
          castI .i64 c52 fun n54 =>
          consK r53 fun c55 r56 =>
          castI .i64 c55 fun n57 =>
          consK r56 fun c58 r59 =>
          castI .i64 c58 fun n60 =>
          consK r59 fun c61 r62 =>
          castI .i64 c61 fun n63 =>
          consK r62 fun c64 r65 =>
          castB c64 fun b66 =>
          consK r65 fun c67 r68 =>
          castS c67 fun s69 =>
          consK r68 fun c70 r71 =>
          castI .i64 c70 fun n72 =>
          consK r71 fun c73 r74 =>
          castI .i64 c73 fun n75 =>
          consK r74 fun c76 r77 =>
          castL 1 c76 fun _ l78 =>
          consK r77 fun c79 r80 =>
          castL 1 c79 fun _ l81 =>
          consK r80 fun c82 r83 =>
          castI .i64 c82 fun n84 =>
          consK r83 fun c85 r86 =>
          castN 3 1 c85 fun l87 =>
          nilK r86 (
            nilK h51 (
              oB v48 fun b88 =>
              j27 x0 x3 x1 x2 (!b88) (⟨n54, n57, n60, n63, b66, s69, n72, n75, l78, l81, n84, l87⟩ : S_api_Event))))))) else (
    some (.one (.bool ((((x3).length / 1 : Nat) : Int) == (0 : Int))), [[.int .i64 x4.fKind, .int .i64 x4.fSlot, .int .i64 x4.fN, .int .i64 x4.fK, .bool x4.fLmtp, .str x4.fName, .int .i64 x4.fLimit_Bytes, .int .i64 x4.fLimit_Count, .sl none 1 x4.fTo, .sl none 1 x4.fData, .int .i64 x4.fCode, .sl (some ⟨1000000, 11, 3⟩) 1 x4.fKeep]]))
theorem f22_o14 (X0 X1 : Code) (call : CallF) (n : Nat) (m0 : Nat) (B : Code) (hB : B = (hole (hole f22_b [1, 1, 1, 1, 1, 0, 1, 0, 0, 1, 1, 0, 0, 1, 0, 1, 0, 1, 0, 1, 1] X0) [1, 1, 1, 1, 1, 0, 1, 0, 0, 1, 1, 0, 0, 1, 1, 0, 1] X1)) : f22_P14 B call n (m0 + 1) = f22_T14 call n (f22_P26 B call n m0) (f22_P27 B call n m0) := by
  subst hB; funext x0 x1 x2 x3 x4; kernel_rfl
theorem f22_l14 (call : CallF) (n : Nat) (m0 : Nat) : f22_P14 f22_b call n (m0 + 1) = f22_T14 call n (f22_P26 f22_b call n m0) (f22_P27 f22_b call n m0) :=
  f22_o14 (piece [1, 1, 1, 1, 1, 0, 1, 0, 0, 1, 1, 0, 0, 1, 0, 1, 0, 1, 0, 1, 1] f22_b) (piece [1, 1, 1, 1, 1, 0, 1, 0, 0, 1, 1, 0, 0, 1, 1, 0, 1] f22_b) call n m0 _ (by kernel_rfl)
def f22_L14 (call : CallF) (n : Nat) : Nat → LB → Int → Int → LC → S_api_Event → OR
  | 0 => fun _ _ _ _ _ => none
  | m0 + 1 => f22_T14 call n (f22_L26 call n (f22_L14 call n m0)) (f22_L27 call n (f22_L14 call n m0))
theorem f22_e14 (call : CallF) (n : Nat) : ∀ m0 : Nat, f22_P14 f22_b call n m0 = f22_L14 call n m0
  | 0 => by funext x0 x1 x2 x3 x4; kernel_rfl
  | m0 + 1 => by rw [f22_l14, f22_e26, f22_e27, f22_e14 call n m0]; rfl
/-- pigeonhole/script.fill -/
def f22_T (call : CallF) (n : Nat) (j13 : Bool → S_api_Event → OR) (j14n : LB → Int → Int → LC → S_api_Event → OR) (a0 : S_api_Event) (a1 : LB) (a2 : Bool) : OR :=
  callK call 43 [] fun v150 =>
  oL 1 v150 fun l151 =>
  itemK l151 a0.fKind fun c152 =>
  castS c152 fun s153 =>
  bif (a0.fKind == (2 : Int)) then (
    primK pCut [.one (.str a1), .one (.str ([32] : List UInt8))] fun v154 =>
    castTup v154 fun v155 =>
    zS v155 fun s156 r157 =>
    zS r157 fun s158 r159 =>
    zB r159 fun b160 r161 =>
    nilK r161 (
      callK call 44 [.one (.str s158)] fun v162 =>
      castTup v162 fun v163 =>
      zL 1 v163 fun l164 r165 =>
      zB r165 fun b166 r167 =>
      nilK r167 (
        bif b166 then (
          callRK call 45 [.one (.ptr 0 0), .one (.int .u8 (115 : Int)), .one (.str s156)] [[.int .i64 a0.fKind, .int .i64 a0.fSlot, .int .i64 a0.fN, .int .i64 a0.fK, .bool a0.fLmtp, .str a0.fName, .int .i64 a0.fLimit_Bytes, .int .i64 a0.fLimit_Count, .sl none 1 a0.fTo, .sl none 1 l164, .int .i64 a0.fCode, .sl (some ⟨1000000, 11, 3⟩) 1 a0.fKeep]] fun v168 h169 =>
          consK h169 fun r170 h171 =>
          consK r170 fun c172 r173 =>
          castI .i64 c172 fun n174 =>
          consK r173 fun c175 r176 =>
          castI .i64 c175 fun n177 =>
          consK r176 fun c178 r179 =>
          castI .i64 c178 fun n180 =>
          consK r179 fun c181 r182 =>
          castI .i64 c181 fun n183 =>
          consK r182 fun c184 r185 =>
          castB c184 fun b186 =>
          consK r185 fun c187 r188 =>
          castS c187 fun s189 =>
          consK r188 fun c190 r191 =>
          castI .i64 c190 fun n192 =>
          consK r191 fun c193 r194 =>
          castI .i64 c193 fun n195 =>
          consK r194 fun c196 r197 =>
          castL 1 c196 fun _ l198 =>
          consK r197 fun c199 r200 =>
          castL 1 c199 fun _ l201 =>
          consK r200 fun c202 r203 =>
          castI .i64 c202 fun n204 =>
          consK r203 fun c205 r206 =>
          castN 3 1 c205 fun l207 =>
          nilK r206 (
            nilK h171 (
              oB v168 fun b208 =>
              j13 b208 (⟨n174, n177, n180, n183, b186, s189, n192, n195, l198, l201, n204, l207⟩ : S_api_Event)))) else (
          j13 false ({ a0 with fData := l164 } : S_api_Event))))) else (
    bif a2 then (
      primK pSplit [.one (.str a1), .one (.str ([32] : List UInt8))] fun v209 =>
      oL 1 v209 fun l210 =>
      j14n s153 ((s153).length : Int) (0 : Int) l210 a0) else (
      j14n s153 ((s153).length : Int) (0 : Int) ([] : List Cell) a0))
def f22_L (call : CallF) (n : Nat) (a0 : S_api_Event) (a1 : LB) (a2 : Bool) : OR :=
  f22_T call n (f22_L13 call n) (f22_L14 call n n) a0 a1 a2
theorem f22_o (X0 : Code) (call : CallF) (n : Nat) (B : Code) (hB : B = (hole f22_b [1, 1, 0, 1, 0, 1, 1, 1, 1] X0)) : f22_P B call n = f22_T call n (f22_P13 B call n) (f22_P14 B call n n) := by
  subst hB; funext a0 a1 a2; kernel_rfl
theorem f22_l (call : CallF) (n : Nat) : f22_P f22_b call n = f22_T call n (f22_P13 f22_b call n) (f22_P14 f22_b call n n) :=
  f22_o (piece [1, 1, 0, 1, 0, 1, 1, 1, 1] f22_b) call n _ (by kernel_rfl)
theorem f22_e (call : CallF) (n : Nat) : f22_P f22_b call n = f22_L call n := by
  rw [f22_l, f22_e13, f22_e14]; rfl
theorem f22_eq (n : Nat) (a0 : S_api_Event) (a1 : LB) (a2 : Bool) : acall AXE AXF (n + 1) 22 [.one (.ptr 0 0), .one (.str a1), .one (.bool a2)] [[.int .i64 a0.fKind, .int .i64 a0.fSlot, .int .i64 a0.fN, .int .i64 a0.fK, .bool a0.fLmtp, .str a0.fName, .int .i64 a0.fLimit_Bytes, .int .i64 a0.fLimit_Count, .sl none 1 a0.fTo, .sl none 1 a0.fData, .int .i64 a0.fCode, .sl (some ⟨1000000, 11, 3⟩) 1 a0.fKeep]] = f22_L (acall AXE AXF n) (n + 1) a0 a1 a2 :=
  (show _ = f22_P f22_b (acall AXE AXF n) (n + 1) a0 a1 a2 by kernel_rfl).trans (by rw [f22_e])
def f31_P24 (B : Code) (call : CallF) (n : Nat) (m0 : Nat) (x0 x1 : LC) (x2 x3 : Int) (x4 : S_api_Event) : OR :=
  f31_x B call n [1, 1, 0, 1, 0, 0, 1, 1, 1] (kSeq (fun k => prK 1000003 (pruneAt f31_h 1000003) (aloop 1000003 (pruneAt f31_h 1000003) (f31_x B call n [1, 1, 0, 1, 0, 0]) k m0)) (kBlk 0 (kSeq (f31_x B call n [1, 1, 1]) (kEnd AXE 0 f31_r)))) ⟨[(1, .one (.ptr 0 0)), (3, .one (.sl (some ⟨3, 0, 9⟩) 1 x0)), (19, .one (.sl none 1 x1)), (20, .one (.int .i64 x2)), (21, .one (.int .i64 x3))], [x4.cells]⟩
def f31_P30 (B : Code) (call : CallF) (n : Nat) (m0 : Nat) (x0 x1 : LC) (x2 x3 : Int) (x4 : LC) (x5 x6 : Int) (x7 : S_api_Event) : OR :=
  f31_x B call n [1, 1, 0, 1, 0, 0, 1, 1, 1] (kSeq (fun k => prK 1000003 (pruneAt f31_h 1000003) (aloop 1000003 (pruneAt f31_h 1000003) (f31_x B call n [1, 1, 0, 1, 0, 0]) k m0)) (kBlk 0 (kSeq (f31_x B call n [1, 1, 1]) (kEnd AXE 0 f31_r)))) ⟨[(1, .one (.ptr 0 0)), (3, .one (.sl (some ⟨3, 0, 9⟩) 1 x0)), (19, .one (.sl none 1 x1)), (20, .one (.int .i64 x2)), (21, .one (.int .i64 x3)), (110, .one (.sl none 1 x4)), (111, .one (.int .i64 x5)), (112, .one (.int .i64 x6))], [x7.cells]⟩
def f31_P25 (B : Code) (call : CallF) (n : Nat) (m0 : Nat) (m1 : Nat) (x0 x1 : LC) (x2 x3 : Int) (x4 : LC) (x5 x6 : Int) (x7 : S_api_Event) : OR :=
  aloop 1000029 (pruneAt f31_h 1000029) (f31_x B call n [1, 1, 0, 1, 0, 0, 1, 1, 0, 0, 1, 1, 0, 1, 1, 1, 1, 1, 1, 1, 1, 1, 1, 1, 1, 1, 1, 1, 1, 1, 1, 1, 1, 1, 0, 1, 0, 0]) (kBlk 3 (kBlk 2 (kBlk 1 (kSeq (f31_x B call n [1, 1, 0, 1, 0, 0, 1, 1, 1]) (kSeq (fun k => prK 1000003 (pruneAt f31_h 1000003) (aloop 1000003 (pruneAt f31_h 1000003) (f31_x B call n [1, 1, 0, 1, 0, 0]) k m0)) (kBlk 0 (kSeq (f31_x B call n [1, 1, 1]) (kEnd AXE 0 f31_r)))))))) m1 ⟨[(1, .one (.ptr 0 0)), (3, .one (.sl (some ⟨3, 0, 9⟩) 1 x0)), (19, .one (.sl none 1 x1)), (20, .one (.int .i64 x2)), (21, .one (.int .i64 x3)), (110, .one (.sl none 1 x4)), (111, .one (.int .i64 x5)), (112, .one (.int .i64 x6))], [x7.cells]⟩
def f31_P3 (B : Code) (call : CallF) (n : Nat) (m0 : Nat) (x0 x1 : LC) (x2 x3 : Int) (x4 : S_api_Event) : OR :=
  aloop 1000003 (pruneAt f31_h 1000003) (f31_x B call n [1, 1, 0, 1, 0, 0]) (kBlk 0 (kSeq (f31_x B call n [1, 1, 1]) (kEnd AXE 0 f31_r))) m0 ⟨[(1, .one (.ptr 0 0)), (3, .one (.sl (some ⟨3, 0, 9⟩) 1 x0)), (19, .one (.sl none 1 x1)), (20, .one (.int .i64 x2)), (21, .one (.int .i64 x3))], [x4.cells]⟩
def f31_P (B : Code) (call : CallF) (n : Nat) (a0 : S_api_Event) : OR :=
  f31_x B call n [] (kEnd AXE 0 f31_r) ⟨[(0, .agg a0.cells)], []⟩
def f31_T24 (call : CallF) (n : Nat) (j3m : LC → LC → Int → Int → S_api_Event → OR) (x0 x1 : LC) (x2 x3 : Int) (x4 : S_api_Event) : OR :=
  j3m x0 x1 x2 (IntKind.wrap .i64 (x3 + (1 : Int))) x4
theorem f31_o24 (call : CallF) (n : Nat) (m0 : Nat) (B : Code) (hB : B = f31_b) : f31_P24 B call n m0 = f31_T24 call n (f31_P3 B call n m0) := by
  subst hB; funext x0 x1 x2 x3 x4; kernel_rfl
theorem f31_l24 (call : CallF) (n : Nat) (m0 : Nat) : f31_P24 f31_b call n m0 = f31_T24 call n (f31_P3 f31_b call n m0) :=
  f31_o24 call n m0 _ (by kernel_rfl)
def f31_L24 (call : CallF) (n : Nat) (h_m0 : LC → LC → Int → Int → S_api_Event → OR) : LC → LC → Int → Int → S_api_Event → OR :=
  f31_T24 call n h_m0
theorem f31_e24 (call : CallF) (n : Nat) (m0 : Nat) : f31_P24 f31_b call n m0 = f31_L24 call n (f31_P3 f31_b call n m0) := by
  rw [f31_l24]; rfl
def f31_T30 (call : CallF) (n : Nat) (j3m : LC → LC → Int → Int → S_api_Event → OR) (x0 x1 : LC) (x2 x3 : Int) (x4 : LC) (x5 x6 : Int) (x7 : S_api_Event) : OR :=
  j3m x0 x1 x2 (IntKind.wrap .i64 (x3 + (1 : Int))) x7
theorem f31_o30 (call : CallF) (n : Nat) (m0 : Nat) (B : Code) (hB : B = f31_b) : f31_P30 B call n m0 = f31_T30 call n (f31_P3 B call n m0) := by
  subst hB; funext x0 x1 x2 x3 x4 x5 x6 x7; kernel_rfl
theorem f31_l30 (call : CallF) (n : Nat) (m0 : Nat) : f31_P30 f31_b call n m0 = f31_T30 call n (f31_P3 f31_b call n m0) :=
  f31_o30 call n m0 _ (by kernel_rfl)
def f31_L30 (call : CallF) (n : Nat) (h_m0 : LC → LC → Int → Int → S_api_Event → OR) : LC → LC → Int → Int → LC → Int → Int → S_api_Event → OR :=
  f31_T30 call n h_m0
theorem f31_e30 (call : CallF) (n : Nat) (m0 : Nat) : f31_P30 f31_b call n m0 = f31_L30 call n (f31_P3 f31_b call n m0) := by
  rw [f31_l30]; rfl
def f31_T25 (call : CallF) (n : Nat) (j25m : LC → LC → Int → Int → LC → Int → Int → S_api_Event → OR) (j30 : LC → LC → Int → Int → LC → Int → Int → S_api_Event → OR) (x0 x1 : LC) (x2 x3 : Int) (x4 : LC) (x5 x6 : Int) (x7 : S_api_Event) : OR :=
  bif (decide (x6 < x5)) then (
    itemK x4 x6 fun c1 =>
    castI .i64 c1 fun n2 =>
    primK pItoa [.one (.int .i64 n2)] fun v3 =>
    oS v3 fun s4 =>
    guardB (decide (((x0).length + (([.str s4] : List Cell)).length) * 1000 ≤ rowLim)) (
      j25m (x0 ++ ([.str s4] : List Cell)) x1 x2 x3 x4 x5 (IntKind.wrap .i64 (x6 + (1 : Int))) x7)) else (
    j30 x0 x1 x2 x3 x4 x5 x6 x7)
theorem f31_o25 (X0 : Code) (call : CallF) (n : Nat) (m0 : Nat) (m1 : Nat) (B : Code) (hB : B = (hole f31_b [1, 1, 0, 1, 0, 0, 1, 1, 1] X0)) : f31_P25 B call n m0 (m1 + 1) = f31_T25 call n (f31_P25 B call n m0 m1) (f31_P30 B call n m0) := by
  subst hB; funext x0 x1 x2 x3 x4 x5 x6 x7; kernel_rfl
theorem f31_l25 (call : CallF) (n : Nat) (m0 : Nat) (m1 : Nat) : f31_P25 f31_b call n m0 (m1 + 1) = f31_T25 call n (f31_P25 f31_b call n m0 m1) (f31_P30 f31_b call n m0) :=
  f31_o25 (piece [1, 1, 0, 1, 0, 0, 1, 1, 1] f31_b) call n m0 m1 _ (by kernel_rfl)
def f31_L25 (call : CallF) (n : Nat) (h_m0 : LC → LC → Int → Int → S_api_Event → OR) : Nat → LC → LC → Int → Int → LC → Int → Int → S_api_Event → OR
  | 0 => fun _ _ _ _ _ _ _ _ => none
  | m1 + 1 => f31_T25 call n (f31_L25 call n h_m0 m1) (f31_L30 call n h_m0)
theorem f31_e25 (call : CallF) (n : Nat) (m0 : Nat) : ∀ m1 : Nat, f31_P25 f31_b call n m0 m1 = f31_L25 call n (f31_P3 f31_b call n m0) m1
  | 0 => by funext x0 x1 x2 x3 x4 x5 x6 x7; kernel_rfl
  | m1 + 1 => by rw [f31_l25, f31_e30, f31_e25 call n m0 m1]; rfl
def f31_T3 (call : CallF) (n : Nat) (j24 : LC → LC → Int → Int → S_api_Event → OR) (j25n : LC → LC → Int → Int → LC → Int → Int → S_api_Event → OR) (x0 x1 : LC) (x2 x3 : Int) (x4 : S_api_Event) : OR :=
  bif (decide (x3 < x2)) then (
    itemK x1 x3 fun c1 =>
    castI .u8 c1 fun n2 =>
    bif (n2 == (115 : Int)) then (
      primK pItoa [.one (.int .i64 x4.fSlot)] fun v3 =>
      oS v3 fun s4 =>
      guardB (decide (((x0).length + (([.str s4] : List Cell)).length) * 1000 ≤ rowLim)) (
        j24 (x0 ++ ([.str s4] : List Cell)) x1 x2 x3 x4)) else (
      bif (n2 == (112 : Int)) then (
        callK call 53 [.one (.bool x4.fLmtp)] fun v5 =>
        oS v5 fun s6 =>
        guardB (decide (((x0).length + (([.str s6] : List Cell)).length) * 1000 ≤ rowLim)) (
          j24 (x0 ++ ([.str s6] : List Cell)) x1 x2 x3 x4)) else (
        bif (n2 == (100 : Int)) then (
          callK call 54 [.one (.sl none 1 x4.fData)] fun v7 =>
          oS v7 fun s8 =>
          guardB (decide (((x0).length + (([.str s8] : List Cell)).length) * 1000 ≤ rowLim)) (
            j24 (x0 ++ ([.str s8] : List Cell)) x1 x2 x3 x4)) else (
          bif (n2 == (110 : Int)) then (
            primK pItoa [.one (.int .i64 x4.fN)] fun v9 =>
            oS v9 fun s10 =>
            guardB (decide (((x0).length + (([.str s10] : List Cell)).length) * 1000 ≤ rowLim)) (
              j24 (x0 ++ ([.str s10] : List Cell)) x1 x2 x3 x4)) else (
            bif (n2 == (107 : Int)) then (
              primK pItoa [.one (.int .i64 x4.fK)] fun v11 =>
              oS v11 fun s12 =>
              guardB (decide (((x0).length + (([.str s12] : List Cell)).length) * 1000 ≤ rowLim)) (
                j24 (x0 ++ ([.str s12] : List Cell)) x1 x2 x3 x4)) else (
              bif (n2 == (98 : Int)) then (
                primK pItoa [.one (.int .i64 x4.fLimit_Bytes)] fun v13 =>
                oS v13 fun s14 =>
                guardB (decide (((x0).length + (([.str s14] : List Cell)).length) * 1000 ≤ rowLim)) (
                  j24 (x0 ++ ([.str s14] : List Cell)) x1 x2 x3 x4)) else (
                bif (n2 == (99 : Int)) then (
                  primK pItoa [.one (.int .i64 x4.fLimit_Count)] fun v15 =>
                  oS v15 fun s16 =>
                  guardB (decide (((x0).length + (([.str s16] : List Cell)).length) * 1000 ≤ rowLim)) (
                    j24 (x0 ++ ([.str s16] : List Cell)) x1 x2 x3 x4)) else (
                  bif (n2 == (101 : Int)) then (
                    primK pItoa [.one (.int .i64 x4.fCode)] fun v17 =>
                    oS v17 fun s18 =>
                    guardB (decide (((x0).length + (([.str s18] : List Cell)).length) * 1000 ≤ rowLim)) (
                      j24 (x0 ++ ([.str s18] : List Cell)) x1 x2 x3 x4)) else (
                    bif (n2 == (109 : Int)) then (
                      callK call 55 [.one (.str x4.fName)] fun v19 =>
                      oS v19 fun s20 =>
                      guardB (decide (((x0).length + (([.str s20] : List Cell)).length) * 1000 ≤ rowLim)) (
                        j24 (x0 ++ ([.str s20] : List Cell)) x1 x2 x3 x4)) else (
                      bif (n2 == (117 : Int)) then (
                        callK call 55 [.one (.str x4.fName)] fun v21 =>
                        oS v21 fun s22 =>
                        guardB (decide (((x0).length + (([.str s22] : List Cell)).length) * 1000 ≤ rowLim)) (
                          j24 (x0 ++ ([.str s22] : List Cell)) x1 x2 x3 x4)) else (
                        bif (n2 == (116 : Int)) then (
                          guardB (decide (((x0).length + (x4.fTo).length) * 1000 ≤ rowLim)) (
                            j24 (x0 ++ x4.fTo) x1 x2 x3 x4)) else (
                          bif (n2 == (119 : Int)) then (
                            j25n x0 x1 x2 x3 x4.fKeep (((x4.fKeep).length / 1 : Nat) : Int) (0 : Int) x4) else (
                            j24 x0 x1 x2 x3 x4))))))))))))) else (
    primK pJoin [.one (.sl none 1 x0), .one (.str ([32] : List UInt8))] fun v23 =>
    oS v23 fun s24 =>
    some (.one (.str s24), []))
theorem f31_o3 (X0 : Code) (call : CallF) (n : Nat) (m0 : Nat) (B : Code) (hB : B = (hole f31_b [1, 1, 0, 1, 0, 0, 1, 1, 1] X0)) : f31_P3 B call n (m0 + 1) = f31_T3 call n (f31_P24 B call n m0) (f31_P25 B call n m0 n) := by
  subst hB; funext x0 x1 x2 x3 x4; kernel_rfl
theorem f31_l3 (call : CallF) (n : Nat) (m0 : Nat) : f31_P3 f31_b call n (m0 + 1) = f31_T3 call n (f31_P24 f31_b call n m0) (f31_P25 f31_b call n m0 n) :=
  f31_o3 (piece [1, 1, 0, 1, 0, 0, 1, 1, 1] f31_b) call n m0 _ (by kernel_rfl)
def f31_L3 (call : CallF) (n : Nat) : Nat → LC → LC → Int → Int → S_api_Event → OR
  | 0 => fun _ _ _ _ _ => none
  | m0 + 1 => f31_T3 call n (f31_L24 call n (f31_L3 call n m0)) (f31_L25 call n (f31_L3 call n m0) n)
theorem f31_e3 (call : CallF) (n : Nat) : ∀ m0 : Nat, f31_P3 f31_b call n m0 = f31_L3 call n m0
  | 0 => by funext x0 x1 x2 x3 x4; kernel_rfl
  | m0 + 1 => by rw [f31_l3, f31_e24, f31_e25, f31_e3 call n m0]; rfl
/-- pigeonhole/script.written -/
def f31_T (call : CallF) (n : Nat) (j3n : LC → LC → Int → Int → S_api_Event → OR) (a0 : S_api_Event) : OR :=
  callK call 21 [] fun v37 =>
  oL 1 v37 fun l38 =>
  itemK l38 a0.fKind fun c39 =>
  castS c39 fun s40 =>
  callK call 43 [] fun v41 =>
  oL 1 v41 fun l42 =>
  itemK l42 a0.fKind fun c43 =>
  castS c43 fun s44 =>
  j3n ([.str s40] : List Cell) (byteCells s44) ((((byteCells s44)).length / 1 : Nat) : Int) (0 : Int) a0
def f31_L (call : CallF) (n : Nat) (a0 : S_api_Event) : OR :=
  f31_T call n (f31_L3 call n n) a0
theorem f31_o (call : CallF) (n : Nat) (B : Code) (hB : B = f31_b) : f31_P B call n = f31_T call n (f31_P3 B call n n) := by
  subst hB; funext a0; kernel_rfl
theorem f31_l (call : CallF) (n : Nat) : f31_P f31_b call n = f31_T call n (f31_P3 f31_b call n n) :=
  f31_o call n _ (by kernel_rfl)
theorem f31_e (call : CallF) (n : Nat) : f31_P f31_b call n = f31_L call n := by
  rw [f31_l, f31_e3]; rfl
theorem f31_eq (n : Nat) (a0 : S_api_Event) : acall AXE AXF (n + 1) 31 [.agg a0.cells] [] = f31_L (acall AXE AXF n) (n + 1) a0 :=
  (show _ = f31_P f31_b (acall AXE AXF n) (n + 1) a0 by kernel_rfl).trans (by rw [f31_e])
def f32_P3 (B : Code) (call : CallF) (n : Nat) (x0 : Bool) : OR :=
  f32_x B call n [1, 0, 1, 0, 1] (kSeq (f32_x B call n [1, 1]) (kEnd AXE 0 f32_r)) ⟨[(4, .one (.bool x0))], []⟩
def f32_P4 (B : Code) (call : CallF) (n : Nat) (x0 : Bool) : OR :=
  f32_x B call n [1, 1, 1] (kEnd AXE 0 f32_r) ⟨[(4, .one (.bool x0))], []⟩
def f32_P1 (B : Code) (call : CallF) (n : Nat) (x0 : Bool) (x1 x2 : S_api_Event) : OR :=
  f32_x B call n [1, 0, 1] (kSeq (f32_x B call n [1, 1]) (kEnd AXE 0 f32_r)) ⟨[(2, .one (.ptr 0 0)), (3, .one (.ptr 1 0)), (58, .one (.bool x0))], [x1.cells, x2.cells]⟩
def f32_P (B : Code) (call : CallF) (n : Nat) (a0 a1 : S_api_Event) : OR :=
  f32_x B call n [] (kEnd AXE 0 f32_r) ⟨[(0, .agg a0.cells), (1, .agg a1.cells)], []⟩
def f32_T3 (call : CallF) (n : Nat) (x0 : Bool) : OR :=
  some (.one (.bool x0), [])
theorem f32_o3 (call : CallF) (n : Nat) (B : Code) (hB : B = f32_b) : f32_P3 B call n = f32_T3 call n := by
  subst hB; funext x0; kernel_rfl
theorem f32_l3 (call : CallF) (n : Nat) : f32_P3 f32_b call n = f32_T3 call n :=
  f32_o3 call n _ (by kernel_rfl)
def f32_L3 (call : CallF) (n : Nat) : Bool → OR :=
  f32_T3 call n
theorem f32_e3 (call : CallF) (n : Nat) : f32_P3 f32_b call n = f32_L3 call n := by
  rw [f32_l3]; rfl
def f32_T4 (call : CallF) (n : Nat) (x0 : Bool) : OR :=
  some (.one (.bool x0), [])
theorem f32_o4 (call : CallF) (n : Nat) (B : Code) (hB : B = f32_b) : f32_P4 B call n = f32_T4 call n := by
  subst hB; funext x0; kernel_rfl
theorem f32_l4 (call : CallF) (n : Nat) : f32_P4 f32_b call n = f32_T4 call n :=
  f32_o4 call n _ (by kernel_rfl)
def f32_L4 (call : CallF) (n : Nat) : Bool → OR :=
  f32_T4 call n
theorem f32_e4 (call : CallF) (n : Nat) : f32_P4 f32_b call n = f32_L4 call n := by
  rw [f32_l4]; rfl
def f32_T1 (call : CallF) (n : Nat) (j3 : Bool → OR) (j4 : Bool → OR) (x0 : Bool) (x1 x2 : S_api_Event) : OR :=
  bif x0 then (
    j3 false) else (
    bytesK x1.fData fun s1 =>
    bytesK x2.fData fun s2 =>
    bif (s1 == s2) then (
      callK call 57 [.one (.sl none 1 x1.fTo), .one (.sl none 1 x2.fTo)] fun v3 =>
      oB v3 fun b4 =>
      bif b4 then (
        callK call 58 [.one (.sl none 1 x1.fKeep), .one (.sl none 1 x2.fKeep)] fun v5 =>
        oB v5 fun b6 =>
        j4 b6) else (
        j4 false)) else (
      j4 false))
theorem f32_o1 (X0 X1 : Code) (call : CallF) (n : Nat) (B : Code) (hB : B = (hole (hole f32_b [1, 0, 1, 0, 1] X0) [1, 1, 1] X1)) : f32_P1 B call n = f32_T1 call n (f32_P3 B call n) (f32_P4 B call n) := by
  subst hB; funext x0 x1 x2; cases x0 <;> kernel_rfl
theorem f32_l1 (call : CallF) (n : Nat) : f32_P1 f32_b call n = f32_T1 call n (f32_P3 f32_b call n) (f32_P4 f32_b call n) :=
  f32_o1 (piece [1, 0, 1, 0, 1] f32_b) (piece [1, 1, 1] f32_b) call n _ (by kernel_rfl)
def f32_L1 (call : CallF) (n : Nat) : Bool → S_api_Event → S_api_Event → OR :=
  f32_T1 call n (f32_L3 call n) (f32_L4 call n)
theorem f32_e1 (call : CallF) (n : Nat) : f32_P1 f32_b call n = f32_L1 call n := by
  rw [f32_l1, f32_e3, f32_e4]; rfl
/-- pigeonhole/script.same -/
def f32_T (call : CallF) (n : Nat) (j1 : Bool → S_api_Event → S_api_Event → OR) (a0 a1 : S_api_Event) : OR :=
  bif (a0.fKind != a1.fKind) then (
    j1 true a0 a1) else (
    bif (a0.fSlot != a1.fSlot) then (
      j1 true a0 a1) else (
      bif (a0.fN != a1.fN) then (
        j1 true a0 a1) else (
        bif (a0.fK != a1.fK) then (
          j1 true a0 a1) else (
          bif (!(a0.fLmtp == a1.fLmtp)) then (
            j1 true a0 a1) else (
            bif (!(a0.fName == a1.fName)) then (
              j1 true a0 a1) else (
              bif (!((a0.fLimit_Bytes == a1.fLimit_Bytes) && ((a0.fLimit_Count == a1.fLimit_Count) && true))) then (
                j1 true a0 a1) else (
                j1 (a0.fCode != a1.fCode) a0 a1)))))))
def f32_L (call : CallF) (n : Nat) (a0 a1 : S_api_Event) : OR :=
  f32_T call n (f32_L1 call n) a0 a1
theorem f32_o (X0 : Code) (call : CallF) (n : Nat) (B : Code) (hB : B = (hole f32_b [1, 0, 1] X0)) : f32_P B call n = f32_T call n (f32_P1 B call n) := by
  subst hB; funext a0 a1; kernel_rfl
theorem f32_l (call : CallF) (n : Nat) : f32_P f32_b call n = f32_T call n (f32_P1 f32_b call n) :=
  f32_o (piece [1, 0, 1] f32_b) call n _ (by kernel_rfl)
theorem f32_e (call : CallF) (n : Nat) : f32_P f32_b call n = f32_L call n := by
  rw [f32_l, f32_e1]; rfl
theorem f32_eq (n : Nat) (a0 a1 : S_api_Event) : acall AXE AXF (n + 1) 32 [.agg a0.cells, .agg a1.cells] [] = f32_L (acall AXE AXF n) (n + 1) a0 a1 :=
  (show _ = f32_P f32_b (acall AXE AXF n) (n + 1) a0 a1 by kernel_rfl).trans (by rw [f32_e])
def f43_P (B : Code) (call : CallF) (n : Nat) : OR :=
  f43_x B call n [] (kEnd AXE 0 f43_r) ⟨[], []⟩
/-- pigeonhole/script.forms -/
def f43_T (call : CallF) (n : Nat) : OR :=
  some (.one (.sl (some ⟨0, 0, 9⟩) 1 ([.str ([] : List UInt8), .str ([115, 112] : List UInt8), .str ([115, 100] : List UInt8), .str ([115] : List UInt8), .str ([110] : List UInt8), .str ([] : List UInt8), .str ([117, 98, 99] : List UInt8), .str ([109, 98, 99] : List UInt8), .str ([117, 116] : List UInt8), .str ([117] : List UInt8), .str ([109, 110] : List UInt8), .str ([109, 110, 107] : List UInt8), .str ([109] : List UInt8), .str ([] : List UInt8), .str ([110, 101] : List UInt8), .str ([110] : List UInt8), .str ([110, 119] : List UInt8), .str ([] : List UInt8)] : List Cell)), [])
def f43_L (call : CallF) (n : Nat) : OR :=
  f43_T call n
theorem f43_o (call : CallF) (n : Nat) (B : Code) (hB : B = f43_b) : f43_P B call n = f43_T call n := by
  subst hB; kernel_rfl
theorem f43_l (call : CallF) (n : Nat) : f43_P f43_b call n = f43_T call n :=
  f43_o call n _ (by kernel_rfl)
theorem f43_e (call : CallF) (n : Nat) : f43_P f43_b call n = f43_L call n := by
  rw [f43_l]; rfl
theorem f43_eq (n : Nat) : acall AXE AXF (n + 1) 43 [] [] = f43_L (acall AXE AXF n) (n + 1) :=
  (show _ = f43_P f43_b (acall AXE AXF n) (n + 1) by kernel_rfl).trans (by rw [f43_e])
def f44_P5 (B : Code) (call : CallF) (n : Nat) (x0 : LC) (x1 : Bool) : OR :=
  f44_x B call n [1, 0, 1, 0, 1] (kSeq (f44_x B call n [1, 1]) (kEnd AXE 0 f44_r)) ⟨[(2, .one (.sl (some ⟨2, 0, 5⟩) 1 x0)), (3, .one (.bool x1))], []⟩
def f44_P26 (B : Code) (call : CallF) (n : Nat) (m0 : Nat) (x0 : LB) (x1 : LC) (x2 : LB) (x3 : Int) : OR :=
  f44_x B call n [1, 1, 1, 0, 1, 0, 0, 1, 0, 1, 1, 1] (kBlk 1 (kSeq (fun k => prK 1000005 (pruneAt f44_h 1000005) (aloop 1000005 (pruneAt f44_h 1000005) (f44_x B call n [1, 1, 1, 0, 1, 0, 0]) k m0)) (kBlk 0 (kSeq (f44_x B call n [1, 1, 1, 1]) (kEnd AXE 0 f44_r))))) ⟨[(0, .one (.str x0)), (4, .one (.sl (some ⟨4, 0, 5⟩) 1 x1)), (5, .one (.str x2)), (7, .one (.int .i64 x3))], []⟩
def f44_P24 (B : Code) (call : CallF) (n : Nat) (m0 : Nat) (x0 : LB) (x1 : LC) (x2 : LB) (x3 x4 : Int) : OR :=
  f44_x B call n [1, 1, 1, 0, 1, 0, 0, 1, 0, 1, 1] (kBlk 1 (kSeq (fun k => prK 1000005 (pruneAt f44_h 1000005) (aloop 1000005 (pruneAt f44_h 1000005) (f44_x B call n [1, 1, 1, 0, 1, 0, 0]) k m0)) (kBlk 0 (kSeq (f44_x B call n [1, 1, 1, 1]) (kEnd AXE 0 f44_r))))) ⟨[(0, .one (.str x0)), (4, .one (.sl (some ⟨4, 0, 5⟩) 1 x1)), (5, .one (.str x2)), (6, .one (.int .u8 x3)), (7, .one (.int .i64 x4))], []⟩
def f44_P25 (B : Code) (call : CallF) (n : Nat) (x0 : LC) (x1 : Bool) : OR :=
  f44_x B call n [1, 1, 1, 1, 1] (kEnd AXE 0 f44_r) ⟨[(2, .one (.sl (some ⟨2, 0, 5⟩) 1 x0)), (3, .one (.bool x1))], []⟩
def f44_P6 (B : Code) (call : CallF) (n : Nat) (m0 : Nat) (x0 : LB) (x1 : LC) (x2 : LB) : OR :=
  aloop 1000005 (pruneAt f44_h 1000005) (f44_x B call n [1, 1, 1, 0, 1, 0, 0]) (kBlk 0 (kSeq (f44_x B call n [1, 1, 1, 1]) (kEnd AXE 0 f44_r))) m0 ⟨[(0, .one (.str x0)), (4, .one (.sl (some ⟨4, 0, 5⟩) 1 x1)), (5, .one (.str x2))], []⟩
def f44_P1 (B : Code) (call : CallF) (n : Nat) (x0 : LB) (x1 : Bool) : OR :=
  f44_x B call n [1, 0, 1] (kSeq (f44_x B call n [1, 1]) (kEnd AXE 0 f44_r)) ⟨[(0, .one (.str x0)), (23, .one (.bool x1))], []⟩
def f44_P (B : Code) (call : CallF) (n : Nat) (a0 : LB) : OR :=
  f44_x B call n [] (kEnd AXE 0 f44_r) ⟨[(0, .one (.str a0))], []⟩
def f44_T5 (call : CallF) (n : Nat) (x0 : LC) (x1 : Bool) : OR :=
  some (.tup [.one (.sl (some ⟨2, 0, 5⟩) 1 x0), .one (.bool x1)], [])
theorem f44_o5 (call : CallF) (n : Nat) (B : Code) (hB : B = f44_b) : f44_P5 B call n = f44_T5 call n := by
  subst hB; funext x0 x1; kernel_rfl
theorem f44_l5 (call : CallF) (n : Nat) : f44_P5 f44_b call n = f44_T5 call n :=
  f44_o5 call n _ (by kernel_rfl)
def f44_L5 (call : CallF) (n : Nat) : LC → Bool → OR :=
  f44_T5 call n
theorem f44_e5 (call : CallF) (n : Nat) : f44_P5 f44_b call n = f44_L5 call n := by
  rw [f44_l5]; rfl
def f44_T26 (call : CallF) (n : Nat) (j6m : LB → LC → LB → OR) (x0 : LB) (x1 : LC) (x2 : LB) (x3 : Int) : OR :=
  bif decide (0 ≤ x3 ∧ (Int.toNat x3) ≤ (x2).length) then (
    j6m x0 x1 ((x2.take (x2).length).drop (Int.toNat x3))) else none
theorem f44_o26 (call : CallF) (n : Nat) (m0 : Nat) (B : Code) (hB : B = f44_b) : f44_P26 B call n m0 = f44_T26 call n (f44_P6 B call n m0) := by
  subst hB; funext x0 x1 x2 x3; kernel_rfl
theorem f44_l26 (call : CallF) (n : Nat) (m0 : Nat) : f44_P26 f44_b call n m0 = f44_T26 call n (f44_P6 f44_b call n m0) :=
  f44_o26 call n m0 _ (by kernel_rfl)
def f44_L26 (call : CallF) (n : Nat) (h_m0 : LB → LC → LB → OR) : LB → LC → LB → Int → OR :=
  f44_T26 call n h_m0
theorem f44_e26 (call : CallF) (n : Nat) (m0 : Nat) : f44_P26 f44_b call n m0 = f44_L26 call n (f44_P6 f44_b call n m0) := by
  rw [f44_l26]; rfl
def f44_T24 (call : CallF) (n : Nat) (j26 : LB → LC → LB → Int → OR) (x0 : LB) (x1 : LC) (x2 : LB) (x3 x4 : Int) : OR :=
  guardB (decide (((x1).length + (([.int .u8 x3] : List Cell)).length) * 1000 ≤ rowLim)) (
    j26 x0 (x1 ++ ([.int .u8 x3] : List Cell)) x2 x4)
theorem f44_o24 (X0 : Code) (call : CallF) (n : Nat) (m0 : Nat) (B : Code) (hB : B = (hole f44_b [1, 1, 1, 0, 1, 0, 0, 1, 0, 1, 1, 1] X0)) : f44_P24 B call n m0 = f44_T24 call n (f44_P26 B call n m0) := by
  subst hB; funext x0 x1 x2 x3 x4; kernel_rfl
theorem f44_l24 (call : CallF) (n : Nat) (m0 : Nat) : f44_P24 f44_b call n m0 = f44_T24 call n (f44_P26 f44_b call n m0) :=
  f44_o24 (piece [1, 1, 1, 0, 1, 0, 0, 1, 0, 1, 1, 1] f44_b) call n m0 _ (by kernel_rfl)
def f44_L24 (call : CallF) (n : Nat) (h_m0 : LB → LC → LB → OR) : LB → LC → LB → Int → Int → OR :=
  f44_T24 call n (f44_L26 call n h_m0)
theorem f44_e24 (call : CallF) (n : Nat) (m0 : Nat) : f44_P24 f44_b call n m0 = f44_L24 call n (f44_P6 f44_b call n m0) := by
  rw [f44_l24, f44_e26]; rfl
def f44_T25 (call : CallF) (n : Nat) (x0 : LC) (x1 : Bool) : OR :=
  some (.tup [.one (.sl (some ⟨2, 0, 5⟩) 1 x0), .one (.bool x1)], [])
theorem f44_o25 (call : CallF) (n : Nat) (B : Code) (hB : B = f44_b) : f44_P25 B call n = f44_T25 call n := by
  subst hB; funext x0 x1; kernel_rfl
theorem f44_l25 (call : CallF) (n : Nat) : f44_P25 f44_b call n = f44_T25 call n :=
  f44_o25 call n _ (by kernel_rfl)
def f44_L25 (call : CallF) (n : Nat) : LC → Bool → OR :=
  f44_T25 call n
theorem f44_e25 (call : CallF) (n : Nat) : f44_P25 f44_b call n = f44_L25 call n := by
  rw [f44_l25]; rfl
def f44_T6 (call : CallF) (n : Nat) (j24 : LB → LC → LB → Int → Int → OR) (j25 : LC → Bool → OR) (x0 : LB) (x1 : LC) (x2 : LB) : OR :=
  bif (!(x2 == ([] : List UInt8))) then (
    itemK x2 (0 : Int) fun u1 =>
    bif ((UInt8.toNat u1 : Int) == (92 : Int)) then (
      bif (decide (((x2).length : Int) < (2 : Int))) then (
        some (.tup [.one (.sl (some ⟨2, 0, 5⟩) 1 ([] : List Cell)), .one (.bool false)], [])) else (
        itemK x2 (1 : Int) fun u2 =>
        bif ((UInt8.toNat u2 : Int) == (114 : Int)) then (
          j24 x0 x1 x2 (13 : Int) (2 : Int)) else (
          bif ((UInt8.toNat u2 : Int) == (110 : Int)) then (
            j24 x0 x1 x2 (10 : Int) (2 : Int)) else (
            bif ((UInt8.toNat u2 : Int) == (120 : Int)) then (
              bif (decide (((x2).length : Int) < (4 : Int))) then (
                some (.tup [.one (.sl (some ⟨2, 0, 5⟩) 1 ([] : List Cell)), .one (.bool false)], [])) else (
                itemK x2 (2 : Int) fun u3 =>
                primK pIndexByte [.one (.str ([48, 49, 50, 51, 52, 53, 54, 55, 56, 57, 97, 98, 99, 100, 101, 102] : List UInt8)), .one (.int .u8 (UInt8.toNat u3 : Int))] fun v4 =>
                oI .i64 v4 fun n5 =>
                itemK x2 (3 : Int) fun u6 =>
                primK pIndexByte [.one (.str ([48, 49, 50, 51, 52, 53, 54, 55, 56, 57, 97, 98, 99, 100, 101, 102] : List UInt8)), .one (.int .u8 (UInt8.toNat u6 : Int))] fun v7 =>
                oI .i64 v7 fun n8 =>
                j24 x0 x1 x2 (IntKind.wrap .u8 (IntKind.wrap .i64 ((BitVec.toNat ((BitVec.ofInt (IntKind.bits .i64) (IntKind.wrap .i64 (n5 * ((2 : Int) ^ (min (Int.toNat (4 : Int)) (IntKind.bits .i64)))))) ||| (BitVec.ofInt (IntKind.bits .i64) (IntKind.wrap .i64 ((BitVec.toNat ((BitVec.ofInt (IntKind.bits .i64) n8) &&& (BitVec.ofInt (IntKind.bits .i64) (15 : Int))) : Nat) : Int)))) : Nat) : Int))) (4 : Int))) else (
              j24 x0 x1 x2 (UInt8.toNat u2 : Int) (2 : Int)))))) else (
      j24 x0 x1 x2 (UInt8.toNat u1 : Int) (1 : Int))) else (
    callK call 54 [.one (.sl none 1 x1)] fun v9 =>
    oS v9 fun s10 =>
    bif (s10 == x0) then (
      j25 x1 (decide ((((x1).length / 1 : Nat) : Int) ≤ (4096 : Int)))) else (
      j25 x1 false))
theorem f44_o6 (X0 X1 : Code) (call : CallF) (n : Nat) (m0 : Nat) (B : Code) (hB : B = (hole (hole f44_b [1, 1, 1, 0, 1, 0, 0, 1, 0, 1, 1] X0) [1, 1, 1, 1, 1] X1)) : f44_P6 B call n (m0 + 1) = f44_T6 call n (f44_P24 B call n m0) (f44_P25 B call n) := by
  subst hB; funext x0 x1 x2; kernel_rfl
theorem f44_l6 (call : CallF) (n : Nat) (m0 : Nat) : f44_P6 f44_b call n (m0 + 1) = f44_T6 call n (f44_P24 f44_b call n m0) (f44_P25 f44_b call n) :=
  f44_o6 (piece [1, 1, 1, 0, 1, 0, 0, 1, 0, 1, 1] f44_b) (piece [1, 1, 1, 1, 1] f44_b) call n m0 _ (by kernel_rfl)
def f44_L6 (call : CallF) (n : Nat) : Nat → LB → LC → LB → OR
  | 0 => fun _ _ _ => none
  | m0 + 1 => f44_T6 call n (f44_L24 call n (f44_L6 call n m0)) (f44_L25 call n)
theorem f44_e6 (call : CallF) (n : Nat) : ∀ m0 : Nat, f44_P6 f44_b call n m0 = f44_L6 call n m0
  | 0 => by funext x0 x1 x2; kernel_rfl
  | m0 + 1 => by rw [f44_l6, f44_e24, f44_e25, f44_e6 call n m0]; rfl
def f44_T1 (call : CallF) (n : Nat) (j5 : LC → Bool → OR) (j6n : LB → LC → LB → OR) (x0 : LB) (x1 : Bool) : OR :=
  bif x1 then (
    j5 ([] : List Cell) false) else (
    bif decide (0 ≤ (1 : Int) ∧ (1 : Int) ≤ (IntKind.wrap .i64 (((x0).length : Int) - (1 : Int))) ∧ (Int.toNat (IntKind.wrap .i64 (((x0).length : Int) - (1 : Int)))) ≤ (x0).length) then (
      j6n x0 ([] : List Cell) ((x0.take (Int.toNat (IntKind.wrap .i64 (((x0).length : Int) - (1 : Int))))).drop (Int.toNat (1 : Int)))) else none)
theorem f44_o1 (X0 : Code) (call : CallF) (n : Nat) (B : Code) (hB : B = (hole f44_b [1, 0, 1, 0, 1] X0)) : f44_P1 B call n = f44_T1 call n (f44_P5 B call n) (f44_P6 B call n n) := by
  subst hB; funext x0 x1; cases x1 <;> kernel_rfl
theorem f44_l1 (call : CallF) (n : Nat) : f44_P1 f44_b call n = f44_T1 call n (f44_P5 f44_b call n) (f44_P6 f44_b call n n) :=
  f44_o1 (piece [1, 0, 1, 0, 1] f44_b) call n _ (by kernel_rfl)
def f44_L1 (call : CallF) (n : Nat) : LB → Bool → OR :=
  f44_T1 call n (f44_L5 call n) (f44_L6 call n n)
theorem f44_e1 (call : CallF) (n : Nat) : f44_P1 f44_b call n = f44_L1 call n := by
  rw [f44_l1, f44_e5, f44_e6]; rfl
/-- pigeonhole/script.unquoted -/
def f44_T (call : CallF) (n : Nat) (j1 : LB → Bool → OR) (a0 : LB) : OR :=
  bif (decide (((a0).length : Int) < (2 : Int))) then (
    j1 a0 true) else (
    itemK a0 (0 : Int) fun u13 =>
    bif ((UInt8.toNat u13 : Int) != (34 : Int)) then (
      j1 a0 true) else (
      itemK a0 (IntKind.wrap .i64 (((a0).length : Int) - (1 : Int))) fun u14 =>
      j1 a0 ((UInt8.toNat u14 : Int) != (34 : Int))))
def f44_L (call : CallF) (n : Nat) (a0 : LB) : OR :=
  f44_T call n (f44_L1 call n) a0
theorem f44_o (X0 : Code) (call : CallF) (n : Nat) (B : Code) (hB : B = (hole f44_b [1, 0, 1] X0)) : f44_P B call n = f44_T call n (f44_P1 B call n) := by
  subst hB; funext a0; kernel_rfl
theorem f44_l (call : CallF) (n : Nat) : f44_P f44_b call n = f44_T call n (f44_P1 f44_b call n) :=
  f44_o (piece [1, 0, 1] f44_b) call n _ (by kernel_rfl)
theorem f44_e (call : CallF) (n : Nat) : f44_P f44_b call n = f44_L call n := by
  rw [f44_l, f44_e1]; rfl
theorem f44_eq (n : Nat) (a0 : LB) : acall AXE AXF (n + 1) 44 [.one (.str a0)] [] = f44_L (acall AXE AXF n) (n + 1) a0 :=
  (show _ = f44_P f44_b (acall AXE AXF n) (n + 1) a0 by kernel_rfl).trans (by rw [f44_e])
def f45_P16 (B : Code) (call : CallF) (n : Nat) (x0 : Bool) (x1 : S_api_Event) : OR :=
  f45_x B call n [1, 1, 0, 1, 0, 1, 0, 1, 1] (kBlk 0 (kSeq (f45_x B call n [1, 1, 1]) (kEnd AXE 1 f45_r))) ⟨[(6, .one (.bool x0))], [[.int .i64 x1.fKind, .int .i64 x1.fSlot, .int .i64 x1.fN, .int .i64 x1.fK, .bool x1.fLmtp, .str x1.fName, .int .i64 x1.fLimit_Bytes, .int .i64 x1.fLimit_Count, .sl none 1 x1.fTo, .sl none 1 x1.fData, .int .i64 x1.fCode, .sl (some ⟨1000000, 11, 3⟩) 1 x1.fKeep]]⟩
def f45_P17 (B : Code) (call : CallF) (n : Nat) (x0 : Bool) (x1 : S_api_Event) : OR :=
  f45_x B call n [1, 1, 0, 1, 0, 1, 1, 1, 0, 1, 1] (kBlk 0 (kSeq (f45_x B call n [1, 1, 1]) (kEnd AXE 1 f45_r))) ⟨[(6, .one (.bool x0))], [[.int .i64 x1.fKind, .int .i64 x1.fSlot, .int .i64 x1.fN, .int .i64 x1.fK, .bool x1.fLmtp, .str x1.fName, .int .i64 x1.fLimit_Bytes, .int .i64 x1.fLimit_Count, .sl none 1 x1.fTo, .sl none 1 x1.fData, .int .i64 x1.fCode, .sl (some ⟨1000000, 11, 3⟩) 1 x1.fKeep]]⟩
def f45_P22 (B : Code) (call : CallF) (n : Nat) (x0 : Bool) (x1 : S_api_Event) : OR :=
  f45_x B call n [1, 1, 1, 1] (kEnd AXE 1 f45_r) ⟨[(6, .one (.bool x0))], [[.int .i64 x1.fKind, .int .i64 x1.fSlot, .int .i64 x1.fN, .int .i64 x1.fK, .bool x1.fLmtp, .str x1.fName, .int .i64 x1.fLimit_Bytes, .int .i64 x1.fLimit_Count, .sl none 1 x1.fTo, .sl none 1 x1.fData, .int .i64 x1.fCode, .sl (some ⟨1000000, 11, 3⟩) 1 x1.fKeep]]⟩
def f45_P18 (B : Code) (call : CallF) (n : Nat) (x0 : Bool) (x1 : S_api_Event) : OR :=
  f45_x B call n [1, 1, 1] (kEnd AXE 1 f45_r) ⟨[(8, .one (.bool x0))], [[.int .i64 x1.fKind, .int .i64 x1.fSlot, .int .i64 x1.fN, .int .i64 x1.fK, .bool x1.fLmtp, .str x1.fName, .int .i64 x1.fLimit_Bytes, .int .i64 x1.fLimit_Count, .sl none 1 x1.fTo, .sl none 1 x1.fData, .int .i64 x1.fCode, .sl (some ⟨1000000, 11, 3⟩) 1 x1.fKeep]]⟩
def f45_P19 (B : Code) (call : CallF) (n : Nat) (x0 : Bool) (x1 : S_api_Event) : OR :=
  f45_x B call n [1, 1, 0, 1, 0, 1, 1, 1, 1, 1, 1, 1, 1, 1, 1, 1, 1, 1, 0, 1, 1] (kBlk 0 (kSeq (f45_x B call n [1, 1, 1]) (kEnd AXE 1 f45_r))) ⟨[(6, .one (.bool x0))], [[.int .i64 x1.fKind, .int .i64 x1.fSlot, .int .i64 x1.fN, .int .i64 x1.fK, .bool x1.fLmtp, .str x1.fName, .int .i64 x1.fLimit_Bytes, .int .i64 x1.fLimit_Count, .sl none 1 x1.fTo, .sl none 1 x1.fData, .int .i64 x1.fCode, .sl (some ⟨1000000, 11, 3⟩) 1 x1.fKeep]]⟩
def f45_P26 (B : Code) (call : CallF) (n : Nat) (x0 : Bool) (x1 : S_api_Event) : OR :=
  f45_x B call n [1, 1, 0, 1, 0, 1, 1, 1, 1, 1, 1, 1, 1, 1, 1, 1, 1, 1, 1, 1, 0, 1, 0, 1, 0, 1, 1] (kSeq (f45_x B call n [1, 1, 0, 1, 0, 1, 1, 1, 1, 1, 1, 1, 1, 1, 1, 1, 1, 1, 1, 1, 0, 1, 1]) (kBlk 0 (kSeq (f45_x B call n [1, 1, 1]) (kEnd AXE 1 f45_r)))) ⟨[(6, .one (.bool x0))], [[.int .i64 x1.fKind, .int .i64 x1.fSlot, .int .i64 x1.fN, .int .i64 x1.fK, .bool x1.fLmtp, .str x1.fName, .int .i64 x1.fLimit_Bytes, .int .i64 x1.fLimit_Count, .sl none 1 x1.fTo, .sl none 1 x1.fData, .int .i64 x1.fCode, .sl (some ⟨1000000, 11, 3⟩) 1 x1.fKeep]]⟩
def f45_P24 (B : Code) (call : CallF) (n : Nat) (x0 : S_api_Event) : OR :=
  f45_x B call n [1, 1, 0, 1, 0, 1, 1, 1, 1, 1, 1, 1, 1, 1, 1, 1, 1, 1, 1, 1, 0, 1, 0, 1, 0, 1] (kSeq (f45_x B call n [1, 1, 0, 1, 0, 1, 1, 1, 1, 1, 1, 1, 1, 1, 1, 1, 1, 1, 1, 1, 0, 1, 1]) (kBlk 0 (kSeq (f45_x B call n [1, 1, 1]) (kEnd AXE 1 f45_r)))) ⟨[], [[.int .i64 x0.fKind, .int .i64 x0.fSlot, .int .i64 x0.fN, .int .i64 x0.fK, .bool x0.fLmtp, .str x0.fName, .int .i64 x0.fLimit_Bytes, .int .i64 x0.fLimit_Count, .sl none 1 x0.fTo, .sl none 1 x0.fData, .int .i64 x0.fCode, .sl (some ⟨1000000, 11, 3⟩) 1 x0.fKeep]]⟩
def f45_P27 (B : Code) (call : CallF) (n : Nat) (x0 : Bool) (x1 : S_api_Event) : OR :=
  f45_x B call n [1, 1, 0, 1, 0, 1, 1, 1, 1, 1, 1, 1, 1, 1, 1, 1, 1, 1, 1, 1, 0, 1, 1, 1] (kBlk 0 (kSeq (f45_x B call n [1, 1, 1]) (kEnd AXE 1 f45_r))) ⟨[(6, .one (.bool x0))], [[.int .i64 x1.fKind, .int .i64 x1.fSlot, .int .i64 x1.fN, .int .i64 x1.fK, .bool x1.fLmtp, .str x1.fName, .int .i64 x1.fLimit_Bytes, .int .i64 x1.fLimit_Count, .sl none 1 x1.fTo, .sl none 1 x1.fData, .int .i64 x1.fCode, .sl (some ⟨1000000, 11, 3⟩) 1 x1.fKeep]]⟩
def f45_P25 (B : Code) (call : CallF) (n : Nat) (x0 : LB) (x1 : S_api_Event) : OR :=
  f45_x B call n [1, 1, 0, 1, 0, 1, 1, 1, 1, 1, 1, 1, 1, 1, 1, 1, 1, 1, 1, 1, 0, 1, 1] (kBlk 0 (kSeq (f45_x B call n [1, 1, 1]) (kEnd AXE 1 f45_r))) ⟨[(0, .one (.ptr 0 0)), (2, .one (.str x0))], [[.int .i64 x1.fKind, .int .i64 x1.fSlot, .int .i64 x1.fN, .int .i64 x1.fK, .bool x1.fLmtp, .str x1.fName, .int .i64 x1.fLimit_Bytes, .int .i64 x1.fLimit_Count, .sl none 1 x1.fTo, .sl none 1 x1.fData, .int .i64 x1.fCode, .sl (some ⟨1000000, 11, 3⟩) 1 x1.fKeep]]⟩
def f45_P23 (B : Code) (call : CallF) (n : Nat) (x0 : LB) (x1 : Bool) (x2 : S_api_Event) : OR :=
  f45_x B call n [1, 1, 0, 1, 0, 1, 1, 1, 1, 1, 1, 1, 1, 1, 1, 1, 1, 1, 1, 1, 0, 1, 0, 1] (kSeq (f45_x B call n [1, 1, 0, 1, 0, 1, 1, 1, 1, 1, 1, 1, 1, 1, 1, 1, 1, 1, 1, 1, 0, 1, 1]) (kBlk 0 (kSeq (f45_x B call n [1, 1, 1]) (kEnd AXE 1 f45_r)))) ⟨[(0, .one (.ptr 0 0)), (2, .one (.str x0)), (96, .one (.bool x1))], [[.int .i64 x2.fKind, .int .i64 x2.fSlot, .int .i64 x2.fN, .int .i64 x2.fK, .bool x2.fLmtp, .str x2.fName, .int .i64 x2.fLimit_Bytes, .int .i64 x2.fLimit_Count, .sl none 1 x2.fTo, .sl none 1 x2.fData, .int .i64 x2.fCode, .sl (some ⟨1000000, 11, 3⟩) 1 x2.fKeep]]⟩
def f45_P20 (B : Code) (call : CallF) (n : Nat) (x0 : Int) (x1 : LB) (x2 : S_api_Event) : OR :=
  f45_x B call n [1, 1, 0, 1, 0, 1, 1, 1, 1, 1, 1, 1, 1, 1, 1, 1, 1, 1, 1, 1, 0, 1] (kBlk 0 (kSeq (f45_x B call n [1, 1, 1]) (kEnd AXE 1 f45_r))) ⟨[(0, .one (.ptr 0 0)), (1, .one (.int .u8 x0)), (2, .one (.str x1))], [[.int .i64 x2.fKind, .int .i64 x2.fSlot, .int .i64 x2.fN, .int .i64 x2.fK, .bool x2.fLmtp, .str x2.fName, .int .i64 x2.fLimit_Bytes, .int .i64 x2.fLimit_Count, .sl none 1 x2.fTo, .sl none 1 x2.fData, .int .i64 x2.fCode, .sl (some ⟨1000000, 11, 3⟩) 1 x2.fKeep]]⟩
def f45_P21 (B : Code) (call : CallF) (n : Nat) (x0 : Bool) (x1 : Int) (x2 : LB) (x3 : Bool) (x4 : S_api_Event) : OR :=
  f45_x B call n [1, 1, 1] (kEnd AXE 1 f45_r) ⟨[(84, .one (.bool x0)), (0, .one (.ptr 0 0)), (1, .one (.int .u8 x1)), (2, .one (.str x2)), (8, .one (.bool x3))], [[.int .i64 x4.fKind, .int .i64 x4.fSlot, .int .i64 x4.fN, .int .i64 x4.fK, .bool x4.fLmtp, .str x4.fName, .int .i64 x4.fLimit_Bytes, .int .i64 x4.fLimit_Count, .sl none 1 x4.fTo, .sl none 1 x4.fData, .int .i64 x4.fCode, .sl (some ⟨1000000, 11, 3⟩) 1 x4.fKeep]]⟩
def f45_P (B : Code) (call : CallF) (n : Nat) (a0 : S_api_Event) (a1 : Int) (a2 : LB) : OR :=
  f45_x B call n [] (kEnd AXE 1 f45_r) ⟨[(0, .one (.ptr 0 0)), (1, .one (.int .u8 a1)), (2, .one (.str a2))], [[.int .i64 a0.fKind, .int .i64 a0.fSlot, .int .i64 a0.fN, .int .i64 a0.fK, .bool a0.fLmtp, .str a0.fName, .int .i64 a0.fLimit_Bytes, .int .i64 a0.fLimit_Count, .sl none 1 a0.fTo, .sl none 1 a0.fData, .int .i64 a0.fCode, .sl (some ⟨1000000, 11, 3⟩) 1 a0.fKeep]]⟩
def f45_T16 (call : CallF) (n : Nat) (x0 : Bool) (x1 : S_api_Event) : OR :=
  some (.one (.bool x0), [[.int .i64 x1.fKind, .int .i64 x1.fSlot, .int .i64 x1.fN, .int .i64 x1.fK, .bool x1.fLmtp, .str x1.fName, .int .i64 x1.fLimit_Bytes, .int .i64 x1.fLimit_Count, .sl none 1 x1.fTo, .sl none 1 x1.fData, .int .i64 x1.fCode, .sl (some ⟨1000000, 11, 3⟩) 1 x1.fKeep]])
theorem f45_o16 (call : CallF) (n : Nat) (B : Code) (hB : B = f45_b) : f45_P16 B call n = f45_T16 call n := by
  subst hB; funext x0 x1; kernel_rfl
theorem f45_l16 (call : CallF) (n : Nat) : f45_P16 f45_b call n = f45_T16 call n :=
  f45_o16 call n _ (by kernel_rfl)
def f45_L16 (call : CallF) (n : Nat) : Bool → S_api_Event → OR :=
  f45_T16 call n
theorem f45_e16 (call : CallF) (n : Nat) : f45_P16 f45_b call n = f45_L16 call n := by
  rw [f45_l16]; rfl
def f45_T17 (call : CallF) (n : Nat) (x0 : Bool) (x1 : S_api_Event) : OR :=
  some (.one (.bool x0), [[.int .i64 x1.fKind, .int .i64 x1.fSlot, .int .i64 x1.fN, .int .i64 x1.fK, .bool x1.fLmtp, .str x1.fName, .int .i64 x1.fLimit_Bytes, .int .i64 x1.fLimit_Count, .sl none 1 x1.fTo, .sl none 1 x1.fData, .int .i64 x1.fCode, .sl (some ⟨1000000, 11, 3⟩) 1 x1.fKeep]])
theorem f45_o17 (call : CallF) (n : Nat) (B : Code) (hB : B = f45_b) : f45_P17 B call n = f45_T17 call n := by
  subst hB; funext x0 x1; kernel_rfl
theorem f45_l17 (call : CallF) (n : Nat) : f45_P17 f45_b call n = f45_T17 call n :=
  f45_o17 call n _ (by kernel_rfl)
def f45_L17 (call : CallF) (n : Nat) : Bool → S_api_Event → OR :=
  f45_T17 call n
theorem f45_e17 (call : CallF) (n : Nat) : f45_P17 f45_b call n = f45_L17 call n := by
  rw [f45_l17]; rfl
def f45_T22 (call : CallF) (n : Nat) (x0 : Bool) (x1 : S_api_Event) : OR :=
  some (.one (.bool x0), [[.int .i64 x1.fKind, .int .i64 x1.fSlot, .int .i64 x1.fN, .int .i64 x1.fK, .bool x1.fLmtp, .str x1.fName, .int .i64 x1.fLimit_Bytes, .int .i64 x1.fLimit_Count, .sl none 1 x1.fTo, .sl none 1 x1.fData, .int .i64 x1.fCode, .sl (some ⟨1000000, 11, 3⟩) 1 x1.fKeep]])
theorem f45_o22 (call : CallF) (n : Nat) (B : Code) (hB : B = f45_b) : f45_P22 B call n = f45_T22 call n := by
  subst hB; funext x0 x1; kernel_rfl
theorem f45_l22 (call : CallF) (n : Nat) : f45_P22 f45_b call n = f45_T22 call n :=
  f45_o22 call n _ (by kernel_rfl)
def f45_L22 (call : CallF) (n : Nat) : Bool → S_api_Event → OR :=
  f45_T22 call n
theorem f45_e22 (call : CallF) (n : Nat) : f45_P22 f45_b call n = f45_L22 call n := by
  rw [f45_l22]; rfl
def f45_T18 (call : CallF) (n : Nat) (j22 : Bool → S_api_Event → OR) (x0 : Bool) (x1 : S_api_Event) : OR :=
  j22 x0 x1
theorem f45_o18 (X0 : Code) (call : CallF) (n : Nat) (B : Code) (hB : B = (hole f45_b [1, 1, 1, 1] X0)) : f45_P18 B call n = f45_T18 call n (f45_P22 B call n) := by
  subst hB; funext x0 x1; kernel_rfl
theorem f45_l18 (call : CallF) (n : Nat) : f45_P18 f45_b call n = f45_T18 call n (f45_P22 f45_b call n) :=
  f45_o18 (piece [1, 1, 1, 1] f45_b) call n _ (by kernel_rfl)
def f45_L18 (call : CallF) (n : Nat) : Bool → S_api_Event → OR :=
  f45_T18 call n (f45_L22 call n)
theorem f45_e18 (call : CallF) (n : Nat) : f45_P18 f45_b call n = f45_L18 call n := by
  rw [f45_l18, f45_e22]; rfl
def f45_T19 (call : CallF) (n : Nat) (x0 : Bool) (x1 : S_api_Event) : OR :=
  some (.one (.bool x0), [[.int .i64 x1.fKind, .int .i64 x1.fSlot, .int .i64 x1.fN, .int .i64 x1.fK, .bool x1.fLmtp, .str x1.fName, .int .i64 x1.fLimit_Bytes, .int .i64 x1.fLimit_Count, .sl none 1 x1.fTo, .sl none 1 x1.fData, .int .i64 x1.fCode, .sl (some ⟨1000000, 11, 3⟩) 1 x1.fKeep]])
theorem f45_o19 (call : CallF) (n : Nat) (B : Code) (hB : B = f45_b) : f45_P19 B call n = f45_T19 call n := by
  subst hB; funext x0 x1; kernel_rfl
theorem f45_l19 (call : CallF) (n : Nat) : f45_P19 f45_b call n = f45_T19 call n :=
  f45_o19 call n _ (by kernel_rfl)
def f45_L19 (call : CallF) (n : Nat) : Bool → S_api_Event → OR :=
  f45_T19 call n
theorem f45_e19 (call : CallF) (n : Nat) : f45_P19 f45_b call n = f45_L19 call n := by
  rw [f45_l19]; rfl
def f45_T26 (call : CallF) (n : Nat) (x0 : Bool) (x1 : S_api_Event) : OR :=
  some (.one (.bool x0), [[.int .i64 x1.fKind, .int .i64 x1.fSlot, .int .i64 x1.fN, .int .i64 x1.fK, .bool x1.fLmtp, .str x1.fName, .int .i64 x1.fLimit_Bytes, .int .i64 x1.fLimit_Count, .sl none 1 x1.fTo, .sl none 1 x1.fData, .int .i64 x1.fCode, .sl (some ⟨1000000, 11, 3⟩) 1 x1.fKeep]])
theorem f45_o26 (call : CallF) (n : Nat) (B : Code) (hB : B = f45_b) : f45_P26 B call n = f45_T26 call n := by
  subst hB; funext x0 x1; kernel_rfl
theorem f45_l26 (call : CallF) (n : Nat) : f45_P26 f45_b call n = f45_T26 call n :=
  f45_o26 call n _ (by kernel_rfl)
def f45_L26 (call : CallF) (n : Nat) : Bool → S_api_Event → OR :=
  f45_T26 call n
theorem f45_e26 (call : CallF) (n : Nat) : f45_P26 f45_b call n = f45_L26 call n := by
  rw [f45_l26]; rfl
def f45_T24 (call : CallF) (n : Nat) (j26 : Bool → S_api_Event → OR) (x0 : S_api_Event) : OR :=
  j26 true x0
theorem f45_o24 (X0 : Code) (call : CallF) (n : Nat) (B : Code) (hB : B = (hole f45_b [1, 1, 0, 1, 0, 1, 1, 1, 1, 1, 1, 1, 1, 1, 1, 1, 1, 1, 1, 1, 0, 1, 0, 1, 0, 1, 1] X0)) : f45_P24 B call n = f45_T24 call n (f45_P26 B call n) := by
  subst hB; funext x0; kernel_rfl
theorem f45_l24 (call : CallF) (n : Nat) : f45_P24 f45_b call n = f45_T24 call n (f45_P26 f45_b call n) :=
  f45_o24 (piece [1, 1, 0, 1, 0, 1, 1, 1, 1, 1, 1, 1, 1, 1, 1, 1, 1, 1, 1, 1, 0, 1, 0, 1, 0, 1, 1] f45_b) call n _ (by kernel_rfl)
def f45_L24 (call : CallF) (n : Nat) : S_api_Event → OR :=
  f45_T24 call n (f45_L26 call n)
theorem f45_e24 (call : CallF) (n : Nat) : f45_P24 f45_b call n = f45_L24 call n := by
  rw [f45_l24, f45_e26]; rfl
def f45_T27 (call : CallF) (n : Nat) (x0 : Bool) (x1 : S_api_Event) : OR :=
  some (.one (.bool x0), [[.int .i64 x1.fKind, .int .i64 x1.fSlot, .int .i64 x1.fN, .int .i64 x1.fK, .bool x1.fLmtp, .str x1.fName, .int .i64 x1.fLimit_Bytes, .int .i64 x1.fLimit_Count, .sl none 1 x1.fTo, .sl none 1 x1.fData, .int .i64 x1.fCode, .sl (some ⟨1000000, 11, 3⟩) 1 x1.fKeep]])
theorem f45_o27 (call : CallF) (n : Nat) (B : Code) (hB : B = f45_b) : f45_P27 B call n = f45_T27 call n := by
  subst hB; funext x0 x1; kernel_rfl
theorem f45_l27 (call : CallF) (n : Nat) : f45_P27 f45_b call n = f45_T27 call n :=
  f45_o27 call n _ (by kernel_rfl)
def f45_L27 (call : CallF) (n : Nat) : Bool → S_api_Event → OR :=
  f45_T27 call n
theorem f45_e27 (call : CallF) (n : Nat) : f45_P27 f45_b call n = f45_L27 call n := by
  rw [f45_l27]; rfl
def f45_T25 (call : CallF) (n : Nat) (j27 : Bool → S_api_Event → OR) (x0 : LB) (x1 : S_api_Event) : OR :=
  callK call 70 [.one (.str x0)] fun v1 =>
  oB v1 fun b2 =>
  j27 b2 x1
theorem f45_o25 (X0 : Code) (call : CallF) (n : Nat) (B : Code) (hB : B = (hole f45_b [1, 1, 0, 1, 0, 1, 1, 1, 1, 1, 1, 1, 1, 1, 1, 1, 1, 1, 1, 1, 0, 1, 1, 1] X0)) : f45_P25 B call n = f45_T25 call n (f45_P27 B call n) := by
  subst hB; funext x0 x1; kernel_rfl
theorem f45_l25 (call : CallF) (n : Nat) : f45_P25 f45_b call n = f45_T25 call n (f45_P27 f45_b call n) :=
  f45_o25 (piece [1, 1, 0, 1, 0, 1, 1, 1, 1, 1, 1, 1, 1, 1, 1, 1, 1, 1, 1, 1, 0, 1, 1, 1] f45_b) call n _ (by kernel_rfl)
def f45_L25 (call : CallF) (n : Nat) : LB → S_api_Event → OR :=
  f45_T25 call n (f45_L27 call n)
theorem f45_e25 (call : CallF) (n : Nat) : f45_P25 f45_b call n = f45_L25 call n := by
  rw [f45_l25, f45_e27]; rfl
def f45_T23 (call : CallF) (n : Nat) (j24 : S_api_Event → OR) (j25 : LB → S_api_Event → OR) (x0 : LB) (x1 : Bool) (x2 : S_api_Event) : OR :=
  bif x1 then (
    j24 ({ x2 with fName := ([] : List UInt8) } : S_api_Event)) else (
    j25 x0 x2)
theorem f45_o23 (X0 X1 : Code) (call : CallF) (n : Nat) (B : Code) (hB : B = (hole (hole f45_b [1, 1, 0, 1, 0, 1, 1, 1, 1, 1, 1, 1, 1, 1, 1, 1, 1, 1, 1, 1, 0, 1, 0, 1, 0, 1] X0) [1, 1, 0, 1, 0, 1, 1, 1, 1, 1, 1, 1, 1, 1, 1, 1, 1, 1, 1, 1, 0, 1, 1] X1)) : f45_P23 B call n = f45_T23 call n (f45_P24 B call n) (f45_P25 B call n) := by
  subst hB; funext x0 x1 x2; cases x1 <;> kernel_rfl
theorem f45_l23 (call : CallF) (n : Nat) : f45_P23 f45_b call n = f45_T23 call n (f45_P24 f45_b call n) (f45_P25 f45_b call n) :=
  f45_o23 (piece [1, 1, 0, 1, 0, 1, 1, 1, 1, 1, 1, 1, 1, 1, 1, 1, 1, 1, 1, 1, 0, 1, 0, 1, 0, 1] f45_b) (piece [1, 1, 0, 1, 0, 1, 1, 1, 1, 1, 1, 1, 1, 1, 1, 1, 1, 1, 1, 1, 0, 1, 1] f45_b) call n _ (by kernel_rfl)
def f45_L23 (call : CallF) (n : Nat) : LB → Bool → S_api_Event → OR :=
  f45_T23 call n (f45_L24 call n) (f45_L25 call n)
theorem f45_e23 (call : CallF) (n : Nat) : f45_P23 f45_b call n = f45_L23 call n := by
  rw [f45_l23, f45_e24, f45_e25]; rfl
def f45_T20 (call : CallF) (n : Nat) (j23 : LB → Bool → S_api_Event → OR) (x0 : Int) (x1 : LB) (x2 : S_api_Event) : OR :=
  bif (x1 == ([42] : List UInt8)) then (
    j23 x1 (x0 == (109 : Int)) x2) else (
    j23 x1 false x2)
theorem f45_o20 (X0 : Code) (call : CallF) (n : Nat) (B : Code) (hB : B = (hole f45_b [1, 1, 0, 1, 0, 1, 1, 1, 1, 1, 1, 1, 1, 1, 1, 1, 1, 1, 1, 1, 0, 1, 0, 1] X0)) : f45_P20 B call n = f45_T20 call n (f45_P23 B call n) := by
  subst hB; funext x0 x1 x2; kernel_rfl
theorem f45_l20 (call : CallF) (n : Nat) : f45_P20 f45_b call n = f45_T20 call n (f45_P23 f45_b call n) :=
  f45_o20 (piece [1, 1, 0, 1, 0, 1, 1, 1, 1, 1, 1, 1, 1, 1, 1, 1, 1, 1, 1, 1, 0, 1, 0, 1] f45_b) call n _ (by kernel_rfl)
def f45_L20 (call : CallF) (n : Nat) : Int → LB → S_api_Event → OR :=
  f45_T20 call n (f45_L23 call n)
theorem f45_e20 (call : CallF) (n : Nat) : f45_P20 f45_b call n = f45_L20 call n := by
  rw [f45_l20, f45_e23]; rfl
def f45_T21 (call : CallF) (n : Nat) (j22 : Bool → S_api_Event → OR) (x0 : Bool) (x1 : Int) (x2 : LB) (x3 : Bool) (x4 : S_api_Event) : OR :=
  j22 x3 x4
theorem f45_o21 (X0 : Code) (call : CallF) (n : Nat) (B : Code) (hB : B = (hole f45_b [1, 1, 1, 1] X0)) : f45_P21 B call n = f45_T21 call n (f45_P22 B call n) := by
  subst hB; funext x0 x1 x2 x3 x4; kernel_rfl
theorem f45_l21 (call : CallF) (n : Nat) : f45_P21 f45_b call n = f45_T21 call n (f45_P22 f45_b call n) :=
  f45_o21 (piece [1, 1, 1, 1] f45_b) call n _ (by kernel_rfl)
def f45_L21 (call : CallF) (n : Nat) : Bool → Int → LB → Bool → S_api_Event → OR :=
  f45_T21 call n (f45_L22 call n)
theorem f45_e21 (call : CallF) (n : Nat) : f45_P21 f45_b call n = f45_L21 call n := by
  rw [f45_l21, f45_e22]; rfl
/-- pigeonhole/script.field -/
def f45_T (call : CallF) (n : Nat) (j16 : Bool → S_api_Event → OR) (j17 : Bool → S_api_Event → OR) (j18 : Bool → S_api_Event → OR) (j19 : Bool → S_api_Event → OR) (j20 : Int → LB → S_api_Event → OR) (j21 : Bool → Int → LB → Bool → S_api_Event → OR) (a0 : S_api_Event) (a1 : Int) (a2 : LB) : OR :=
  callK call 69 [.one (.str a2)] fun v9 =>
  castTup v9 fun v10 =>
  zI .i64 v10 fun n11 r12 =>
  zB r12 fun b13 r14 =>
  nilK r14 (
    bif (a1 == (115 : Int)) then (
      bif b13 then (
        bif (decide (n11 ≥ (0 : Int))) then (
          j16 (decide (n11 < (8 : Int))) ({ a0 with fSlot := n11 } : S_api_Event)) else (
          j16 false ({ a0 with fSlot := n11 } : S_api_Event))) else (
        j16 false ({ a0 with fSlot := n11 } : S_api_Event))) else (
      bif (a1 == (112 : Int)) then (
        bif (a2 == ([108, 109, 116, 112] : List UInt8)) then (
          j17 true ({ a0 with fLmtp := (a2 == ([108, 109, 116, 112] : List UInt8)) } : S_api_Event)) else (
          j17 (a2 == ([115, 109, 116, 112] : List UInt8)) ({ a0 with fLmtp := (a2 == ([108, 109, 116, 112] : List UInt8)) } : S_api_Event))) else (
        bif (a1 == (110 : Int)) then (
          j18 b13 ({ a0 with fN := n11 } : S_api_Event)) else (
          bif (a1 == (107 : Int)) then (
            j18 b13 ({ a0 with fK := n11 } : S_api_Event)) else (
            bif (a1 == (98 : Int)) then (
              j18 b13 ({ a0 with fLimit_Bytes := n11 } : S_api_Event)) else (
              bif (a1 == (99 : Int)) then (
                j18 b13 ({ a0 with fLimit_Count := n11 } : S_api_Event)) else (
                bif (a1 == (101 : Int)) then (
                  bif b13 then (
                    bif (decide (n11 ≥ (0 : Int))) then (
                      j19 (decide (n11 ≤ (17 : Int))) ({ a0 with fCode := n11 } : S_api_Event)) else (
                      j19 false ({ a0 with fCode := n11 } : S_api_Event))) else (
                    j19 false ({ a0 with fCode := n11 } : S_api_Event))) else (
                  bif (a1 == (109 : Int)) then (
                    j20 a1 a2 ({ a0 with fName := a2 } : S_api_Event)) else (
                    bif (a1 == (117 : Int)) then (
                      j20 a1 a2 ({ a0 with fName := a2 } : S_api_Event)) else (
                      j21 false a1 a2 b13 a0))))))))))
def f45_L (call : CallF) (n : Nat) (a0 : S_api_Event) (a1 : Int) (a2 : LB) : OR :=
  f45_T call n (f45_L16 call n) (f45_L17 call n) (f45_L18 call n) (f45_L19 call n) (f45_L20 call n) (f45_L21 call n) a0 a1 a2
theorem f45_o (X0 X1 X2 X3 X4 : Code) (call : CallF) (n : Nat) (B : Code) (hB : B = (hole (hole (hole (hole (hole f45_b [1, 1, 0, 1, 0, 1, 1, 1, 1, 1, 1, 1, 1, 1, 1, 1, 1, 1, 1, 1, 0, 1] X0) [1, 1, 0, 1, 0, 1, 1, 1, 1, 1, 1, 1, 1, 1, 1, 1, 1, 1, 0, 1, 1] X1) [1, 1, 0, 1, 0, 1, 1, 1, 0, 1, 1] X2) [1, 1, 0, 1, 0, 1, 0, 1, 1] X3) [1, 1, 1] X4)) : f45_P B call n = f45_T call n (f45_P16 B call n) (f45_P17 B call n) (f45_P18 B call n) (f45_P19 B call n) (f45_P20 B call n) (f45_P21 B call n) := by
  subst hB; funext a0 a1 a2; kernel_rfl
theorem f45_l (call : CallF) (n : Nat) : f45_P f45_b call n = f45_T call n (f45_P16 f45_b call n) (f45_P17 f45_b call n) (f45_P18 f45_b call n) (f45_P19 f45_b call n) (f45_P20 f45_b call n) (f45_P21 f45_b call n) :=
  f45_o (piece [1, 1, 0, 1, 0, 1, 1, 1, 1, 1, 1, 1, 1, 1, 1, 1, 1, 1, 1, 1, 0, 1] f45_b) (piece [1, 1, 0, 1, 0, 1, 1, 1, 1, 1, 1, 1, 1, 1, 1, 1, 1, 1, 0, 1, 1] f45_b) (piece [1, 1, 0, 1, 0, 1, 1, 1, 0, 1, 1] f45_b) (piece [1, 1, 0, 1, 0, 1, 0, 1, 1] f45_b) (piece [1, 1, 1] f45_b) call n _ (by kernel_rfl)
theorem f45_e (call : CallF) (n : Nat) : f45_P f45_b call n = f45_L call n := by
  rw [f45_l, f45_e16, f45_e17, f45_e18, f45_e19, f45_e20, f45_e21]; rfl
theorem f45_eq (n : Nat) (a0 : S_api_Event) (a1 : Int) (a2 : LB) : acall AXE AXF (n + 1) 45 [.one (.ptr 0 0), .one (.int .u8 a1), .one (.str a2)] [[.int .i64 a0.fKind, .int .i64 a0.fSlot, .int .i64 a0.fN, .int .i64 a0.fK, .bool a0.fLmtp, .str a0.fName, .int .i64 a0.fLimit_Bytes, .int .i64 a0.fLimit_Count, .sl none 1 a0.fTo, .sl none 1 a0.fData, .int .i64 a0.fCode, .sl (some ⟨1000000, 11, 3⟩) 1 a0.fKeep]] = f45_L (acall AXE AXF n) (n + 1) a0 a1 a2 :=
  (show _ = f45_P f45_b (acall AXE AXF n) (n + 1) a0 a1 a2 by kernel_rfl).trans (by rw [f45_e])
def f46_P2 (B : Code) (call : CallF) (n : Nat) (m0 : Nat) (x0 : LC) (x1 x2 : Int) : OR :=
  aloop 1000002 (pruneAt f46_h 1000002) (f46_x B call n [1, 0, 1, 0, 0]) (kBlk 0 (kSeq (f46_x B call n [1, 1]) (kEnd AXE 0 f46_r))) m0 ⟨[(5, .one (.sl none 1 x0)), (6, .one (.int .i64 x1)), (7, .one (.int .i64 x2))], []⟩
def f46_P (B : Code) (call : CallF) (n : Nat) (a0 : LC) : OR :=
  f46_x B call n [] (kEnd AXE 0 f46_r) ⟨[(0, .one (.sl none 1 a0))], []⟩
def f46_T2 (call : CallF) (n : Nat) (j2m : LC → Int → Int → OR) (x0 : LC) (x1 x2 : Int) : OR :=
  bif (decide (x2 < x1)) then (
    itemK x0 x2 fun c1 =>
    castS c1 fun s2 =>
    callK call 70 [.one (.str s2)] fun v3 =>
    oB v3 fun b4 =>
    bif (!b4) then (
      some (.one (.bool false), [])) else (
      j2m x0 x1 (IntKind.wrap .i64 (x2 + (1 : Int))))) else (
    some (.one (.bool true), []))
theorem f46_o2 (call : CallF) (n : Nat) (m0 : Nat) (B : Code) (hB : B = f46_b) : f46_P2 B call n (m0 + 1) = f46_T2 call n (f46_P2 B call n m0) := by
  subst hB; funext x0 x1 x2; kernel_rfl
theorem f46_l2 (call : CallF) (n : Nat) (m0 : Nat) : f46_P2 f46_b call n (m0 + 1) = f46_T2 call n (f46_P2 f46_b call n m0) :=
  f46_o2 call n m0 _ (by kernel_rfl)
def f46_L2 (call : CallF) (n : Nat) : Nat → LC → Int → Int → OR
  | 0 => fun _ _ _ => none
  | m0 + 1 => f46_T2 call n (f46_L2 call n m0)
theorem f46_e2 (call : CallF) (n : Nat) : ∀ m0 : Nat, f46_P2 f46_b call n m0 = f46_L2 call n m0
  | 0 => by funext x0 x1 x2; kernel_rfl
  | m0 + 1 => by rw [f46_l2, f46_e2 call n m0]; rfl
/-- pigeonhole/script.allNames -/
def f46_T (call : CallF) (n : Nat) (j2n : LC → Int → Int → OR) (a0 : LC) : OR :=
  j2n a0 (((a0).length / 1 : Nat) : Int) (0 : Int)
def f46_L (call : CallF) (n : Nat) (a0 : LC) : OR :=
  f46_T call n (f46_L2 call n n) a0
theorem f46_o (call : CallF) (n : Nat) (B : Code) (hB : B = f46_b) : f46_P B call n = f46_T call n (f46_P2 B call n n) := by
  subst hB; funext a0; kernel_rfl
theorem f46_l (call : CallF) (n : Nat) : f46_P f46_b call n = f46_T call n (f46_P2 f46_b call n n) :=
  f46_o call n _ (by kernel_rfl)
theorem f46_e (call : CallF) (n : Nat) : f46_P f46_b call n = f46_L call n := by
  rw [f46_l, f46_e2]; rfl
theorem f46_eq (n : Nat) (a0 : LC) : acall AXE AXF (n + 1) 46 [.one (.sl none 1 a0)] [] = f46_L (acall AXE AXF n) (n + 1) a0 :=
  (show _ = f46_P f46_b (acall AXE AXF n) (n + 1) a0 by kernel_rfl).trans (by rw [f46_e])
def f47_P2 (B : Code) (call : CallF) (n : Nat) (m0 : Nat) (x0 : LC) (x1 x2 : Int) (x3 : S_api_Event) : OR :=
  aloop 1000002 (pruneAt f47_h 1000002) (f47_x B call n [1, 0, 1, 0, 0]) (kBlk 0 (kSeq (f47_x B call n [1, 1]) (kEnd AXE 1 f47_r))) m0 ⟨[(0, .one (.ptr 0 0)), (9, .one (.sl none 1 x0)), (10, .one (.int .i64 x1)), (11, .one (.int .i64 x2))], [[.int .i64 x3.fKind, .int .i64 x3.fSlot, .int .i64 x3.fN, .int .i64 x3.fK, .bool x3.fLmtp, .str x3.fName, .int .i64 x3.fLimit_Bytes, .int .i64 x3.fLimit_Count, .sl none 1 x3.fTo, .sl none 1 x3.fData, .int .i64 x3.fCode, .sl (some ⟨1000000, 11, 3⟩) 1 x3.fKeep]]⟩
def f47_P (B : Code) (call : CallF) (n : Nat) (a0 : S_api_Event) (a1 : LC) : OR :=
  f47_x B call n [] (kEnd AXE 1 f47_r) ⟨[(0, .one (.ptr 0 0)), (1, .one (.sl none 1 a1))], [[.int .i64 a0.fKind, .int .i64 a0.fSlot, .int .i64 a0.fN, .int .i64 a0.fK, .bool a0.fLmtp, .str a0.fName, .int .i64 a0.fLimit_Bytes, .int .i64 a0.fLimit_Count, .sl none 1 a0.fTo, .sl none 1 a0.fData, .int .i64 a0.fCode, .sl (some ⟨1000000, 11, 3⟩) 1 a0.fKeep]]⟩
def f47_T2 (call : CallF) (n : Nat) (j2m : LC → Int → Int → S_api_Event → OR) (x0 : LC) (x1 x2 : Int) (x3 : S_api_Event) : OR :=
  bif (decide (x2 < x1)) then (
    itemK x0 x2 fun c1 =>
    castS c1 fun s2 =>
    callK call 69 [.one (.str s2)] fun v3 =>
    castTup v3 fun v4 =>
    zI .i64 v4 fun n5 r6 =>
    zB r6 fun b7 r8 =>
    nilK r8 (
      bif (!b7) then (
        some (.one (.bool false), [[.int .i64 x3.fKind, .int .i64 x3.fSlot, .int .i64 x3.fN, .int .i64 x3.fK, .bool x3.fLmtp, .str x3.fName, .int .i64 x3.fLimit_Bytes, .int .i64 x3.fLimit_Count, .sl none 1 x3.fTo, .sl none 1 x3.fData, .int .i64 x3.fCode, .sl (some ⟨1000000, 11, 3⟩) 1 x3.fKeep]])) else (
        guardB (decide (((x3.fKeep).length + (([.int .i64 n5] : List Cell)).length) * 1000 ≤ rowLim)) (
          j2m x0 x1 (IntKind.wrap .i64 (x2 + (1 : Int))) ({ x3 with fKeep := (x3.fKeep ++ ([.int .i64 n5] : List Cell)) } : S_api_Event))))) else (
    some (.one (.bool true), [[.int .i64 x3.fKind, .int .i64 x3.fSlot, .int .i64 x3.fN, .int .i64 x3.fK, .bool x3.fLmtp, .str x3.fName, .int .i64 x3.fLimit_Bytes, .int .i64 x3.fLimit_Count, .sl none 1 x3.fTo, .sl none 1 x3.fData, .int .i64 x3.fCode, .sl (some ⟨1000000, 11, 3⟩) 1 x3.fKeep]]))
theorem f47_o2 (call : CallF) (n : Nat) (m0 : Nat) (B : Code) (hB : B = f47_b) : f47_P2 B call n (m0 + 1) = f47_T2 call n (f47_P2 B call n m0) := by
  subst hB; funext x0 x1 x2 x3; kernel_rfl
theorem f47_l2 (call : CallF) (n : Nat) (m0 : Nat) : f47_P2 f47_b call n (m0 + 1) = f47_T2 call n (f47_P2 f47_b call n m0) :=
  f47_o2 call n m0 _ (by kernel_rfl)
def f47_L2 (call : CallF) (n : Nat) : Nat → LC → Int → Int → S_api_Event → OR
  | 0 => fun _ _ _ _ => none
  | m0 + 1 => f47_T2 call n (f47_L2 call n m0)
theorem f47_e2 (call : CallF) (n : Nat) : ∀ m0 : Nat, f47_P2 f47_b call n m0 = f47_L2 call n m0
  | 0 => by funext x0 x1 x2 x3; kernel_rfl
  | m0 + 1 => by rw [f47_l2, f47_e2 call n m0]; rfl
/-- pigeonhole/script.keep -/
def f47_T (call : CallF) (n : Nat) (j2n : LC → Int → Int → S_api_Event → OR) (a0 : S_api_Event) (a1 : LC) : OR :=
  j2n a1 (((a1).length / 1 : Nat) : Int) (0 : Int) a0
def f47_L (call : CallF) (n : Nat) (a0 : S_api_Event) (a1 : LC) : OR :=
  f47_T call n (f47_L2 call n n) a0 a1
theorem f47_o (call : CallF) (n : Nat) (B : Code) (hB : B = f47_b) : f47_P B call n = f47_T call n (f47_P2 B call n n) := by
  subst hB; funext a0 a1; kernel_rfl
theorem f47_l (call : CallF) (n : Nat) : f47_P f47_b call n = f47_T call n (f47_P2 f47_b call n n) :=
  f47_o call n _ (by kernel_rfl)
theorem f47_e (call : CallF) (n : Nat) : f47_P f47_b call n = f47_L call n := by
  rw [f47_l, f47_e2]; rfl
theorem f47_eq (n : Nat) (a0 : S_api_Event) (a1 : LC) : acall AXE AXF (n + 1) 47 [.one (.ptr 0 0), .one (.sl none 1 a1)] [[.int .i64 a0.fKind, .int .i64 a0.fSlot, .int .i64 a0.fN, .int .i64 a0.fK, .bool a0.fLmtp, .str a0.fName, .int .i64 a0.fLimit_Bytes, .int .i64 a0.fLimit_Count, .sl none 1 a0.fTo, .sl none 1 a0.fData, .int .i64 a0.fCode, .sl (some ⟨1000000, 11, 3⟩) 1 a0.fKeep]] = f47_L (acall AXE AXF n) (n + 1) a0 a1 :=
  (show _ = f47_P f47_b (acall AXE AXF n) (n + 1) a0 a1 by kernel_rfl).trans (by rw [f47_e])
def f53_P (B : Code) (call : CallF) (n : Nat) (a0 : Bool) : OR :=
  f53_x B call n [] (kEnd AXE 0 f53_r) ⟨[(0, .one (.bool a0))], []⟩
/-- pigeonhole/script.protocol -/
def f53_T (call : CallF) (n : Nat) (a0 : Bool) : OR :=
  bif a0 then (
    some (.one (.str ([108, 109, 116, 112] : List UInt8)), [])) else (
    some (.one (.str ([115, 109, 116, 112] : List UInt8)), []))
def f53_L (call : CallF) (n : Nat) (a0 : Bool) : OR :=
  f53_T call n a0
theorem f53_o (call : CallF) (n : Nat) (B : Code) (hB : B = f53_b) : f53_P B call n = f53_T call n := by
  subst hB; funext a0; kernel_rfl
theorem f53_l (call : CallF) (n : Nat) : f53_P f53_b call n = f53_T call n :=
  f53_o call n _ (by kernel_rfl)
theorem f53_e (call : CallF) (n : Nat) : f53_P f53_b call n = f53_L call n := by
  rw [f53_l]; rfl
theorem f53_eq (n : Nat) (a0 : Bool) : acall AXE AXF (n + 1) 53 [.one (.bool a0)] [] = f53_L (acall AXE AXF n) (n + 1) a0 :=
  (show _ = f53_P f53_b (acall AXE AXF n) (n + 1) a0 by kernel_rfl).trans (by rw [f53_e])
end
end AX
end Go.Proofs.YtfbicbgdfcbhpaaDoor
