/-
  The functions, printed, and that they are the reckoning.
-/
import Derived.Test.YtalkglheaadigaaDoorRxTab
set_option maxRecDepth 20000
set_option linter.unusedVariables false
set_option linter.unusedSimpArgs false
set_option linter.unusedSectionVars false
namespace Go.Proofs.YtalkglheaadigaaDoor
namespace AX
set_option linter.unusedVariables false
/-- pigeonhole/pigeonholelaw08.ReplyReads: label 13 -/
def f4_T13 (call : CallF) (n : Nat) (x0 : Bool) : Option RR :=
  some (.one (.bool x0), [])
theorem f4_l13 (call : CallF) (n : Nat) (x0 : Bool) : (f4_x call n [1, 1, 1, 1, 1, 0, 1, 0, 1]) (kSeq (f4_x call n [1, 1, 1, 1, 1, 1]) (kEnd AXE 0 f4_r)) ⟨[(4, .one (.bool x0))], []⟩ = f4_T13 call n x0 := by kernel_rfl
def f4_L13 (call : CallF) (n : Nat) (x0 : Bool) : Option RR :=
  f4_T13 call n x0
theorem f4_e13 (call : CallF) (n : Nat) (x0 : Bool) : (f4_x call n [1, 1, 1, 1, 1, 0, 1, 0, 1]) (kSeq (f4_x call n [1, 1, 1, 1, 1, 1]) (kEnd AXE 0 f4_r)) ⟨[(4, .one (.bool x0))], []⟩ = f4_L13 call n x0 := by
  rw [f4_l13]
  rfl
/-- pigeonhole/pigeonholelaw08.ReplyReads: label 17 -/
def f4_T17 (call : CallF) (n : Nat) (x0 : Bool) : Option RR :=
  some (.one (.bool x0), [])
theorem f4_l17 (call : CallF) (n : Nat) (x0 : Bool) : (f4_x call n [1, 1, 1, 1, 1, 1, 1, 1, 0, 1, 0, 1]) (kSeq (f4_x call n [1, 1, 1, 1, 1, 1, 1, 1, 1]) (kEnd AXE 0 f4_r)) ⟨[(4, .one (.bool x0))], []⟩ = f4_T17 call n x0 := by kernel_rfl
def f4_L17 (call : CallF) (n : Nat) (x0 : Bool) : Option RR :=
  f4_T17 call n x0
theorem f4_e17 (call : CallF) (n : Nat) (x0 : Bool) : (f4_x call n [1, 1, 1, 1, 1, 1, 1, 1, 0, 1, 0, 1]) (kSeq (f4_x call n [1, 1, 1, 1, 1, 1, 1, 1, 1]) (kEnd AXE 0 f4_r)) ⟨[(4, .one (.bool x0))], []⟩ = f4_L17 call n x0 := by
  rw [f4_l17]
  rfl
/-- pigeonhole/pigeonholelaw08.ReplyReads: label 18 -/
def f4_T18 (call : CallF) (n : Nat) (j18m : (List Cell) → (List Cell) → Int → Option RR) (x0 : List Cell) (x1 : List Cell) (x2 : Int) : Option RR :=
  bif (decide (x2 < (((x0).length / 3 : Nat) : Int))) then (
    guardB (decide (0 ≤ x2) && decide ((Int.toNat x2) * 3 + 3 ≤ x0.length)) (
      consK ((x0.drop ((Int.toNat x2) * 3)).take 3) fun c1 r2 =>
      castI .i64 c1 fun n3 =>
      consK r2 fun c4 r5 =>
      castS c4 fun s6 =>
      consK r5 fun c7 r8 =>
      castL 1 c7 fun _ l9 =>
      guardB (decide (0 ≤ x2) && decide ((Int.toNat x2) * 3 + 3 ≤ x1.length)) (
        consK ((x1.drop ((Int.toNat x2) * 3)).take 3) fun c10 r11 =>
        castI .i64 c10 fun n12 =>
        consK r11 fun c13 r14 =>
        castS c13 fun s15 =>
        consK r14 fun c16 r17 =>
        castL 1 c16 fun _ l18 =>
        callK call 19 [.agg [.int .i64 n3, .str s6, .sl none 1 l9], .agg [.int .i64 n12, .str s15, .sl none 1 l18]] fun v19 =>
        castOne v19 fun c20 =>
        castB c20 fun b21 =>
        bif (!b21) then (
          some (.one (.bool false), [])) else (
          j18m x0 x1 (IntKind.wrap .i64 (x2 + (1 : Int))))))) else (
    some (.one (.bool true), []))
theorem f4_l18 (call : CallF) (n : Nat) (m0 : Nat) (x0 : List Cell) (x1 : List Cell) (x2 : Int) : aloop (pruneAt f4_h 1000014) (f4_x call n [1, 1, 1, 1, 1, 1, 1, 1, 1, 0, 1, 0, 0]) (kBlk 0 (kSeq (f4_x call n [1, 1, 1, 1, 1, 1, 1, 1, 1, 1]) (kEnd AXE 0 f4_r))) (m0 + 1) ⟨[(9, .one (.sl none 3 x0)), (11, .one (.sl none 3 x1)), (13, .one (.int .i64 x2))], []⟩ = f4_T18 call n (fun y0 y1 y2 => aloop (pruneAt f4_h 1000014) (f4_x call n [1, 1, 1, 1, 1, 1, 1, 1, 1, 0, 1, 0, 0]) (kBlk 0 (kSeq (f4_x call n [1, 1, 1, 1, 1, 1, 1, 1, 1, 1]) (kEnd AXE 0 f4_r))) m0 ⟨[(9, .one (.sl none 3 y0)), (11, .one (.sl none 3 y1)), (13, .one (.int .i64 y2))], []⟩) x0 x1 x2 := by kernel_rfl
def f4_L18 (call : CallF) (n : Nat) : Nat → (List Cell) → (List Cell) → Int → Option RR
  | 0, _, _, _ => none
  | m0 + 1, x0, x1, x2 =>
    f4_T18 call n (f4_L18 call n m0) x0 x1 x2
theorem f4_e18 (call : CallF) (n : Nat) : ∀ (m0 : Nat) (x0 : List Cell) (x1 : List Cell) (x2 : Int), aloop (pruneAt f4_h 1000014) (f4_x call n [1, 1, 1, 1, 1, 1, 1, 1, 1, 0, 1, 0, 0]) (kBlk 0 (kSeq (f4_x call n [1, 1, 1, 1, 1, 1, 1, 1, 1, 1]) (kEnd AXE 0 f4_r))) m0 ⟨[(9, .one (.sl none 3 x0)), (11, .one (.sl none 3 x1)), (13, .one (.int .i64 x2))], []⟩ = f4_L18 call n m0 x0 x1 x2 := by
  intro m0
  induction m0 with
  | zero => intros; rfl
  | succ m0 ih =>
    intro x0 x1 x2
    rw [f4_l18]
    simp only [ih]
    rfl
/-- pigeonhole/pigeonholelaw08.ReplyReads: label 14 -/
def f4_T14 (call : CallF) (n : Nat) (j17 : Bool → Option RR) (j18n : (List Cell) → (List Cell) → Int → Option RR) (x0 : List Cell) (x1 : List Cell) (x2 : Bool) : Option RR :=
  bif x2 then (
    j17 false) else (
    j18n x0 x1 (0 : Int))
theorem f4_l14 (call : CallF) (n : Nat) (x0 : List Cell) (x1 : List Cell) (x2 : Bool) : (f4_x call n [1, 1, 1, 1, 1, 1, 1, 1, 0, 1]) (kSeq (f4_x call n [1, 1, 1, 1, 1, 1, 1, 1, 1]) (kEnd AXE 0 f4_r)) ⟨[(9, .one (.sl none 3 x0)), (11, .one (.sl none 3 x1)), (69, .one (.bool x2))], []⟩ = f4_T14 call n (fun y0 => (f4_x call n [1, 1, 1, 1, 1, 1, 1, 1, 0, 1, 0, 1]) (kSeq (f4_x call n [1, 1, 1, 1, 1, 1, 1, 1, 1]) (kEnd AXE 0 f4_r)) ⟨[(4, .one (.bool y0))], []⟩) (fun y0 y1 y2 => aloop (pruneAt f4_h 1000014) (f4_x call n [1, 1, 1, 1, 1, 1, 1, 1, 1, 0, 1, 0, 0]) (kBlk 0 (kSeq (f4_x call n [1, 1, 1, 1, 1, 1, 1, 1, 1, 1]) (kEnd AXE 0 f4_r))) n ⟨[(9, .one (.sl none 3 y0)), (11, .one (.sl none 3 y1)), (13, .one (.int .i64 y2))], []⟩) x0 x1 x2 := by kernel_rfl
def f4_L14 (call : CallF) (n : Nat) (x0 : List Cell) (x1 : List Cell) (x2 : Bool) : Option RR :=
  f4_T14 call n (fun y0 => f4_L17 call n y0) (fun y0 y1 y2 => f4_L18 call n n y0 y1 y2) x0 x1 x2
theorem f4_e14 (call : CallF) (n : Nat) (x0 : List Cell) (x1 : List Cell) (x2 : Bool) : (f4_x call n [1, 1, 1, 1, 1, 1, 1, 1, 0, 1]) (kSeq (f4_x call n [1, 1, 1, 1, 1, 1, 1, 1, 1]) (kEnd AXE 0 f4_r)) ⟨[(9, .one (.sl none 3 x0)), (11, .one (.sl none 3 x1)), (69, .one (.bool x2))], []⟩ = f4_L14 call n x0 x1 x2 := by
  rw [f4_l14]
  simp only [f4_e17, f4_e18]
  rfl
/-- pigeonhole/pigeonholelaw08.ReplyReads: label 9 -/
def f4_T9 (call : CallF) (n : Nat) (j13 : Bool → Option RR) (j14 : (List Cell) → (List Cell) → Bool → Option RR) (x0 : List Cell) (x1 : Bool) (x2 : Bool) : Option RR :=
  bif x2 then (
    j13 false) else (
    callK call 20 [.one (.sl none 1 x0), .one (.bool x1)] fun v1 =>
    castTup v1 fun v2 =>
    consK v2 fun z3 r4 =>
    oneV z3 fun c5 =>
    castL 3 c5 fun _ l6 =>
    consK r4 fun z7 r8 =>
    oneV z7 fun c9 =>
    castI .i64 c9 fun n10 =>
    nilK r8 (
      bytesK x0 fun s11 =>
      callK call 21 [.one (.str s11), .one (.bool x1)] fun v12 =>
      castTup v12 fun v13 =>
      consK v13 fun z14 r15 =>
      oneV z14 fun c16 =>
      castL 3 c16 fun _ l17 =>
      consK r15 fun z18 r19 =>
      oneV z18 fun c20 =>
      castI .i64 c20 fun n21 =>
      nilK r19 (
        bif ((((l6).length / 3 : Nat) : Int) != (((l17).length / 3 : Nat) : Int)) then (
          j14 l6 l17 true) else (
          j14 l6 l17 (n10 != n21)))))
theorem f4_l9 (call : CallF) (n : Nat) (x0 : List Cell) (x1 : Bool) (x2 : Bool) : (f4_x call n [1, 1, 1, 1, 1, 0, 1]) (kSeq (f4_x call n [1, 1, 1, 1, 1, 1]) (kEnd AXE 0 f4_r)) ⟨[(0, .one (.sl none 1 x0)), (1, .one (.bool x1)), (46, .one (.bool x2))], []⟩ = f4_T9 call n (fun y0 => (f4_x call n [1, 1, 1, 1, 1, 0, 1, 0, 1]) (kSeq (f4_x call n [1, 1, 1, 1, 1, 1]) (kEnd AXE 0 f4_r)) ⟨[(4, .one (.bool y0))], []⟩) (fun y0 y1 y2 => (f4_x call n [1, 1, 1, 1, 1, 1, 1, 1, 0, 1]) (kSeq (f4_x call n [1, 1, 1, 1, 1, 1, 1, 1, 1]) (kEnd AXE 0 f4_r)) ⟨[(9, .one (.sl none 3 y0)), (11, .one (.sl none 3 y1)), (69, .one (.bool y2))], []⟩) x0 x1 x2 := by kernel_rfl
def f4_L9 (call : CallF) (n : Nat) (x0 : List Cell) (x1 : Bool) (x2 : Bool) : Option RR :=
  f4_T9 call n (fun y0 => f4_L13 call n y0) (fun y0 y1 y2 => f4_L14 call n y0 y1 y2) x0 x1 x2
theorem f4_e9 (call : CallF) (n : Nat) (x0 : List Cell) (x1 : Bool) (x2 : Bool) : (f4_x call n [1, 1, 1, 1, 1, 0, 1]) (kSeq (f4_x call n [1, 1, 1, 1, 1, 1]) (kEnd AXE 0 f4_r)) ⟨[(0, .one (.sl none 1 x0)), (1, .one (.bool x1)), (46, .one (.bool x2))], []⟩ = f4_L9 call n x0 x1 x2 := by
  rw [f4_l9]
  simp only [f4_e13, f4_e14]
  rfl
/-- pigeonhole/pigeonholelaw08.ReplyReads -/
def f4_T (call : CallF) (n : Nat) (j9 : (List Cell) → Bool → Bool → Option RR) (a0 : List Cell) (a1 : Bool) : Option RR :=
  callK call 16 [] fun v89 =>
  castOne v89 fun c90 =>
  castB c90 fun b91 =>
  bif (!b91) then (
    some (.one (.bool false), [])) else (
    bif (decide ((((a0).length / 1 : Nat) : Int) > (2000 : Int))) then (
      some (.one (.bool true), [])) else (
      primK pRead [.one (.sl none 1 a0), .one (.bool a1)] fun v92 =>
      castTup v92 fun v93 =>
      consK v93 fun z94 r95 =>
      aggV z94 fun r96 =>
      consK r96 fun c97 r98 =>
      castI .i64 c97 fun n99 =>
      consK r98 fun c100 r101 =>
      castS c100 fun s102 =>
      consK r101 fun c103 r104 =>
      castL 1 c103 fun _ l105 =>
      nilK r104 (
        consK r95 fun z106 r107 =>
        oneV z106 fun c108 =>
        castI .i64 c108 fun n109 =>
        consK r107 fun z110 r111 =>
        oneV z110 fun c112 =>
        castI .i64 c112 fun n113 =>
        nilK r111 (
          bytesK a0 fun s114 =>
          callK call 18 [.one (.str s114), .one (.int .i64 (0 : Int)), .one (.bool a1)] fun v115 =>
          castAgg v115 fun r116 =>
          consK r116 fun c117 r118 =>
          castI .i64 c117 fun n119 =>
          consK r118 fun c120 r121 =>
          castS c120 fun s122 =>
          consK r121 fun c123 r124 =>
          castL 1 c123 fun _ l125 =>
          consK r124 fun c126 r127 =>
          castI .i64 c126 fun n128 =>
          consK r127 fun c129 r130 =>
          castI .i64 c129 fun n131 =>
          nilK r130 (
            callK call 19 [.agg [.int .i64 n99, .str s102, .sl none 1 l105], .agg [.int .i64 n119, .str s122, .sl none 1 l125]] fun v132 =>
            castOne v132 fun c133 =>
            castB c133 fun b134 =>
            bif (!b134) then (
              j9 a0 a1 true) else (
              bif (n109 != n128) then (
                j9 a0 a1 true) else (
                j9 a0 a1 (n113 != n131))))))))
def f4_L (call : CallF) (n : Nat) (a0 : List Cell) (a1 : Bool) : Option RR :=
  f4_T call n (fun y0 y1 y2 => f4_L9 call n y0 y1 y2) a0 a1
theorem f4_l (n : Nat) (a0 : List Cell) (a1 : Bool) : acall AXE AXF (n + 1) 4 [.one (.sl none 1 a0), .one (.bool a1)] [] = f4_T (acall AXE AXF n) (n + 1) (fun y0 y1 y2 => (f4_x (acall AXE AXF n) (n + 1) [1, 1, 1, 1, 1, 0, 1]) (kSeq (f4_x (acall AXE AXF n) (n + 1) [1, 1, 1, 1, 1, 1]) (kEnd AXE 0 f4_r)) ⟨[(0, .one (.sl none 1 y0)), (1, .one (.bool y1)), (46, .one (.bool y2))], []⟩) a0 a1 := by kernel_rfl
theorem f4_eq (n : Nat) (a0 : List Cell) (a1 : Bool) : acall AXE AXF (n + 1) 4 [.one (.sl none 1 a0), .one (.bool a1)] [] = f4_L (acall AXE AXF n) (n + 1) a0 a1 := by
  rw [f4_l]
  simp only [f4_e9]
  rfl
/-- pigeonhole/pigeonholelaw08.ReplyBack: label 29 -/
def f5_T29 (call : CallF) (n : Nat) (j10m : (List Cell) → Bool → (List Cell) → (List Cell) → Int → Option RR) (x0 : List Cell) (x1 : Bool) (x2 : List Cell) (x3 : List Cell) (x4 : Int) (x5 : List Cell) : Option RR :=
  j10m x0 x1 x2 x3 (IntKind.wrap .i64 (x4 + (1 : Int)))
theorem f5_l29 (call : CallF) (n : Nat) (m0 : Nat) (x0 : List Cell) (x1 : Bool) (x2 : List Cell) (x3 : List Cell) (x4 : Int) (x5 : List Cell) : (f5_x call n [1, 1, 1, 1, 1, 0, 1, 0, 0, 1, 1]) (kSeq (fun k => prK (pruneAt f5_h 1000008) (aloop (pruneAt f5_h 1000008) (f5_x call n [1, 1, 1, 1, 1, 0, 1, 0, 0]) k m0)) (kBlk 0 (kSeq (f5_x call n [1, 1, 1, 1, 1, 1]) (kEnd AXE 0 f5_r)))) ⟨[(0, .one (.sl none 3 x0)), (1, .one (.bool x1)), (5, .one (.sl (some ⟨5, 0, 5⟩) 1 x2)), (6, .one (.sl (some ⟨6, 0, 27⟩) 3 x3)), (7, .one (.int .i64 x4)), (8, .one (.sl none 1 x5))], []⟩ = f5_T29 call n (fun y0 y1 y2 y3 y4 => aloop (pruneAt f5_h 1000008) (f5_x call n [1, 1, 1, 1, 1, 0, 1, 0, 0]) (kBlk 0 (kSeq (f5_x call n [1, 1, 1, 1, 1, 1]) (kEnd AXE 0 f5_r))) m0 ⟨[(0, .one (.sl none 3 y0)), (1, .one (.bool y1)), (5, .one (.sl (some ⟨5, 0, 5⟩) 1 y2)), (6, .one (.sl (some ⟨6, 0, 27⟩) 3 y3)), (7, .one (.int .i64 y4))], []⟩) x0 x1 x2 x3 x4 x5 := by kernel_rfl
def f5_L29 (call : CallF) (n : Nat) (h_m0 : (List Cell) → Bool → (List Cell) → (List Cell) → Int → Option RR) (x0 : List Cell) (x1 : Bool) (x2 : List Cell) (x3 : List Cell) (x4 : Int) (x5 : List Cell) : Option RR :=
  f5_T29 call n h_m0 x0 x1 x2 x3 x4 x5
theorem f5_e29 (call : CallF) (n : Nat) (m0 : Nat) (x0 : List Cell) (x1 : Bool) (x2 : List Cell) (x3 : List Cell) (x4 : Int) (x5 : List Cell) : (f5_x call n [1, 1, 1, 1, 1, 0, 1, 0, 0, 1, 1]) (kSeq (fun k => prK (pruneAt f5_h 1000008) (aloop (pruneAt f5_h 1000008) (f5_x call n [1, 1, 1, 1, 1, 0, 1, 0, 0]) k m0)) (kBlk 0 (kSeq (f5_x call n [1, 1, 1, 1, 1, 1]) (kEnd AXE 0 f5_r)))) ⟨[(0, .one (.sl none 3 x0)), (1, .one (.bool x1)), (5, .one (.sl (some ⟨5, 0, 5⟩) 1 x2)), (6, .one (.sl (some ⟨6, 0, 27⟩) 3 x3)), (7, .one (.int .i64 x4)), (8, .one (.sl none 1 x5))], []⟩ = f5_L29 call n (fun y0 y1 y2 y3 y4 => aloop (pruneAt f5_h 1000008) (f5_x call n [1, 1, 1, 1, 1, 0, 1, 0, 0]) (kBlk 0 (kSeq (f5_x call n [1, 1, 1, 1, 1, 1]) (kEnd AXE 0 f5_r))) m0 ⟨[(0, .one (.sl none 3 y0)), (1, .one (.bool y1)), (5, .one (.sl (some ⟨5, 0, 5⟩) 1 y2)), (6, .one (.sl (some ⟨6, 0, 27⟩) 3 y3)), (7, .one (.int .i64 y4))], []⟩) x0 x1 x2 x3 x4 x5 := by
  rw [f5_l29]
  rfl
/-- pigeonhole/pigeonholelaw08.ReplyBack: label 22 -/
def f5_T22 (call : CallF) (n : Nat) (j29 : (List Cell) → Bool → (List Cell) → (List Cell) → Int → (List Cell) → Option RR) (j10m : (List Cell) → Bool → (List Cell) → (List Cell) → Int → Option RR) (x0 : List Cell) (x1 : Bool) (x2 : List Cell) (x3 : List Cell) (x4 : Int) (x5 : List Cell) (x6 : Bool) : Option RR :=
  bif x6 then (
    j29 x0 x1 x2 x3 x4 x5) else (
    guardB (decide (((x2).length + (x5).length) * 100 ≤ rowLim)) (
      guardB (decide (0 ≤ x4) && decide ((Int.toNat x4) * 3 + 3 ≤ x0.length)) (
        consK ((x0.drop ((Int.toNat x4) * 3)).take 3) fun c1 r2 =>
        castI .i64 c1 fun n3 =>
        consK r2 fun c4 r5 =>
        castS c4 fun s6 =>
        consK r5 fun c7 r8 =>
        castL 1 c7 fun _ l9 =>
        guardB (decide (((x3).length + (([.int .i64 n3, .str s6, .sl none 1 l9] : List Cell)).length) * 100 ≤ rowLim)) (
          j10m x0 x1 (x2 ++ x5) (x3 ++ ([.int .i64 n3, .str s6, .sl none 1 l9] : List Cell)) (IntKind.wrap .i64 (x4 + (1 : Int)))))))
theorem f5_l22 (call : CallF) (n : Nat) (m0 : Nat) (x0 : List Cell) (x1 : Bool) (x2 : List Cell) (x3 : List Cell) (x4 : Int) (x5 : List Cell) (x6 : Bool) : (f5_x call n [1, 1, 1, 1, 1, 0, 1, 0, 0, 1, 0, 0, 1, 1, 1, 0, 1]) (kSeq (f5_x call n [1, 1, 1, 1, 1, 0, 1, 0, 0, 1, 0, 0, 1, 1, 1, 1]) (kBlk 1 (kSeq (f5_x call n [1, 1, 1, 1, 1, 0, 1, 0, 0, 1, 1]) (kSeq (fun k => prK (pruneAt f5_h 1000008) (aloop (pruneAt f5_h 1000008) (f5_x call n [1, 1, 1, 1, 1, 0, 1, 0, 0]) k m0)) (kBlk 0 (kSeq (f5_x call n [1, 1, 1, 1, 1, 1]) (kEnd AXE 0 f5_r))))))) ⟨[(0, .one (.sl none 3 x0)), (1, .one (.bool x1)), (5, .one (.sl (some ⟨5, 0, 5⟩) 1 x2)), (6, .one (.sl (some ⟨6, 0, 27⟩) 3 x3)), (7, .one (.int .i64 x4)), (8, .one (.sl none 1 x5)), (57, .one (.bool x6))], []⟩ = f5_T22 call n (fun y0 y1 y2 y3 y4 y5 => (f5_x call n [1, 1, 1, 1, 1, 0, 1, 0, 0, 1, 1]) (kSeq (fun k => prK (pruneAt f5_h 1000008) (aloop (pruneAt f5_h 1000008) (f5_x call n [1, 1, 1, 1, 1, 0, 1, 0, 0]) k m0)) (kBlk 0 (kSeq (f5_x call n [1, 1, 1, 1, 1, 1]) (kEnd AXE 0 f5_r)))) ⟨[(0, .one (.sl none 3 y0)), (1, .one (.bool y1)), (5, .one (.sl (some ⟨5, 0, 5⟩) 1 y2)), (6, .one (.sl (some ⟨6, 0, 27⟩) 3 y3)), (7, .one (.int .i64 y4)), (8, .one (.sl none 1 y5))], []⟩) (fun y0 y1 y2 y3 y4 => aloop (pruneAt f5_h 1000008) (f5_x call n [1, 1, 1, 1, 1, 0, 1, 0, 0]) (kBlk 0 (kSeq (f5_x call n [1, 1, 1, 1, 1, 1]) (kEnd AXE 0 f5_r))) m0 ⟨[(0, .one (.sl none 3 y0)), (1, .one (.bool y1)), (5, .one (.sl (some ⟨5, 0, 5⟩) 1 y2)), (6, .one (.sl (some ⟨6, 0, 27⟩) 3 y3)), (7, .one (.int .i64 y4))], []⟩) x0 x1 x2 x3 x4 x5 x6 := by kernel_rfl
def f5_L22 (call : CallF) (n : Nat) (h_m0 : (List Cell) → Bool → (List Cell) → (List Cell) → Int → Option RR) (x0 : List Cell) (x1 : Bool) (x2 : List Cell) (x3 : List Cell) (x4 : Int) (x5 : List Cell) (x6 : Bool) : Option RR :=
  f5_T22 call n (fun y0 y1 y2 y3 y4 y5 => f5_L29 call n h_m0 y0 y1 y2 y3 y4 y5) h_m0 x0 x1 x2 x3 x4 x5 x6
theorem f5_e22 (call : CallF) (n : Nat) (m0 : Nat) (x0 : List Cell) (x1 : Bool) (x2 : List Cell) (x3 : List Cell) (x4 : Int) (x5 : List Cell) (x6 : Bool) : (f5_x call n [1, 1, 1, 1, 1, 0, 1, 0, 0, 1, 0, 0, 1, 1, 1, 0, 1]) (kSeq (f5_x call n [1, 1, 1, 1, 1, 0, 1, 0, 0, 1, 0, 0, 1, 1, 1, 1]) (kBlk 1 (kSeq (f5_x call n [1, 1, 1, 1, 1, 0, 1, 0, 0, 1, 1]) (kSeq (fun k => prK (pruneAt f5_h 1000008) (aloop (pruneAt f5_h 1000008) (f5_x call n [1, 1, 1, 1, 1, 0, 1, 0, 0]) k m0)) (kBlk 0 (kSeq (f5_x call n [1, 1, 1, 1, 1, 1]) (kEnd AXE 0 f5_r))))))) ⟨[(0, .one (.sl none 3 x0)), (1, .one (.bool x1)), (5, .one (.sl (some ⟨5, 0, 5⟩) 1 x2)), (6, .one (.sl (some ⟨6, 0, 27⟩) 3 x3)), (7, .one (.int .i64 x4)), (8, .one (.sl none 1 x5)), (57, .one (.bool x6))], []⟩ = f5_L22 call n (fun y0 y1 y2 y3 y4 => aloop (pruneAt f5_h 1000008) (f5_x call n [1, 1, 1, 1, 1, 0, 1, 0, 0]) (kBlk 0 (kSeq (f5_x call n [1, 1, 1, 1, 1, 1]) (kEnd AXE 0 f5_r))) m0 ⟨[(0, .one (.sl none 3 y0)), (1, .one (.bool y1)), (5, .one (.sl (some ⟨5, 0, 5⟩) 1 y2)), (6, .one (.sl (some ⟨6, 0, 27⟩) 3 y3)), (7, .one (.int .i64 y4))], []⟩) x0 x1 x2 x3 x4 x5 x6 := by
  rw [f5_l22]
  simp only [f5_e29]
  rfl
/-- pigeonhole/pigeonholelaw08.ReplyBack: label 30 -/
def f5_T30 (call : CallF) (n : Nat) (x0 : Bool) : Option RR :=
  some (.one (.bool x0), [])
theorem f5_l30 (call : CallF) (n : Nat) (x0 : Bool) : (f5_x call n [1, 1, 1, 1, 1, 1, 1, 0, 1, 0, 1]) (kSeq (f5_x call n [1, 1, 1, 1, 1, 1, 1, 1]) (kEnd AXE 0 f5_r)) ⟨[(4, .one (.bool x0))], []⟩ = f5_T30 call n x0 := by kernel_rfl
def f5_L30 (call : CallF) (n : Nat) (x0 : Bool) : Option RR :=
  f5_T30 call n x0
theorem f5_e30 (call : CallF) (n : Nat) (x0 : Bool) : (f5_x call n [1, 1, 1, 1, 1, 1, 1, 0, 1, 0, 1]) (kSeq (f5_x call n [1, 1, 1, 1, 1, 1, 1, 1]) (kEnd AXE 0 f5_r)) ⟨[(4, .one (.bool x0))], []⟩ = f5_L30 call n x0 := by
  rw [f5_l30]
  rfl
/-- pigeonhole/pigeonholelaw08.ReplyBack: label 31 -/
def f5_T31 (call : CallF) (n : Nat) (j31m : (List Cell) → (List Cell) → Int → Option RR) (x0 : List Cell) (x1 : List Cell) (x2 : Int) : Option RR :=
  bif (decide (x2 < (((x0).length / 3 : Nat) : Int))) then (
    guardB (decide (0 ≤ x2) && decide ((Int.toNat x2) * 3 + 3 ≤ x1.length)) (
      consK ((x1.drop ((Int.toNat x2) * 3)).take 3) fun c1 r2 =>
      castI .i64 c1 fun n3 =>
      consK r2 fun c4 r5 =>
      castS c4 fun s6 =>
      consK r5 fun c7 r8 =>
      castL 1 c7 fun _ l9 =>
      guardB (decide (0 ≤ x2) && decide ((Int.toNat x2) * 3 + 3 ≤ x0.length)) (
        consK ((x0.drop ((Int.toNat x2) * 3)).take 3) fun c10 r11 =>
        castI .i64 c10 fun n12 =>
        consK r11 fun c13 r14 =>
        castS c13 fun s15 =>
        consK r14 fun c16 r17 =>
        castL 1 c16 fun _ l18 =>
        callK call 19 [.agg [.int .i64 n3, .str s6, .sl none 1 l9], .agg [.int .i64 n12, .str s15, .sl none 1 l18]] fun v19 =>
        castOne v19 fun c20 =>
        castB c20 fun b21 =>
        bif (!b21) then (
          some (.one (.bool false), [])) else (
          j31m x0 x1 (IntKind.wrap .i64 (x2 + (1 : Int))))))) else (
    some (.one (.bool true), []))
theorem f5_l31 (call : CallF) (n : Nat) (m0 : Nat) (x0 : List Cell) (x1 : List Cell) (x2 : Int) : aloop (pruneAt f5_h 1000022) (f5_x call n [1, 1, 1, 1, 1, 1, 1, 1, 0, 1, 0, 0]) (kBlk 2 (kSeq (f5_x call n [1, 1, 1, 1, 1, 1, 1, 1, 1]) (kEnd AXE 0 f5_r))) (m0 + 1) ⟨[(6, .one (.sl (some ⟨6, 0, 27⟩) 3 x0)), (10, .one (.sl none 3 x1)), (12, .one (.int .i64 x2))], []⟩ = f5_T31 call n (fun y0 y1 y2 => aloop (pruneAt f5_h 1000022) (f5_x call n [1, 1, 1, 1, 1, 1, 1, 1, 0, 1, 0, 0]) (kBlk 2 (kSeq (f5_x call n [1, 1, 1, 1, 1, 1, 1, 1, 1]) (kEnd AXE 0 f5_r))) m0 ⟨[(6, .one (.sl (some ⟨6, 0, 27⟩) 3 y0)), (10, .one (.sl none 3 y1)), (12, .one (.int .i64 y2))], []⟩) x0 x1 x2 := by kernel_rfl
def f5_L31 (call : CallF) (n : Nat) : Nat → (List Cell) → (List Cell) → Int → Option RR
  | 0, _, _, _ => none
  | m0 + 1, x0, x1, x2 =>
    f5_T31 call n (f5_L31 call n m0) x0 x1 x2
theorem f5_e31 (call : CallF) (n : Nat) : ∀ (m0 : Nat) (x0 : List Cell) (x1 : List Cell) (x2 : Int), aloop (pruneAt f5_h 1000022) (f5_x call n [1, 1, 1, 1, 1, 1, 1, 1, 0, 1, 0, 0]) (kBlk 2 (kSeq (f5_x call n [1, 1, 1, 1, 1, 1, 1, 1, 1]) (kEnd AXE 0 f5_r))) m0 ⟨[(6, .one (.sl (some ⟨6, 0, 27⟩) 3 x0)), (10, .one (.sl none 3 x1)), (12, .one (.int .i64 x2))], []⟩ = f5_L31 call n m0 x0 x1 x2 := by
  intro m0
  induction m0 with
  | zero => intros; rfl
  | succ m0 ih =>
    intro x0 x1 x2
    rw [f5_l31]
    simp only [ih]
    rfl
/-- pigeonhole/pigeonholelaw08.ReplyBack: label 26 -/
def f5_T26 (call : CallF) (n : Nat) (j30 : Bool → Option RR) (j31n : (List Cell) → (List Cell) → Int → Option RR) (x0 : List Cell) (x1 : List Cell) (x2 : Bool) : Option RR :=
  bif x2 then (
    j30 false) else (
    j31n x0 x1 (0 : Int))
theorem f5_l26 (call : CallF) (n : Nat) (x0 : List Cell) (x1 : List Cell) (x2 : Bool) : (f5_x call n [1, 1, 1, 1, 1, 1, 1, 0, 1]) (kSeq (f5_x call n [1, 1, 1, 1, 1, 1, 1, 1]) (kEnd AXE 0 f5_r)) ⟨[(6, .one (.sl (some ⟨6, 0, 27⟩) 3 x0)), (10, .one (.sl none 3 x1)), (82, .one (.bool x2))], []⟩ = f5_T26 call n (fun y0 => (f5_x call n [1, 1, 1, 1, 1, 1, 1, 0, 1, 0, 1]) (kSeq (f5_x call n [1, 1, 1, 1, 1, 1, 1, 1]) (kEnd AXE 0 f5_r)) ⟨[(4, .one (.bool y0))], []⟩) (fun y0 y1 y2 => aloop (pruneAt f5_h 1000022) (f5_x call n [1, 1, 1, 1, 1, 1, 1, 1, 0, 1, 0, 0]) (kBlk 2 (kSeq (f5_x call n [1, 1, 1, 1, 1, 1, 1, 1, 1]) (kEnd AXE 0 f5_r))) n ⟨[(6, .one (.sl (some ⟨6, 0, 27⟩) 3 y0)), (10, .one (.sl none 3 y1)), (12, .one (.int .i64 y2))], []⟩) x0 x1 x2 := by kernel_rfl
def f5_L26 (call : CallF) (n : Nat) (x0 : List Cell) (x1 : List Cell) (x2 : Bool) : Option RR :=
  f5_T26 call n (fun y0 => f5_L30 call n y0) (fun y0 y1 y2 => f5_L31 call n n y0 y1 y2) x0 x1 x2
theorem f5_e26 (call : CallF) (n : Nat) (x0 : List Cell) (x1 : List Cell) (x2 : Bool) : (f5_x call n [1, 1, 1, 1, 1, 1, 1, 0, 1]) (kSeq (f5_x call n [1, 1, 1, 1, 1, 1, 1, 1]) (kEnd AXE 0 f5_r)) ⟨[(6, .one (.sl (some ⟨6, 0, 27⟩) 3 x0)), (10, .one (.sl none 3 x1)), (82, .one (.bool x2))], []⟩ = f5_L26 call n x0 x1 x2 := by
  rw [f5_l26]
  simp only [f5_e30, f5_e31]
  rfl
/-- pigeonhole/pigeonholelaw08.ReplyBack: label 10 -/
def f5_T10 (call : CallF) (n : Nat) (j22 : (List Cell) → Bool → (List Cell) → (List Cell) → Int → (List Cell) → Bool → Option RR) (j26 : (List Cell) → (List Cell) → Bool → Option RR) (x0 : List Cell) (x1 : Bool) (x2 : List Cell) (x3 : List Cell) (x4 : Int) : Option RR :=
  bif (decide (x4 < (((x0).length / 3 : Nat) : Int))) then (
    guardB (decide (0 ≤ x4) && decide ((Int.toNat x4) * 3 + 3 ≤ x0.length)) (
      consK ((x0.drop ((Int.toNat x4) * 3)).take 3) fun c1 r2 =>
      castI .i64 c1 fun n3 =>
      consK r2 fun c4 r5 =>
      castS c4 fun s6 =>
      consK r5 fun c7 r8 =>
      castL 1 c7 fun _ l9 =>
      primK pFew [.agg [.int .i64 n3, .str s6, .sl none 1 l9]] fun v10 =>
      castOne v10 fun c11 =>
      castB c11 fun b12 =>
      bif (!b12) then (
        some (.one (.bool true), [])) else (
        guardB (decide (0 ≤ x4) && decide ((Int.toNat x4) * 3 + 3 ≤ x0.length)) (
          consK ((x0.drop ((Int.toNat x4) * 3)).take 3) fun c13 r14 =>
          castI .i64 c13 fun n15 =>
          consK r14 fun c16 r17 =>
          castS c16 fun s18 =>
          consK r17 fun c19 r20 =>
          castL 1 c19 fun _ l21 =>
          primK pBytes [.agg [.int .i64 n15, .str s18, .sl none 1 l21]] fun v22 =>
          castTup v22 fun v23 =>
          consK v23 fun z24 r25 =>
          oneV z24 fun c26 =>
          castL 1 c26 fun _ l27 =>
          consK r25 fun z28 r29 =>
          oneV z28 fun c30 =>
          castI .i64 c30 fun n31 =>
          nilK r29 (
            guardB (decide (0 ≤ x4) && decide ((Int.toNat x4) * 3 + 3 ≤ x0.length)) (
              consK ((x0.drop ((Int.toNat x4) * 3)).take 3) fun c32 r33 =>
              castI .i64 c32 fun n34 =>
              consK r33 fun c35 r36 =>
              castS c35 fun s37 =>
              consK r36 fun c38 r39 =>
              castL 1 c38 fun _ l40 =>
              primK pGood [.agg [.int .i64 n34, .str s37, .sl none 1 l40]] fun v41 =>
              castOne v41 fun c42 =>
              castB c42 fun b43 =>
              bif (!((n31 == (0 : Int)) == b43)) then (
                some (.one (.bool false), [])) else (
                bif (n31 != (0 : Int)) then (
                  j22 x0 x1 x2 x3 x4 l27 true) else (
                  guardB (decide (0 ≤ x4) && decide ((Int.toNat x4) * 3 + 3 ≤ x0.length)) (
                    consK ((((x0.drop ((Int.toNat x4) * 3)).take 3).drop 1).take 1) fun c44 r45 =>
                    castS c44 fun s46 =>
                    j22 x0 x1 x2 x3 x4 l27 (!((!(s46 == ([] : List UInt8))) == x1))))))))))) else (
    callK call 20 [.one (.sl none 1 x2), .one (.bool x1)] fun v47 =>
    castTup v47 fun v48 =>
    consK v48 fun z49 r50 =>
    oneV z49 fun c51 =>
    castL 3 c51 fun _ l52 =>
    consK r50 fun z53 r54 =>
    oneV z53 fun c55 =>
    castI .i64 c55 fun n56 =>
    nilK r54 (
      bif (n56 != (0 : Int)) then (
        j26 x3 l52 true) else (
        j26 x3 l52 ((((l52).length / 3 : Nat) : Int) != (((x3).length / 3 : Nat) : Int)))))
theorem f5_l10 (call : CallF) (n : Nat) (m0 : Nat) (x0 : List Cell) (x1 : Bool) (x2 : List Cell) (x3 : List Cell) (x4 : Int) : aloop (pruneAt f5_h 1000008) (f5_x call n [1, 1, 1, 1, 1, 0, 1, 0, 0]) (kBlk 0 (kSeq (f5_x call n [1, 1, 1, 1, 1, 1]) (kEnd AXE 0 f5_r))) (m0 + 1) ⟨[(0, .one (.sl none 3 x0)), (1, .one (.bool x1)), (5, .one (.sl (some ⟨5, 0, 5⟩) 1 x2)), (6, .one (.sl (some ⟨6, 0, 27⟩) 3 x3)), (7, .one (.int .i64 x4))], []⟩ = f5_T10 call n (fun y0 y1 y2 y3 y4 y5 y6 => (f5_x call n [1, 1, 1, 1, 1, 0, 1, 0, 0, 1, 0, 0, 1, 1, 1, 0, 1]) (kSeq (f5_x call n [1, 1, 1, 1, 1, 0, 1, 0, 0, 1, 0, 0, 1, 1, 1, 1]) (kBlk 1 (kSeq (f5_x call n [1, 1, 1, 1, 1, 0, 1, 0, 0, 1, 1]) (kSeq (fun k => prK (pruneAt f5_h 1000008) (aloop (pruneAt f5_h 1000008) (f5_x call n [1, 1, 1, 1, 1, 0, 1, 0, 0]) k m0)) (kBlk 0 (kSeq (f5_x call n [1, 1, 1, 1, 1, 1]) (kEnd AXE 0 f5_r))))))) ⟨[(0, .one (.sl none 3 y0)), (1, .one (.bool y1)), (5, .one (.sl (some ⟨5, 0, 5⟩) 1 y2)), (6, .one (.sl (some ⟨6, 0, 27⟩) 3 y3)), (7, .one (.int .i64 y4)), (8, .one (.sl none 1 y5)), (57, .one (.bool y6))], []⟩) (fun y0 y1 y2 => (f5_x call n [1, 1, 1, 1, 1, 1, 1, 0, 1]) (kSeq (f5_x call n [1, 1, 1, 1, 1, 1, 1, 1]) (kEnd AXE 0 f5_r)) ⟨[(6, .one (.sl (some ⟨6, 0, 27⟩) 3 y0)), (10, .one (.sl none 3 y1)), (82, .one (.bool y2))], []⟩) x0 x1 x2 x3 x4 := by kernel_rfl
def f5_L10 (call : CallF) (n : Nat) : Nat → (List Cell) → Bool → (List Cell) → (List Cell) → Int → Option RR
  | 0, _, _, _, _, _ => none
  | m0 + 1, x0, x1, x2, x3, x4 =>
    f5_T10 call n (fun y0 y1 y2 y3 y4 y5 y6 => f5_L22 call n (f5_L10 call n m0) y0 y1 y2 y3 y4 y5 y6) (fun y0 y1 y2 => f5_L26 call n y0 y1 y2) x0 x1 x2 x3 x4
theorem f5_e10 (call : CallF) (n : Nat) : ∀ (m0 : Nat) (x0 : List Cell) (x1 : Bool) (x2 : List Cell) (x3 : List Cell) (x4 : Int), aloop (pruneAt f5_h 1000008) (f5_x call n [1, 1, 1, 1, 1, 0, 1, 0, 0]) (kBlk 0 (kSeq (f5_x call n [1, 1, 1, 1, 1, 1]) (kEnd AXE 0 f5_r))) m0 ⟨[(0, .one (.sl none 3 x0)), (1, .one (.bool x1)), (5, .one (.sl (some ⟨5, 0, 5⟩) 1 x2)), (6, .one (.sl (some ⟨6, 0, 27⟩) 3 x3)), (7, .one (.int .i64 x4))], []⟩ = f5_L10 call n m0 x0 x1 x2 x3 x4 := by
  intro m0
  induction m0 with
  | zero => intros; rfl
  | succ m0 ih =>
    intro x0 x1 x2 x3 x4
    rw [f5_l10]
    simp only [f5_e22, f5_e26, ih]
    rfl
/-- pigeonhole/pigeonholelaw08.ReplyBack -/
def f5_T (call : CallF) (n : Nat) (j10n : (List Cell) → Bool → (List Cell) → (List Cell) → Int → Option RR) (a0 : List Cell) (a1 : Bool) : Option RR :=
  callK call 16 [] fun v90 =>
  castOne v90 fun c91 =>
  castB c91 fun b92 =>
  bif (!b92) then (
    some (.one (.bool false), [])) else (
    bif (decide ((((a0).length / 3 : Nat) : Int) > (10 : Int))) then (
      some (.one (.bool true), [])) else (
      j10n a0 a1 ([] : List Cell) ([] : List Cell) (0 : Int)))
def f5_L (call : CallF) (n : Nat) (a0 : List Cell) (a1 : Bool) : Option RR :=
  f5_T call n (fun y0 y1 y2 y3 y4 => f5_L10 call n n y0 y1 y2 y3 y4) a0 a1
theorem f5_l (n : Nat) (a0 : List Cell) (a1 : Bool) : acall AXE AXF (n + 1) 5 [.one (.sl none 3 a0), .one (.bool a1)] [] = f5_T (acall AXE AXF n) (n + 1) (fun y0 y1 y2 y3 y4 => aloop (pruneAt f5_h 1000008) (f5_x (acall AXE AXF n) (n + 1) [1, 1, 1, 1, 1, 0, 1, 0, 0]) (kBlk 0 (kSeq (f5_x (acall AXE AXF n) (n + 1) [1, 1, 1, 1, 1, 1]) (kEnd AXE 0 f5_r))) (n + 1) ⟨[(0, .one (.sl none 3 y0)), (1, .one (.bool y1)), (5, .one (.sl (some ⟨5, 0, 5⟩) 1 y2)), (6, .one (.sl (some ⟨6, 0, 27⟩) 3 y3)), (7, .one (.int .i64 y4))], []⟩) a0 a1 := by kernel_rfl
theorem f5_eq (n : Nat) (a0 : List Cell) (a1 : Bool) : acall AXE AXF (n + 1) 5 [.one (.sl none 3 a0), .one (.bool a1)] [] = f5_L (acall AXE AXF n) (n + 1) a0 a1 := by
  rw [f5_l]
  simp only [f5_e10]
  rfl
/-- pigeonhole/pigeonholelaw08.ReplyBytes: label 11 -/
def f6_T11 (call : CallF) (n : Nat) (x0 : Bool) : Option RR :=
  some (.one (.bool x0), [])
theorem f6_l11 (call : CallF) (n : Nat) (x0 : Bool) : (f6_x call n [1, 1, 0, 1, 0, 1]) (kSeq (f6_x call n [1, 1, 1]) (kEnd AXE 0 f6_r)) ⟨[(4, .one (.bool x0))], []⟩ = f6_T11 call n x0 := by kernel_rfl
def f6_L11 (call : CallF) (n : Nat) (x0 : Bool) : Option RR :=
  f6_T11 call n x0
theorem f6_e11 (call : CallF) (n : Nat) (x0 : Bool) : (f6_x call n [1, 1, 0, 1, 0, 1]) (kSeq (f6_x call n [1, 1, 1]) (kEnd AXE 0 f6_r)) ⟨[(4, .one (.bool x0))], []⟩ = f6_L11 call n x0 := by
  rw [f6_l11]
  rfl
/-- pigeonhole/pigeonholelaw08.ReplyBytes: label 12 -/
def f6_T12 (call : CallF) (n : Nat) (x0 : Bool) : Option RR :=
  some (.one (.bool x0), [])
theorem f6_l12 (call : CallF) (n : Nat) (x0 : Bool) : (f6_x call n [1, 1, 1, 1, 1, 1, 1, 1, 1]) (kEnd AXE 0 f6_r) ⟨[(4, .one (.bool x0))], []⟩ = f6_T12 call n x0 := by kernel_rfl
def f6_L12 (call : CallF) (n : Nat) (x0 : Bool) : Option RR :=
  f6_T12 call n x0
theorem f6_e12 (call : CallF) (n : Nat) (x0 : Bool) : (f6_x call n [1, 1, 1, 1, 1, 1, 1, 1, 1]) (kEnd AXE 0 f6_r) ⟨[(4, .one (.bool x0))], []⟩ = f6_L12 call n x0 := by
  rw [f6_l12]
  rfl
/-- pigeonhole/pigeonholelaw08.ReplyBytes: label 4 -/
def f6_T4 (call : CallF) (n : Nat) (j11 : Bool → Option RR) (j12 : Bool → Option RR) (x0 : List UInt8) (x1 : Bool) (x2 : Int) (x3 : List UInt8) (x4 : List Cell) : Option RR :=
  bif x1 then (
    j11 true) else (
    primK pBytes [.agg [.int .i64 x2, .str x3, .sl none 1 x4]] fun v1 =>
    castTup v1 fun v2 =>
    consK v2 fun z3 r4 =>
    oneV z3 fun c5 =>
    castL 1 c5 fun _ l6 =>
    consK r4 fun z7 r8 =>
    oneV z7 fun c9 =>
    castI .i64 c9 fun n10 =>
    nilK r8 (
      primK pRBytes [.agg [.int .i64 x2, .str x3, .sl none 1 x4]] fun v11 =>
      castTup v11 fun v12 =>
      consK v12 fun z13 r14 =>
      oneV z13 fun c15 =>
      castL 1 c15 fun _ l16 =>
      consK r14 fun z17 r18 =>
      oneV z17 fun c19 =>
      castI .i64 c19 fun n20 =>
      nilK r18 (
        primK pEnh [.one (.str x0)] fun v21 =>
        castTup v21 fun v22 =>
        consK v22 fun z23 r24 =>
        oneV z23 fun c25 =>
        castI .i64 c25 fun n26 =>
        consK r24 fun z27 r28 =>
        oneV z27 fun c29 =>
        castI .i64 c29 fun n30 =>
        consK r28 fun z31 r32 =>
        oneV z31 fun c33 =>
        castI .i64 c33 fun n34 =>
        consK r32 fun z35 r36 =>
        oneV z35 fun c37 =>
        castB c37 fun b38 =>
        nilK r36 (
          primK pREnh [.one (.str x0)] fun v39 =>
          castAgg v39 fun r40 =>
          consK r40 fun c41 r42 =>
          castI .i64 c41 fun n43 =>
          consK r42 fun c44 r45 =>
          castI .i64 c44 fun n46 =>
          consK r45 fun c47 r48 =>
          castI .i64 c47 fun n49 =>
          consK r48 fun c50 r51 =>
          castB c50 fun b52 =>
          nilK r51 (
            callK call 27 [.one (.sl none 3 ([.int .i64 x2, .str x3, .sl none 1 x4, .int .i64 x2, .str x3, .sl none 1 x4] : List Cell))] fun v53 =>
            castOne v53 fun c54 =>
            castL 1 c54 fun _ l55 =>
            bytesK l6 fun s56 =>
            bytesK l16 fun s57 =>
            bif (s56 == s57) then (
              bif (n10 == n20) then (
                primK pGood [.agg [.int .i64 x2, .str x3, .sl none 1 x4]] fun v58 =>
                castOne v58 fun c59 =>
                castB c59 fun b60 =>
                primK pRGood [.agg [.int .i64 x2, .str x3, .sl none 1 x4]] fun v61 =>
                castOne v61 fun c62 =>
                castB c62 fun b63 =>
                bif (b60 == b63) then (
                  bif (n26 == n43) then (
                    bif (n30 == n46) then (
                      bif (n34 == n49) then (
                        bif (b38 == b52) then (
                          callK call 29 [.one (.int .i64 x2)] fun v64 =>
                          castOne v64 fun c65 =>
                          castB c65 fun b66 =>
                          bif (decide (x2 ≥ (500 : Int))) then (
                            bif (b66 == (decide (x2 ≤ (599 : Int)))) then (
                              bif ((((l55).length / 1 : Nat) : Int) == (2 : Int)) then (
                                itemK l55 (1 : Int) fun c67 =>
                                castI .i64 c67 fun n68 =>
                                j12 (n68 == x2)) else (
                                j12 false)) else (
                              j12 false)) else (
                            bif (b66 == false) then (
                              bif ((((l55).length / 1 : Nat) : Int) == (2 : Int)) then (
                                itemK l55 (1 : Int) fun c69 =>
                                castI .i64 c69 fun n70 =>
                                j12 (n70 == x2)) else (
                                j12 false)) else (
                              j12 false))) else (
                          j12 false)) else (
                        j12 false)) else (
                      j12 false)) else (
                    j12 false)) else (
                  j12 false)) else (
                j12 false)) else (
              j12 false))))))
theorem f6_l4 (call : CallF) (n : Nat) (x0 : List UInt8) (x1 : Bool) (x2 : Int) (x3 : List UInt8) (x4 : List Cell) : (f6_x call n [1, 1, 0, 1]) (kSeq (f6_x call n [1, 1, 1]) (kEnd AXE 0 f6_r)) ⟨[(1, .one (.str x0)), (2, .one (.ptr 0 0)), (24, .one (.bool x1))], [[.int .i64 x2, .str x3, .sl none 1 x4]]⟩ = f6_T4 call n (fun y0 => (f6_x call n [1, 1, 0, 1, 0, 1]) (kSeq (f6_x call n [1, 1, 1]) (kEnd AXE 0 f6_r)) ⟨[(4, .one (.bool y0))], []⟩) (fun y0 => (f6_x call n [1, 1, 1, 1, 1, 1, 1, 1, 1]) (kEnd AXE 0 f6_r) ⟨[(4, .one (.bool y0))], []⟩) x0 x1 x2 x3 x4 := by kernel_rfl
def f6_L4 (call : CallF) (n : Nat) (x0 : List UInt8) (x1 : Bool) (x2 : Int) (x3 : List UInt8) (x4 : List Cell) : Option RR :=
  f6_T4 call n (fun y0 => f6_L11 call n y0) (fun y0 => f6_L12 call n y0) x0 x1 x2 x3 x4
theorem f6_e4 (call : CallF) (n : Nat) (x0 : List UInt8) (x1 : Bool) (x2 : Int) (x3 : List UInt8) (x4 : List Cell) : (f6_x call n [1, 1, 0, 1]) (kSeq (f6_x call n [1, 1, 1]) (kEnd AXE 0 f6_r)) ⟨[(1, .one (.str x0)), (2, .one (.ptr 0 0)), (24, .one (.bool x1))], [[.int .i64 x2, .str x3, .sl none 1 x4]]⟩ = f6_L4 call n x0 x1 x2 x3 x4 := by
  rw [f6_l4]
  simp only [f6_e11, f6_e12]
  rfl
/-- pigeonhole/pigeonholelaw08.ReplyBytes -/
def f6_T (call : CallF) (n : Nat) (j4 : (List UInt8) → Bool → Int → (List UInt8) → (List Cell) → Option RR) (a0 : Int) (a1 : List UInt8) (a2 : List Cell) (a3 : List UInt8) : Option RR :=
  callK call 16 [] fun v77 =>
  castOne v77 fun c78 =>
  castB c78 fun b79 =>
  bif (!b79) then (
    some (.one (.bool false), [])) else (
    primK pFew [.agg [.int .i64 a0, .str a1, .sl none 1 a2]] fun v80 =>
    castOne v80 fun c81 =>
    castB c81 fun b82 =>
    bif (!b82) then (
      j4 a3 true a0 a1 a2) else (
      j4 a3 (decide (((a3).length : Int) > (100 : Int))) a0 a1 a2))
def f6_L (call : CallF) (n : Nat) (a0 : Int) (a1 : List UInt8) (a2 : List Cell) (a3 : List UInt8) : Option RR :=
  f6_T call n (fun y0 y1 y2 y3 y4 => f6_L4 call n y0 y1 y2 y3 y4) a0 a1 a2 a3
theorem f6_l (n : Nat) (a0 : Int) (a1 : List UInt8) (a2 : List Cell) (a3 : List UInt8) : acall AXE AXF (n + 1) 6 [.agg [.int .i64 a0, .str a1, .sl none 1 a2], .one (.str a3)] [] = f6_T (acall AXE AXF n) (n + 1) (fun y0 y1 y2 y3 y4 => (f6_x (acall AXE AXF n) (n + 1) [1, 1, 0, 1]) (kSeq (f6_x (acall AXE AXF n) (n + 1) [1, 1, 1]) (kEnd AXE 0 f6_r)) ⟨[(1, .one (.str y0)), (2, .one (.ptr 0 0)), (24, .one (.bool y1))], [[.int .i64 y2, .str y3, .sl none 1 y4]]⟩) a0 a1 a2 a3 := by kernel_rfl
theorem f6_eq (n : Nat) (a0 : Int) (a1 : List UInt8) (a2 : List Cell) (a3 : List UInt8) : acall AXE AXF (n + 1) 6 [.agg [.int .i64 a0, .str a1, .sl none 1 a2], .one (.str a3)] [] = f6_L (acall AXE AXF n) (n + 1) a0 a1 a2 a3 := by
  rw [f6_l]
  simp only [f6_e4]
  rfl
/-- pigeonhole/pigeonholelaw08.awake: label 4 -/
def f16_T4 (call : CallF) (n : Nat) (x0 : Bool) : Option RR :=
  some (.one (.bool x0), [])
theorem f16_l4 (call : CallF) (n : Nat) (x0 : Bool) : (f16_x call n [1, 1, 1, 1, 1]) (kEnd AXE 0 f16_r) ⟨[(0, .one (.bool x0))], []⟩ = f16_T4 call n x0 := by kernel_rfl
def f16_L4 (call : CallF) (n : Nat) (x0 : Bool) : Option RR :=
  f16_T4 call n x0
theorem f16_e4 (call : CallF) (n : Nat) (x0 : Bool) : (f16_x call n [1, 1, 1, 1, 1]) (kEnd AXE 0 f16_r) ⟨[(0, .one (.bool x0))], []⟩ = f16_L4 call n x0 := by
  rw [f16_l4]
  rfl
/-- pigeonhole/pigeonholelaw08.awake -/
def f16_T (call : CallF) (n : Nat) (j4 : Bool → Option RR) : Option RR :=
  primK pBytes [.agg [.int .i64 (250 : Int), .str ([50, 46, 49, 46, 48] : List UInt8), .sl none 1 ([.str ([111, 107] : List UInt8)] : List Cell)]] fun v42 =>
  castTup v42 fun v43 =>
  consK v43 fun z44 r45 =>
  oneV z44 fun c46 =>
  castL 1 c46 fun _ l47 =>
  consK r45 fun z48 r49 =>
  oneV z48 fun c50 =>
  castI .i64 c50 fun n51 =>
  nilK r49 (
    primK pBytes [.agg [.int .i64 (250 : Int), .str ([] : List UInt8), .sl none 1 ([.str ([97] : List UInt8), .str ([98] : List UInt8)] : List Cell)]] fun v52 =>
    castTup v52 fun v53 =>
    consK v53 fun z54 r55 =>
    oneV z54 fun c56 =>
    castL 1 c56 fun _ l57 =>
    consK r55 fun z58 r59 =>
    oneV z58 fun c60 =>
    castI .i64 c60 fun n61 =>
    nilK r59 (
      callK call 20 [.one (.sl none 1 l57), .one (.bool false)] fun v62 =>
      castTup v62 fun v63 =>
      consK v63 fun z64 r65 =>
      oneV z64 fun c66 =>
      castL 3 c66 fun _ l67 =>
      consK r65 fun z68 r69 =>
      oneV z68 fun c70 =>
      castI .i64 c70 fun n71 =>
      nilK r69 (
        bytesK l47 fun s72 =>
        bif (s72 == ([50, 53, 48, 32, 50, 46, 49, 46, 48, 32, 111, 107, 13, 10] : List UInt8)) then (
          bif (n51 == (0 : Int)) then (
            bytesK l57 fun s73 =>
            bif (s73 == ([50, 53, 48, 45, 97, 13, 10, 50, 53, 48, 32, 98, 13, 10] : List UInt8)) then (
              bif (n61 == (0 : Int)) then (
                bif (n71 == (0 : Int)) then (
                  bif ((((l67).length / 3 : Nat) : Int) == (1 : Int)) then (
                    guardB (decide (0 ≤ (0 : Int)) && decide ((Int.toNat (0 : Int)) * 3 + 3 ≤ l67.length)) (
                      consK ((((l67.drop ((Int.toNat (0 : Int)) * 3)).take 3).drop 2).take 1) fun c74 r75 =>
                      castL 1 c74 fun _ l76 =>
                      bif ((((l76).length / 1 : Nat) : Int) == (2 : Int)) then (
                        callK call 29 [.one (.int .i64 (550 : Int))] fun v77 =>
                        castOne v77 fun c78 =>
                        castB c78 fun b79 =>
                        bif b79 then (
                          callK call 29 [.one (.int .i64 (450 : Int))] fun v80 =>
                          castOne v80 fun c81 =>
                          castB c81 fun b82 =>
                          j4 (!b82)) else (
                          j4 false)) else (
                        j4 false))) else (
                    j4 false)) else (
                  j4 false)) else (
                j4 false)) else (
              j4 false)) else (
            j4 false)) else (
          j4 false))))
def f16_L (call : CallF) (n : Nat) : Option RR :=
  f16_T call n (fun y0 => f16_L4 call n y0)
theorem f16_l (n : Nat) : acall AXE AXF (n + 1) 16 [] [] = f16_T (acall AXE AXF n) (n + 1) (fun y0 => (f16_x (acall AXE AXF n) (n + 1) [1, 1, 1, 1, 1]) (kEnd AXE 0 f16_r) ⟨[(0, .one (.bool y0))], []⟩) := by kernel_rfl
theorem f16_eq (n : Nat) : acall AXE AXF (n + 1) 16 [] [] = f16_L (acall AXE AXF n) (n + 1) := by
  rw [f16_l]
  simp only [f16_e4]
  rfl
/-- pigeonhole/pigeonholeref08.Read: label 7 -/
def f18_T7 (call : CallF) (n : Nat) (j5m : (List UInt8) → Int → Bool → Int → Int → Int → (List UInt8) → (List Cell) → Int → Int → Int → (List UInt8) → (List Cell) → Option RR) (x0 : List UInt8) (x1 : Int) (x2 : Bool) (x3 : Int) (x4 : Int) (x5 : Int) (x6 : List UInt8) (x7 : List Cell) (x8 : Int) (x9 : Int) (x10 : Int) (x11 : List UInt8) (x12 : List Cell) : Option RR :=
  j5m x0 x1 x2 x3 (IntKind.wrap .i64 (x4 + (1 : Int))) x5 x6 x7 x8 x9 x10 x11 x12
theorem f18_l7 (call : CallF) (n : Nat) (m0 : Nat) (m1 : Nat) (x0 : List UInt8) (x1 : Int) (x2 : Bool) (x3 : Int) (x4 : Int) (x5 : Int) (x6 : List UInt8) (x7 : List Cell) (x8 : Int) (x9 : Int) (x10 : Int) (x11 : List UInt8) (x12 : List Cell) : (f18_x call n [1, 1, 1, 0, 0, 0, 1, 0, 0, 0, 1]) (kSeq (fun k => prK (pruneAt f18_h 1000004) (aloop (pruneAt f18_h 1000004) (f18_x call n [1, 1, 1, 0, 0, 0, 1, 0, 0, 0]) k m1)) (kBlk 2 (kSeq (f18_x call n [1, 1, 1, 0, 0, 0, 1, 1]) (kBlk 1 (kSeq (fun k => prK (pruneAt f18_h 1000003) (aloop (pruneAt f18_h 1000003) (f18_x call n [1, 1, 1, 0, 0]) k m0)) (kBlk 0 (kEnd AXE 0 f18_r))))))) ⟨[(0, .one (.str x0)), (1, .one (.int .i64 x1)), (2, .one (.bool x2)), (6, .one (.ptr 0 0)), (7, .one (.ptr 1 0)), (8, .one (.int .i64 x3)), (9, .one (.int .i64 x4))], [[.int .i64 x5, .str x6, .sl (some ⟨1000000, 2, 9⟩) 1 x7, .int .i64 x8, .int .i64 x9], [.int .i64 x10, .str x11, .sl (some ⟨1000001, 2, 9⟩) 1 x12]]⟩ = f18_T7 call n (fun y0 y1 y2 y3 y4 y5 y6 y7 y8 y9 y10 y11 y12 => aloop (pruneAt f18_h 1000004) (f18_x call n [1, 1, 1, 0, 0, 0, 1, 0, 0, 0]) (kBlk 2 (kSeq (f18_x call n [1, 1, 1, 0, 0, 0, 1, 1]) (kBlk 1 (kSeq (fun k => prK (pruneAt f18_h 1000003) (aloop (pruneAt f18_h 1000003) (f18_x call n [1, 1, 1, 0, 0]) k m0)) (kBlk 0 (kEnd AXE 0 f18_r)))))) m1 ⟨[(0, .one (.str y0)), (1, .one (.int .i64 y1)), (2, .one (.bool y2)), (6, .one (.ptr 0 0)), (7, .one (.ptr 1 0)), (8, .one (.int .i64 y3)), (9, .one (.int .i64 y4))], [[.int .i64 y5, .str y6, .sl (some ⟨1000000, 2, 9⟩) 1 y7, .int .i64 y8, .int .i64 y9], [.int .i64 y10, .str y11, .sl (some ⟨1000001, 2, 9⟩) 1 y12]]⟩) x0 x1 x2 x3 x4 x5 x6 x7 x8 x9 x10 x11 x12 := by kernel_rfl
def f18_L7 (call : CallF) (n : Nat) (h_m0 : (List UInt8) → Int → Bool → Int → Int → (List UInt8) → (List Cell) → Int → Int → Int → (List UInt8) → (List Cell) → Option RR) (h_m1 : (List UInt8) → Int → Bool → Int → Int → Int → (List UInt8) → (List Cell) → Int → Int → Int → (List UInt8) → (List Cell) → Option RR) (x0 : List UInt8) (x1 : Int) (x2 : Bool) (x3 : Int) (x4 : Int) (x5 : Int) (x6 : List UInt8) (x7 : List Cell) (x8 : Int) (x9 : Int) (x10 : Int) (x11 : List UInt8) (x12 : List Cell) : Option RR :=
  f18_T7 call n h_m1 x0 x1 x2 x3 x4 x5 x6 x7 x8 x9 x10 x11 x12
theorem f18_e7 (call : CallF) (n : Nat) (m0 : Nat) (m1 : Nat) (x0 : List UInt8) (x1 : Int) (x2 : Bool) (x3 : Int) (x4 : Int) (x5 : Int) (x6 : List UInt8) (x7 : List Cell) (x8 : Int) (x9 : Int) (x10 : Int) (x11 : List UInt8) (x12 : List Cell) : (f18_x call n [1, 1, 1, 0, 0, 0, 1, 0, 0, 0, 1]) (kSeq (fun k => prK (pruneAt f18_h 1000004) (aloop (pruneAt f18_h 1000004) (f18_x call n [1, 1, 1, 0, 0, 0, 1, 0, 0, 0]) k m1)) (kBlk 2 (kSeq (f18_x call n [1, 1, 1, 0, 0, 0, 1, 1]) (kBlk 1 (kSeq (fun k => prK (pruneAt f18_h 1000003) (aloop (pruneAt f18_h 1000003) (f18_x call n [1, 1, 1, 0, 0]) k m0)) (kBlk 0 (kEnd AXE 0 f18_r))))))) ⟨[(0, .one (.str x0)), (1, .one (.int .i64 x1)), (2, .one (.bool x2)), (6, .one (.ptr 0 0)), (7, .one (.ptr 1 0)), (8, .one (.int .i64 x3)), (9, .one (.int .i64 x4))], [[.int .i64 x5, .str x6, .sl (some ⟨1000000, 2, 9⟩) 1 x7, .int .i64 x8, .int .i64 x9], [.int .i64 x10, .str x11, .sl (some ⟨1000001, 2, 9⟩) 1 x12]]⟩ = f18_L7 call n (fun y0 y1 y2 y3 y4 y5 y6 y7 y8 y9 y10 y11 => aloop (pruneAt f18_h 1000003) (f18_x call n [1, 1, 1, 0, 0]) (kBlk 0 (kEnd AXE 0 f18_r)) m0 ⟨[(0, .one (.str y0)), (1, .one (.int .i64 y1)), (2, .one (.bool y2)), (6, .one (.ptr 0 0)), (7, .one (.ptr 1 0)), (8, .one (.int .i64 y3))], [[.int .i64 y4, .str y5, .sl (some ⟨1000000, 2, 9⟩) 1 y6, .int .i64 y7, .int .i64 y8], [.int .i64 y9, .str y10, .sl (some ⟨1000001, 2, 9⟩) 1 y11]]⟩) (fun y0 y1 y2 y3 y4 y5 y6 y7 y8 y9 y10 y11 y12 => aloop (pruneAt f18_h 1000004) (f18_x call n [1, 1, 1, 0, 0, 0, 1, 0, 0, 0]) (kBlk 2 (kSeq (f18_x call n [1, 1, 1, 0, 0, 0, 1, 1]) (kBlk 1 (kSeq (fun k => prK (pruneAt f18_h 1000003) (aloop (pruneAt f18_h 1000003) (f18_x call n [1, 1, 1, 0, 0]) k m0)) (kBlk 0 (kEnd AXE 0 f18_r)))))) m1 ⟨[(0, .one (.str y0)), (1, .one (.int .i64 y1)), (2, .one (.bool y2)), (6, .one (.ptr 0 0)), (7, .one (.ptr 1 0)), (8, .one (.int .i64 y3)), (9, .one (.int .i64 y4))], [[.int .i64 y5, .str y6, .sl (some ⟨1000000, 2, 9⟩) 1 y7, .int .i64 y8, .int .i64 y9], [.int .i64 y10, .str y11, .sl (some ⟨1000001, 2, 9⟩) 1 y12]]⟩) x0 x1 x2 x3 x4 x5 x6 x7 x8 x9 x10 x11 x12 := by
  rw [f18_l7]
  rfl
/-- pigeonhole/pigeonholeref08.Read: label 10 -/
def f18_T10 (call : CallF) (n : Nat) (x0 : Int) (x1 : List UInt8) (x2 : List Cell) (x3 : Int) (x4 : Int) : Option RR :=
  some (.agg [.int .i64 x0, .str x1, .sl (some ⟨1000000, 2, 9⟩) 1 x2, .int .i64 x3, .int .i64 x4], [])
theorem f18_l10 (call : CallF) (n : Nat) (m0 : Nat) (x0 : Int) (x1 : List UInt8) (x2 : List Cell) (x3 : Int) (x4 : Int) : (f18_x call n [1, 1, 1, 0, 0, 0, 1, 1, 0, 1, 0, 1]) (kSeq (f18_x call n [1, 1, 1, 0, 0, 0, 1, 1, 1]) (kBlk 1 (kSeq (fun k => prK (pruneAt f18_h 1000003) (aloop (pruneAt f18_h 1000003) (f18_x call n [1, 1, 1, 0, 0]) k m0)) (kBlk 0 (kEnd AXE 0 f18_r))))) ⟨[(6, .one (.ptr 0 0))], [[.int .i64 x0, .str x1, .sl (some ⟨1000000, 2, 9⟩) 1 x2, .int .i64 x3, .int .i64 x4]]⟩ = f18_T10 call n x0 x1 x2 x3 x4 := by kernel_rfl
def f18_L10 (call : CallF) (n : Nat) (h_m0 : (List UInt8) → Int → Bool → Int → Int → (List UInt8) → (List Cell) → Int → Int → Int → (List UInt8) → (List Cell) → Option RR) (x0 : Int) (x1 : List UInt8) (x2 : List Cell) (x3 : Int) (x4 : Int) : Option RR :=
  f18_T10 call n x0 x1 x2 x3 x4
theorem f18_e10 (call : CallF) (n : Nat) (m0 : Nat) (x0 : Int) (x1 : List UInt8) (x2 : List Cell) (x3 : Int) (x4 : Int) : (f18_x call n [1, 1, 1, 0, 0, 0, 1, 1, 0, 1, 0, 1]) (kSeq (f18_x call n [1, 1, 1, 0, 0, 0, 1, 1, 1]) (kBlk 1 (kSeq (fun k => prK (pruneAt f18_h 1000003) (aloop (pruneAt f18_h 1000003) (f18_x call n [1, 1, 1, 0, 0]) k m0)) (kBlk 0 (kEnd AXE 0 f18_r))))) ⟨[(6, .one (.ptr 0 0))], [[.int .i64 x0, .str x1, .sl (some ⟨1000000, 2, 9⟩) 1 x2, .int .i64 x3, .int .i64 x4]]⟩ = f18_L10 call n (fun y0 y1 y2 y3 y4 y5 y6 y7 y8 y9 y10 y11 => aloop (pruneAt f18_h 1000003) (f18_x call n [1, 1, 1, 0, 0]) (kBlk 0 (kEnd AXE 0 f18_r)) m0 ⟨[(0, .one (.str y0)), (1, .one (.int .i64 y1)), (2, .one (.bool y2)), (6, .one (.ptr 0 0)), (7, .one (.ptr 1 0)), (8, .one (.int .i64 y3))], [[.int .i64 y4, .str y5, .sl (some ⟨1000000, 2, 9⟩) 1 y6, .int .i64 y7, .int .i64 y8], [.int .i64 y9, .str y10, .sl (some ⟨1000001, 2, 9⟩) 1 y11]]⟩) x0 x1 x2 x3 x4 := by
  rw [f18_l10]
  rfl
/-- pigeonhole/pigeonholeref08.Read: label 18 -/
def f18_T18 (call : CallF) (n : Nat) (x0 : Int) (x1 : List UInt8) (x2 : List Cell) (x3 : Int) (x4 : Int) : Option RR :=
  some (.agg [.int .i64 x0, .str x1, .sl (some ⟨1000000, 2, 9⟩) 1 x2, .int .i64 x3, .int .i64 x4], [])
theorem f18_l18 (call : CallF) (n : Nat) (m0 : Nat) (x0 : Int) (x1 : List UInt8) (x2 : List Cell) (x3 : Int) (x4 : Int) : (f18_x call n [1, 1, 1, 0, 0, 0, 1, 1, 1, 1, 1, 0, 1, 0, 1]) (kSeq (f18_x call n [1, 1, 1, 0, 0, 0, 1, 1, 1, 1, 1, 1]) (kBlk 1 (kSeq (fun k => prK (pruneAt f18_h 1000003) (aloop (pruneAt f18_h 1000003) (f18_x call n [1, 1, 1, 0, 0]) k m0)) (kBlk 0 (kEnd AXE 0 f18_r))))) ⟨[(6, .one (.ptr 0 0))], [[.int .i64 x0, .str x1, .sl (some ⟨1000000, 2, 9⟩) 1 x2, .int .i64 x3, .int .i64 x4]]⟩ = f18_T18 call n x0 x1 x2 x3 x4 := by kernel_rfl
def f18_L18 (call : CallF) (n : Nat) (h_m0 : (List UInt8) → Int → Bool → Int → Int → (List UInt8) → (List Cell) → Int → Int → Int → (List UInt8) → (List Cell) → Option RR) (x0 : Int) (x1 : List UInt8) (x2 : List Cell) (x3 : Int) (x4 : Int) : Option RR :=
  f18_T18 call n x0 x1 x2 x3 x4
theorem f18_e18 (call : CallF) (n : Nat) (m0 : Nat) (x0 : Int) (x1 : List UInt8) (x2 : List Cell) (x3 : Int) (x4 : Int) : (f18_x call n [1, 1, 1, 0, 0, 0, 1, 1, 1, 1, 1, 0, 1, 0, 1]) (kSeq (f18_x call n [1, 1, 1, 0, 0, 0, 1, 1, 1, 1, 1, 1]) (kBlk 1 (kSeq (fun k => prK (pruneAt f18_h 1000003) (aloop (pruneAt f18_h 1000003) (f18_x call n [1, 1, 1, 0, 0]) k m0)) (kBlk 0 (kEnd AXE 0 f18_r))))) ⟨[(6, .one (.ptr 0 0))], [[.int .i64 x0, .str x1, .sl (some ⟨1000000, 2, 9⟩) 1 x2, .int .i64 x3, .int .i64 x4]]⟩ = f18_L18 call n (fun y0 y1 y2 y3 y4 y5 y6 y7 y8 y9 y10 y11 => aloop (pruneAt f18_h 1000003) (f18_x call n [1, 1, 1, 0, 0]) (kBlk 0 (kEnd AXE 0 f18_r)) m0 ⟨[(0, .one (.str y0)), (1, .one (.int .i64 y1)), (2, .one (.bool y2)), (6, .one (.ptr 0 0)), (7, .one (.ptr 1 0)), (8, .one (.int .i64 y3))], [[.int .i64 y4, .str y5, .sl (some ⟨1000000, 2, 9⟩) 1 y6, .int .i64 y7, .int .i64 y8], [.int .i64 y9, .str y10, .sl (some ⟨1000001, 2, 9⟩) 1 y11]]⟩) x0 x1 x2 x3 x4 := by
  rw [f18_l18]
  rfl
/-- pigeonhole/pigeonholeref08.Read: label 32 -/
def f18_T32 (call : CallF) (n : Nat) (x0 : Int) (x1 : List UInt8) (x2 : List Cell) (x3 : Int) (x4 : Int) : Option RR :=
  some (.agg [.int .i64 x0, .str x1, .sl (some ⟨1000000, 2, 9⟩) 1 x2, .int .i64 x3, .int .i64 x4], [])
theorem f18_l32 (call : CallF) (n : Nat) (m0 : Nat) (m1 : Nat) (x0 : Int) (x1 : List UInt8) (x2 : List Cell) (x3 : Int) (x4 : Int) : (f18_x call n [1, 1, 1, 0, 0, 0, 1, 1, 1, 1, 1, 1, 1, 0, 1, 0, 0, 1, 0, 0, 0, 1, 0, 1]) (kSeq (f18_x call n [1, 1, 1, 0, 0, 0, 1, 1, 1, 1, 1, 1, 1, 0, 1, 0, 0, 1, 0, 0, 1]) (kBlk 5 (kSeq (f18_x call n [1, 1, 1, 0, 0, 0, 1, 1, 1, 1, 1, 1, 1, 0, 1, 0, 0, 1, 1]) (kSeq (fun k => prK (pruneAt f18_h 1000014) (aloop (pruneAt f18_h 1000014) (f18_x call n [1, 1, 1, 0, 0, 0, 1, 1, 1, 1, 1, 1, 1, 0, 1, 0, 0]) k m1)) (kBlk 4 (kSeq (f18_x call n [1, 1, 1, 0, 0, 0, 1, 1, 1, 1, 1, 1, 1, 1]) (kBlk 1 (kSeq (fun k => prK (pruneAt f18_h 1000003) (aloop (pruneAt f18_h 1000003) (f18_x call n [1, 1, 1, 0, 0]) k m0)) (kBlk 0 (kEnd AXE 0 f18_r)))))))))) ⟨[(6, .one (.ptr 0 0))], [[.int .i64 x0, .str x1, .sl (some ⟨1000000, 2, 9⟩) 1 x2, .int .i64 x3, .int .i64 x4]]⟩ = f18_T32 call n x0 x1 x2 x3 x4 := by kernel_rfl
def f18_L32 (call : CallF) (n : Nat) (h_m0 : (List UInt8) → Int → Bool → Int → Int → (List UInt8) → (List Cell) → Int → Int → Int → (List UInt8) → (List Cell) → Option RR) (h_m1 : (List UInt8) → Int → Bool → Int → (List UInt8) → Int → Int → Int → (List UInt8) → (List Cell) → Int → Int → Int → (List UInt8) → (List Cell) → Option RR) (x0 : Int) (x1 : List UInt8) (x2 : List Cell) (x3 : Int) (x4 : Int) : Option RR :=
  f18_T32 call n x0 x1 x2 x3 x4
theorem f18_e32 (call : CallF) (n : Nat) (m0 : Nat) (m1 : Nat) (x0 : Int) (x1 : List UInt8) (x2 : List Cell) (x3 : Int) (x4 : Int) : (f18_x call n [1, 1, 1, 0, 0, 0, 1, 1, 1, 1, 1, 1, 1, 0, 1, 0, 0, 1, 0, 0, 0, 1, 0, 1]) (kSeq (f18_x call n [1, 1, 1, 0, 0, 0, 1, 1, 1, 1, 1, 1, 1, 0, 1, 0, 0, 1, 0, 0, 1]) (kBlk 5 (kSeq (f18_x call n [1, 1, 1, 0, 0, 0, 1, 1, 1, 1, 1, 1, 1, 0, 1, 0, 0, 1, 1]) (kSeq (fun k => prK (pruneAt f18_h 1000014) (aloop (pruneAt f18_h 1000014) (f18_x call n [1, 1, 1, 0, 0, 0, 1, 1, 1, 1, 1, 1, 1, 0, 1, 0, 0]) k m1)) (kBlk 4 (kSeq (f18_x call n [1, 1, 1, 0, 0, 0, 1, 1, 1, 1, 1, 1, 1, 1]) (kBlk 1 (kSeq (fun k => prK (pruneAt f18_h 1000003) (aloop (pruneAt f18_h 1000003) (f18_x call n [1, 1, 1, 0, 0]) k m0)) (kBlk 0 (kEnd AXE 0 f18_r)))))))))) ⟨[(6, .one (.ptr 0 0))], [[.int .i64 x0, .str x1, .sl (some ⟨1000000, 2, 9⟩) 1 x2, .int .i64 x3, .int .i64 x4]]⟩ = f18_L32 call n (fun y0 y1 y2 y3 y4 y5 y6 y7 y8 y9 y10 y11 => aloop (pruneAt f18_h 1000003) (f18_x call n [1, 1, 1, 0, 0]) (kBlk 0 (kEnd AXE 0 f18_r)) m0 ⟨[(0, .one (.str y0)), (1, .one (.int .i64 y1)), (2, .one (.bool y2)), (6, .one (.ptr 0 0)), (7, .one (.ptr 1 0)), (8, .one (.int .i64 y3))], [[.int .i64 y4, .str y5, .sl (some ⟨1000000, 2, 9⟩) 1 y6, .int .i64 y7, .int .i64 y8], [.int .i64 y9, .str y10, .sl (some ⟨1000001, 2, 9⟩) 1 y11]]⟩) (fun y0 y1 y2 y3 y4 y5 y6 y7 y8 y9 y10 y11 y12 y13 y14 => aloop (pruneAt f18_h 1000014) (f18_x call n [1, 1, 1, 0, 0, 0, 1, 1, 1, 1, 1, 1, 1, 0, 1, 0, 0]) (kBlk 4 (kSeq (f18_x call n [1, 1, 1, 0, 0, 0, 1, 1, 1, 1, 1, 1, 1, 1]) (kBlk 1 (kSeq (fun k => prK (pruneAt f18_h 1000003) (aloop (pruneAt f18_h 1000003) (f18_x call n [1, 1, 1, 0, 0]) k m0)) (kBlk 0 (kEnd AXE 0 f18_r)))))) m1 ⟨[(0, .one (.str y0)), (1, .one (.int .i64 y1)), (2, .one (.bool y2)), (6, .one (.ptr 0 0)), (7, .one (.ptr 1 0)), (8, .one (.int .i64 y3)), (10, .one (.str y4)), (11, .one (.int .i64 y5)), (12, .one (.int .i64 y6))], [[.int .i64 y7, .str y8, .sl (some ⟨1000000, 2, 9⟩) 1 y9, .int .i64 y10, .int .i64 y11], [.int .i64 y12, .str y13, .sl (some ⟨1000001, 2, 9⟩) 1 y14]]⟩) x0 x1 x2 x3 x4 := by
  rw [f18_l32]
  rfl
/-- pigeonhole/pigeonholeref08.Read: label 27 -/
def f18_T27 (call : CallF) (n : Nat) (j32 : Int → (List UInt8) → (List Cell) → Int → Int → Option RR) (j19m : (List UInt8) → Int → Bool → Int → (List UInt8) → Int → Int → Int → (List UInt8) → (List Cell) → Int → Int → Int → (List UInt8) → (List Cell) → Option RR) (x0 : List UInt8) (x1 : Int) (x2 : Bool) (x3 : Int) (x4 : List UInt8) (x5 : Int) (x6 : Int) (x7 : Bool) (x8 : Int) (x9 : List UInt8) (x10 : List Cell) (x11 : Int) (x12 : Int) (x13 : Int) (x14 : List UInt8) (x15 : List Cell) : Option RR :=
  bif x7 then (
    j32 (0 : Int) ([] : List UInt8) ([] : List Cell) (0 : Int) (3 : Int)) else (
    itemK x4 x6 fun u1 =>
    j19m x0 x1 x2 x3 x4 (IntKind.wrap .i64 ((IntKind.wrap .i64 ((IntKind.wrap .i64 ((10 : Int) * x5)) + (IntKind.wrap .i64 (UInt8.toNat u1 : Int)))) - (48 : Int))) (IntKind.wrap .i64 (x6 + (1 : Int))) x8 x9 x10 x11 x12 x13 x14 x15)
theorem f18_l27 (call : CallF) (n : Nat) (m0 : Nat) (m1 : Nat) (x0 : List UInt8) (x1 : Int) (x2 : Bool) (x3 : Int) (x4 : List UInt8) (x5 : Int) (x6 : Int) (x7 : Bool) (x8 : Int) (x9 : List UInt8) (x10 : List Cell) (x11 : Int) (x12 : Int) (x13 : Int) (x14 : List UInt8) (x15 : List Cell) : (f18_x call n [1, 1, 1, 0, 0, 0, 1, 1, 1, 1, 1, 1, 1, 0, 1, 0, 0, 1, 0, 0, 0, 1]) (kSeq (f18_x call n [1, 1, 1, 0, 0, 0, 1, 1, 1, 1, 1, 1, 1, 0, 1, 0, 0, 1, 0, 0, 1]) (kBlk 5 (kSeq (f18_x call n [1, 1, 1, 0, 0, 0, 1, 1, 1, 1, 1, 1, 1, 0, 1, 0, 0, 1, 1]) (kSeq (fun k => prK (pruneAt f18_h 1000014) (aloop (pruneAt f18_h 1000014) (f18_x call n [1, 1, 1, 0, 0, 0, 1, 1, 1, 1, 1, 1, 1, 0, 1, 0, 0]) k m1)) (kBlk 4 (kSeq (f18_x call n [1, 1, 1, 0, 0, 0, 1, 1, 1, 1, 1, 1, 1, 1]) (kBlk 1 (kSeq (fun k => prK (pruneAt f18_h 1000003) (aloop (pruneAt f18_h 1000003) (f18_x call n [1, 1, 1, 0, 0]) k m0)) (kBlk 0 (kEnd AXE 0 f18_r)))))))))) ⟨[(0, .one (.str x0)), (1, .one (.int .i64 x1)), (2, .one (.bool x2)), (6, .one (.ptr 0 0)), (7, .one (.ptr 1 0)), (8, .one (.int .i64 x3)), (10, .one (.str x4)), (11, .one (.int .i64 x5)), (12, .one (.int .i64 x6)), (79, .one (.bool x7))], [[.int .i64 x8, .str x9, .sl (some ⟨1000000, 2, 9⟩) 1 x10, .int .i64 x11, .int .i64 x12], [.int .i64 x13, .str x14, .sl (some ⟨1000001, 2, 9⟩) 1 x15]]⟩ = f18_T27 call n (fun y0 y1 y2 y3 y4 => (f18_x call n [1, 1, 1, 0, 0, 0, 1, 1, 1, 1, 1, 1, 1, 0, 1, 0, 0, 1, 0, 0, 0, 1, 0, 1]) (kSeq (f18_x call n [1, 1, 1, 0, 0, 0, 1, 1, 1, 1, 1, 1, 1, 0, 1, 0, 0, 1, 0, 0, 1]) (kBlk 5 (kSeq (f18_x call n [1, 1, 1, 0, 0, 0, 1, 1, 1, 1, 1, 1, 1, 0, 1, 0, 0, 1, 1]) (kSeq (fun k => prK (pruneAt f18_h 1000014) (aloop (pruneAt f18_h 1000014) (f18_x call n [1, 1, 1, 0, 0, 0, 1, 1, 1, 1, 1, 1, 1, 0, 1, 0, 0]) k m1)) (kBlk 4 (kSeq (f18_x call n [1, 1, 1, 0, 0, 0, 1, 1, 1, 1, 1, 1, 1, 1]) (kBlk 1 (kSeq (fun k => prK (pruneAt f18_h 1000003) (aloop (pruneAt f18_h 1000003) (f18_x call n [1, 1, 1, 0, 0]) k m0)) (kBlk 0 (kEnd AXE 0 f18_r)))))))))) ⟨[(6, .one (.ptr 0 0))], [[.int .i64 y0, .str y1, .sl (some ⟨1000000, 2, 9⟩) 1 y2, .int .i64 y3, .int .i64 y4]]⟩) (fun y0 y1 y2 y3 y4 y5 y6 y7 y8 y9 y10 y11 y12 y13 y14 => aloop (pruneAt f18_h 1000014) (f18_x call n [1, 1, 1, 0, 0, 0, 1, 1, 1, 1, 1, 1, 1, 0, 1, 0, 0]) (kBlk 4 (kSeq (f18_x call n [1, 1, 1, 0, 0, 0, 1, 1, 1, 1, 1, 1, 1, 1]) (kBlk 1 (kSeq (fun k => prK (pruneAt f18_h 1000003) (aloop (pruneAt f18_h 1000003) (f18_x call n [1, 1, 1, 0, 0]) k m0)) (kBlk 0 (kEnd AXE 0 f18_r)))))) m1 ⟨[(0, .one (.str y0)), (1, .one (.int .i64 y1)), (2, .one (.bool y2)), (6, .one (.ptr 0 0)), (7, .one (.ptr 1 0)), (8, .one (.int .i64 y3)), (10, .one (.str y4)), (11, .one (.int .i64 y5)), (12, .one (.int .i64 y6))], [[.int .i64 y7, .str y8, .sl (some ⟨1000000, 2, 9⟩) 1 y9, .int .i64 y10, .int .i64 y11], [.int .i64 y12, .str y13, .sl (some ⟨1000001, 2, 9⟩) 1 y14]]⟩) x0 x1 x2 x3 x4 x5 x6 x7 x8 x9 x10 x11 x12 x13 x14 x15 := by kernel_rfl
def f18_L27 (call : CallF) (n : Nat) (h_m0 : (List UInt8) → Int → Bool → Int → Int → (List UInt8) → (List Cell) → Int → Int → Int → (List UInt8) → (List Cell) → Option RR) (h_m1 : (List UInt8) → Int → Bool → Int → (List UInt8) → Int → Int → Int → (List UInt8) → (List Cell) → Int → Int → Int → (List UInt8) → (List Cell) → Option RR) (x0 : List UInt8) (x1 : Int) (x2 : Bool) (x3 : Int) (x4 : List UInt8) (x5 : Int) (x6 : Int) (x7 : Bool) (x8 : Int) (x9 : List UInt8) (x10 : List Cell) (x11 : Int) (x12 : Int) (x13 : Int) (x14 : List UInt8) (x15 : List Cell) : Option RR :=
  f18_T27 call n (fun y0 y1 y2 y3 y4 => f18_L32 call n h_m0 h_m1 y0 y1 y2 y3 y4) h_m1 x0 x1 x2 x3 x4 x5 x6 x7 x8 x9 x10 x11 x12 x13 x14 x15
theorem f18_e27 (call : CallF) (n : Nat) (m0 : Nat) (m1 : Nat) (x0 : List UInt8) (x1 : Int) (x2 : Bool) (x3 : Int) (x4 : List UInt8) (x5 : Int) (x6 : Int) (x7 : Bool) (x8 : Int) (x9 : List UInt8) (x10 : List Cell) (x11 : Int) (x12 : Int) (x13 : Int) (x14 : List UInt8) (x15 : List Cell) : (f18_x call n [1, 1, 1, 0, 0, 0, 1, 1, 1, 1, 1, 1, 1, 0, 1, 0, 0, 1, 0, 0, 0, 1]) (kSeq (f18_x call n [1, 1, 1, 0, 0, 0, 1, 1, 1, 1, 1, 1, 1, 0, 1, 0, 0, 1, 0, 0, 1]) (kBlk 5 (kSeq (f18_x call n [1, 1, 1, 0, 0, 0, 1, 1, 1, 1, 1, 1, 1, 0, 1, 0, 0, 1, 1]) (kSeq (fun k => prK (pruneAt f18_h 1000014) (aloop (pruneAt f18_h 1000014) (f18_x call n [1, 1, 1, 0, 0, 0, 1, 1, 1, 1, 1, 1, 1, 0, 1, 0, 0]) k m1)) (kBlk 4 (kSeq (f18_x call n [1, 1, 1, 0, 0, 0, 1, 1, 1, 1, 1, 1, 1, 1]) (kBlk 1 (kSeq (fun k => prK (pruneAt f18_h 1000003) (aloop (pruneAt f18_h 1000003) (f18_x call n [1, 1, 1, 0, 0]) k m0)) (kBlk 0 (kEnd AXE 0 f18_r)))))))))) ⟨[(0, .one (.str x0)), (1, .one (.int .i64 x1)), (2, .one (.bool x2)), (6, .one (.ptr 0 0)), (7, .one (.ptr 1 0)), (8, .one (.int .i64 x3)), (10, .one (.str x4)), (11, .one (.int .i64 x5)), (12, .one (.int .i64 x6)), (79, .one (.bool x7))], [[.int .i64 x8, .str x9, .sl (some ⟨1000000, 2, 9⟩) 1 x10, .int .i64 x11, .int .i64 x12], [.int .i64 x13, .str x14, .sl (some ⟨1000001, 2, 9⟩) 1 x15]]⟩ = f18_L27 call n (fun y0 y1 y2 y3 y4 y5 y6 y7 y8 y9 y10 y11 => aloop (pruneAt f18_h 1000003) (f18_x call n [1, 1, 1, 0, 0]) (kBlk 0 (kEnd AXE 0 f18_r)) m0 ⟨[(0, .one (.str y0)), (1, .one (.int .i64 y1)), (2, .one (.bool y2)), (6, .one (.ptr 0 0)), (7, .one (.ptr 1 0)), (8, .one (.int .i64 y3))], [[.int .i64 y4, .str y5, .sl (some ⟨1000000, 2, 9⟩) 1 y6, .int .i64 y7, .int .i64 y8], [.int .i64 y9, .str y10, .sl (some ⟨1000001, 2, 9⟩) 1 y11]]⟩) (fun y0 y1 y2 y3 y4 y5 y6 y7 y8 y9 y10 y11 y12 y13 y14 => aloop (pruneAt f18_h 1000014) (f18_x call n [1, 1, 1, 0, 0, 0, 1, 1, 1, 1, 1, 1, 1, 0, 1, 0, 0]) (kBlk 4 (kSeq (f18_x call n [1, 1, 1, 0, 0, 0, 1, 1, 1, 1, 1, 1, 1, 1]) (kBlk 1 (kSeq (fun k => prK (pruneAt f18_h 1000003) (aloop (pruneAt f18_h 1000003) (f18_x call n [1, 1, 1, 0, 0]) k m0)) (kBlk 0 (kEnd AXE 0 f18_r)))))) m1 ⟨[(0, .one (.str y0)), (1, .one (.int .i64 y1)), (2, .one (.bool y2)), (6, .one (.ptr 0 0)), (7, .one (.ptr 1 0)), (8, .one (.int .i64 y3)), (10, .one (.str y4)), (11, .one (.int .i64 y5)), (12, .one (.int .i64 y6))], [[.int .i64 y7, .str y8, .sl (some ⟨1000000, 2, 9⟩) 1 y9, .int .i64 y10, .int .i64 y11], [.int .i64 y12, .str y13, .sl (some ⟨1000001, 2, 9⟩) 1 y14]]⟩) x0 x1 x2 x3 x4 x5 x6 x7 x8 x9 x10 x11 x12 x13 x14 x15 := by
  rw [f18_l27]
  simp only [f18_e32]
  rfl
/-- pigeonhole/pigeonholeref08.Read: label 41 -/
def f18_T41 (call : CallF) (n : Nat) (j30m : (List UInt8) → Int → Bool → Int → (List UInt8) → Int → (List UInt8) → Int → Int → (List UInt8) → (List Cell) → Int → Int → Int → (List UInt8) → (List Cell) → Option RR) (x0 : List UInt8) (x1 : Int) (x2 : Bool) (x3 : Int) (x4 : List UInt8) (x5 : Int) (x6 : List UInt8) (x7 : Int) (x8 : Int) (x9 : List UInt8) (x10 : List Cell) (x11 : Int) (x12 : Int) (x13 : Int) (x14 : List UInt8) (x15 : List Cell) : Option RR :=
  j30m x0 x1 x2 x3 x4 x5 x6 (IntKind.wrap .i64 (x7 + (1 : Int))) x8 x9 x10 x11 x12 x13 x14 x15
theorem f18_l41 (call : CallF) (n : Nat) (m0 : Nat) (m1 : Nat) (x0 : List UInt8) (x1 : Int) (x2 : Bool) (x3 : Int) (x4 : List UInt8) (x5 : Int) (x6 : List UInt8) (x7 : Int) (x8 : Int) (x9 : List UInt8) (x10 : List Cell) (x11 : Int) (x12 : Int) (x13 : Int) (x14 : List UInt8) (x15 : List Cell) : (f18_x call n [1, 1, 1, 0, 0, 0, 1, 1, 1, 1, 1, 1, 1, 1, 1, 1, 0, 1, 0, 1, 0, 0, 0, 1]) (kSeq (fun k => prK (pruneAt f18_h 1000023) (aloop (pruneAt f18_h 1000023) (f18_x call n [1, 1, 1, 0, 0, 0, 1, 1, 1, 1, 1, 1, 1, 1, 1, 1, 0, 1, 0, 1, 0, 0, 0]) k m1)) (kBlk 6 (kSeq (f18_x call n [1, 1, 1, 0, 0, 0, 1, 1, 1, 1, 1, 1, 1, 1, 1, 1, 0, 1, 0, 1, 1]) (kSeq (f18_x call n [1, 1, 1, 0, 0, 0, 1, 1, 1, 1, 1, 1, 1, 1, 1, 1, 1]) (kBlk 1 (kSeq (fun k => prK (pruneAt f18_h 1000003) (aloop (pruneAt f18_h 1000003) (f18_x call n [1, 1, 1, 0, 0]) k m0)) (kBlk 0 (kEnd AXE 0 f18_r)))))))) ⟨[(0, .one (.str x0)), (1, .one (.int .i64 x1)), (2, .one (.bool x2)), (6, .one (.ptr 0 0)), (7, .one (.ptr 1 0)), (8, .one (.int .i64 x3)), (10, .one (.str x4)), (11, .one (.int .i64 x5)), (13, .one (.str x6)), (15, .one (.int .i64 x7))], [[.int .i64 x8, .str x9, .sl (some ⟨1000000, 2, 9⟩) 1 x10, .int .i64 x11, .int .i64 x12], [.int .i64 x13, .str x14, .sl (some ⟨1000001, 2, 9⟩) 1 x15]]⟩ = f18_T41 call n (fun y0 y1 y2 y3 y4 y5 y6 y7 y8 y9 y10 y11 y12 y13 y14 y15 => aloop (pruneAt f18_h 1000023) (f18_x call n [1, 1, 1, 0, 0, 0, 1, 1, 1, 1, 1, 1, 1, 1, 1, 1, 0, 1, 0, 1, 0, 0, 0]) (kBlk 6 (kSeq (f18_x call n [1, 1, 1, 0, 0, 0, 1, 1, 1, 1, 1, 1, 1, 1, 1, 1, 0, 1, 0, 1, 1]) (kSeq (f18_x call n [1, 1, 1, 0, 0, 0, 1, 1, 1, 1, 1, 1, 1, 1, 1, 1, 1]) (kBlk 1 (kSeq (fun k => prK (pruneAt f18_h 1000003) (aloop (pruneAt f18_h 1000003) (f18_x call n [1, 1, 1, 0, 0]) k m0)) (kBlk 0 (kEnd AXE 0 f18_r))))))) m1 ⟨[(0, .one (.str y0)), (1, .one (.int .i64 y1)), (2, .one (.bool y2)), (6, .one (.ptr 0 0)), (7, .one (.ptr 1 0)), (8, .one (.int .i64 y3)), (10, .one (.str y4)), (11, .one (.int .i64 y5)), (13, .one (.str y6)), (15, .one (.int .i64 y7))], [[.int .i64 y8, .str y9, .sl (some ⟨1000000, 2, 9⟩) 1 y10, .int .i64 y11, .int .i64 y12], [.int .i64 y13, .str y14, .sl (some ⟨1000001, 2, 9⟩) 1 y15]]⟩) x0 x1 x2 x3 x4 x5 x6 x7 x8 x9 x10 x11 x12 x13 x14 x15 := by kernel_rfl
def f18_L41 (call : CallF) (n : Nat) (h_m0 : (List UInt8) → Int → Bool → Int → Int → (List UInt8) → (List Cell) → Int → Int → Int → (List UInt8) → (List Cell) → Option RR) (h_m1 : (List UInt8) → Int → Bool → Int → (List UInt8) → Int → (List UInt8) → Int → Int → (List UInt8) → (List Cell) → Int → Int → Int → (List UInt8) → (List Cell) → Option RR) (x0 : List UInt8) (x1 : Int) (x2 : Bool) (x3 : Int) (x4 : List UInt8) (x5 : Int) (x6 : List UInt8) (x7 : Int) (x8 : Int) (x9 : List UInt8) (x10 : List Cell) (x11 : Int) (x12 : Int) (x13 : Int) (x14 : List UInt8) (x15 : List Cell) : Option RR :=
  f18_T41 call n h_m1 x0 x1 x2 x3 x4 x5 x6 x7 x8 x9 x10 x11 x12 x13 x14 x15
theorem f18_e41 (call : CallF) (n : Nat) (m0 : Nat) (m1 : Nat) (x0 : List UInt8) (x1 : Int) (x2 : Bool) (x3 : Int) (x4 : List UInt8) (x5 : Int) (x6 : List UInt8) (x7 : Int) (x8 : Int) (x9 : List UInt8) (x10 : List Cell) (x11 : Int) (x12 : Int) (x13 : Int) (x14 : List UInt8) (x15 : List Cell) : (f18_x call n [1, 1, 1, 0, 0, 0, 1, 1, 1, 1, 1, 1, 1, 1, 1, 1, 0, 1, 0, 1, 0, 0, 0, 1]) (kSeq (fun k => prK (pruneAt f18_h 1000023) (aloop (pruneAt f18_h 1000023) (f18_x call n [1, 1, 1, 0, 0, 0, 1, 1, 1, 1, 1, 1, 1, 1, 1, 1, 0, 1, 0, 1, 0, 0, 0]) k m1)) (kBlk 6 (kSeq (f18_x call n [1, 1, 1, 0, 0, 0, 1, 1, 1, 1, 1, 1, 1, 1, 1, 1, 0, 1, 0, 1, 1]) (kSeq (f18_x call n [1, 1, 1, 0, 0, 0, 1, 1, 1, 1, 1, 1, 1, 1, 1, 1, 1]) (kBlk 1 (kSeq (fun k => prK (pruneAt f18_h 1000003) (aloop (pruneAt f18_h 1000003) (f18_x call n [1, 1, 1, 0, 0]) k m0)) (kBlk 0 (kEnd AXE 0 f18_r)))))))) ⟨[(0, .one (.str x0)), (1, .one (.int .i64 x1)), (2, .one (.bool x2)), (6, .one (.ptr 0 0)), (7, .one (.ptr 1 0)), (8, .one (.int .i64 x3)), (10, .one (.str x4)), (11, .one (.int .i64 x5)), (13, .one (.str x6)), (15, .one (.int .i64 x7))], [[.int .i64 x8, .str x9, .sl (some ⟨1000000, 2, 9⟩) 1 x10, .int .i64 x11, .int .i64 x12], [.int .i64 x13, .str x14, .sl (some ⟨1000001, 2, 9⟩) 1 x15]]⟩ = f18_L41 call n (fun y0 y1 y2 y3 y4 y5 y6 y7 y8 y9 y10 y11 => aloop (pruneAt f18_h 1000003) (f18_x call n [1, 1, 1, 0, 0]) (kBlk 0 (kEnd AXE 0 f18_r)) m0 ⟨[(0, .one (.str y0)), (1, .one (.int .i64 y1)), (2, .one (.bool y2)), (6, .one (.ptr 0 0)), (7, .one (.ptr 1 0)), (8, .one (.int .i64 y3))], [[.int .i64 y4, .str y5, .sl (some ⟨1000000, 2, 9⟩) 1 y6, .int .i64 y7, .int .i64 y8], [.int .i64 y9, .str y10, .sl (some ⟨1000001, 2, 9⟩) 1 y11]]⟩) (fun y0 y1 y2 y3 y4 y5 y6 y7 y8 y9 y10 y11 y12 y13 y14 y15 => aloop (pruneAt f18_h 1000023) (f18_x call n [1, 1, 1, 0, 0, 0, 1, 1, 1, 1, 1, 1, 1, 1, 1, 1, 0, 1, 0, 1, 0, 0, 0]) (kBlk 6 (kSeq (f18_x call n [1, 1, 1, 0, 0, 0, 1, 1, 1, 1, 1, 1, 1, 1, 1, 1, 0, 1, 0, 1, 1]) (kSeq (f18_x call n [1, 1, 1, 0, 0, 0, 1, 1, 1, 1, 1, 1, 1, 1, 1, 1, 1]) (kBlk 1 (kSeq (fun k => prK (pruneAt f18_h 1000003) (aloop (pruneAt f18_h 1000003) (f18_x call n [1, 1, 1, 0, 0]) k m0)) (kBlk 0 (kEnd AXE 0 f18_r))))))) m1 ⟨[(0, .one (.str y0)), (1, .one (.int .i64 y1)), (2, .one (.bool y2)), (6, .one (.ptr 0 0)), (7, .one (.ptr 1 0)), (8, .one (.int .i64 y3)), (10, .one (.str y4)), (11, .one (.int .i64 y5)), (13, .one (.str y6)), (15, .one (.int .i64 y7))], [[.int .i64 y8, .str y9, .sl (some ⟨1000000, 2, 9⟩) 1 y10, .int .i64 y11, .int .i64 y12], [.int .i64 y13, .str y14, .sl (some ⟨1000001, 2, 9⟩) 1 y15]]⟩) x0 x1 x2 x3 x4 x5 x6 x7 x8 x9 x10 x11 x12 x13 x14 x15 := by
  rw [f18_l41]
  rfl
/-- pigeonhole/pigeonholeref08.Read: label 47 -/
def f18_T47 (call : CallF) (n : Nat) (x0 : Int) (x1 : List UInt8) (x2 : List Cell) (x3 : Int) (x4 : Int) : Option RR :=
  some (.agg [.int .i64 x0, .str x1, .sl (some ⟨1000000, 2, 9⟩) 1 x2, .int .i64 x3, .int .i64 x4], [])
theorem f18_l47 (call : CallF) (n : Nat) (m0 : Nat) (x0 : Int) (x1 : List UInt8) (x2 : List Cell) (x3 : Int) (x4 : Int) : (f18_x call n [1, 1, 1, 0, 0, 0, 1, 1, 1, 1, 1, 1, 1, 1, 1, 1, 0, 1, 0, 1, 1, 0, 1, 0, 1]) (kSeq (f18_x call n [1, 1, 1, 0, 0, 0, 1, 1, 1, 1, 1, 1, 1, 1, 1, 1, 0, 1, 0, 1, 1, 1]) (kSeq (f18_x call n [1, 1, 1, 0, 0, 0, 1, 1, 1, 1, 1, 1, 1, 1, 1, 1, 1]) (kBlk 1 (kSeq (fun k => prK (pruneAt f18_h 1000003) (aloop (pruneAt f18_h 1000003) (f18_x call n [1, 1, 1, 0, 0]) k m0)) (kBlk 0 (kEnd AXE 0 f18_r)))))) ⟨[(6, .one (.ptr 0 0))], [[.int .i64 x0, .str x1, .sl (some ⟨1000000, 2, 9⟩) 1 x2, .int .i64 x3, .int .i64 x4]]⟩ = f18_T47 call n x0 x1 x2 x3 x4 := by kernel_rfl
def f18_L47 (call : CallF) (n : Nat) (h_m0 : (List UInt8) → Int → Bool → Int → Int → (List UInt8) → (List Cell) → Int → Int → Int → (List UInt8) → (List Cell) → Option RR) (x0 : Int) (x1 : List UInt8) (x2 : List Cell) (x3 : Int) (x4 : Int) : Option RR :=
  f18_T47 call n x0 x1 x2 x3 x4
theorem f18_e47 (call : CallF) (n : Nat) (m0 : Nat) (x0 : Int) (x1 : List UInt8) (x2 : List Cell) (x3 : Int) (x4 : Int) : (f18_x call n [1, 1, 1, 0, 0, 0, 1, 1, 1, 1, 1, 1, 1, 1, 1, 1, 0, 1, 0, 1, 1, 0, 1, 0, 1]) (kSeq (f18_x call n [1, 1, 1, 0, 0, 0, 1, 1, 1, 1, 1, 1, 1, 1, 1, 1, 0, 1, 0, 1, 1, 1]) (kSeq (f18_x call n [1, 1, 1, 0, 0, 0, 1, 1, 1, 1, 1, 1, 1, 1, 1, 1, 1]) (kBlk 1 (kSeq (fun k => prK (pruneAt f18_h 1000003) (aloop (pruneAt f18_h 1000003) (f18_x call n [1, 1, 1, 0, 0]) k m0)) (kBlk 0 (kEnd AXE 0 f18_r)))))) ⟨[(6, .one (.ptr 0 0))], [[.int .i64 x0, .str x1, .sl (some ⟨1000000, 2, 9⟩) 1 x2, .int .i64 x3, .int .i64 x4]]⟩ = f18_L47 call n (fun y0 y1 y2 y3 y4 y5 y6 y7 y8 y9 y10 y11 => aloop (pruneAt f18_h 1000003) (f18_x call n [1, 1, 1, 0, 0]) (kBlk 0 (kEnd AXE 0 f18_r)) m0 ⟨[(0, .one (.str y0)), (1, .one (.int .i64 y1)), (2, .one (.bool y2)), (6, .one (.ptr 0 0)), (7, .one (.ptr 1 0)), (8, .one (.int .i64 y3))], [[.int .i64 y4, .str y5, .sl (some ⟨1000000, 2, 9⟩) 1 y6, .int .i64 y7, .int .i64 y8], [.int .i64 y9, .str y10, .sl (some ⟨1000001, 2, 9⟩) 1 y11]]⟩) x0 x1 x2 x3 x4 := by
  rw [f18_l47]
  rfl
/-- pigeonhole/pigeonholeref08.Read: label 43 -/
def f18_T43 (call : CallF) (n : Nat) (x0 : Int) (x1 : List UInt8) (x2 : List Cell) (x3 : Int) (x4 : Int) : Option RR :=
  some (.agg [.int .i64 x0, .str x1, .sl (some ⟨1000000, 2, 9⟩) 1 x2, .int .i64 x3, .int .i64 x4], [])
theorem f18_l43 (call : CallF) (n : Nat) (m0 : Nat) (x0 : Int) (x1 : List UInt8) (x2 : List Cell) (x3 : Int) (x4 : Int) : (f18_x call n [1, 1, 1, 0, 0, 0, 1, 1, 1, 1, 1, 1, 1, 1, 1, 1, 1, 0, 1, 0, 1]) (kSeq (f18_x call n [1, 1, 1, 0, 0, 0, 1, 1, 1, 1, 1, 1, 1, 1, 1, 1, 1, 1]) (kBlk 1 (kSeq (fun k => prK (pruneAt f18_h 1000003) (aloop (pruneAt f18_h 1000003) (f18_x call n [1, 1, 1, 0, 0]) k m0)) (kBlk 0 (kEnd AXE 0 f18_r))))) ⟨[(6, .one (.ptr 0 0))], [[.int .i64 x0, .str x1, .sl (some ⟨1000000, 2, 9⟩) 1 x2, .int .i64 x3, .int .i64 x4]]⟩ = f18_T43 call n x0 x1 x2 x3 x4 := by kernel_rfl
def f18_L43 (call : CallF) (n : Nat) (h_m0 : (List UInt8) → Int → Bool → Int → Int → (List UInt8) → (List Cell) → Int → Int → Int → (List UInt8) → (List Cell) → Option RR) (x0 : Int) (x1 : List UInt8) (x2 : List Cell) (x3 : Int) (x4 : Int) : Option RR :=
  f18_T43 call n x0 x1 x2 x3 x4
theorem f18_e43 (call : CallF) (n : Nat) (m0 : Nat) (x0 : Int) (x1 : List UInt8) (x2 : List Cell) (x3 : Int) (x4 : Int) : (f18_x call n [1, 1, 1, 0, 0, 0, 1, 1, 1, 1, 1, 1, 1, 1, 1, 1, 1, 0, 1, 0, 1]) (kSeq (f18_x call n [1, 1, 1, 0, 0, 0, 1, 1, 1, 1, 1, 1, 1, 1, 1, 1, 1, 1]) (kBlk 1 (kSeq (fun k => prK (pruneAt f18_h 1000003) (aloop (pruneAt f18_h 1000003) (f18_x call n [1, 1, 1, 0, 0]) k m0)) (kBlk 0 (kEnd AXE 0 f18_r))))) ⟨[(6, .one (.ptr 0 0))], [[.int .i64 x0, .str x1, .sl (some ⟨1000000, 2, 9⟩) 1 x2, .int .i64 x3, .int .i64 x4]]⟩ = f18_L43 call n (fun y0 y1 y2 y3 y4 y5 y6 y7 y8 y9 y10 y11 => aloop (pruneAt f18_h 1000003) (f18_x call n [1, 1, 1, 0, 0]) (kBlk 0 (kEnd AXE 0 f18_r)) m0 ⟨[(0, .one (.str y0)), (1, .one (.int .i64 y1)), (2, .one (.bool y2)), (6, .one (.ptr 0 0)), (7, .one (.ptr 1 0)), (8, .one (.int .i64 y3))], [[.int .i64 y4, .str y5, .sl (some ⟨1000000, 2, 9⟩) 1 y6, .int .i64 y7, .int .i64 y8], [.int .i64 y9, .str y10, .sl (some ⟨1000001, 2, 9⟩) 1 y11]]⟩) x0 x1 x2 x3 x4 := by
  rw [f18_l43]
  rfl
/-- pigeonhole/pigeonholeref08.Read: label 34 -/
def f18_T34 (call : CallF) (n : Nat) (j43 : Int → (List UInt8) → (List Cell) → Int → Int → Option RR) (j3m : (List UInt8) → Int → Bool → Int → Int → (List UInt8) → (List Cell) → Int → Int → Int → (List UInt8) → (List Cell) → Option RR) (x0 : List UInt8) (x1 : Int) (x2 : Bool) (x3 : Int) (x4 : List UInt8) (x5 : Int) (x6 : List UInt8) (x7 : List UInt8) (x8 : Bool) (x9 : Int) (x10 : List UInt8) (x11 : List Cell) (x12 : Int) (x13 : Int) (x14 : Int) (x15 : List UInt8) (x16 : List Cell) : Option RR :=
  bif x8 then (
    j43 (0 : Int) ([] : List UInt8) ([] : List Cell) (0 : Int) (3 : Int)) else (
    guardB (decide (((x16).length + (([.str x6] : List Cell)).length) * 100 ≤ rowLim)) (
      itemK x4 (3 : Int) fun u1 =>
      bif ((UInt8.toNat u1 : Int) == (32 : Int)) then (
        some (.agg [.int .i64 x5, .str x7, .sl (some ⟨1000000, 2, 9⟩) 1 (x16 ++ ([.str x6] : List Cell)), .int .i64 (IntKind.wrap .i64 (x3 - x1)), .int .i64 (0 : Int)], [])) else (
        j3m x0 x1 x2 x3 x9 x10 x11 x12 x13 x5 x7 (x16 ++ ([.str x6] : List Cell)))))
theorem f18_l34 (call : CallF) (n : Nat) (m0 : Nat) (x0 : List UInt8) (x1 : Int) (x2 : Bool) (x3 : Int) (x4 : List UInt8) (x5 : Int) (x6 : List UInt8) (x7 : List UInt8) (x8 : Bool) (x9 : Int) (x10 : List UInt8) (x11 : List Cell) (x12 : Int) (x13 : Int) (x14 : Int) (x15 : List UInt8) (x16 : List Cell) : (f18_x call n [1, 1, 1, 0, 0, 0, 1, 1, 1, 1, 1, 1, 1, 1, 1, 1, 1, 0, 1]) (kSeq (f18_x call n [1, 1, 1, 0, 0, 0, 1, 1, 1, 1, 1, 1, 1, 1, 1, 1, 1, 1]) (kBlk 1 (kSeq (fun k => prK (pruneAt f18_h 1000003) (aloop (pruneAt f18_h 1000003) (f18_x call n [1, 1, 1, 0, 0]) k m0)) (kBlk 0 (kEnd AXE 0 f18_r))))) ⟨[(0, .one (.str x0)), (1, .one (.int .i64 x1)), (2, .one (.bool x2)), (6, .one (.ptr 0 0)), (7, .one (.ptr 1 0)), (8, .one (.int .i64 x3)), (10, .one (.str x4)), (11, .one (.int .i64 x5)), (13, .one (.str x6)), (14, .one (.str x7)), (152, .one (.bool x8))], [[.int .i64 x9, .str x10, .sl (some ⟨1000000, 2, 9⟩) 1 x11, .int .i64 x12, .int .i64 x13], [.int .i64 x14, .str x15, .sl (some ⟨1000001, 2, 9⟩) 1 x16]]⟩ = f18_T34 call n (fun y0 y1 y2 y3 y4 => (f18_x call n [1, 1, 1, 0, 0, 0, 1, 1, 1, 1, 1, 1, 1, 1, 1, 1, 1, 0, 1, 0, 1]) (kSeq (f18_x call n [1, 1, 1, 0, 0, 0, 1, 1, 1, 1, 1, 1, 1, 1, 1, 1, 1, 1]) (kBlk 1 (kSeq (fun k => prK (pruneAt f18_h 1000003) (aloop (pruneAt f18_h 1000003) (f18_x call n [1, 1, 1, 0, 0]) k m0)) (kBlk 0 (kEnd AXE 0 f18_r))))) ⟨[(6, .one (.ptr 0 0))], [[.int .i64 y0, .str y1, .sl (some ⟨1000000, 2, 9⟩) 1 y2, .int .i64 y3, .int .i64 y4]]⟩) (fun y0 y1 y2 y3 y4 y5 y6 y7 y8 y9 y10 y11 => aloop (pruneAt f18_h 1000003) (f18_x call n [1, 1, 1, 0, 0]) (kBlk 0 (kEnd AXE 0 f18_r)) m0 ⟨[(0, .one (.str y0)), (1, .one (.int .i64 y1)), (2, .one (.bool y2)), (6, .one (.ptr 0 0)), (7, .one (.ptr 1 0)), (8, .one (.int .i64 y3))], [[.int .i64 y4, .str y5, .sl (some ⟨1000000, 2, 9⟩) 1 y6, .int .i64 y7, .int .i64 y8], [.int .i64 y9, .str y10, .sl (some ⟨1000001, 2, 9⟩) 1 y11]]⟩) x0 x1 x2 x3 x4 x5 x6 x7 x8 x9 x10 x11 x12 x13 x14 x15 x16 := by kernel_rfl
def f18_L34 (call : CallF) (n : Nat) (h_m0 : (List UInt8) → Int → Bool → Int → Int → (List UInt8) → (List Cell) → Int → Int → Int → (List UInt8) → (List Cell) → Option RR) (x0 : List UInt8) (x1 : Int) (x2 : Bool) (x3 : Int) (x4 : List UInt8) (x5 : Int) (x6 : List UInt8) (x7 : List UInt8) (x8 : Bool) (x9 : Int) (x10 : List UInt8) (x11 : List Cell) (x12 : Int) (x13 : Int) (x14 : Int) (x15 : List UInt8) (x16 : List Cell) : Option RR :=
  f18_T34 call n (fun y0 y1 y2 y3 y4 => f18_L43 call n h_m0 y0 y1 y2 y3 y4) h_m0 x0 x1 x2 x3 x4 x5 x6 x7 x8 x9 x10 x11 x12 x13 x14 x15 x16
theorem f18_e34 (call : CallF) (n : Nat) (m0 : Nat) (x0 : List UInt8) (x1 : Int) (x2 : Bool) (x3 : Int) (x4 : List UInt8) (x5 : Int) (x6 : List UInt8) (x7 : List UInt8) (x8 : Bool) (x9 : Int) (x10 : List UInt8) (x11 : List Cell) (x12 : Int) (x13 : Int) (x14 : Int) (x15 : List UInt8) (x16 : List Cell) : (f18_x call n [1, 1, 1, 0, 0, 0, 1, 1, 1, 1, 1, 1, 1, 1, 1, 1, 1, 0, 1]) (kSeq (f18_x call n [1, 1, 1, 0, 0, 0, 1, 1, 1, 1, 1, 1, 1, 1, 1, 1, 1, 1]) (kBlk 1 (kSeq (fun k => prK (pruneAt f18_h 1000003) (aloop (pruneAt f18_h 1000003) (f18_x call n [1, 1, 1, 0, 0]) k m0)) (kBlk 0 (kEnd AXE 0 f18_r))))) ⟨[(0, .one (.str x0)), (1, .one (.int .i64 x1)), (2, .one (.bool x2)), (6, .one (.ptr 0 0)), (7, .one (.ptr 1 0)), (8, .one (.int .i64 x3)), (10, .one (.str x4)), (11, .one (.int .i64 x5)), (13, .one (.str x6)), (14, .one (.str x7)), (152, .one (.bool x8))], [[.int .i64 x9, .str x10, .sl (some ⟨1000000, 2, 9⟩) 1 x11, .int .i64 x12, .int .i64 x13], [.int .i64 x14, .str x15, .sl (some ⟨1000001, 2, 9⟩) 1 x16]]⟩ = f18_L34 call n (fun y0 y1 y2 y3 y4 y5 y6 y7 y8 y9 y10 y11 => aloop (pruneAt f18_h 1000003) (f18_x call n [1, 1, 1, 0, 0]) (kBlk 0 (kEnd AXE 0 f18_r)) m0 ⟨[(0, .one (.str y0)), (1, .one (.int .i64 y1)), (2, .one (.bool y2)), (6, .one (.ptr 0 0)), (7, .one (.ptr 1 0)), (8, .one (.int .i64 y3))], [[.int .i64 y4, .str y5, .sl (some ⟨1000000, 2, 9⟩) 1 y6, .int .i64 y7, .int .i64 y8], [.int .i64 y9, .str y10, .sl (some ⟨1000001, 2, 9⟩) 1 y11]]⟩) x0 x1 x2 x3 x4 x5 x6 x7 x8 x9 x10 x11 x12 x13 x14 x15 x16 := by
  rw [f18_l34]
  simp only [f18_e43]
  rfl
/-- pigeonhole/pigeonholeref08.Read: label 31 -/
def f18_T31 (call : CallF) (n : Nat) (j34 : (List UInt8) → Int → Bool → Int → (List UInt8) → Int → (List UInt8) → (List UInt8) → Bool → Int → (List UInt8) → (List Cell) → Int → Int → Int → (List UInt8) → (List Cell) → Option RR) (x0 : List UInt8) (x1 : Int) (x2 : Bool) (x3 : Int) (x4 : List UInt8) (x5 : Int) (x6 : List UInt8) (x7 : List UInt8) (x8 : Int) (x9 : List UInt8) (x10 : List Cell) (x11 : Int) (x12 : Int) (x13 : Int) (x14 : List UInt8) (x15 : List Cell) : Option RR :=
  bif (decide (x5 < (200 : Int))) then (
    j34 x0 x1 x2 x3 x4 x5 x6 x7 true x8 x9 x10 x11 x12 x13 x14 x15) else (
    bif (decide (x5 > (599 : Int))) then (
      j34 x0 x1 x2 x3 x4 x5 x6 x7 true x8 x9 x10 x11 x12 x13 x14 x15) else (
      callK call 45 [.one (.str x6)] fun v1 =>
      castOne v1 fun c2 =>
      castB c2 fun b3 =>
      bif (!b3) then (
        j34 x0 x1 x2 x3 x4 x5 x6 x7 true x8 x9 x10 x11 x12 x13 x14 x15) else (
        bif (decide ((((x15).length / 1 : Nat) : Int) > (0 : Int))) then (
          bif (x13 != x5) then (
            j34 x0 x1 x2 x3 x4 x5 x6 x7 true x8 x9 x10 x11 x12 x13 x14 x15) else (
            j34 x0 x1 x2 x3 x4 x5 x6 x7 (!(x14 == x7)) x8 x9 x10 x11 x12 x13 x14 x15)) else (
          j34 x0 x1 x2 x3 x4 x5 x6 x7 false x8 x9 x10 x11 x12 x13 x14 x15))))
theorem f18_l31 (call : CallF) (n : Nat) (m0 : Nat) (x0 : List UInt8) (x1 : Int) (x2 : Bool) (x3 : Int) (x4 : List UInt8) (x5 : Int) (x6 : List UInt8) (x7 : List UInt8) (x8 : Int) (x9 : List UInt8) (x10 : List Cell) (x11 : Int) (x12 : Int) (x13 : Int) (x14 : List UInt8) (x15 : List Cell) : (f18_x call n [1, 1, 1, 0, 0, 0, 1, 1, 1, 1, 1, 1, 1, 1, 1, 1, 1]) (kBlk 1 (kSeq (fun k => prK (pruneAt f18_h 1000003) (aloop (pruneAt f18_h 1000003) (f18_x call n [1, 1, 1, 0, 0]) k m0)) (kBlk 0 (kEnd AXE 0 f18_r)))) ⟨[(0, .one (.str x0)), (1, .one (.int .i64 x1)), (2, .one (.bool x2)), (6, .one (.ptr 0 0)), (7, .one (.ptr 1 0)), (8, .one (.int .i64 x3)), (10, .one (.str x4)), (11, .one (.int .i64 x5)), (13, .one (.str x6)), (14, .one (.str x7))], [[.int .i64 x8, .str x9, .sl (some ⟨1000000, 2, 9⟩) 1 x10, .int .i64 x11, .int .i64 x12], [.int .i64 x13, .str x14, .sl (some ⟨1000001, 2, 9⟩) 1 x15]]⟩ = f18_T31 call n (fun y0 y1 y2 y3 y4 y5 y6 y7 y8 y9 y10 y11 y12 y13 y14 y15 y16 => (f18_x call n [1, 1, 1, 0, 0, 0, 1, 1, 1, 1, 1, 1, 1, 1, 1, 1, 1, 0, 1]) (kSeq (f18_x call n [1, 1, 1, 0, 0, 0, 1, 1, 1, 1, 1, 1, 1, 1, 1, 1, 1, 1]) (kBlk 1 (kSeq (fun k => prK (pruneAt f18_h 1000003) (aloop (pruneAt f18_h 1000003) (f18_x call n [1, 1, 1, 0, 0]) k m0)) (kBlk 0 (kEnd AXE 0 f18_r))))) ⟨[(0, .one (.str y0)), (1, .one (.int .i64 y1)), (2, .one (.bool y2)), (6, .one (.ptr 0 0)), (7, .one (.ptr 1 0)), (8, .one (.int .i64 y3)), (10, .one (.str y4)), (11, .one (.int .i64 y5)), (13, .one (.str y6)), (14, .one (.str y7)), (152, .one (.bool y8))], [[.int .i64 y9, .str y10, .sl (some ⟨1000000, 2, 9⟩) 1 y11, .int .i64 y12, .int .i64 y13], [.int .i64 y14, .str y15, .sl (some ⟨1000001, 2, 9⟩) 1 y16]]⟩) x0 x1 x2 x3 x4 x5 x6 x7 x8 x9 x10 x11 x12 x13 x14 x15 := by kernel_rfl
def f18_L31 (call : CallF) (n : Nat) (h_m0 : (List UInt8) → Int → Bool → Int → Int → (List UInt8) → (List Cell) → Int → Int → Int → (List UInt8) → (List Cell) → Option RR) (x0 : List UInt8) (x1 : Int) (x2 : Bool) (x3 : Int) (x4 : List UInt8) (x5 : Int) (x6 : List UInt8) (x7 : List UInt8) (x8 : Int) (x9 : List UInt8) (x10 : List Cell) (x11 : Int) (x12 : Int) (x13 : Int) (x14 : List UInt8) (x15 : List Cell) : Option RR :=
  f18_T31 call n (fun y0 y1 y2 y3 y4 y5 y6 y7 y8 y9 y10 y11 y12 y13 y14 y15 y16 => f18_L34 call n h_m0 y0 y1 y2 y3 y4 y5 y6 y7 y8 y9 y10 y11 y12 y13 y14 y15 y16) x0 x1 x2 x3 x4 x5 x6 x7 x8 x9 x10 x11 x12 x13 x14 x15
theorem f18_e31 (call : CallF) (n : Nat) (m0 : Nat) (x0 : List UInt8) (x1 : Int) (x2 : Bool) (x3 : Int) (x4 : List UInt8) (x5 : Int) (x6 : List UInt8) (x7 : List UInt8) (x8 : Int) (x9 : List UInt8) (x10 : List Cell) (x11 : Int) (x12 : Int) (x13 : Int) (x14 : List UInt8) (x15 : List Cell) : (f18_x call n [1, 1, 1, 0, 0, 0, 1, 1, 1, 1, 1, 1, 1, 1, 1, 1, 1]) (kBlk 1 (kSeq (fun k => prK (pruneAt f18_h 1000003) (aloop (pruneAt f18_h 1000003) (f18_x call n [1, 1, 1, 0, 0]) k m0)) (kBlk 0 (kEnd AXE 0 f18_r)))) ⟨[(0, .one (.str x0)), (1, .one (.int .i64 x1)), (2, .one (.bool x2)), (6, .one (.ptr 0 0)), (7, .one (.ptr 1 0)), (8, .one (.int .i64 x3)), (10, .one (.str x4)), (11, .one (.int .i64 x5)), (13, .one (.str x6)), (14, .one (.str x7))], [[.int .i64 x8, .str x9, .sl (some ⟨1000000, 2, 9⟩) 1 x10, .int .i64 x11, .int .i64 x12], [.int .i64 x13, .str x14, .sl (some ⟨1000001, 2, 9⟩) 1 x15]]⟩ = f18_L31 call n (fun y0 y1 y2 y3 y4 y5 y6 y7 y8 y9 y10 y11 => aloop (pruneAt f18_h 1000003) (f18_x call n [1, 1, 1, 0, 0]) (kBlk 0 (kEnd AXE 0 f18_r)) m0 ⟨[(0, .one (.str y0)), (1, .one (.int .i64 y1)), (2, .one (.bool y2)), (6, .one (.ptr 0 0)), (7, .one (.ptr 1 0)), (8, .one (.int .i64 y3))], [[.int .i64 y4, .str y5, .sl (some ⟨1000000, 2, 9⟩) 1 y6, .int .i64 y7, .int .i64 y8], [.int .i64 y9, .str y10, .sl (some ⟨1000001, 2, 9⟩) 1 y11]]⟩) x0 x1 x2 x3 x4 x5 x6 x7 x8 x9 x10 x11 x12 x13 x14 x15 := by
  rw [f18_l31]
  simp only [f18_e34]
  rfl
/-- pigeonhole/pigeonholeref08.Read: label 44 -/
def f18_T44 (call : CallF) (n : Nat) (j47 : Int → (List UInt8) → (List Cell) → Int → Int → Option RR) (j31 : (List UInt8) → Int → Bool → Int → (List UInt8) → Int → (List UInt8) → (List UInt8) → Int → (List UInt8) → (List Cell) → Int → Int → Int → (List UInt8) → (List Cell) → Option RR) (x0 : List UInt8) (x1 : Int) (x2 : Bool) (x3 : Int) (x4 : List UInt8) (x5 : Int) (x6 : List UInt8) (x7 : Int) (x8 : Bool) (x9 : Int) (x10 : List UInt8) (x11 : List Cell) (x12 : Int) (x13 : Int) (x14 : Int) (x15 : List UInt8) (x16 : List Cell) : Option RR :=
  bif x8 then (
    j47 (0 : Int) ([] : List UInt8) ([] : List Cell) (0 : Int) (3 : Int)) else (
    bif decide (0 ≤ x7 ∧ (Int.toNat x7) ≤ (x6).length) then (
      bif decide (0 ≤ (IntKind.wrap .i64 (x7 + (1 : Int))) ∧ (Int.toNat (IntKind.wrap .i64 (x7 + (1 : Int)))) ≤ (x6).length) then (
        j31 x0 x1 x2 x3 x4 x5 ((x6.take (x6).length).drop (Int.toNat (IntKind.wrap .i64 (x7 + (1 : Int))))) ((x6.take (Int.toNat x7)).drop 0) x9 x10 x11 x12 x13 x14 x15 x16) else none) else none)
theorem f18_l44 (call : CallF) (n : Nat) (m0 : Nat) (x0 : List UInt8) (x1 : Int) (x2 : Bool) (x3 : Int) (x4 : List UInt8) (x5 : Int) (x6 : List UInt8) (x7 : Int) (x8 : Bool) (x9 : Int) (x10 : List UInt8) (x11 : List Cell) (x12 : Int) (x13 : Int) (x14 : Int) (x15 : List UInt8) (x16 : List Cell) : (f18_x call n [1, 1, 1, 0, 0, 0, 1, 1, 1, 1, 1, 1, 1, 1, 1, 1, 0, 1, 0, 1, 1, 0, 1]) (kSeq (f18_x call n [1, 1, 1, 0, 0, 0, 1, 1, 1, 1, 1, 1, 1, 1, 1, 1, 0, 1, 0, 1, 1, 1]) (kSeq (f18_x call n [1, 1, 1, 0, 0, 0, 1, 1, 1, 1, 1, 1, 1, 1, 1, 1, 1]) (kBlk 1 (kSeq (fun k => prK (pruneAt f18_h 1000003) (aloop (pruneAt f18_h 1000003) (f18_x call n [1, 1, 1, 0, 0]) k m0)) (kBlk 0 (kEnd AXE 0 f18_r)))))) ⟨[(0, .one (.str x0)), (1, .one (.int .i64 x1)), (2, .one (.bool x2)), (6, .one (.ptr 0 0)), (7, .one (.ptr 1 0)), (8, .one (.int .i64 x3)), (10, .one (.str x4)), (11, .one (.int .i64 x5)), (13, .one (.str x6)), (15, .one (.int .i64 x7)), (115, .one (.bool x8))], [[.int .i64 x9, .str x10, .sl (some ⟨1000000, 2, 9⟩) 1 x11, .int .i64 x12, .int .i64 x13], [.int .i64 x14, .str x15, .sl (some ⟨1000001, 2, 9⟩) 1 x16]]⟩ = f18_T44 call n (fun y0 y1 y2 y3 y4 => (f18_x call n [1, 1, 1, 0, 0, 0, 1, 1, 1, 1, 1, 1, 1, 1, 1, 1, 0, 1, 0, 1, 1, 0, 1, 0, 1]) (kSeq (f18_x call n [1, 1, 1, 0, 0, 0, 1, 1, 1, 1, 1, 1, 1, 1, 1, 1, 0, 1, 0, 1, 1, 1]) (kSeq (f18_x call n [1, 1, 1, 0, 0, 0, 1, 1, 1, 1, 1, 1, 1, 1, 1, 1, 1]) (kBlk 1 (kSeq (fun k => prK (pruneAt f18_h 1000003) (aloop (pruneAt f18_h 1000003) (f18_x call n [1, 1, 1, 0, 0]) k m0)) (kBlk 0 (kEnd AXE 0 f18_r)))))) ⟨[(6, .one (.ptr 0 0))], [[.int .i64 y0, .str y1, .sl (some ⟨1000000, 2, 9⟩) 1 y2, .int .i64 y3, .int .i64 y4]]⟩) (fun y0 y1 y2 y3 y4 y5 y6 y7 y8 y9 y10 y11 y12 y13 y14 y15 => (f18_x call n [1, 1, 1, 0, 0, 0, 1, 1, 1, 1, 1, 1, 1, 1, 1, 1, 1]) (kBlk 1 (kSeq (fun k => prK (pruneAt f18_h 1000003) (aloop (pruneAt f18_h 1000003) (f18_x call n [1, 1, 1, 0, 0]) k m0)) (kBlk 0 (kEnd AXE 0 f18_r)))) ⟨[(0, .one (.str y0)), (1, .one (.int .i64 y1)), (2, .one (.bool y2)), (6, .one (.ptr 0 0)), (7, .one (.ptr 1 0)), (8, .one (.int .i64 y3)), (10, .one (.str y4)), (11, .one (.int .i64 y5)), (13, .one (.str y6)), (14, .one (.str y7))], [[.int .i64 y8, .str y9, .sl (some ⟨1000000, 2, 9⟩) 1 y10, .int .i64 y11, .int .i64 y12], [.int .i64 y13, .str y14, .sl (some ⟨1000001, 2, 9⟩) 1 y15]]⟩) x0 x1 x2 x3 x4 x5 x6 x7 x8 x9 x10 x11 x12 x13 x14 x15 x16 := by kernel_rfl
def f18_L44 (call : CallF) (n : Nat) (h_m0 : (List UInt8) → Int → Bool → Int → Int → (List UInt8) → (List Cell) → Int → Int → Int → (List UInt8) → (List Cell) → Option RR) (x0 : List UInt8) (x1 : Int) (x2 : Bool) (x3 : Int) (x4 : List UInt8) (x5 : Int) (x6 : List UInt8) (x7 : Int) (x8 : Bool) (x9 : Int) (x10 : List UInt8) (x11 : List Cell) (x12 : Int) (x13 : Int) (x14 : Int) (x15 : List UInt8) (x16 : List Cell) : Option RR :=
  f18_T44 call n (fun y0 y1 y2 y3 y4 => f18_L47 call n h_m0 y0 y1 y2 y3 y4) (fun y0 y1 y2 y3 y4 y5 y6 y7 y8 y9 y10 y11 y12 y13 y14 y15 => f18_L31 call n h_m0 y0 y1 y2 y3 y4 y5 y6 y7 y8 y9 y10 y11 y12 y13 y14 y15) x0 x1 x2 x3 x4 x5 x6 x7 x8 x9 x10 x11 x12 x13 x14 x15 x16
theorem f18_e44 (call : CallF) (n : Nat) (m0 : Nat) (x0 : List UInt8) (x1 : Int) (x2 : Bool) (x3 : Int) (x4 : List UInt8) (x5 : Int) (x6 : List UInt8) (x7 : Int) (x8 : Bool) (x9 : Int) (x10 : List UInt8) (x11 : List Cell) (x12 : Int) (x13 : Int) (x14 : Int) (x15 : List UInt8) (x16 : List Cell) : (f18_x call n [1, 1, 1, 0, 0, 0, 1, 1, 1, 1, 1, 1, 1, 1, 1, 1, 0, 1, 0, 1, 1, 0, 1]) (kSeq (f18_x call n [1, 1, 1, 0, 0, 0, 1, 1, 1, 1, 1, 1, 1, 1, 1, 1, 0, 1, 0, 1, 1, 1]) (kSeq (f18_x call n [1, 1, 1, 0, 0, 0, 1, 1, 1, 1, 1, 1, 1, 1, 1, 1, 1]) (kBlk 1 (kSeq (fun k => prK (pruneAt f18_h 1000003) (aloop (pruneAt f18_h 1000003) (f18_x call n [1, 1, 1, 0, 0]) k m0)) (kBlk 0 (kEnd AXE 0 f18_r)))))) ⟨[(0, .one (.str x0)), (1, .one (.int .i64 x1)), (2, .one (.bool x2)), (6, .one (.ptr 0 0)), (7, .one (.ptr 1 0)), (8, .one (.int .i64 x3)), (10, .one (.str x4)), (11, .one (.int .i64 x5)), (13, .one (.str x6)), (15, .one (.int .i64 x7)), (115, .one (.bool x8))], [[.int .i64 x9, .str x10, .sl (some ⟨1000000, 2, 9⟩) 1 x11, .int .i64 x12, .int .i64 x13], [.int .i64 x14, .str x15, .sl (some ⟨1000001, 2, 9⟩) 1 x16]]⟩ = f18_L44 call n (fun y0 y1 y2 y3 y4 y5 y6 y7 y8 y9 y10 y11 => aloop (pruneAt f18_h 1000003) (f18_x call n [1, 1, 1, 0, 0]) (kBlk 0 (kEnd AXE 0 f18_r)) m0 ⟨[(0, .one (.str y0)), (1, .one (.int .i64 y1)), (2, .one (.bool y2)), (6, .one (.ptr 0 0)), (7, .one (.ptr 1 0)), (8, .one (.int .i64 y3))], [[.int .i64 y4, .str y5, .sl (some ⟨1000000, 2, 9⟩) 1 y6, .int .i64 y7, .int .i64 y8], [.int .i64 y9, .str y10, .sl (some ⟨1000001, 2, 9⟩) 1 y11]]⟩) x0 x1 x2 x3 x4 x5 x6 x7 x8 x9 x10 x11 x12 x13 x14 x15 x16 := by
  rw [f18_l44]
  simp only [f18_e47, f18_e31]
  rfl
/-- pigeonhole/pigeonholeref08.Read: label 42 -/
def f18_T42 (call : CallF) (n : Nat) (j44 : (List UInt8) → Int → Bool → Int → (List UInt8) → Int → (List UInt8) → Int → Bool → Int → (List UInt8) → (List Cell) → Int → Int → Int → (List UInt8) → (List Cell) → Option RR) (x0 : List UInt8) (x1 : Int) (x2 : Bool) (x3 : Int) (x4 : List UInt8) (x5 : Int) (x6 : List UInt8) (x7 : Int) (x8 : Int) (x9 : List UInt8) (x10 : List Cell) (x11 : Int) (x12 : Int) (x13 : Int) (x14 : List UInt8) (x15 : List Cell) : Option RR :=
  bif (x7 == ((x6).length : Int)) then (
    j44 x0 x1 x2 x3 x4 x5 x6 x7 true x8 x9 x10 x11 x12 x13 x14 x15) else (
    bif decide (0 ≤ x7 ∧ (Int.toNat x7) ≤ (x6).length) then (
      callK call 44 [.one (.str ((x6.take (Int.toNat x7)).drop 0)), .one (.int .i64 x5)] fun v1 =>
      castOne v1 fun c2 =>
      castB c2 fun b3 =>
      j44 x0 x1 x2 x3 x4 x5 x6 x7 (!b3) x8 x9 x10 x11 x12 x13 x14 x15) else none)
theorem f18_l42 (call : CallF) (n : Nat) (m0 : Nat) (x0 : List UInt8) (x1 : Int) (x2 : Bool) (x3 : Int) (x4 : List UInt8) (x5 : Int) (x6 : List UInt8) (x7 : Int) (x8 : Int) (x9 : List UInt8) (x10 : List Cell) (x11 : Int) (x12 : Int) (x13 : Int) (x14 : List UInt8) (x15 : List Cell) : (f18_x call n [1, 1, 1, 0, 0, 0, 1, 1, 1, 1, 1, 1, 1, 1, 1, 1, 0, 1, 0, 1, 1]) (kSeq (f18_x call n [1, 1, 1, 0, 0, 0, 1, 1, 1, 1, 1, 1, 1, 1, 1, 1, 1]) (kBlk 1 (kSeq (fun k => prK (pruneAt f18_h 1000003) (aloop (pruneAt f18_h 1000003) (f18_x call n [1, 1, 1, 0, 0]) k m0)) (kBlk 0 (kEnd AXE 0 f18_r))))) ⟨[(0, .one (.str x0)), (1, .one (.int .i64 x1)), (2, .one (.bool x2)), (6, .one (.ptr 0 0)), (7, .one (.ptr 1 0)), (8, .one (.int .i64 x3)), (10, .one (.str x4)), (11, .one (.int .i64 x5)), (13, .one (.str x6)), (15, .one (.int .i64 x7))], [[.int .i64 x8, .str x9, .sl (some ⟨1000000, 2, 9⟩) 1 x10, .int .i64 x11, .int .i64 x12], [.int .i64 x13, .str x14, .sl (some ⟨1000001, 2, 9⟩) 1 x15]]⟩ = f18_T42 call n (fun y0 y1 y2 y3 y4 y5 y6 y7 y8 y9 y10 y11 y12 y13 y14 y15 y16 => (f18_x call n [1, 1, 1, 0, 0, 0, 1, 1, 1, 1, 1, 1, 1, 1, 1, 1, 0, 1, 0, 1, 1, 0, 1]) (kSeq (f18_x call n [1, 1, 1, 0, 0, 0, 1, 1, 1, 1, 1, 1, 1, 1, 1, 1, 0, 1, 0, 1, 1, 1]) (kSeq (f18_x call n [1, 1, 1, 0, 0, 0, 1, 1, 1, 1, 1, 1, 1, 1, 1, 1, 1]) (kBlk 1 (kSeq (fun k => prK (pruneAt f18_h 1000003) (aloop (pruneAt f18_h 1000003) (f18_x call n [1, 1, 1, 0, 0]) k m0)) (kBlk 0 (kEnd AXE 0 f18_r)))))) ⟨[(0, .one (.str y0)), (1, .one (.int .i64 y1)), (2, .one (.bool y2)), (6, .one (.ptr 0 0)), (7, .one (.ptr 1 0)), (8, .one (.int .i64 y3)), (10, .one (.str y4)), (11, .one (.int .i64 y5)), (13, .one (.str y6)), (15, .one (.int .i64 y7)), (115, .one (.bool y8))], [[.int .i64 y9, .str y10, .sl (some ⟨1000000, 2, 9⟩) 1 y11, .int .i64 y12, .int .i64 y13], [.int .i64 y14, .str y15, .sl (some ⟨1000001, 2, 9⟩) 1 y16]]⟩) x0 x1 x2 x3 x4 x5 x6 x7 x8 x9 x10 x11 x12 x13 x14 x15 := by kernel_rfl
def f18_L42 (call : CallF) (n : Nat) (h_m0 : (List UInt8) → Int → Bool → Int → Int → (List UInt8) → (List Cell) → Int → Int → Int → (List UInt8) → (List Cell) → Option RR) (x0 : List UInt8) (x1 : Int) (x2 : Bool) (x3 : Int) (x4 : List UInt8) (x5 : Int) (x6 : List UInt8) (x7 : Int) (x8 : Int) (x9 : List UInt8) (x10 : List Cell) (x11 : Int) (x12 : Int) (x13 : Int) (x14 : List UInt8) (x15 : List Cell) : Option RR :=
  f18_T42 call n (fun y0 y1 y2 y3 y4 y5 y6 y7 y8 y9 y10 y11 y12 y13 y14 y15 y16 => f18_L44 call n h_m0 y0 y1 y2 y3 y4 y5 y6 y7 y8 y9 y10 y11 y12 y13 y14 y15 y16) x0 x1 x2 x3 x4 x5 x6 x7 x8 x9 x10 x11 x12 x13 x14 x15
theorem f18_e42 (call : CallF) (n : Nat) (m0 : Nat) (x0 : List UInt8) (x1 : Int) (x2 : Bool) (x3 : Int) (x4 : List UInt8) (x5 : Int) (x6 : List UInt8) (x7 : Int) (x8 : Int) (x9 : List UInt8) (x10 : List Cell) (x11 : Int) (x12 : Int) (x13 : Int) (x14 : List UInt8) (x15 : List Cell) : (f18_x call n [1, 1, 1, 0, 0, 0, 1, 1, 1, 1, 1, 1, 1, 1, 1, 1, 0, 1, 0, 1, 1]) (kSeq (f18_x call n [1, 1, 1, 0, 0, 0, 1, 1, 1, 1, 1, 1, 1, 1, 1, 1, 1]) (kBlk 1 (kSeq (fun k => prK (pruneAt f18_h 1000003) (aloop (pruneAt f18_h 1000003) (f18_x call n [1, 1, 1, 0, 0]) k m0)) (kBlk 0 (kEnd AXE 0 f18_r))))) ⟨[(0, .one (.str x0)), (1, .one (.int .i64 x1)), (2, .one (.bool x2)), (6, .one (.ptr 0 0)), (7, .one (.ptr 1 0)), (8, .one (.int .i64 x3)), (10, .one (.str x4)), (11, .one (.int .i64 x5)), (13, .one (.str x6)), (15, .one (.int .i64 x7))], [[.int .i64 x8, .str x9, .sl (some ⟨1000000, 2, 9⟩) 1 x10, .int .i64 x11, .int .i64 x12], [.int .i64 x13, .str x14, .sl (some ⟨1000001, 2, 9⟩) 1 x15]]⟩ = f18_L42 call n (fun y0 y1 y2 y3 y4 y5 y6 y7 y8 y9 y10 y11 => aloop (pruneAt f18_h 1000003) (f18_x call n [1, 1, 1, 0, 0]) (kBlk 0 (kEnd AXE 0 f18_r)) m0 ⟨[(0, .one (.str y0)), (1, .one (.int .i64 y1)), (2, .one (.bool y2)), (6, .one (.ptr 0 0)), (7, .one (.ptr 1 0)), (8, .one (.int .i64 y3))], [[.int .i64 y4, .str y5, .sl (some ⟨1000000, 2, 9⟩) 1 y6, .int .i64 y7, .int .i64 y8], [.int .i64 y9, .str y10, .sl (some ⟨1000001, 2, 9⟩) 1 y11]]⟩) x0 x1 x2 x3 x4 x5 x6 x7 x8 x9 x10 x11 x12 x13 x14 x15 := by
  rw [f18_l42]
  simp only [f18_e44]
  rfl
/-- pigeonhole/pigeonholeref08.Read: label 33 -/
def f18_T33 (call : CallF) (n : Nat) (j41 : (List UInt8) → Int → Bool → Int → (List UInt8) → Int → (List UInt8) → Int → Int → (List UInt8) → (List Cell) → Int → Int → Int → (List UInt8) → (List Cell) → Option RR) (j42 : (List UInt8) → Int → Bool → Int → (List UInt8) → Int → (List UInt8) → Int → Int → (List UInt8) → (List Cell) → Int → Int → Int → (List UInt8) → (List Cell) → Option RR) (x0 : List UInt8) (x1 : Int) (x2 : Bool) (x3 : Int) (x4 : List UInt8) (x5 : Int) (x6 : List UInt8) (x7 : Int) (x8 : Bool) (x9 : Int) (x10 : List UInt8) (x11 : List Cell) (x12 : Int) (x13 : Int) (x14 : Int) (x15 : List UInt8) (x16 : List Cell) : Option RR :=
  bif x8 then (
    j41 x0 x1 x2 x3 x4 x5 x6 x7 x9 x10 x11 x12 x13 x14 x15 x16) else (
    j42 x0 x1 x2 x3 x4 x5 x6 x7 x9 x10 x11 x12 x13 x14 x15 x16)
theorem f18_l33 (call : CallF) (n : Nat) (m0 : Nat) (m1 : Nat) (x0 : List UInt8) (x1 : Int) (x2 : Bool) (x3 : Int) (x4 : List UInt8) (x5 : Int) (x6 : List UInt8) (x7 : Int) (x8 : Bool) (x9 : Int) (x10 : List UInt8) (x11 : List Cell) (x12 : Int) (x13 : Int) (x14 : Int) (x15 : List UInt8) (x16 : List Cell) : (f18_x call n [1, 1, 1, 0, 0, 0, 1, 1, 1, 1, 1, 1, 1, 1, 1, 1, 0, 1, 0, 1, 0, 0, 0, 0, 1]) (kSeq (f18_x call n [1, 1, 1, 0, 0, 0, 1, 1, 1, 1, 1, 1, 1, 1, 1, 1, 0, 1, 0, 1, 0, 0, 0, 1]) (kSeq (fun k => prK (pruneAt f18_h 1000023) (aloop (pruneAt f18_h 1000023) (f18_x call n [1, 1, 1, 0, 0, 0, 1, 1, 1, 1, 1, 1, 1, 1, 1, 1, 0, 1, 0, 1, 0, 0, 0]) k m1)) (kBlk 6 (kSeq (f18_x call n [1, 1, 1, 0, 0, 0, 1, 1, 1, 1, 1, 1, 1, 1, 1, 1, 0, 1, 0, 1, 1]) (kSeq (f18_x call n [1, 1, 1, 0, 0, 0, 1, 1, 1, 1, 1, 1, 1, 1, 1, 1, 1]) (kBlk 1 (kSeq (fun k => prK (pruneAt f18_h 1000003) (aloop (pruneAt f18_h 1000003) (f18_x call n [1, 1, 1, 0, 0]) k m0)) (kBlk 0 (kEnd AXE 0 f18_r))))))))) ⟨[(0, .one (.str x0)), (1, .one (.int .i64 x1)), (2, .one (.bool x2)), (6, .one (.ptr 0 0)), (7, .one (.ptr 1 0)), (8, .one (.int .i64 x3)), (10, .one (.str x4)), (11, .one (.int .i64 x5)), (13, .one (.str x6)), (15, .one (.int .i64 x7)), (101, .one (.bool x8))], [[.int .i64 x9, .str x10, .sl (some ⟨1000000, 2, 9⟩) 1 x11, .int .i64 x12, .int .i64 x13], [.int .i64 x14, .str x15, .sl (some ⟨1000001, 2, 9⟩) 1 x16]]⟩ = f18_T33 call n (fun y0 y1 y2 y3 y4 y5 y6 y7 y8 y9 y10 y11 y12 y13 y14 y15 => (f18_x call n [1, 1, 1, 0, 0, 0, 1, 1, 1, 1, 1, 1, 1, 1, 1, 1, 0, 1, 0, 1, 0, 0, 0, 1]) (kSeq (fun k => prK (pruneAt f18_h 1000023) (aloop (pruneAt f18_h 1000023) (f18_x call n [1, 1, 1, 0, 0, 0, 1, 1, 1, 1, 1, 1, 1, 1, 1, 1, 0, 1, 0, 1, 0, 0, 0]) k m1)) (kBlk 6 (kSeq (f18_x call n [1, 1, 1, 0, 0, 0, 1, 1, 1, 1, 1, 1, 1, 1, 1, 1, 0, 1, 0, 1, 1]) (kSeq (f18_x call n [1, 1, 1, 0, 0, 0, 1, 1, 1, 1, 1, 1, 1, 1, 1, 1, 1]) (kBlk 1 (kSeq (fun k => prK (pruneAt f18_h 1000003) (aloop (pruneAt f18_h 1000003) (f18_x call n [1, 1, 1, 0, 0]) k m0)) (kBlk 0 (kEnd AXE 0 f18_r)))))))) ⟨[(0, .one (.str y0)), (1, .one (.int .i64 y1)), (2, .one (.bool y2)), (6, .one (.ptr 0 0)), (7, .one (.ptr 1 0)), (8, .one (.int .i64 y3)), (10, .one (.str y4)), (11, .one (.int .i64 y5)), (13, .one (.str y6)), (15, .one (.int .i64 y7))], [[.int .i64 y8, .str y9, .sl (some ⟨1000000, 2, 9⟩) 1 y10, .int .i64 y11, .int .i64 y12], [.int .i64 y13, .str y14, .sl (some ⟨1000001, 2, 9⟩) 1 y15]]⟩) (fun y0 y1 y2 y3 y4 y5 y6 y7 y8 y9 y10 y11 y12 y13 y14 y15 => (f18_x call n [1, 1, 1, 0, 0, 0, 1, 1, 1, 1, 1, 1, 1, 1, 1, 1, 0, 1, 0, 1, 1]) (kSeq (f18_x call n [1, 1, 1, 0, 0, 0, 1, 1, 1, 1, 1, 1, 1, 1, 1, 1, 1]) (kBlk 1 (kSeq (fun k => prK (pruneAt f18_h 1000003) (aloop (pruneAt f18_h 1000003) (f18_x call n [1, 1, 1, 0, 0]) k m0)) (kBlk 0 (kEnd AXE 0 f18_r))))) ⟨[(0, .one (.str y0)), (1, .one (.int .i64 y1)), (2, .one (.bool y2)), (6, .one (.ptr 0 0)), (7, .one (.ptr 1 0)), (8, .one (.int .i64 y3)), (10, .one (.str y4)), (11, .one (.int .i64 y5)), (13, .one (.str y6)), (15, .one (.int .i64 y7))], [[.int .i64 y8, .str y9, .sl (some ⟨1000000, 2, 9⟩) 1 y10, .int .i64 y11, .int .i64 y12], [.int .i64 y13, .str y14, .sl (some ⟨1000001, 2, 9⟩) 1 y15]]⟩) x0 x1 x2 x3 x4 x5 x6 x7 x8 x9 x10 x11 x12 x13 x14 x15 x16 := by kernel_rfl
def f18_L33 (call : CallF) (n : Nat) (h_m0 : (List UInt8) → Int → Bool → Int → Int → (List UInt8) → (List Cell) → Int → Int → Int → (List UInt8) → (List Cell) → Option RR) (h_m1 : (List UInt8) → Int → Bool → Int → (List UInt8) → Int → (List UInt8) → Int → Int → (List UInt8) → (List Cell) → Int → Int → Int → (List UInt8) → (List Cell) → Option RR) (x0 : List UInt8) (x1 : Int) (x2 : Bool) (x3 : Int) (x4 : List UInt8) (x5 : Int) (x6 : List UInt8) (x7 : Int) (x8 : Bool) (x9 : Int) (x10 : List UInt8) (x11 : List Cell) (x12 : Int) (x13 : Int) (x14 : Int) (x15 : List UInt8) (x16 : List Cell) : Option RR :=
  f18_T33 call n (fun y0 y1 y2 y3 y4 y5 y6 y7 y8 y9 y10 y11 y12 y13 y14 y15 => f18_L41 call n h_m0 h_m1 y0 y1 y2 y3 y4 y5 y6 y7 y8 y9 y10 y11 y12 y13 y14 y15) (fun y0 y1 y2 y3 y4 y5 y6 y7 y8 y9 y10 y11 y12 y13 y14 y15 => f18_L42 call n h_m0 y0 y1 y2 y3 y4 y5 y6 y7 y8 y9 y10 y11 y12 y13 y14 y15) x0 x1 x2 x3 x4 x5 x6 x7 x8 x9 x10 x11 x12 x13 x14 x15 x16
theorem f18_e33 (call : CallF) (n : Nat) (m0 : Nat) (m1 : Nat) (x0 : List UInt8) (x1 : Int) (x2 : Bool) (x3 : Int) (x4 : List UInt8) (x5 : Int) (x6 : List UInt8) (x7 : Int) (x8 : Bool) (x9 : Int) (x10 : List UInt8) (x11 : List Cell) (x12 : Int) (x13 : Int) (x14 : Int) (x15 : List UInt8) (x16 : List Cell) : (f18_x call n [1, 1, 1, 0, 0, 0, 1, 1, 1, 1, 1, 1, 1, 1, 1, 1, 0, 1, 0, 1, 0, 0, 0, 0, 1]) (kSeq (f18_x call n [1, 1, 1, 0, 0, 0, 1, 1, 1, 1, 1, 1, 1, 1, 1, 1, 0, 1, 0, 1, 0, 0, 0, 1]) (kSeq (fun k => prK (pruneAt f18_h 1000023) (aloop (pruneAt f18_h 1000023) (f18_x call n [1, 1, 1, 0, 0, 0, 1, 1, 1, 1, 1, 1, 1, 1, 1, 1, 0, 1, 0, 1, 0, 0, 0]) k m1)) (kBlk 6 (kSeq (f18_x call n [1, 1, 1, 0, 0, 0, 1, 1, 1, 1, 1, 1, 1, 1, 1, 1, 0, 1, 0, 1, 1]) (kSeq (f18_x call n [1, 1, 1, 0, 0, 0, 1, 1, 1, 1, 1, 1, 1, 1, 1, 1, 1]) (kBlk 1 (kSeq (fun k => prK (pruneAt f18_h 1000003) (aloop (pruneAt f18_h 1000003) (f18_x call n [1, 1, 1, 0, 0]) k m0)) (kBlk 0 (kEnd AXE 0 f18_r))))))))) ⟨[(0, .one (.str x0)), (1, .one (.int .i64 x1)), (2, .one (.bool x2)), (6, .one (.ptr 0 0)), (7, .one (.ptr 1 0)), (8, .one (.int .i64 x3)), (10, .one (.str x4)), (11, .one (.int .i64 x5)), (13, .one (.str x6)), (15, .one (.int .i64 x7)), (101, .one (.bool x8))], [[.int .i64 x9, .str x10, .sl (some ⟨1000000, 2, 9⟩) 1 x11, .int .i64 x12, .int .i64 x13], [.int .i64 x14, .str x15, .sl (some ⟨1000001, 2, 9⟩) 1 x16]]⟩ = f18_L33 call n (fun y0 y1 y2 y3 y4 y5 y6 y7 y8 y9 y10 y11 => aloop (pruneAt f18_h 1000003) (f18_x call n [1, 1, 1, 0, 0]) (kBlk 0 (kEnd AXE 0 f18_r)) m0 ⟨[(0, .one (.str y0)), (1, .one (.int .i64 y1)), (2, .one (.bool y2)), (6, .one (.ptr 0 0)), (7, .one (.ptr 1 0)), (8, .one (.int .i64 y3))], [[.int .i64 y4, .str y5, .sl (some ⟨1000000, 2, 9⟩) 1 y6, .int .i64 y7, .int .i64 y8], [.int .i64 y9, .str y10, .sl (some ⟨1000001, 2, 9⟩) 1 y11]]⟩) (fun y0 y1 y2 y3 y4 y5 y6 y7 y8 y9 y10 y11 y12 y13 y14 y15 => aloop (pruneAt f18_h 1000023) (f18_x call n [1, 1, 1, 0, 0, 0, 1, 1, 1, 1, 1, 1, 1, 1, 1, 1, 0, 1, 0, 1, 0, 0, 0]) (kBlk 6 (kSeq (f18_x call n [1, 1, 1, 0, 0, 0, 1, 1, 1, 1, 1, 1, 1, 1, 1, 1, 0, 1, 0, 1, 1]) (kSeq (f18_x call n [1, 1, 1, 0, 0, 0, 1, 1, 1, 1, 1, 1, 1, 1, 1, 1, 1]) (kBlk 1 (kSeq (fun k => prK (pruneAt f18_h 1000003) (aloop (pruneAt f18_h 1000003) (f18_x call n [1, 1, 1, 0, 0]) k m0)) (kBlk 0 (kEnd AXE 0 f18_r))))))) m1 ⟨[(0, .one (.str y0)), (1, .one (.int .i64 y1)), (2, .one (.bool y2)), (6, .one (.ptr 0 0)), (7, .one (.ptr 1 0)), (8, .one (.int .i64 y3)), (10, .one (.str y4)), (11, .one (.int .i64 y5)), (13, .one (.str y6)), (15, .one (.int .i64 y7))], [[.int .i64 y8, .str y9, .sl (some ⟨1000000, 2, 9⟩) 1 y10, .int .i64 y11, .int .i64 y12], [.int .i64 y13, .str y14, .sl (some ⟨1000001, 2, 9⟩) 1 y15]]⟩) x0 x1 x2 x3 x4 x5 x6 x7 x8 x9 x10 x11 x12 x13 x14 x15 x16 := by
  rw [f18_l33]
  simp only [f18_e41, f18_e42]
  rfl
/-- pigeonhole/pigeonholeref08.Read: label 30 -/
def f18_T30 (call : CallF) (n : Nat) (j33 : (List UInt8) → Int → Bool → Int → (List UInt8) → Int → (List UInt8) → Int → Bool → Int → (List UInt8) → (List Cell) → Int → Int → Int → (List UInt8) → (List Cell) → Option RR) (x0 : List UInt8) (x1 : Int) (x2 : Bool) (x3 : Int) (x4 : List UInt8) (x5 : Int) (x6 : List UInt8) (x7 : Int) (x8 : Int) (x9 : List UInt8) (x10 : List Cell) (x11 : Int) (x12 : Int) (x13 : Int) (x14 : List UInt8) (x15 : List Cell) : Option RR :=
  bif (decide (x7 < ((x6).length : Int))) then (
    itemK x6 x7 fun u1 =>
    j33 x0 x1 x2 x3 x4 x5 x6 x7 ((UInt8.toNat u1 : Int) != (32 : Int)) x8 x9 x10 x11 x12 x13 x14 x15) else (
    j33 x0 x1 x2 x3 x4 x5 x6 x7 false x8 x9 x10 x11 x12 x13 x14 x15)
theorem f18_l30 (call : CallF) (n : Nat) (m0 : Nat) (m1 : Nat) (x0 : List UInt8) (x1 : Int) (x2 : Bool) (x3 : Int) (x4 : List UInt8) (x5 : Int) (x6 : List UInt8) (x7 : Int) (x8 : Int) (x9 : List UInt8) (x10 : List Cell) (x11 : Int) (x12 : Int) (x13 : Int) (x14 : List UInt8) (x15 : List Cell) : aloop (pruneAt f18_h 1000023) (f18_x call n [1, 1, 1, 0, 0, 0, 1, 1, 1, 1, 1, 1, 1, 1, 1, 1, 0, 1, 0, 1, 0, 0, 0]) (kBlk 6 (kSeq (f18_x call n [1, 1, 1, 0, 0, 0, 1, 1, 1, 1, 1, 1, 1, 1, 1, 1, 0, 1, 0, 1, 1]) (kSeq (f18_x call n [1, 1, 1, 0, 0, 0, 1, 1, 1, 1, 1, 1, 1, 1, 1, 1, 1]) (kBlk 1 (kSeq (fun k => prK (pruneAt f18_h 1000003) (aloop (pruneAt f18_h 1000003) (f18_x call n [1, 1, 1, 0, 0]) k m0)) (kBlk 0 (kEnd AXE 0 f18_r))))))) (m1 + 1) ⟨[(0, .one (.str x0)), (1, .one (.int .i64 x1)), (2, .one (.bool x2)), (6, .one (.ptr 0 0)), (7, .one (.ptr 1 0)), (8, .one (.int .i64 x3)), (10, .one (.str x4)), (11, .one (.int .i64 x5)), (13, .one (.str x6)), (15, .one (.int .i64 x7))], [[.int .i64 x8, .str x9, .sl (some ⟨1000000, 2, 9⟩) 1 x10, .int .i64 x11, .int .i64 x12], [.int .i64 x13, .str x14, .sl (some ⟨1000001, 2, 9⟩) 1 x15]]⟩ = f18_T30 call n (fun y0 y1 y2 y3 y4 y5 y6 y7 y8 y9 y10 y11 y12 y13 y14 y15 y16 => (f18_x call n [1, 1, 1, 0, 0, 0, 1, 1, 1, 1, 1, 1, 1, 1, 1, 1, 0, 1, 0, 1, 0, 0, 0, 0, 1]) (kSeq (f18_x call n [1, 1, 1, 0, 0, 0, 1, 1, 1, 1, 1, 1, 1, 1, 1, 1, 0, 1, 0, 1, 0, 0, 0, 1]) (kSeq (fun k => prK (pruneAt f18_h 1000023) (aloop (pruneAt f18_h 1000023) (f18_x call n [1, 1, 1, 0, 0, 0, 1, 1, 1, 1, 1, 1, 1, 1, 1, 1, 0, 1, 0, 1, 0, 0, 0]) k m1)) (kBlk 6 (kSeq (f18_x call n [1, 1, 1, 0, 0, 0, 1, 1, 1, 1, 1, 1, 1, 1, 1, 1, 0, 1, 0, 1, 1]) (kSeq (f18_x call n [1, 1, 1, 0, 0, 0, 1, 1, 1, 1, 1, 1, 1, 1, 1, 1, 1]) (kBlk 1 (kSeq (fun k => prK (pruneAt f18_h 1000003) (aloop (pruneAt f18_h 1000003) (f18_x call n [1, 1, 1, 0, 0]) k m0)) (kBlk 0 (kEnd AXE 0 f18_r))))))))) ⟨[(0, .one (.str y0)), (1, .one (.int .i64 y1)), (2, .one (.bool y2)), (6, .one (.ptr 0 0)), (7, .one (.ptr 1 0)), (8, .one (.int .i64 y3)), (10, .one (.str y4)), (11, .one (.int .i64 y5)), (13, .one (.str y6)), (15, .one (.int .i64 y7)), (101, .one (.bool y8))], [[.int .i64 y9, .str y10, .sl (some ⟨1000000, 2, 9⟩) 1 y11, .int .i64 y12, .int .i64 y13], [.int .i64 y14, .str y15, .sl (some ⟨1000001, 2, 9⟩) 1 y16]]⟩) x0 x1 x2 x3 x4 x5 x6 x7 x8 x9 x10 x11 x12 x13 x14 x15 := by kernel_rfl
def f18_L30 (call : CallF) (n : Nat) (h_m0 : (List UInt8) → Int → Bool → Int → Int → (List UInt8) → (List Cell) → Int → Int → Int → (List UInt8) → (List Cell) → Option RR) : Nat → (List UInt8) → Int → Bool → Int → (List UInt8) → Int → (List UInt8) → Int → Int → (List UInt8) → (List Cell) → Int → Int → Int → (List UInt8) → (List Cell) → Option RR
  | 0, _, _, _, _, _, _, _, _, _, _, _, _, _, _, _, _ => none
  | m1 + 1, x0, x1, x2, x3, x4, x5, x6, x7, x8, x9, x10, x11, x12, x13, x14, x15 =>
    f18_T30 call n (fun y0 y1 y2 y3 y4 y5 y6 y7 y8 y9 y10 y11 y12 y13 y14 y15 y16 => f18_L33 call n h_m0 (f18_L30 call n h_m0 m1) y0 y1 y2 y3 y4 y5 y6 y7 y8 y9 y10 y11 y12 y13 y14 y15 y16) x0 x1 x2 x3 x4 x5 x6 x7 x8 x9 x10 x11 x12 x13 x14 x15
theorem f18_e30 (call : CallF) (n : Nat) (m0 : Nat) : ∀ (m1 : Nat) (x0 : List UInt8) (x1 : Int) (x2 : Bool) (x3 : Int) (x4 : List UInt8) (x5 : Int) (x6 : List UInt8) (x7 : Int) (x8 : Int) (x9 : List UInt8) (x10 : List Cell) (x11 : Int) (x12 : Int) (x13 : Int) (x14 : List UInt8) (x15 : List Cell), aloop (pruneAt f18_h 1000023) (f18_x call n [1, 1, 1, 0, 0, 0, 1, 1, 1, 1, 1, 1, 1, 1, 1, 1, 0, 1, 0, 1, 0, 0, 0]) (kBlk 6 (kSeq (f18_x call n [1, 1, 1, 0, 0, 0, 1, 1, 1, 1, 1, 1, 1, 1, 1, 1, 0, 1, 0, 1, 1]) (kSeq (f18_x call n [1, 1, 1, 0, 0, 0, 1, 1, 1, 1, 1, 1, 1, 1, 1, 1, 1]) (kBlk 1 (kSeq (fun k => prK (pruneAt f18_h 1000003) (aloop (pruneAt f18_h 1000003) (f18_x call n [1, 1, 1, 0, 0]) k m0)) (kBlk 0 (kEnd AXE 0 f18_r))))))) m1 ⟨[(0, .one (.str x0)), (1, .one (.int .i64 x1)), (2, .one (.bool x2)), (6, .one (.ptr 0 0)), (7, .one (.ptr 1 0)), (8, .one (.int .i64 x3)), (10, .one (.str x4)), (11, .one (.int .i64 x5)), (13, .one (.str x6)), (15, .one (.int .i64 x7))], [[.int .i64 x8, .str x9, .sl (some ⟨1000000, 2, 9⟩) 1 x10, .int .i64 x11, .int .i64 x12], [.int .i64 x13, .str x14, .sl (some ⟨1000001, 2, 9⟩) 1 x15]]⟩ = f18_L30 call n (fun y0 y1 y2 y3 y4 y5 y6 y7 y8 y9 y10 y11 => aloop (pruneAt f18_h 1000003) (f18_x call n [1, 1, 1, 0, 0]) (kBlk 0 (kEnd AXE 0 f18_r)) m0 ⟨[(0, .one (.str y0)), (1, .one (.int .i64 y1)), (2, .one (.bool y2)), (6, .one (.ptr 0 0)), (7, .one (.ptr 1 0)), (8, .one (.int .i64 y3))], [[.int .i64 y4, .str y5, .sl (some ⟨1000000, 2, 9⟩) 1 y6, .int .i64 y7, .int .i64 y8], [.int .i64 y9, .str y10, .sl (some ⟨1000001, 2, 9⟩) 1 y11]]⟩) m1 x0 x1 x2 x3 x4 x5 x6 x7 x8 x9 x10 x11 x12 x13 x14 x15 := by
  intro m1
  induction m1 with
  | zero => intros; rfl
  | succ m1 ih =>
    intro x0 x1 x2 x3 x4 x5 x6 x7 x8 x9 x10 x11 x12 x13 x14 x15
    rw [f18_l30]
    simp only [f18_e33, ih]
    rfl
/-- pigeonhole/pigeonholeref08.Read: label 19 -/
def f18_T19 (call : CallF) (n : Nat) (j27 : (List UInt8) → Int → Bool → Int → (List UInt8) → Int → Int → Bool → Int → (List UInt8) → (List Cell) → Int → Int → Int → (List UInt8) → (List Cell) → Option RR) (j30n : (List UInt8) → Int → Bool → Int → (List UInt8) → Int → (List UInt8) → Int → Int → (List UInt8) → (List Cell) → Int → Int → Int → (List UInt8) → (List Cell) → Option RR) (j31 : (List UInt8) → Int → Bool → Int → (List UInt8) → Int → (List UInt8) → (List UInt8) → Int → (List UInt8) → (List Cell) → Int → Int → Int → (List UInt8) → (List Cell) → Option RR) (x0 : List UInt8) (x1 : Int) (x2 : Bool) (x3 : Int) (x4 : List UInt8) (x5 : Int) (x6 : Int) (x7 : Int) (x8 : List UInt8) (x9 : List Cell) (x10 : Int) (x11 : Int) (x12 : Int) (x13 : List UInt8) (x14 : List Cell) : Option RR :=
  bif (decide (x6 < (3 : Int))) then (
    itemK x4 x6 fun u1 =>
    bif (decide ((UInt8.toNat u1 : Int) < (48 : Int))) then (
      j27 x0 x1 x2 x3 x4 x5 x6 true x7 x8 x9 x10 x11 x12 x13 x14) else (
      itemK x4 x6 fun u2 =>
      j27 x0 x1 x2 x3 x4 x5 x6 (decide ((UInt8.toNat u2 : Int) > (57 : Int))) x7 x8 x9 x10 x11 x12 x13 x14)) else (
    bif decide (0 ≤ (4 : Int) ∧ (Int.toNat (4 : Int)) ≤ (x4).length) then (
      bif x2 then (
        j30n x0 x1 x2 x3 x4 x5 ((x4.take (x4).length).drop (Int.toNat (4 : Int))) (0 : Int) x7 x8 x9 x10 x11 x12 x13 x14) else (
        j31 x0 x1 x2 x3 x4 x5 ((x4.take (x4).length).drop (Int.toNat (4 : Int))) ([] : List UInt8) x7 x8 x9 x10 x11 x12 x13 x14)) else none)
theorem f18_l19 (call : CallF) (n : Nat) (m0 : Nat) (m1 : Nat) (x0 : List UInt8) (x1 : Int) (x2 : Bool) (x3 : Int) (x4 : List UInt8) (x5 : Int) (x6 : Int) (x7 : Int) (x8 : List UInt8) (x9 : List Cell) (x10 : Int) (x11 : Int) (x12 : Int) (x13 : List UInt8) (x14 : List Cell) : aloop (pruneAt f18_h 1000014) (f18_x call n [1, 1, 1, 0, 0, 0, 1, 1, 1, 1, 1, 1, 1, 0, 1, 0, 0]) (kBlk 4 (kSeq (f18_x call n [1, 1, 1, 0, 0, 0, 1, 1, 1, 1, 1, 1, 1, 1]) (kBlk 1 (kSeq (fun k => prK (pruneAt f18_h 1000003) (aloop (pruneAt f18_h 1000003) (f18_x call n [1, 1, 1, 0, 0]) k m0)) (kBlk 0 (kEnd AXE 0 f18_r)))))) (m1 + 1) ⟨[(0, .one (.str x0)), (1, .one (.int .i64 x1)), (2, .one (.bool x2)), (6, .one (.ptr 0 0)), (7, .one (.ptr 1 0)), (8, .one (.int .i64 x3)), (10, .one (.str x4)), (11, .one (.int .i64 x5)), (12, .one (.int .i64 x6))], [[.int .i64 x7, .str x8, .sl (some ⟨1000000, 2, 9⟩) 1 x9, .int .i64 x10, .int .i64 x11], [.int .i64 x12, .str x13, .sl (some ⟨1000001, 2, 9⟩) 1 x14]]⟩ = f18_T19 call n (fun y0 y1 y2 y3 y4 y5 y6 y7 y8 y9 y10 y11 y12 y13 y14 y15 => (f18_x call n [1, 1, 1, 0, 0, 0, 1, 1, 1, 1, 1, 1, 1, 0, 1, 0, 0, 1, 0, 0, 0, 1]) (kSeq (f18_x call n [1, 1, 1, 0, 0, 0, 1, 1, 1, 1, 1, 1, 1, 0, 1, 0, 0, 1, 0, 0, 1]) (kBlk 5 (kSeq (f18_x call n [1, 1, 1, 0, 0, 0, 1, 1, 1, 1, 1, 1, 1, 0, 1, 0, 0, 1, 1]) (kSeq (fun k => prK (pruneAt f18_h 1000014) (aloop (pruneAt f18_h 1000014) (f18_x call n [1, 1, 1, 0, 0, 0, 1, 1, 1, 1, 1, 1, 1, 0, 1, 0, 0]) k m1)) (kBlk 4 (kSeq (f18_x call n [1, 1, 1, 0, 0, 0, 1, 1, 1, 1, 1, 1, 1, 1]) (kBlk 1 (kSeq (fun k => prK (pruneAt f18_h 1000003) (aloop (pruneAt f18_h 1000003) (f18_x call n [1, 1, 1, 0, 0]) k m0)) (kBlk 0 (kEnd AXE 0 f18_r)))))))))) ⟨[(0, .one (.str y0)), (1, .one (.int .i64 y1)), (2, .one (.bool y2)), (6, .one (.ptr 0 0)), (7, .one (.ptr 1 0)), (8, .one (.int .i64 y3)), (10, .one (.str y4)), (11, .one (.int .i64 y5)), (12, .one (.int .i64 y6)), (79, .one (.bool y7))], [[.int .i64 y8, .str y9, .sl (some ⟨1000000, 2, 9⟩) 1 y10, .int .i64 y11, .int .i64 y12], [.int .i64 y13, .str y14, .sl (some ⟨1000001, 2, 9⟩) 1 y15]]⟩) (fun y0 y1 y2 y3 y4 y5 y6 y7 y8 y9 y10 y11 y12 y13 y14 y15 => aloop (pruneAt f18_h 1000023) (f18_x call n [1, 1, 1, 0, 0, 0, 1, 1, 1, 1, 1, 1, 1, 1, 1, 1, 0, 1, 0, 1, 0, 0, 0]) (kBlk 6 (kSeq (f18_x call n [1, 1, 1, 0, 0, 0, 1, 1, 1, 1, 1, 1, 1, 1, 1, 1, 0, 1, 0, 1, 1]) (kSeq (f18_x call n [1, 1, 1, 0, 0, 0, 1, 1, 1, 1, 1, 1, 1, 1, 1, 1, 1]) (kBlk 1 (kSeq (fun k => prK (pruneAt f18_h 1000003) (aloop (pruneAt f18_h 1000003) (f18_x call n [1, 1, 1, 0, 0]) k m0)) (kBlk 0 (kEnd AXE 0 f18_r))))))) n ⟨[(0, .one (.str y0)), (1, .one (.int .i64 y1)), (2, .one (.bool y2)), (6, .one (.ptr 0 0)), (7, .one (.ptr 1 0)), (8, .one (.int .i64 y3)), (10, .one (.str y4)), (11, .one (.int .i64 y5)), (13, .one (.str y6)), (15, .one (.int .i64 y7))], [[.int .i64 y8, .str y9, .sl (some ⟨1000000, 2, 9⟩) 1 y10, .int .i64 y11, .int .i64 y12], [.int .i64 y13, .str y14, .sl (some ⟨1000001, 2, 9⟩) 1 y15]]⟩) (fun y0 y1 y2 y3 y4 y5 y6 y7 y8 y9 y10 y11 y12 y13 y14 y15 => (f18_x call n [1, 1, 1, 0, 0, 0, 1, 1, 1, 1, 1, 1, 1, 1, 1, 1, 1]) (kBlk 1 (kSeq (fun k => prK (pruneAt f18_h 1000003) (aloop (pruneAt f18_h 1000003) (f18_x call n [1, 1, 1, 0, 0]) k m0)) (kBlk 0 (kEnd AXE 0 f18_r)))) ⟨[(0, .one (.str y0)), (1, .one (.int .i64 y1)), (2, .one (.bool y2)), (6, .one (.ptr 0 0)), (7, .one (.ptr 1 0)), (8, .one (.int .i64 y3)), (10, .one (.str y4)), (11, .one (.int .i64 y5)), (13, .one (.str y6)), (14, .one (.str y7))], [[.int .i64 y8, .str y9, .sl (some ⟨1000000, 2, 9⟩) 1 y10, .int .i64 y11, .int .i64 y12], [.int .i64 y13, .str y14, .sl (some ⟨1000001, 2, 9⟩) 1 y15]]⟩) x0 x1 x2 x3 x4 x5 x6 x7 x8 x9 x10 x11 x12 x13 x14 := by kernel_rfl
def f18_L19 (call : CallF) (n : Nat) (h_m0 : (List UInt8) → Int → Bool → Int → Int → (List UInt8) → (List Cell) → Int → Int → Int → (List UInt8) → (List Cell) → Option RR) : Nat → (List UInt8) → Int → Bool → Int → (List UInt8) → Int → Int → Int → (List UInt8) → (List Cell) → Int → Int → Int → (List UInt8) → (List Cell) → Option RR
  | 0, _, _, _, _, _, _, _, _, _, _, _, _, _, _, _ => none
  | m1 + 1, x0, x1, x2, x3, x4, x5, x6, x7, x8, x9, x10, x11, x12, x13, x14 =>
    f18_T19 call n (fun y0 y1 y2 y3 y4 y5 y6 y7 y8 y9 y10 y11 y12 y13 y14 y15 => f18_L27 call n h_m0 (f18_L19 call n h_m0 m1) y0 y1 y2 y3 y4 y5 y6 y7 y8 y9 y10 y11 y12 y13 y14 y15) (fun y0 y1 y2 y3 y4 y5 y6 y7 y8 y9 y10 y11 y12 y13 y14 y15 => f18_L30 call n h_m0 n y0 y1 y2 y3 y4 y5 y6 y7 y8 y9 y10 y11 y12 y13 y14 y15) (fun y0 y1 y2 y3 y4 y5 y6 y7 y8 y9 y10 y11 y12 y13 y14 y15 => f18_L31 call n h_m0 y0 y1 y2 y3 y4 y5 y6 y7 y8 y9 y10 y11 y12 y13 y14 y15) x0 x1 x2 x3 x4 x5 x6 x7 x8 x9 x10 x11 x12 x13 x14
theorem f18_e19 (call : CallF) (n : Nat) (m0 : Nat) : ∀ (m1 : Nat) (x0 : List UInt8) (x1 : Int) (x2 : Bool) (x3 : Int) (x4 : List UInt8) (x5 : Int) (x6 : Int) (x7 : Int) (x8 : List UInt8) (x9 : List Cell) (x10 : Int) (x11 : Int) (x12 : Int) (x13 : List UInt8) (x14 : List Cell), aloop (pruneAt f18_h 1000014) (f18_x call n [1, 1, 1, 0, 0, 0, 1, 1, 1, 1, 1, 1, 1, 0, 1, 0, 0]) (kBlk 4 (kSeq (f18_x call n [1, 1, 1, 0, 0, 0, 1, 1, 1, 1, 1, 1, 1, 1]) (kBlk 1 (kSeq (fun k => prK (pruneAt f18_h 1000003) (aloop (pruneAt f18_h 1000003) (f18_x call n [1, 1, 1, 0, 0]) k m0)) (kBlk 0 (kEnd AXE 0 f18_r)))))) m1 ⟨[(0, .one (.str x0)), (1, .one (.int .i64 x1)), (2, .one (.bool x2)), (6, .one (.ptr 0 0)), (7, .one (.ptr 1 0)), (8, .one (.int .i64 x3)), (10, .one (.str x4)), (11, .one (.int .i64 x5)), (12, .one (.int .i64 x6))], [[.int .i64 x7, .str x8, .sl (some ⟨1000000, 2, 9⟩) 1 x9, .int .i64 x10, .int .i64 x11], [.int .i64 x12, .str x13, .sl (some ⟨1000001, 2, 9⟩) 1 x14]]⟩ = f18_L19 call n (fun y0 y1 y2 y3 y4 y5 y6 y7 y8 y9 y10 y11 => aloop (pruneAt f18_h 1000003) (f18_x call n [1, 1, 1, 0, 0]) (kBlk 0 (kEnd AXE 0 f18_r)) m0 ⟨[(0, .one (.str y0)), (1, .one (.int .i64 y1)), (2, .one (.bool y2)), (6, .one (.ptr 0 0)), (7, .one (.ptr 1 0)), (8, .one (.int .i64 y3))], [[.int .i64 y4, .str y5, .sl (some ⟨1000000, 2, 9⟩) 1 y6, .int .i64 y7, .int .i64 y8], [.int .i64 y9, .str y10, .sl (some ⟨1000001, 2, 9⟩) 1 y11]]⟩) m1 x0 x1 x2 x3 x4 x5 x6 x7 x8 x9 x10 x11 x12 x13 x14 := by
  intro m1
  induction m1 with
  | zero => intros; rfl
  | succ m1 ih =>
    intro x0 x1 x2 x3 x4 x5 x6 x7 x8 x9 x10 x11 x12 x13 x14
    rw [f18_l19]
    simp only [f18_e27, f18_e30, f18_e31, ih]
    rfl
/-- pigeonhole/pigeonholeref08.Read: label 14 -/
def f18_T14 (call : CallF) (n : Nat) (j18 : Int → (List UInt8) → (List Cell) → Int → Int → Option RR) (j19n : (List UInt8) → Int → Bool → Int → (List UInt8) → Int → Int → Int → (List UInt8) → (List Cell) → Int → Int → Int → (List UInt8) → (List Cell) → Option RR) (x0 : List UInt8) (x1 : Int) (x2 : Bool) (x3 : Int) (x4 : List UInt8) (x5 : Bool) (x6 : Int) (x7 : List UInt8) (x8 : List Cell) (x9 : Int) (x10 : Int) (x11 : Int) (x12 : List UInt8) (x13 : List Cell) : Option RR :=
  bif x5 then (
    j18 (0 : Int) ([] : List UInt8) ([] : List Cell) (0 : Int) (3 : Int)) else (
    j19n x0 x1 x2 x3 x4 (0 : Int) (0 : Int) x6 x7 x8 x9 x10 x11 x12 x13)
theorem f18_l14 (call : CallF) (n : Nat) (m0 : Nat) (x0 : List UInt8) (x1 : Int) (x2 : Bool) (x3 : Int) (x4 : List UInt8) (x5 : Bool) (x6 : Int) (x7 : List UInt8) (x8 : List Cell) (x9 : Int) (x10 : Int) (x11 : Int) (x12 : List UInt8) (x13 : List Cell) : (f18_x call n [1, 1, 1, 0, 0, 0, 1, 1, 1, 1, 1, 0, 1]) (kSeq (f18_x call n [1, 1, 1, 0, 0, 0, 1, 1, 1, 1, 1, 1]) (kBlk 1 (kSeq (fun k => prK (pruneAt f18_h 1000003) (aloop (pruneAt f18_h 1000003) (f18_x call n [1, 1, 1, 0, 0]) k m0)) (kBlk 0 (kEnd AXE 0 f18_r))))) ⟨[(0, .one (.str x0)), (1, .one (.int .i64 x1)), (2, .one (.bool x2)), (6, .one (.ptr 0 0)), (7, .one (.ptr 1 0)), (8, .one (.int .i64 x3)), (10, .one (.str x4)), (64, .one (.bool x5))], [[.int .i64 x6, .str x7, .sl (some ⟨1000000, 2, 9⟩) 1 x8, .int .i64 x9, .int .i64 x10], [.int .i64 x11, .str x12, .sl (some ⟨1000001, 2, 9⟩) 1 x13]]⟩ = f18_T14 call n (fun y0 y1 y2 y3 y4 => (f18_x call n [1, 1, 1, 0, 0, 0, 1, 1, 1, 1, 1, 0, 1, 0, 1]) (kSeq (f18_x call n [1, 1, 1, 0, 0, 0, 1, 1, 1, 1, 1, 1]) (kBlk 1 (kSeq (fun k => prK (pruneAt f18_h 1000003) (aloop (pruneAt f18_h 1000003) (f18_x call n [1, 1, 1, 0, 0]) k m0)) (kBlk 0 (kEnd AXE 0 f18_r))))) ⟨[(6, .one (.ptr 0 0))], [[.int .i64 y0, .str y1, .sl (some ⟨1000000, 2, 9⟩) 1 y2, .int .i64 y3, .int .i64 y4]]⟩) (fun y0 y1 y2 y3 y4 y5 y6 y7 y8 y9 y10 y11 y12 y13 y14 => aloop (pruneAt f18_h 1000014) (f18_x call n [1, 1, 1, 0, 0, 0, 1, 1, 1, 1, 1, 1, 1, 0, 1, 0, 0]) (kBlk 4 (kSeq (f18_x call n [1, 1, 1, 0, 0, 0, 1, 1, 1, 1, 1, 1, 1, 1]) (kBlk 1 (kSeq (fun k => prK (pruneAt f18_h 1000003) (aloop (pruneAt f18_h 1000003) (f18_x call n [1, 1, 1, 0, 0]) k m0)) (kBlk 0 (kEnd AXE 0 f18_r)))))) n ⟨[(0, .one (.str y0)), (1, .one (.int .i64 y1)), (2, .one (.bool y2)), (6, .one (.ptr 0 0)), (7, .one (.ptr 1 0)), (8, .one (.int .i64 y3)), (10, .one (.str y4)), (11, .one (.int .i64 y5)), (12, .one (.int .i64 y6))], [[.int .i64 y7, .str y8, .sl (some ⟨1000000, 2, 9⟩) 1 y9, .int .i64 y10, .int .i64 y11], [.int .i64 y12, .str y13, .sl (some ⟨1000001, 2, 9⟩) 1 y14]]⟩) x0 x1 x2 x3 x4 x5 x6 x7 x8 x9 x10 x11 x12 x13 := by kernel_rfl
def f18_L14 (call : CallF) (n : Nat) (h_m0 : (List UInt8) → Int → Bool → Int → Int → (List UInt8) → (List Cell) → Int → Int → Int → (List UInt8) → (List Cell) → Option RR) (x0 : List UInt8) (x1 : Int) (x2 : Bool) (x3 : Int) (x4 : List UInt8) (x5 : Bool) (x6 : Int) (x7 : List UInt8) (x8 : List Cell) (x9 : Int) (x10 : Int) (x11 : Int) (x12 : List UInt8) (x13 : List Cell) : Option RR :=
  f18_T14 call n (fun y0 y1 y2 y3 y4 => f18_L18 call n h_m0 y0 y1 y2 y3 y4) (fun y0 y1 y2 y3 y4 y5 y6 y7 y8 y9 y10 y11 y12 y13 y14 => f18_L19 call n h_m0 n y0 y1 y2 y3 y4 y5 y6 y7 y8 y9 y10 y11 y12 y13 y14) x0 x1 x2 x3 x4 x5 x6 x7 x8 x9 x10 x11 x12 x13
theorem f18_e14 (call : CallF) (n : Nat) (m0 : Nat) (x0 : List UInt8) (x1 : Int) (x2 : Bool) (x3 : Int) (x4 : List UInt8) (x5 : Bool) (x6 : Int) (x7 : List UInt8) (x8 : List Cell) (x9 : Int) (x10 : Int) (x11 : Int) (x12 : List UInt8) (x13 : List Cell) : (f18_x call n [1, 1, 1, 0, 0, 0, 1, 1, 1, 1, 1, 0, 1]) (kSeq (f18_x call n [1, 1, 1, 0, 0, 0, 1, 1, 1, 1, 1, 1]) (kBlk 1 (kSeq (fun k => prK (pruneAt f18_h 1000003) (aloop (pruneAt f18_h 1000003) (f18_x call n [1, 1, 1, 0, 0]) k m0)) (kBlk 0 (kEnd AXE 0 f18_r))))) ⟨[(0, .one (.str x0)), (1, .one (.int .i64 x1)), (2, .one (.bool x2)), (6, .one (.ptr 0 0)), (7, .one (.ptr 1 0)), (8, .one (.int .i64 x3)), (10, .one (.str x4)), (64, .one (.bool x5))], [[.int .i64 x6, .str x7, .sl (some ⟨1000000, 2, 9⟩) 1 x8, .int .i64 x9, .int .i64 x10], [.int .i64 x11, .str x12, .sl (some ⟨1000001, 2, 9⟩) 1 x13]]⟩ = f18_L14 call n (fun y0 y1 y2 y3 y4 y5 y6 y7 y8 y9 y10 y11 => aloop (pruneAt f18_h 1000003) (f18_x call n [1, 1, 1, 0, 0]) (kBlk 0 (kEnd AXE 0 f18_r)) m0 ⟨[(0, .one (.str y0)), (1, .one (.int .i64 y1)), (2, .one (.bool y2)), (6, .one (.ptr 0 0)), (7, .one (.ptr 1 0)), (8, .one (.int .i64 y3))], [[.int .i64 y4, .str y5, .sl (some ⟨1000000, 2, 9⟩) 1 y6, .int .i64 y7, .int .i64 y8], [.int .i64 y9, .str y10, .sl (some ⟨1000001, 2, 9⟩) 1 y11]]⟩) x0 x1 x2 x3 x4 x5 x6 x7 x8 x9 x10 x11 x12 x13 := by
  rw [f18_l14]
  simp only [f18_e18, f18_e19]
  rfl
/-- pigeonhole/pigeonholeref08.Read: label 13 -/
def f18_T13 (call : CallF) (n : Nat) (j14 : (List UInt8) → Int → Bool → Int → (List UInt8) → Bool → Int → (List UInt8) → (List Cell) → Int → Int → Int → (List UInt8) → (List Cell) → Option RR) (x0 : List UInt8) (x1 : Int) (x2 : Bool) (x3 : Int) (x4 : List UInt8) (x5 : Int) (x6 : List UInt8) (x7 : List Cell) (x8 : Int) (x9 : Int) (x10 : Int) (x11 : List UInt8) (x12 : List Cell) : Option RR :=
  bif (decide (((x4).length : Int) < (4 : Int))) then (
    j14 x0 x1 x2 x3 x4 true x5 x6 x7 x8 x9 x10 x11 x12) else (
    itemK x4 (3 : Int) fun u1 =>
    bif ((UInt8.toNat u1 : Int) != (32 : Int)) then (
      itemK x4 (3 : Int) fun u2 =>
      j14 x0 x1 x2 x3 x4 ((UInt8.toNat u2 : Int) != (45 : Int)) x5 x6 x7 x8 x9 x10 x11 x12) else (
      j14 x0 x1 x2 x3 x4 false x5 x6 x7 x8 x9 x10 x11 x12))
theorem f18_l13 (call : CallF) (n : Nat) (m0 : Nat) (x0 : List UInt8) (x1 : Int) (x2 : Bool) (x3 : Int) (x4 : List UInt8) (x5 : Int) (x6 : List UInt8) (x7 : List Cell) (x8 : Int) (x9 : Int) (x10 : Int) (x11 : List UInt8) (x12 : List Cell) : (f18_x call n [1, 1, 1, 0, 0, 0, 1, 1, 1, 1, 1]) (kBlk 1 (kSeq (fun k => prK (pruneAt f18_h 1000003) (aloop (pruneAt f18_h 1000003) (f18_x call n [1, 1, 1, 0, 0]) k m0)) (kBlk 0 (kEnd AXE 0 f18_r)))) ⟨[(0, .one (.str x0)), (1, .one (.int .i64 x1)), (2, .one (.bool x2)), (6, .one (.ptr 0 0)), (7, .one (.ptr 1 0)), (8, .one (.int .i64 x3)), (10, .one (.str x4))], [[.int .i64 x5, .str x6, .sl (some ⟨1000000, 2, 9⟩) 1 x7, .int .i64 x8, .int .i64 x9], [.int .i64 x10, .str x11, .sl (some ⟨1000001, 2, 9⟩) 1 x12]]⟩ = f18_T13 call n (fun y0 y1 y2 y3 y4 y5 y6 y7 y8 y9 y10 y11 y12 y13 => (f18_x call n [1, 1, 1, 0, 0, 0, 1, 1, 1, 1, 1, 0, 1]) (kSeq (f18_x call n [1, 1, 1, 0, 0, 0, 1, 1, 1, 1, 1, 1]) (kBlk 1 (kSeq (fun k => prK (pruneAt f18_h 1000003) (aloop (pruneAt f18_h 1000003) (f18_x call n [1, 1, 1, 0, 0]) k m0)) (kBlk 0 (kEnd AXE 0 f18_r))))) ⟨[(0, .one (.str y0)), (1, .one (.int .i64 y1)), (2, .one (.bool y2)), (6, .one (.ptr 0 0)), (7, .one (.ptr 1 0)), (8, .one (.int .i64 y3)), (10, .one (.str y4)), (64, .one (.bool y5))], [[.int .i64 y6, .str y7, .sl (some ⟨1000000, 2, 9⟩) 1 y8, .int .i64 y9, .int .i64 y10], [.int .i64 y11, .str y12, .sl (some ⟨1000001, 2, 9⟩) 1 y13]]⟩) x0 x1 x2 x3 x4 x5 x6 x7 x8 x9 x10 x11 x12 := by kernel_rfl
def f18_L13 (call : CallF) (n : Nat) (h_m0 : (List UInt8) → Int → Bool → Int → Int → (List UInt8) → (List Cell) → Int → Int → Int → (List UInt8) → (List Cell) → Option RR) (x0 : List UInt8) (x1 : Int) (x2 : Bool) (x3 : Int) (x4 : List UInt8) (x5 : Int) (x6 : List UInt8) (x7 : List Cell) (x8 : Int) (x9 : Int) (x10 : Int) (x11 : List UInt8) (x12 : List Cell) : Option RR :=
  f18_T13 call n (fun y0 y1 y2 y3 y4 y5 y6 y7 y8 y9 y10 y11 y12 y13 => f18_L14 call n h_m0 y0 y1 y2 y3 y4 y5 y6 y7 y8 y9 y10 y11 y12 y13) x0 x1 x2 x3 x4 x5 x6 x7 x8 x9 x10 x11 x12
theorem f18_e13 (call : CallF) (n : Nat) (m0 : Nat) (x0 : List UInt8) (x1 : Int) (x2 : Bool) (x3 : Int) (x4 : List UInt8) (x5 : Int) (x6 : List UInt8) (x7 : List Cell) (x8 : Int) (x9 : Int) (x10 : Int) (x11 : List UInt8) (x12 : List Cell) : (f18_x call n [1, 1, 1, 0, 0, 0, 1, 1, 1, 1, 1]) (kBlk 1 (kSeq (fun k => prK (pruneAt f18_h 1000003) (aloop (pruneAt f18_h 1000003) (f18_x call n [1, 1, 1, 0, 0]) k m0)) (kBlk 0 (kEnd AXE 0 f18_r)))) ⟨[(0, .one (.str x0)), (1, .one (.int .i64 x1)), (2, .one (.bool x2)), (6, .one (.ptr 0 0)), (7, .one (.ptr 1 0)), (8, .one (.int .i64 x3)), (10, .one (.str x4))], [[.int .i64 x5, .str x6, .sl (some ⟨1000000, 2, 9⟩) 1 x7, .int .i64 x8, .int .i64 x9], [.int .i64 x10, .str x11, .sl (some ⟨1000001, 2, 9⟩) 1 x12]]⟩ = f18_L13 call n (fun y0 y1 y2 y3 y4 y5 y6 y7 y8 y9 y10 y11 => aloop (pruneAt f18_h 1000003) (f18_x call n [1, 1, 1, 0, 0]) (kBlk 0 (kEnd AXE 0 f18_r)) m0 ⟨[(0, .one (.str y0)), (1, .one (.int .i64 y1)), (2, .one (.bool y2)), (6, .one (.ptr 0 0)), (7, .one (.ptr 1 0)), (8, .one (.int .i64 y3))], [[.int .i64 y4, .str y5, .sl (some ⟨1000000, 2, 9⟩) 1 y6, .int .i64 y7, .int .i64 y8], [.int .i64 y9, .str y10, .sl (some ⟨1000001, 2, 9⟩) 1 y11]]⟩) x0 x1 x2 x3 x4 x5 x6 x7 x8 x9 x10 x11 x12 := by
  rw [f18_l13]
  simp only [f18_e14]
  rfl
/-- pigeonhole/pigeonholeref08.Read: label 12 -/
def f18_T12 (call : CallF) (n : Nat) (j13 : (List UInt8) → Int → Bool → Int → (List UInt8) → Int → (List UInt8) → (List Cell) → Int → Int → Int → (List UInt8) → (List Cell) → Option RR) (x0 : List UInt8) (x1 : Int) (x2 : Bool) (x3 : Int) (x4 : List UInt8) (x5 : Int) (x6 : List UInt8) (x7 : List Cell) (x8 : Int) (x9 : Int) (x10 : Int) (x11 : List UInt8) (x12 : List Cell) : Option RR :=
  j13 x0 x1 x2 (IntKind.wrap .i64 (x3 + (2 : Int))) x4 x5 x6 x7 x8 x9 x10 x11 x12
theorem f18_l12 (call : CallF) (n : Nat) (m0 : Nat) (x0 : List UInt8) (x1 : Int) (x2 : Bool) (x3 : Int) (x4 : List UInt8) (x5 : Int) (x6 : List UInt8) (x7 : List Cell) (x8 : Int) (x9 : Int) (x10 : Int) (x11 : List UInt8) (x12 : List Cell) : (f18_x call n [1, 1, 1, 0, 0, 0, 1, 1, 1, 1]) (kBlk 1 (kSeq (fun k => prK (pruneAt f18_h 1000003) (aloop (pruneAt f18_h 1000003) (f18_x call n [1, 1, 1, 0, 0]) k m0)) (kBlk 0 (kEnd AXE 0 f18_r)))) ⟨[(0, .one (.str x0)), (1, .one (.int .i64 x1)), (2, .one (.bool x2)), (6, .one (.ptr 0 0)), (7, .one (.ptr 1 0)), (9, .one (.int .i64 x3)), (10, .one (.str x4))], [[.int .i64 x5, .str x6, .sl (some ⟨1000000, 2, 9⟩) 1 x7, .int .i64 x8, .int .i64 x9], [.int .i64 x10, .str x11, .sl (some ⟨1000001, 2, 9⟩) 1 x12]]⟩ = f18_T12 call n (fun y0 y1 y2 y3 y4 y5 y6 y7 y8 y9 y10 y11 y12 => (f18_x call n [1, 1, 1, 0, 0, 0, 1, 1, 1, 1, 1]) (kBlk 1 (kSeq (fun k => prK (pruneAt f18_h 1000003) (aloop (pruneAt f18_h 1000003) (f18_x call n [1, 1, 1, 0, 0]) k m0)) (kBlk 0 (kEnd AXE 0 f18_r)))) ⟨[(0, .one (.str y0)), (1, .one (.int .i64 y1)), (2, .one (.bool y2)), (6, .one (.ptr 0 0)), (7, .one (.ptr 1 0)), (8, .one (.int .i64 y3)), (10, .one (.str y4))], [[.int .i64 y5, .str y6, .sl (some ⟨1000000, 2, 9⟩) 1 y7, .int .i64 y8, .int .i64 y9], [.int .i64 y10, .str y11, .sl (some ⟨1000001, 2, 9⟩) 1 y12]]⟩) x0 x1 x2 x3 x4 x5 x6 x7 x8 x9 x10 x11 x12 := by kernel_rfl
def f18_L12 (call : CallF) (n : Nat) (h_m0 : (List UInt8) → Int → Bool → Int → Int → (List UInt8) → (List Cell) → Int → Int → Int → (List UInt8) → (List Cell) → Option RR) (x0 : List UInt8) (x1 : Int) (x2 : Bool) (x3 : Int) (x4 : List UInt8) (x5 : Int) (x6 : List UInt8) (x7 : List Cell) (x8 : Int) (x9 : Int) (x10 : Int) (x11 : List UInt8) (x12 : List Cell) : Option RR :=
  f18_T12 call n (fun y0 y1 y2 y3 y4 y5 y6 y7 y8 y9 y10 y11 y12 => f18_L13 call n h_m0 y0 y1 y2 y3 y4 y5 y6 y7 y8 y9 y10 y11 y12) x0 x1 x2 x3 x4 x5 x6 x7 x8 x9 x10 x11 x12
theorem f18_e12 (call : CallF) (n : Nat) (m0 : Nat) (x0 : List UInt8) (x1 : Int) (x2 : Bool) (x3 : Int) (x4 : List UInt8) (x5 : Int) (x6 : List UInt8) (x7 : List Cell) (x8 : Int) (x9 : Int) (x10 : Int) (x11 : List UInt8) (x12 : List Cell) : (f18_x call n [1, 1, 1, 0, 0, 0, 1, 1, 1, 1]) (kBlk 1 (kSeq (fun k => prK (pruneAt f18_h 1000003) (aloop (pruneAt f18_h 1000003) (f18_x call n [1, 1, 1, 0, 0]) k m0)) (kBlk 0 (kEnd AXE 0 f18_r)))) ⟨[(0, .one (.str x0)), (1, .one (.int .i64 x1)), (2, .one (.bool x2)), (6, .one (.ptr 0 0)), (7, .one (.ptr 1 0)), (9, .one (.int .i64 x3)), (10, .one (.str x4))], [[.int .i64 x5, .str x6, .sl (some ⟨1000000, 2, 9⟩) 1 x7, .int .i64 x8, .int .i64 x9], [.int .i64 x10, .str x11, .sl (some ⟨1000001, 2, 9⟩) 1 x12]]⟩ = f18_L12 call n (fun y0 y1 y2 y3 y4 y5 y6 y7 y8 y9 y10 y11 => aloop (pruneAt f18_h 1000003) (f18_x call n [1, 1, 1, 0, 0]) (kBlk 0 (kEnd AXE 0 f18_r)) m0 ⟨[(0, .one (.str y0)), (1, .one (.int .i64 y1)), (2, .one (.bool y2)), (6, .one (.ptr 0 0)), (7, .one (.ptr 1 0)), (8, .one (.int .i64 y3))], [[.int .i64 y4, .str y5, .sl (some ⟨1000000, 2, 9⟩) 1 y6, .int .i64 y7, .int .i64 y8], [.int .i64 y9, .str y10, .sl (some ⟨1000001, 2, 9⟩) 1 y11]]⟩) x0 x1 x2 x3 x4 x5 x6 x7 x8 x9 x10 x11 x12 := by
  rw [f18_l12]
  simp only [f18_e13]
  rfl
/-- pigeonhole/pigeonholeref08.Read: label 11 -/
def f18_T11 (call : CallF) (n : Nat) (j12 : (List UInt8) → Int → Bool → Int → (List UInt8) → Int → (List UInt8) → (List Cell) → Int → Int → Int → (List UInt8) → (List Cell) → Option RR) (x0 : List UInt8) (x1 : Int) (x2 : Bool) (x3 : Int) (x4 : Int) (x5 : Int) (x6 : List UInt8) (x7 : List Cell) (x8 : Int) (x9 : Int) (x10 : Int) (x11 : List UInt8) (x12 : List Cell) : Option RR :=
  bif decide (0 ≤ x3 ∧ x3 ≤ x4 ∧ (Int.toNat x4) ≤ (x0).length) then (
    j12 x0 x1 x2 x4 ((x0.take (Int.toNat x4)).drop (Int.toNat x3)) x5 x6 x7 x8 x9 x10 x11 x12) else none
theorem f18_l11 (call : CallF) (n : Nat) (m0 : Nat) (x0 : List UInt8) (x1 : Int) (x2 : Bool) (x3 : Int) (x4 : Int) (x5 : Int) (x6 : List UInt8) (x7 : List Cell) (x8 : Int) (x9 : Int) (x10 : Int) (x11 : List UInt8) (x12 : List Cell) : (f18_x call n [1, 1, 1, 0, 0, 0, 1, 1, 1]) (kBlk 1 (kSeq (fun k => prK (pruneAt f18_h 1000003) (aloop (pruneAt f18_h 1000003) (f18_x call n [1, 1, 1, 0, 0]) k m0)) (kBlk 0 (kEnd AXE 0 f18_r)))) ⟨[(0, .one (.str x0)), (1, .one (.int .i64 x1)), (2, .one (.bool x2)), (6, .one (.ptr 0 0)), (7, .one (.ptr 1 0)), (8, .one (.int .i64 x3)), (9, .one (.int .i64 x4))], [[.int .i64 x5, .str x6, .sl (some ⟨1000000, 2, 9⟩) 1 x7, .int .i64 x8, .int .i64 x9], [.int .i64 x10, .str x11, .sl (some ⟨1000001, 2, 9⟩) 1 x12]]⟩ = f18_T11 call n (fun y0 y1 y2 y3 y4 y5 y6 y7 y8 y9 y10 y11 y12 => (f18_x call n [1, 1, 1, 0, 0, 0, 1, 1, 1, 1]) (kBlk 1 (kSeq (fun k => prK (pruneAt f18_h 1000003) (aloop (pruneAt f18_h 1000003) (f18_x call n [1, 1, 1, 0, 0]) k m0)) (kBlk 0 (kEnd AXE 0 f18_r)))) ⟨[(0, .one (.str y0)), (1, .one (.int .i64 y1)), (2, .one (.bool y2)), (6, .one (.ptr 0 0)), (7, .one (.ptr 1 0)), (9, .one (.int .i64 y3)), (10, .one (.str y4))], [[.int .i64 y5, .str y6, .sl (some ⟨1000000, 2, 9⟩) 1 y7, .int .i64 y8, .int .i64 y9], [.int .i64 y10, .str y11, .sl (some ⟨1000001, 2, 9⟩) 1 y12]]⟩) x0 x1 x2 x3 x4 x5 x6 x7 x8 x9 x10 x11 x12 := by kernel_rfl
def f18_L11 (call : CallF) (n : Nat) (h_m0 : (List UInt8) → Int → Bool → Int → Int → (List UInt8) → (List Cell) → Int → Int → Int → (List UInt8) → (List Cell) → Option RR) (x0 : List UInt8) (x1 : Int) (x2 : Bool) (x3 : Int) (x4 : Int) (x5 : Int) (x6 : List UInt8) (x7 : List Cell) (x8 : Int) (x9 : Int) (x10 : Int) (x11 : List UInt8) (x12 : List Cell) : Option RR :=
  f18_T11 call n (fun y0 y1 y2 y3 y4 y5 y6 y7 y8 y9 y10 y11 y12 => f18_L12 call n h_m0 y0 y1 y2 y3 y4 y5 y6 y7 y8 y9 y10 y11 y12) x0 x1 x2 x3 x4 x5 x6 x7 x8 x9 x10 x11 x12
theorem f18_e11 (call : CallF) (n : Nat) (m0 : Nat) (x0 : List UInt8) (x1 : Int) (x2 : Bool) (x3 : Int) (x4 : Int) (x5 : Int) (x6 : List UInt8) (x7 : List Cell) (x8 : Int) (x9 : Int) (x10 : Int) (x11 : List UInt8) (x12 : List Cell) : (f18_x call n [1, 1, 1, 0, 0, 0, 1, 1, 1]) (kBlk 1 (kSeq (fun k => prK (pruneAt f18_h 1000003) (aloop (pruneAt f18_h 1000003) (f18_x call n [1, 1, 1, 0, 0]) k m0)) (kBlk 0 (kEnd AXE 0 f18_r)))) ⟨[(0, .one (.str x0)), (1, .one (.int .i64 x1)), (2, .one (.bool x2)), (6, .one (.ptr 0 0)), (7, .one (.ptr 1 0)), (8, .one (.int .i64 x3)), (9, .one (.int .i64 x4))], [[.int .i64 x5, .str x6, .sl (some ⟨1000000, 2, 9⟩) 1 x7, .int .i64 x8, .int .i64 x9], [.int .i64 x10, .str x11, .sl (some ⟨1000001, 2, 9⟩) 1 x12]]⟩ = f18_L11 call n (fun y0 y1 y2 y3 y4 y5 y6 y7 y8 y9 y10 y11 => aloop (pruneAt f18_h 1000003) (f18_x call n [1, 1, 1, 0, 0]) (kBlk 0 (kEnd AXE 0 f18_r)) m0 ⟨[(0, .one (.str y0)), (1, .one (.int .i64 y1)), (2, .one (.bool y2)), (6, .one (.ptr 0 0)), (7, .one (.ptr 1 0)), (8, .one (.int .i64 y3))], [[.int .i64 y4, .str y5, .sl (some ⟨1000000, 2, 9⟩) 1 y6, .int .i64 y7, .int .i64 y8], [.int .i64 y9, .str y10, .sl (some ⟨1000001, 2, 9⟩) 1 y11]]⟩) x0 x1 x2 x3 x4 x5 x6 x7 x8 x9 x10 x11 x12 := by
  rw [f18_l11]
  simp only [f18_e12]
  rfl
/-- pigeonhole/pigeonholeref08.Read: label 9 -/
def f18_T9 (call : CallF) (n : Nat) (j10 : Int → (List UInt8) → (List Cell) → Int → Int → Option RR) (j11 : (List UInt8) → Int → Bool → Int → Int → Int → (List UInt8) → (List Cell) → Int → Int → Int → (List UInt8) → (List Cell) → Option RR) (x0 : List UInt8) (x1 : Int) (x2 : Bool) (x3 : Int) (x4 : Int) (x5 : Bool) (x6 : Int) (x7 : List UInt8) (x8 : List Cell) (x9 : Int) (x10 : Int) (x11 : Int) (x12 : List UInt8) (x13 : List Cell) : Option RR :=
  bif x5 then (
    j10 (0 : Int) ([] : List UInt8) ([] : List Cell) (0 : Int) (2 : Int)) else (
    j11 x0 x1 x2 x3 x4 x6 x7 x8 x9 x10 x11 x12 x13)
theorem f18_l9 (call : CallF) (n : Nat) (m0 : Nat) (x0 : List UInt8) (x1 : Int) (x2 : Bool) (x3 : Int) (x4 : Int) (x5 : Bool) (x6 : Int) (x7 : List UInt8) (x8 : List Cell) (x9 : Int) (x10 : Int) (x11 : Int) (x12 : List UInt8) (x13 : List Cell) : (f18_x call n [1, 1, 1, 0, 0, 0, 1, 1, 0, 1]) (kSeq (f18_x call n [1, 1, 1, 0, 0, 0, 1, 1, 1]) (kBlk 1 (kSeq (fun k => prK (pruneAt f18_h 1000003) (aloop (pruneAt f18_h 1000003) (f18_x call n [1, 1, 1, 0, 0]) k m0)) (kBlk 0 (kEnd AXE 0 f18_r))))) ⟨[(0, .one (.str x0)), (1, .one (.int .i64 x1)), (2, .one (.bool x2)), (6, .one (.ptr 0 0)), (7, .one (.ptr 1 0)), (8, .one (.int .i64 x3)), (9, .one (.int .i64 x4)), (44, .one (.bool x5))], [[.int .i64 x6, .str x7, .sl (some ⟨1000000, 2, 9⟩) 1 x8, .int .i64 x9, .int .i64 x10], [.int .i64 x11, .str x12, .sl (some ⟨1000001, 2, 9⟩) 1 x13]]⟩ = f18_T9 call n (fun y0 y1 y2 y3 y4 => (f18_x call n [1, 1, 1, 0, 0, 0, 1, 1, 0, 1, 0, 1]) (kSeq (f18_x call n [1, 1, 1, 0, 0, 0, 1, 1, 1]) (kBlk 1 (kSeq (fun k => prK (pruneAt f18_h 1000003) (aloop (pruneAt f18_h 1000003) (f18_x call n [1, 1, 1, 0, 0]) k m0)) (kBlk 0 (kEnd AXE 0 f18_r))))) ⟨[(6, .one (.ptr 0 0))], [[.int .i64 y0, .str y1, .sl (some ⟨1000000, 2, 9⟩) 1 y2, .int .i64 y3, .int .i64 y4]]⟩) (fun y0 y1 y2 y3 y4 y5 y6 y7 y8 y9 y10 y11 y12 => (f18_x call n [1, 1, 1, 0, 0, 0, 1, 1, 1]) (kBlk 1 (kSeq (fun k => prK (pruneAt f18_h 1000003) (aloop (pruneAt f18_h 1000003) (f18_x call n [1, 1, 1, 0, 0]) k m0)) (kBlk 0 (kEnd AXE 0 f18_r)))) ⟨[(0, .one (.str y0)), (1, .one (.int .i64 y1)), (2, .one (.bool y2)), (6, .one (.ptr 0 0)), (7, .one (.ptr 1 0)), (8, .one (.int .i64 y3)), (9, .one (.int .i64 y4))], [[.int .i64 y5, .str y6, .sl (some ⟨1000000, 2, 9⟩) 1 y7, .int .i64 y8, .int .i64 y9], [.int .i64 y10, .str y11, .sl (some ⟨1000001, 2, 9⟩) 1 y12]]⟩) x0 x1 x2 x3 x4 x5 x6 x7 x8 x9 x10 x11 x12 x13 := by kernel_rfl
def f18_L9 (call : CallF) (n : Nat) (h_m0 : (List UInt8) → Int → Bool → Int → Int → (List UInt8) → (List Cell) → Int → Int → Int → (List UInt8) → (List Cell) → Option RR) (x0 : List UInt8) (x1 : Int) (x2 : Bool) (x3 : Int) (x4 : Int) (x5 : Bool) (x6 : Int) (x7 : List UInt8) (x8 : List Cell) (x9 : Int) (x10 : Int) (x11 : Int) (x12 : List UInt8) (x13 : List Cell) : Option RR :=
  f18_T9 call n (fun y0 y1 y2 y3 y4 => f18_L10 call n h_m0 y0 y1 y2 y3 y4) (fun y0 y1 y2 y3 y4 y5 y6 y7 y8 y9 y10 y11 y12 => f18_L11 call n h_m0 y0 y1 y2 y3 y4 y5 y6 y7 y8 y9 y10 y11 y12) x0 x1 x2 x3 x4 x5 x6 x7 x8 x9 x10 x11 x12 x13
theorem f18_e9 (call : CallF) (n : Nat) (m0 : Nat) (x0 : List UInt8) (x1 : Int) (x2 : Bool) (x3 : Int) (x4 : Int) (x5 : Bool) (x6 : Int) (x7 : List UInt8) (x8 : List Cell) (x9 : Int) (x10 : Int) (x11 : Int) (x12 : List UInt8) (x13 : List Cell) : (f18_x call n [1, 1, 1, 0, 0, 0, 1, 1, 0, 1]) (kSeq (f18_x call n [1, 1, 1, 0, 0, 0, 1, 1, 1]) (kBlk 1 (kSeq (fun k => prK (pruneAt f18_h 1000003) (aloop (pruneAt f18_h 1000003) (f18_x call n [1, 1, 1, 0, 0]) k m0)) (kBlk 0 (kEnd AXE 0 f18_r))))) ⟨[(0, .one (.str x0)), (1, .one (.int .i64 x1)), (2, .one (.bool x2)), (6, .one (.ptr 0 0)), (7, .one (.ptr 1 0)), (8, .one (.int .i64 x3)), (9, .one (.int .i64 x4)), (44, .one (.bool x5))], [[.int .i64 x6, .str x7, .sl (some ⟨1000000, 2, 9⟩) 1 x8, .int .i64 x9, .int .i64 x10], [.int .i64 x11, .str x12, .sl (some ⟨1000001, 2, 9⟩) 1 x13]]⟩ = f18_L9 call n (fun y0 y1 y2 y3 y4 y5 y6 y7 y8 y9 y10 y11 => aloop (pruneAt f18_h 1000003) (f18_x call n [1, 1, 1, 0, 0]) (kBlk 0 (kEnd AXE 0 f18_r)) m0 ⟨[(0, .one (.str y0)), (1, .one (.int .i64 y1)), (2, .one (.bool y2)), (6, .one (.ptr 0 0)), (7, .one (.ptr 1 0)), (8, .one (.int .i64 y3))], [[.int .i64 y4, .str y5, .sl (some ⟨1000000, 2, 9⟩) 1 y6, .int .i64 y7, .int .i64 y8], [.int .i64 y9, .str y10, .sl (some ⟨1000001, 2, 9⟩) 1 y11]]⟩) x0 x1 x2 x3 x4 x5 x6 x7 x8 x9 x10 x11 x12 x13 := by
  rw [f18_l9]
  simp only [f18_e10, f18_e11]
  rfl
/-- pigeonhole/pigeonholeref08.Read: label 8 -/
def f18_T8 (call : CallF) (n : Nat) (j9 : (List UInt8) → Int → Bool → Int → Int → Bool → Int → (List UInt8) → (List Cell) → Int → Int → Int → (List UInt8) → (List Cell) → Option RR) (x0 : List UInt8) (x1 : Int) (x2 : Bool) (x3 : Int) (x4 : Int) (x5 : Int) (x6 : List UInt8) (x7 : List Cell) (x8 : Int) (x9 : Int) (x10 : Int) (x11 : List UInt8) (x12 : List Cell) : Option RR :=
  j9 x0 x1 x2 x3 x4 (decide ((IntKind.wrap .i64 (x4 + (1 : Int))) ≥ ((x0).length : Int))) x5 x6 x7 x8 x9 x10 x11 x12
theorem f18_l8 (call : CallF) (n : Nat) (m0 : Nat) (x0 : List UInt8) (x1 : Int) (x2 : Bool) (x3 : Int) (x4 : Int) (x5 : Int) (x6 : List UInt8) (x7 : List Cell) (x8 : Int) (x9 : Int) (x10 : Int) (x11 : List UInt8) (x12 : List Cell) : (f18_x call n [1, 1, 1, 0, 0, 0, 1, 1]) (kBlk 1 (kSeq (fun k => prK (pruneAt f18_h 1000003) (aloop (pruneAt f18_h 1000003) (f18_x call n [1, 1, 1, 0, 0]) k m0)) (kBlk 0 (kEnd AXE 0 f18_r)))) ⟨[(0, .one (.str x0)), (1, .one (.int .i64 x1)), (2, .one (.bool x2)), (6, .one (.ptr 0 0)), (7, .one (.ptr 1 0)), (8, .one (.int .i64 x3)), (9, .one (.int .i64 x4))], [[.int .i64 x5, .str x6, .sl (some ⟨1000000, 2, 9⟩) 1 x7, .int .i64 x8, .int .i64 x9], [.int .i64 x10, .str x11, .sl (some ⟨1000001, 2, 9⟩) 1 x12]]⟩ = f18_T8 call n (fun y0 y1 y2 y3 y4 y5 y6 y7 y8 y9 y10 y11 y12 y13 => (f18_x call n [1, 1, 1, 0, 0, 0, 1, 1, 0, 1]) (kSeq (f18_x call n [1, 1, 1, 0, 0, 0, 1, 1, 1]) (kBlk 1 (kSeq (fun k => prK (pruneAt f18_h 1000003) (aloop (pruneAt f18_h 1000003) (f18_x call n [1, 1, 1, 0, 0]) k m0)) (kBlk 0 (kEnd AXE 0 f18_r))))) ⟨[(0, .one (.str y0)), (1, .one (.int .i64 y1)), (2, .one (.bool y2)), (6, .one (.ptr 0 0)), (7, .one (.ptr 1 0)), (8, .one (.int .i64 y3)), (9, .one (.int .i64 y4)), (44, .one (.bool y5))], [[.int .i64 y6, .str y7, .sl (some ⟨1000000, 2, 9⟩) 1 y8, .int .i64 y9, .int .i64 y10], [.int .i64 y11, .str y12, .sl (some ⟨1000001, 2, 9⟩) 1 y13]]⟩) x0 x1 x2 x3 x4 x5 x6 x7 x8 x9 x10 x11 x12 := by kernel_rfl
def f18_L8 (call : CallF) (n : Nat) (h_m0 : (List UInt8) → Int → Bool → Int → Int → (List UInt8) → (List Cell) → Int → Int → Int → (List UInt8) → (List Cell) → Option RR) (x0 : List UInt8) (x1 : Int) (x2 : Bool) (x3 : Int) (x4 : Int) (x5 : Int) (x6 : List UInt8) (x7 : List Cell) (x8 : Int) (x9 : Int) (x10 : Int) (x11 : List UInt8) (x12 : List Cell) : Option RR :=
  f18_T8 call n (fun y0 y1 y2 y3 y4 y5 y6 y7 y8 y9 y10 y11 y12 y13 => f18_L9 call n h_m0 y0 y1 y2 y3 y4 y5 y6 y7 y8 y9 y10 y11 y12 y13) x0 x1 x2 x3 x4 x5 x6 x7 x8 x9 x10 x11 x12
theorem f18_e8 (call : CallF) (n : Nat) (m0 : Nat) (x0 : List UInt8) (x1 : Int) (x2 : Bool) (x3 : Int) (x4 : Int) (x5 : Int) (x6 : List UInt8) (x7 : List Cell) (x8 : Int) (x9 : Int) (x10 : Int) (x11 : List UInt8) (x12 : List Cell) : (f18_x call n [1, 1, 1, 0, 0, 0, 1, 1]) (kBlk 1 (kSeq (fun k => prK (pruneAt f18_h 1000003) (aloop (pruneAt f18_h 1000003) (f18_x call n [1, 1, 1, 0, 0]) k m0)) (kBlk 0 (kEnd AXE 0 f18_r)))) ⟨[(0, .one (.str x0)), (1, .one (.int .i64 x1)), (2, .one (.bool x2)), (6, .one (.ptr 0 0)), (7, .one (.ptr 1 0)), (8, .one (.int .i64 x3)), (9, .one (.int .i64 x4))], [[.int .i64 x5, .str x6, .sl (some ⟨1000000, 2, 9⟩) 1 x7, .int .i64 x8, .int .i64 x9], [.int .i64 x10, .str x11, .sl (some ⟨1000001, 2, 9⟩) 1 x12]]⟩ = f18_L8 call n (fun y0 y1 y2 y3 y4 y5 y6 y7 y8 y9 y10 y11 => aloop (pruneAt f18_h 1000003) (f18_x call n [1, 1, 1, 0, 0]) (kBlk 0 (kEnd AXE 0 f18_r)) m0 ⟨[(0, .one (.str y0)), (1, .one (.int .i64 y1)), (2, .one (.bool y2)), (6, .one (.ptr 0 0)), (7, .one (.ptr 1 0)), (8, .one (.int .i64 y3))], [[.int .i64 y4, .str y5, .sl (some ⟨1000000, 2, 9⟩) 1 y6, .int .i64 y7, .int .i64 y8], [.int .i64 y9, .str y10, .sl (some ⟨1000001, 2, 9⟩) 1 y11]]⟩) x0 x1 x2 x3 x4 x5 x6 x7 x8 x9 x10 x11 x12 := by
  rw [f18_l8]
  simp only [f18_e9]
  rfl
/-- pigeonhole/pigeonholeref08.Read: label 6 -/
def f18_T6 (call : CallF) (n : Nat) (j7 : (List UInt8) → Int → Bool → Int → Int → Int → (List UInt8) → (List Cell) → Int → Int → Int → (List UInt8) → (List Cell) → Option RR) (j8 : (List UInt8) → Int → Bool → Int → Int → Int → (List UInt8) → (List Cell) → Int → Int → Int → (List UInt8) → (List Cell) → Option RR) (x0 : List UInt8) (x1 : Int) (x2 : Bool) (x3 : Int) (x4 : Int) (x5 : Bool) (x6 : Int) (x7 : List UInt8) (x8 : List Cell) (x9 : Int) (x10 : Int) (x11 : Int) (x12 : List UInt8) (x13 : List Cell) : Option RR :=
  bif x5 then (
    j7 x0 x1 x2 x3 x4 x6 x7 x8 x9 x10 x11 x12 x13) else (
    j8 x0 x1 x2 x3 x4 x6 x7 x8 x9 x10 x11 x12 x13)
theorem f18_l6 (call : CallF) (n : Nat) (m0 : Nat) (m1 : Nat) (x0 : List UInt8) (x1 : Int) (x2 : Bool) (x3 : Int) (x4 : Int) (x5 : Bool) (x6 : Int) (x7 : List UInt8) (x8 : List Cell) (x9 : Int) (x10 : Int) (x11 : Int) (x12 : List UInt8) (x13 : List Cell) : (f18_x call n [1, 1, 1, 0, 0, 0, 1, 0, 0, 0, 0, 1]) (kSeq (f18_x call n [1, 1, 1, 0, 0, 0, 1, 0, 0, 0, 1]) (kSeq (fun k => prK (pruneAt f18_h 1000004) (aloop (pruneAt f18_h 1000004) (f18_x call n [1, 1, 1, 0, 0, 0, 1, 0, 0, 0]) k m1)) (kBlk 2 (kSeq (f18_x call n [1, 1, 1, 0, 0, 0, 1, 1]) (kBlk 1 (kSeq (fun k => prK (pruneAt f18_h 1000003) (aloop (pruneAt f18_h 1000003) (f18_x call n [1, 1, 1, 0, 0]) k m0)) (kBlk 0 (kEnd AXE 0 f18_r)))))))) ⟨[(0, .one (.str x0)), (1, .one (.int .i64 x1)), (2, .one (.bool x2)), (6, .one (.ptr 0 0)), (7, .one (.ptr 1 0)), (8, .one (.int .i64 x3)), (9, .one (.int .i64 x4)), (37, .one (.bool x5))], [[.int .i64 x6, .str x7, .sl (some ⟨1000000, 2, 9⟩) 1 x8, .int .i64 x9, .int .i64 x10], [.int .i64 x11, .str x12, .sl (some ⟨1000001, 2, 9⟩) 1 x13]]⟩ = f18_T6 call n (fun y0 y1 y2 y3 y4 y5 y6 y7 y8 y9 y10 y11 y12 => (f18_x call n [1, 1, 1, 0, 0, 0, 1, 0, 0, 0, 1]) (kSeq (fun k => prK (pruneAt f18_h 1000004) (aloop (pruneAt f18_h 1000004) (f18_x call n [1, 1, 1, 0, 0, 0, 1, 0, 0, 0]) k m1)) (kBlk 2 (kSeq (f18_x call n [1, 1, 1, 0, 0, 0, 1, 1]) (kBlk 1 (kSeq (fun k => prK (pruneAt f18_h 1000003) (aloop (pruneAt f18_h 1000003) (f18_x call n [1, 1, 1, 0, 0]) k m0)) (kBlk 0 (kEnd AXE 0 f18_r))))))) ⟨[(0, .one (.str y0)), (1, .one (.int .i64 y1)), (2, .one (.bool y2)), (6, .one (.ptr 0 0)), (7, .one (.ptr 1 0)), (8, .one (.int .i64 y3)), (9, .one (.int .i64 y4))], [[.int .i64 y5, .str y6, .sl (some ⟨1000000, 2, 9⟩) 1 y7, .int .i64 y8, .int .i64 y9], [.int .i64 y10, .str y11, .sl (some ⟨1000001, 2, 9⟩) 1 y12]]⟩) (fun y0 y1 y2 y3 y4 y5 y6 y7 y8 y9 y10 y11 y12 => (f18_x call n [1, 1, 1, 0, 0, 0, 1, 1]) (kBlk 1 (kSeq (fun k => prK (pruneAt f18_h 1000003) (aloop (pruneAt f18_h 1000003) (f18_x call n [1, 1, 1, 0, 0]) k m0)) (kBlk 0 (kEnd AXE 0 f18_r)))) ⟨[(0, .one (.str y0)), (1, .one (.int .i64 y1)), (2, .one (.bool y2)), (6, .one (.ptr 0 0)), (7, .one (.ptr 1 0)), (8, .one (.int .i64 y3)), (9, .one (.int .i64 y4))], [[.int .i64 y5, .str y6, .sl (some ⟨1000000, 2, 9⟩) 1 y7, .int .i64 y8, .int .i64 y9], [.int .i64 y10, .str y11, .sl (some ⟨1000001, 2, 9⟩) 1 y12]]⟩) x0 x1 x2 x3 x4 x5 x6 x7 x8 x9 x10 x11 x12 x13 := by kernel_rfl
def f18_L6 (call : CallF) (n : Nat) (h_m0 : (List UInt8) → Int → Bool → Int → Int → (List UInt8) → (List Cell) → Int → Int → Int → (List UInt8) → (List Cell) → Option RR) (h_m1 : (List UInt8) → Int → Bool → Int → Int → Int → (List UInt8) → (List Cell) → Int → Int → Int → (List UInt8) → (List Cell) → Option RR) (x0 : List UInt8) (x1 : Int) (x2 : Bool) (x3 : Int) (x4 : Int) (x5 : Bool) (x6 : Int) (x7 : List UInt8) (x8 : List Cell) (x9 : Int) (x10 : Int) (x11 : Int) (x12 : List UInt8) (x13 : List Cell) : Option RR :=
  f18_T6 call n (fun y0 y1 y2 y3 y4 y5 y6 y7 y8 y9 y10 y11 y12 => f18_L7 call n h_m0 h_m1 y0 y1 y2 y3 y4 y5 y6 y7 y8 y9 y10 y11 y12) (fun y0 y1 y2 y3 y4 y5 y6 y7 y8 y9 y10 y11 y12 => f18_L8 call n h_m0 y0 y1 y2 y3 y4 y5 y6 y7 y8 y9 y10 y11 y12) x0 x1 x2 x3 x4 x5 x6 x7 x8 x9 x10 x11 x12 x13
theorem f18_e6 (call : CallF) (n : Nat) (m0 : Nat) (m1 : Nat) (x0 : List UInt8) (x1 : Int) (x2 : Bool) (x3 : Int) (x4 : Int) (x5 : Bool) (x6 : Int) (x7 : List UInt8) (x8 : List Cell) (x9 : Int) (x10 : Int) (x11 : Int) (x12 : List UInt8) (x13 : List Cell) : (f18_x call n [1, 1, 1, 0, 0, 0, 1, 0, 0, 0, 0, 1]) (kSeq (f18_x call n [1, 1, 1, 0, 0, 0, 1, 0, 0, 0, 1]) (kSeq (fun k => prK (pruneAt f18_h 1000004) (aloop (pruneAt f18_h 1000004) (f18_x call n [1, 1, 1, 0, 0, 0, 1, 0, 0, 0]) k m1)) (kBlk 2 (kSeq (f18_x call n [1, 1, 1, 0, 0, 0, 1, 1]) (kBlk 1 (kSeq (fun k => prK (pruneAt f18_h 1000003) (aloop (pruneAt f18_h 1000003) (f18_x call n [1, 1, 1, 0, 0]) k m0)) (kBlk 0 (kEnd AXE 0 f18_r)))))))) ⟨[(0, .one (.str x0)), (1, .one (.int .i64 x1)), (2, .one (.bool x2)), (6, .one (.ptr 0 0)), (7, .one (.ptr 1 0)), (8, .one (.int .i64 x3)), (9, .one (.int .i64 x4)), (37, .one (.bool x5))], [[.int .i64 x6, .str x7, .sl (some ⟨1000000, 2, 9⟩) 1 x8, .int .i64 x9, .int .i64 x10], [.int .i64 x11, .str x12, .sl (some ⟨1000001, 2, 9⟩) 1 x13]]⟩ = f18_L6 call n (fun y0 y1 y2 y3 y4 y5 y6 y7 y8 y9 y10 y11 => aloop (pruneAt f18_h 1000003) (f18_x call n [1, 1, 1, 0, 0]) (kBlk 0 (kEnd AXE 0 f18_r)) m0 ⟨[(0, .one (.str y0)), (1, .one (.int .i64 y1)), (2, .one (.bool y2)), (6, .one (.ptr 0 0)), (7, .one (.ptr 1 0)), (8, .one (.int .i64 y3))], [[.int .i64 y4, .str y5, .sl (some ⟨1000000, 2, 9⟩) 1 y6, .int .i64 y7, .int .i64 y8], [.int .i64 y9, .str y10, .sl (some ⟨1000001, 2, 9⟩) 1 y11]]⟩) (fun y0 y1 y2 y3 y4 y5 y6 y7 y8 y9 y10 y11 y12 => aloop (pruneAt f18_h 1000004) (f18_x call n [1, 1, 1, 0, 0, 0, 1, 0, 0, 0]) (kBlk 2 (kSeq (f18_x call n [1, 1, 1, 0, 0, 0, 1, 1]) (kBlk 1 (kSeq (fun k => prK (pruneAt f18_h 1000003) (aloop (pruneAt f18_h 1000003) (f18_x call n [1, 1, 1, 0, 0]) k m0)) (kBlk 0 (kEnd AXE 0 f18_r)))))) m1 ⟨[(0, .one (.str y0)), (1, .one (.int .i64 y1)), (2, .one (.bool y2)), (6, .one (.ptr 0 0)), (7, .one (.ptr 1 0)), (8, .one (.int .i64 y3)), (9, .one (.int .i64 y4))], [[.int .i64 y5, .str y6, .sl (some ⟨1000000, 2, 9⟩) 1 y7, .int .i64 y8, .int .i64 y9], [.int .i64 y10, .str y11, .sl (some ⟨1000001, 2, 9⟩) 1 y12]]⟩) x0 x1 x2 x3 x4 x5 x6 x7 x8 x9 x10 x11 x12 x13 := by
  rw [f18_l6]
  simp only [f18_e7, f18_e8]
  rfl
/-- pigeonhole/pigeonholeref08.Read: label 5 -/
def f18_T5 (call : CallF) (n : Nat) (j6 : (List UInt8) → Int → Bool → Int → Int → Bool → Int → (List UInt8) → (List Cell) → Int → Int → Int → (List UInt8) → (List Cell) → Option RR) (x0 : List UInt8) (x1 : Int) (x2 : Bool) (x3 : Int) (x4 : Int) (x5 : Int) (x6 : List UInt8) (x7 : List Cell) (x8 : Int) (x9 : Int) (x10 : Int) (x11 : List UInt8) (x12 : List Cell) : Option RR :=
  bif (decide ((IntKind.wrap .i64 (x4 + (1 : Int))) < ((x0).length : Int))) then (
    itemK x0 x4 fun u1 =>
    bif ((UInt8.toNat u1 : Int) == (13 : Int)) then (
      itemK x0 (IntKind.wrap .i64 (x4 + (1 : Int))) fun u2 =>
      j6 x0 x1 x2 x3 x4 (!((UInt8.toNat u2 : Int) == (10 : Int))) x5 x6 x7 x8 x9 x10 x11 x12) else (
      j6 x0 x1 x2 x3 x4 true x5 x6 x7 x8 x9 x10 x11 x12)) else (
    j6 x0 x1 x2 x3 x4 false x5 x6 x7 x8 x9 x10 x11 x12)
theorem f18_l5 (call : CallF) (n : Nat) (m0 : Nat) (m1 : Nat) (x0 : List UInt8) (x1 : Int) (x2 : Bool) (x3 : Int) (x4 : Int) (x5 : Int) (x6 : List UInt8) (x7 : List Cell) (x8 : Int) (x9 : Int) (x10 : Int) (x11 : List UInt8) (x12 : List Cell) : aloop (pruneAt f18_h 1000004) (f18_x call n [1, 1, 1, 0, 0, 0, 1, 0, 0, 0]) (kBlk 2 (kSeq (f18_x call n [1, 1, 1, 0, 0, 0, 1, 1]) (kBlk 1 (kSeq (fun k => prK (pruneAt f18_h 1000003) (aloop (pruneAt f18_h 1000003) (f18_x call n [1, 1, 1, 0, 0]) k m0)) (kBlk 0 (kEnd AXE 0 f18_r)))))) (m1 + 1) ⟨[(0, .one (.str x0)), (1, .one (.int .i64 x1)), (2, .one (.bool x2)), (6, .one (.ptr 0 0)), (7, .one (.ptr 1 0)), (8, .one (.int .i64 x3)), (9, .one (.int .i64 x4))], [[.int .i64 x5, .str x6, .sl (some ⟨1000000, 2, 9⟩) 1 x7, .int .i64 x8, .int .i64 x9], [.int .i64 x10, .str x11, .sl (some ⟨1000001, 2, 9⟩) 1 x12]]⟩ = f18_T5 call n (fun y0 y1 y2 y3 y4 y5 y6 y7 y8 y9 y10 y11 y12 y13 => (f18_x call n [1, 1, 1, 0, 0, 0, 1, 0, 0, 0, 0, 1]) (kSeq (f18_x call n [1, 1, 1, 0, 0, 0, 1, 0, 0, 0, 1]) (kSeq (fun k => prK (pruneAt f18_h 1000004) (aloop (pruneAt f18_h 1000004) (f18_x call n [1, 1, 1, 0, 0, 0, 1, 0, 0, 0]) k m1)) (kBlk 2 (kSeq (f18_x call n [1, 1, 1, 0, 0, 0, 1, 1]) (kBlk 1 (kSeq (fun k => prK (pruneAt f18_h 1000003) (aloop (pruneAt f18_h 1000003) (f18_x call n [1, 1, 1, 0, 0]) k m0)) (kBlk 0 (kEnd AXE 0 f18_r)))))))) ⟨[(0, .one (.str y0)), (1, .one (.int .i64 y1)), (2, .one (.bool y2)), (6, .one (.ptr 0 0)), (7, .one (.ptr 1 0)), (8, .one (.int .i64 y3)), (9, .one (.int .i64 y4)), (37, .one (.bool y5))], [[.int .i64 y6, .str y7, .sl (some ⟨1000000, 2, 9⟩) 1 y8, .int .i64 y9, .int .i64 y10], [.int .i64 y11, .str y12, .sl (some ⟨1000001, 2, 9⟩) 1 y13]]⟩) x0 x1 x2 x3 x4 x5 x6 x7 x8 x9 x10 x11 x12 := by kernel_rfl
def f18_L5 (call : CallF) (n : Nat) (h_m0 : (List UInt8) → Int → Bool → Int → Int → (List UInt8) → (List Cell) → Int → Int → Int → (List UInt8) → (List Cell) → Option RR) : Nat → (List UInt8) → Int → Bool → Int → Int → Int → (List UInt8) → (List Cell) → Int → Int → Int → (List UInt8) → (List Cell) → Option RR
  | 0, _, _, _, _, _, _, _, _, _, _, _, _, _ => none
  | m1 + 1, x0, x1, x2, x3, x4, x5, x6, x7, x8, x9, x10, x11, x12 =>
    f18_T5 call n (fun y0 y1 y2 y3 y4 y5 y6 y7 y8 y9 y10 y11 y12 y13 => f18_L6 call n h_m0 (f18_L5 call n h_m0 m1) y0 y1 y2 y3 y4 y5 y6 y7 y8 y9 y10 y11 y12 y13) x0 x1 x2 x3 x4 x5 x6 x7 x8 x9 x10 x11 x12
theorem f18_e5 (call : CallF) (n : Nat) (m0 : Nat) : ∀ (m1 : Nat) (x0 : List UInt8) (x1 : Int) (x2 : Bool) (x3 : Int) (x4 : Int) (x5 : Int) (x6 : List UInt8) (x7 : List Cell) (x8 : Int) (x9 : Int) (x10 : Int) (x11 : List UInt8) (x12 : List Cell), aloop (pruneAt f18_h 1000004) (f18_x call n [1, 1, 1, 0, 0, 0, 1, 0, 0, 0]) (kBlk 2 (kSeq (f18_x call n [1, 1, 1, 0, 0, 0, 1, 1]) (kBlk 1 (kSeq (fun k => prK (pruneAt f18_h 1000003) (aloop (pruneAt f18_h 1000003) (f18_x call n [1, 1, 1, 0, 0]) k m0)) (kBlk 0 (kEnd AXE 0 f18_r)))))) m1 ⟨[(0, .one (.str x0)), (1, .one (.int .i64 x1)), (2, .one (.bool x2)), (6, .one (.ptr 0 0)), (7, .one (.ptr 1 0)), (8, .one (.int .i64 x3)), (9, .one (.int .i64 x4))], [[.int .i64 x5, .str x6, .sl (some ⟨1000000, 2, 9⟩) 1 x7, .int .i64 x8, .int .i64 x9], [.int .i64 x10, .str x11, .sl (some ⟨1000001, 2, 9⟩) 1 x12]]⟩ = f18_L5 call n (fun y0 y1 y2 y3 y4 y5 y6 y7 y8 y9 y10 y11 => aloop (pruneAt f18_h 1000003) (f18_x call n [1, 1, 1, 0, 0]) (kBlk 0 (kEnd AXE 0 f18_r)) m0 ⟨[(0, .one (.str y0)), (1, .one (.int .i64 y1)), (2, .one (.bool y2)), (6, .one (.ptr 0 0)), (7, .one (.ptr 1 0)), (8, .one (.int .i64 y3))], [[.int .i64 y4, .str y5, .sl (some ⟨1000000, 2, 9⟩) 1 y6, .int .i64 y7, .int .i64 y8], [.int .i64 y9, .str y10, .sl (some ⟨1000001, 2, 9⟩) 1 y11]]⟩) m1 x0 x1 x2 x3 x4 x5 x6 x7 x8 x9 x10 x11 x12 := by
  intro m1
  induction m1 with
  | zero => intros; rfl
  | succ m1 ih =>
    intro x0 x1 x2 x3 x4 x5 x6 x7 x8 x9 x10 x11 x12
    rw [f18_l5]
    simp only [f18_e6, ih]
    rfl
/-- pigeonhole/pigeonholeref08.Read: label 3 -/
def f18_T3 (call : CallF) (n : Nat) (j5n : (List UInt8) → Int → Bool → Int → Int → Int → (List UInt8) → (List Cell) → Int → Int → Int → (List UInt8) → (List Cell) → Option RR) (x0 : List UInt8) (x1 : Int) (x2 : Bool) (x3 : Int) (x4 : Int) (x5 : List UInt8) (x6 : List Cell) (x7 : Int) (x8 : Int) (x9 : Int) (x10 : List UInt8) (x11 : List Cell) : Option RR :=
  j5n x0 x1 x2 x3 x3 x4 x5 x6 x7 x8 x9 x10 x11
theorem f18_l3 (call : CallF) (n : Nat) (m0 : Nat) (x0 : List UInt8) (x1 : Int) (x2 : Bool) (x3 : Int) (x4 : Int) (x5 : List UInt8) (x6 : List Cell) (x7 : Int) (x8 : Int) (x9 : Int) (x10 : List UInt8) (x11 : List Cell) : aloop (pruneAt f18_h 1000003) (f18_x call n [1, 1, 1, 0, 0]) (kBlk 0 (kEnd AXE 0 f18_r)) (m0 + 1) ⟨[(0, .one (.str x0)), (1, .one (.int .i64 x1)), (2, .one (.bool x2)), (6, .one (.ptr 0 0)), (7, .one (.ptr 1 0)), (8, .one (.int .i64 x3))], [[.int .i64 x4, .str x5, .sl (some ⟨1000000, 2, 9⟩) 1 x6, .int .i64 x7, .int .i64 x8], [.int .i64 x9, .str x10, .sl (some ⟨1000001, 2, 9⟩) 1 x11]]⟩ = f18_T3 call n (fun y0 y1 y2 y3 y4 y5 y6 y7 y8 y9 y10 y11 y12 => aloop (pruneAt f18_h 1000004) (f18_x call n [1, 1, 1, 0, 0, 0, 1, 0, 0, 0]) (kBlk 2 (kSeq (f18_x call n [1, 1, 1, 0, 0, 0, 1, 1]) (kBlk 1 (kSeq (fun k => prK (pruneAt f18_h 1000003) (aloop (pruneAt f18_h 1000003) (f18_x call n [1, 1, 1, 0, 0]) k m0)) (kBlk 0 (kEnd AXE 0 f18_r)))))) n ⟨[(0, .one (.str y0)), (1, .one (.int .i64 y1)), (2, .one (.bool y2)), (6, .one (.ptr 0 0)), (7, .one (.ptr 1 0)), (8, .one (.int .i64 y3)), (9, .one (.int .i64 y4))], [[.int .i64 y5, .str y6, .sl (some ⟨1000000, 2, 9⟩) 1 y7, .int .i64 y8, .int .i64 y9], [.int .i64 y10, .str y11, .sl (some ⟨1000001, 2, 9⟩) 1 y12]]⟩) x0 x1 x2 x3 x4 x5 x6 x7 x8 x9 x10 x11 := by kernel_rfl
def f18_L3 (call : CallF) (n : Nat) : Nat → (List UInt8) → Int → Bool → Int → Int → (List UInt8) → (List Cell) → Int → Int → Int → (List UInt8) → (List Cell) → Option RR
  | 0, _, _, _, _, _, _, _, _, _, _, _, _ => none
  | m0 + 1, x0, x1, x2, x3, x4, x5, x6, x7, x8, x9, x10, x11 =>
    f18_T3 call n (fun y0 y1 y2 y3 y4 y5 y6 y7 y8 y9 y10 y11 y12 => f18_L5 call n (f18_L3 call n m0) n y0 y1 y2 y3 y4 y5 y6 y7 y8 y9 y10 y11 y12) x0 x1 x2 x3 x4 x5 x6 x7 x8 x9 x10 x11
theorem f18_e3 (call : CallF) (n : Nat) : ∀ (m0 : Nat) (x0 : List UInt8) (x1 : Int) (x2 : Bool) (x3 : Int) (x4 : Int) (x5 : List UInt8) (x6 : List Cell) (x7 : Int) (x8 : Int) (x9 : Int) (x10 : List UInt8) (x11 : List Cell), aloop (pruneAt f18_h 1000003) (f18_x call n [1, 1, 1, 0, 0]) (kBlk 0 (kEnd AXE 0 f18_r)) m0 ⟨[(0, .one (.str x0)), (1, .one (.int .i64 x1)), (2, .one (.bool x2)), (6, .one (.ptr 0 0)), (7, .one (.ptr 1 0)), (8, .one (.int .i64 x3))], [[.int .i64 x4, .str x5, .sl (some ⟨1000000, 2, 9⟩) 1 x6, .int .i64 x7, .int .i64 x8], [.int .i64 x9, .str x10, .sl (some ⟨1000001, 2, 9⟩) 1 x11]]⟩ = f18_L3 call n m0 x0 x1 x2 x3 x4 x5 x6 x7 x8 x9 x10 x11 := by
  intro m0
  induction m0 with
  | zero => intros; rfl
  | succ m0 ih =>
    intro x0 x1 x2 x3 x4 x5 x6 x7 x8 x9 x10 x11
    rw [f18_l3]
    simp only [f18_e5, ih]
    rfl
/-- pigeonhole/pigeonholeref08.Read -/
def f18_T (call : CallF) (n : Nat) (j3n : (List UInt8) → Int → Bool → Int → Int → (List UInt8) → (List Cell) → Int → Int → Int → (List UInt8) → (List Cell) → Option RR) (a0 : List UInt8) (a1 : Int) (a2 : Bool) : Option RR :=
  j3n a0 a1 a2 a1 (0 : Int) ([] : List UInt8) ([] : List Cell) (0 : Int) (0 : Int) (0 : Int) ([] : List UInt8) ([] : List Cell)
def f18_L (call : CallF) (n : Nat) (a0 : List UInt8) (a1 : Int) (a2 : Bool) : Option RR :=
  f18_T call n (fun y0 y1 y2 y3 y4 y5 y6 y7 y8 y9 y10 y11 => f18_L3 call n n y0 y1 y2 y3 y4 y5 y6 y7 y8 y9 y10 y11) a0 a1 a2
theorem f18_l (n : Nat) (a0 : List UInt8) (a1 : Int) (a2 : Bool) : acall AXE AXF (n + 1) 18 [.one (.str a0), .one (.int .i64 a1), .one (.bool a2)] [] = f18_T (acall AXE AXF n) (n + 1) (fun y0 y1 y2 y3 y4 y5 y6 y7 y8 y9 y10 y11 => aloop (pruneAt f18_h 1000003) (f18_x (acall AXE AXF n) (n + 1) [1, 1, 1, 0, 0]) (kBlk 0 (kEnd AXE 0 f18_r)) (n + 1) ⟨[(0, .one (.str y0)), (1, .one (.int .i64 y1)), (2, .one (.bool y2)), (6, .one (.ptr 0 0)), (7, .one (.ptr 1 0)), (8, .one (.int .i64 y3))], [[.int .i64 y4, .str y5, .sl (some ⟨1000000, 2, 9⟩) 1 y6, .int .i64 y7, .int .i64 y8], [.int .i64 y9, .str y10, .sl (some ⟨1000001, 2, 9⟩) 1 y11]]⟩) a0 a1 a2 := by kernel_rfl
theorem f18_eq (n : Nat) (a0 : List UInt8) (a1 : Int) (a2 : Bool) : acall AXE AXF (n + 1) 18 [.one (.str a0), .one (.int .i64 a1), .one (.bool a2)] [] = f18_L (acall AXE AXF n) (n + 1) a0 a1 a2 := by
  rw [f18_l]
  simp only [f18_e3]
  rfl
/-- pigeonhole/pigeonholeref08.Same: label 4 -/
def f19_T4 (call : CallF) (n : Nat) (x0 : Bool) : Option RR :=
  some (.one (.bool x0), [])
theorem f19_l4 (call : CallF) (n : Nat) (x0 : Bool) : (f19_x call n [1, 0, 1, 0, 1]) (kSeq (f19_x call n [1, 1]) (kEnd AXE 0 f19_r)) ⟨[(4, .one (.bool x0))], []⟩ = f19_T4 call n x0 := by kernel_rfl
def f19_L4 (call : CallF) (n : Nat) (x0 : Bool) : Option RR :=
  f19_T4 call n x0
theorem f19_e4 (call : CallF) (n : Nat) (x0 : Bool) : (f19_x call n [1, 0, 1, 0, 1]) (kSeq (f19_x call n [1, 1]) (kEnd AXE 0 f19_r)) ⟨[(4, .one (.bool x0))], []⟩ = f19_L4 call n x0 := by
  rw [f19_l4]
  rfl
/-- pigeonhole/pigeonholeref08.Same: label 5 -/
def f19_T5 (call : CallF) (n : Nat) (j5m : Int → Int → (List UInt8) → (List Cell) → Int → (List UInt8) → (List Cell) → Option RR) (x0 : Int) (x1 : Int) (x2 : List UInt8) (x3 : List Cell) (x4 : Int) (x5 : List UInt8) (x6 : List Cell) : Option RR :=
  bif (decide (x0 < (((x3).length / 1 : Nat) : Int))) then (
    itemK x3 x0 fun c1 =>
    castS c1 fun s2 =>
    itemK x6 x0 fun c3 =>
    castS c3 fun s4 =>
    bif (!(s2 == s4)) then (
      some (.one (.bool false), [])) else (
      j5m (IntKind.wrap .i64 (x0 + (1 : Int))) x1 x2 x3 x4 x5 x6)) else (
    some (.one (.bool true), []))
theorem f19_l5 (call : CallF) (n : Nat) (m0 : Nat) (x0 : Int) (x1 : Int) (x2 : List UInt8) (x3 : List Cell) (x4 : Int) (x5 : List UInt8) (x6 : List Cell) : aloop (pruneAt f19_h 1000004) (f19_x call n [1, 1, 0, 1, 0, 0]) (kBlk 0 (kSeq (f19_x call n [1, 1, 1]) (kEnd AXE 0 f19_r))) (m0 + 1) ⟨[(2, .one (.ptr 0 0)), (3, .one (.ptr 1 0)), (5, .one (.int .i64 x0))], [[.int .i64 x1, .str x2, .sl none 1 x3], [.int .i64 x4, .str x5, .sl none 1 x6]]⟩ = f19_T5 call n (fun y0 y1 y2 y3 y4 y5 y6 => aloop (pruneAt f19_h 1000004) (f19_x call n [1, 1, 0, 1, 0, 0]) (kBlk 0 (kSeq (f19_x call n [1, 1, 1]) (kEnd AXE 0 f19_r))) m0 ⟨[(2, .one (.ptr 0 0)), (3, .one (.ptr 1 0)), (5, .one (.int .i64 y0))], [[.int .i64 y1, .str y2, .sl none 1 y3], [.int .i64 y4, .str y5, .sl none 1 y6]]⟩) x0 x1 x2 x3 x4 x5 x6 := by kernel_rfl
def f19_L5 (call : CallF) (n : Nat) : Nat → Int → Int → (List UInt8) → (List Cell) → Int → (List UInt8) → (List Cell) → Option RR
  | 0, _, _, _, _, _, _, _ => none
  | m0 + 1, x0, x1, x2, x3, x4, x5, x6 =>
    f19_T5 call n (f19_L5 call n m0) x0 x1 x2 x3 x4 x5 x6
theorem f19_e5 (call : CallF) (n : Nat) : ∀ (m0 : Nat) (x0 : Int) (x1 : Int) (x2 : List UInt8) (x3 : List Cell) (x4 : Int) (x5 : List UInt8) (x6 : List Cell), aloop (pruneAt f19_h 1000004) (f19_x call n [1, 1, 0, 1, 0, 0]) (kBlk 0 (kSeq (f19_x call n [1, 1, 1]) (kEnd AXE 0 f19_r))) m0 ⟨[(2, .one (.ptr 0 0)), (3, .one (.ptr 1 0)), (5, .one (.int .i64 x0))], [[.int .i64 x1, .str x2, .sl none 1 x3], [.int .i64 x4, .str x5, .sl none 1 x6]]⟩ = f19_L5 call n m0 x0 x1 x2 x3 x4 x5 x6 := by
  intro m0
  induction m0 with
  | zero => intros; rfl
  | succ m0 ih =>
    intro x0 x1 x2 x3 x4 x5 x6
    rw [f19_l5]
    simp only [ih]
    rfl
/-- pigeonhole/pigeonholeref08.Same: label 1 -/
def f19_T1 (call : CallF) (n : Nat) (j4 : Bool → Option RR) (j5n : Int → Int → (List UInt8) → (List Cell) → Int → (List UInt8) → (List Cell) → Option RR) (x0 : Bool) (x1 : Int) (x2 : List UInt8) (x3 : List Cell) (x4 : Int) (x5 : List UInt8) (x6 : List Cell) : Option RR :=
  bif x0 then (
    j4 false) else (
    j5n (0 : Int) x1 x2 x3 x4 x5 x6)
theorem f19_l1 (call : CallF) (n : Nat) (x0 : Bool) (x1 : Int) (x2 : List UInt8) (x3 : List Cell) (x4 : Int) (x5 : List UInt8) (x6 : List Cell) : (f19_x call n [1, 0, 1]) (kSeq (f19_x call n [1, 1]) (kEnd AXE 0 f19_r)) ⟨[(2, .one (.ptr 0 0)), (3, .one (.ptr 1 0)), (26, .one (.bool x0))], [[.int .i64 x1, .str x2, .sl none 1 x3], [.int .i64 x4, .str x5, .sl none 1 x6]]⟩ = f19_T1 call n (fun y0 => (f19_x call n [1, 0, 1, 0, 1]) (kSeq (f19_x call n [1, 1]) (kEnd AXE 0 f19_r)) ⟨[(4, .one (.bool y0))], []⟩) (fun y0 y1 y2 y3 y4 y5 y6 => aloop (pruneAt f19_h 1000004) (f19_x call n [1, 1, 0, 1, 0, 0]) (kBlk 0 (kSeq (f19_x call n [1, 1, 1]) (kEnd AXE 0 f19_r))) n ⟨[(2, .one (.ptr 0 0)), (3, .one (.ptr 1 0)), (5, .one (.int .i64 y0))], [[.int .i64 y1, .str y2, .sl none 1 y3], [.int .i64 y4, .str y5, .sl none 1 y6]]⟩) x0 x1 x2 x3 x4 x5 x6 := by kernel_rfl
def f19_L1 (call : CallF) (n : Nat) (x0 : Bool) (x1 : Int) (x2 : List UInt8) (x3 : List Cell) (x4 : Int) (x5 : List UInt8) (x6 : List Cell) : Option RR :=
  f19_T1 call n (fun y0 => f19_L4 call n y0) (fun y0 y1 y2 y3 y4 y5 y6 => f19_L5 call n n y0 y1 y2 y3 y4 y5 y6) x0 x1 x2 x3 x4 x5 x6
theorem f19_e1 (call : CallF) (n : Nat) (x0 : Bool) (x1 : Int) (x2 : List UInt8) (x3 : List Cell) (x4 : Int) (x5 : List UInt8) (x6 : List Cell) : (f19_x call n [1, 0, 1]) (kSeq (f19_x call n [1, 1]) (kEnd AXE 0 f19_r)) ⟨[(2, .one (.ptr 0 0)), (3, .one (.ptr 1 0)), (26, .one (.bool x0))], [[.int .i64 x1, .str x2, .sl none 1 x3], [.int .i64 x4, .str x5, .sl none 1 x6]]⟩ = f19_L1 call n x0 x1 x2 x3 x4 x5 x6 := by
  rw [f19_l1]
  simp only [f19_e4, f19_e5]
  rfl
/-- pigeonhole/pigeonholeref08.Same -/
def f19_T (call : CallF) (n : Nat) (j1 : Bool → Int → (List UInt8) → (List Cell) → Int → (List UInt8) → (List Cell) → Option RR) (a0 : Int) (a1 : List UInt8) (a2 : List Cell) (a3 : Int) (a4 : List UInt8) (a5 : List Cell) : Option RR :=
  bif (a0 != a3) then (
    j1 true a0 a1 a2 a3 a4 a5) else (
    bif (!(a1 == a4)) then (
      j1 true a0 a1 a2 a3 a4 a5) else (
      j1 ((((a2).length / 1 : Nat) : Int) != (((a5).length / 1 : Nat) : Int)) a0 a1 a2 a3 a4 a5))
def f19_L (call : CallF) (n : Nat) (a0 : Int) (a1 : List UInt8) (a2 : List Cell) (a3 : Int) (a4 : List UInt8) (a5 : List Cell) : Option RR :=
  f19_T call n (fun y0 y1 y2 y3 y4 y5 y6 => f19_L1 call n y0 y1 y2 y3 y4 y5 y6) a0 a1 a2 a3 a4 a5
theorem f19_l (n : Nat) (a0 : Int) (a1 : List UInt8) (a2 : List Cell) (a3 : Int) (a4 : List UInt8) (a5 : List Cell) : acall AXE AXF (n + 1) 19 [.agg [.int .i64 a0, .str a1, .sl none 1 a2], .agg [.int .i64 a3, .str a4, .sl none 1 a5]] [] = f19_T (acall AXE AXF n) (n + 1) (fun y0 y1 y2 y3 y4 y5 y6 => (f19_x (acall AXE AXF n) (n + 1) [1, 0, 1]) (kSeq (f19_x (acall AXE AXF n) (n + 1) [1, 1]) (kEnd AXE 0 f19_r)) ⟨[(2, .one (.ptr 0 0)), (3, .one (.ptr 1 0)), (26, .one (.bool y0))], [[.int .i64 y1, .str y2, .sl none 1 y3], [.int .i64 y4, .str y5, .sl none 1 y6]]⟩) a0 a1 a2 a3 a4 a5 := by kernel_rfl
theorem f19_eq (n : Nat) (a0 : Int) (a1 : List UInt8) (a2 : List Cell) (a3 : Int) (a4 : List UInt8) (a5 : List Cell) : acall AXE AXF (n + 1) 19 [.agg [.int .i64 a0, .str a1, .sl none 1 a2], .agg [.int .i64 a3, .str a4, .sl none 1 a5]] [] = f19_L (acall AXE AXF n) (n + 1) a0 a1 a2 a3 a4 a5 := by
  rw [f19_l]
  simp only [f19_e1]
  rfl
/-- pigeonhole/reply.All: label 2 -/
def f20_T2 (call : CallF) (n : Nat) (j2m : (List Cell) → Bool → (List Cell) → Option RR) (x0 : List Cell) (x1 : Bool) (x2 : List Cell) : Option RR :=
  bif (decide ((((x0).length / 1 : Nat) : Int) > (0 : Int))) then (
    primK pRead [.one (.sl none 1 x0), .one (.bool x1)] fun v1 =>
    castTup v1 fun v2 =>
    consK v2 fun z3 r4 =>
    aggV z3 fun r5 =>
    consK r5 fun c6 r7 =>
    castI .i64 c6 fun n8 =>
    consK r7 fun c9 r10 =>
    castS c9 fun s11 =>
    consK r10 fun c12 r13 =>
    castL 1 c12 fun _ l14 =>
    nilK r13 (
      consK r4 fun z15 r16 =>
      oneV z15 fun c17 =>
      castI .i64 c17 fun n18 =>
      consK r16 fun z19 r20 =>
      oneV z19 fun c21 =>
      castI .i64 c21 fun n22 =>
      nilK r20 (
        bif (n22 != (0 : Int)) then (
          some (.tup [.one (.sl (some ⟨4, 0, 27⟩) 3 ([] : List Cell)), .one (.int .i64 n22)], [])) else (
          guardB (decide (((x2).length + (([.int .i64 n8, .str s11, .sl none 1 l14] : List Cell)).length) * 100 ≤ rowLim)) (
            bif decide (0 ≤ n18 ∧ (Int.toNat n18) ≤ (x0.length / 1)) then (
              j2m ((x0.take ((x0.length / 1) * 1)).drop ((Int.toNat n18) * 1)) x1 (x2 ++ ([.int .i64 n8, .str s11, .sl none 1 l14] : List Cell))) else none))))) else (
    some (.tup [.one (.sl (some ⟨4, 0, 27⟩) 3 x2), .one (.int .i64 (0 : Int))], []))
theorem f20_l2 (call : CallF) (n : Nat) (m0 : Nat) (x0 : List Cell) (x1 : Bool) (x2 : List Cell) : aloop (pruneAt f20_h 1000002) (f20_x call n [1, 1, 0, 0, 0]) (kBlk 0 (kSeq (f20_x call n [1, 1, 1]) (kEnd AXE 0 f20_r))) (m0 + 1) ⟨[(0, .one (.sl none 1 x0)), (1, .one (.bool x1)), (6, .one (.sl (some ⟨6, 0, 27⟩) 3 x2))], []⟩ = f20_T2 call n (fun y0 y1 y2 => aloop (pruneAt f20_h 1000002) (f20_x call n [1, 1, 0, 0, 0]) (kBlk 0 (kSeq (f20_x call n [1, 1, 1]) (kEnd AXE 0 f20_r))) m0 ⟨[(0, .one (.sl none 1 y0)), (1, .one (.bool y1)), (6, .one (.sl (some ⟨6, 0, 27⟩) 3 y2))], []⟩) x0 x1 x2 := by kernel_rfl
def f20_L2 (call : CallF) (n : Nat) : Nat → (List Cell) → Bool → (List Cell) → Option RR
  | 0, _, _, _ => none
  | m0 + 1, x0, x1, x2 =>
    f20_T2 call n (f20_L2 call n m0) x0 x1 x2
theorem f20_e2 (call : CallF) (n : Nat) : ∀ (m0 : Nat) (x0 : List Cell) (x1 : Bool) (x2 : List Cell), aloop (pruneAt f20_h 1000002) (f20_x call n [1, 1, 0, 0, 0]) (kBlk 0 (kSeq (f20_x call n [1, 1, 1]) (kEnd AXE 0 f20_r))) m0 ⟨[(0, .one (.sl none 1 x0)), (1, .one (.bool x1)), (6, .one (.sl (some ⟨6, 0, 27⟩) 3 x2))], []⟩ = f20_L2 call n m0 x0 x1 x2 := by
  intro m0
  induction m0 with
  | zero => intros; rfl
  | succ m0 ih =>
    intro x0 x1 x2
    rw [f20_l2]
    simp only [ih]
    rfl
/-- pigeonhole/reply.All -/
def f20_T (call : CallF) (n : Nat) (j2n : (List Cell) → Bool → (List Cell) → Option RR) (a0 : List Cell) (a1 : Bool) : Option RR :=
  j2n a0 a1 ([] : List Cell)
def f20_L (call : CallF) (n : Nat) (a0 : List Cell) (a1 : Bool) : Option RR :=
  f20_T call n (fun y0 y1 y2 => f20_L2 call n n y0 y1 y2) a0 a1
theorem f20_l (n : Nat) (a0 : List Cell) (a1 : Bool) : acall AXE AXF (n + 1) 20 [.one (.sl none 1 a0), .one (.bool a1)] [] = f20_T (acall AXE AXF n) (n + 1) (fun y0 y1 y2 => aloop (pruneAt f20_h 1000002) (f20_x (acall AXE AXF n) (n + 1) [1, 1, 0, 0, 0]) (kBlk 0 (kSeq (f20_x (acall AXE AXF n) (n + 1) [1, 1, 1]) (kEnd AXE 0 f20_r))) (n + 1) ⟨[(0, .one (.sl none 1 y0)), (1, .one (.bool y1)), (6, .one (.sl (some ⟨6, 0, 27⟩) 3 y2))], []⟩) a0 a1 := by kernel_rfl
theorem f20_eq (n : Nat) (a0 : List Cell) (a1 : Bool) : acall AXE AXF (n + 1) 20 [.one (.sl none 1 a0), .one (.bool a1)] [] = f20_L (acall AXE AXF n) (n + 1) a0 a1 := by
  rw [f20_l]
  simp only [f20_e2]
  rfl
/-- pigeonhole/pigeonholeref08.All: label 3 -/
def f21_T3 (call : CallF) (n : Nat) (j3m : (List UInt8) → Bool → (List Cell) → Int → Option RR) (x0 : List UInt8) (x1 : Bool) (x2 : List Cell) (x3 : Int) : Option RR :=
  bif (decide (x3 < ((x0).length : Int))) then (
    callK call 18 [.one (.str x0), .one (.int .i64 x3), .one (.bool x1)] fun v1 =>
    castAgg v1 fun r2 =>
    consK r2 fun c3 r4 =>
    castI .i64 c3 fun n5 =>
    consK r4 fun c6 r7 =>
    castS c6 fun s8 =>
    consK r7 fun c9 r10 =>
    castL 1 c9 fun _ l11 =>
    consK r10 fun c12 r13 =>
    castI .i64 c12 fun n14 =>
    consK r13 fun c15 r16 =>
    castI .i64 c15 fun n17 =>
    nilK r16 (
      bif (n17 != (0 : Int)) then (
        some (.tup [.one (.sl none 3 ([] : List Cell)), .one (.int .i64 n17)], [])) else (
        guardB (decide (((x2).length + (([.int .i64 n5, .str s8, .sl none 1 l11] : List Cell)).length) * 100 ≤ rowLim)) (
          j3m x0 x1 (x2 ++ ([.int .i64 n5, .str s8, .sl none 1 l11] : List Cell)) (IntKind.wrap .i64 (x3 + n14)))))) else (
    some (.tup [.one (.sl (some ⟨4, 0, 27⟩) 3 x2), .one (.int .i64 (0 : Int))], []))
theorem f21_l3 (call : CallF) (n : Nat) (m0 : Nat) (x0 : List UInt8) (x1 : Bool) (x2 : List Cell) (x3 : Int) : aloop (pruneAt f21_h 1000003) (f21_x call n [1, 1, 1, 0, 0, 0]) (kBlk 0 (kSeq (f21_x call n [1, 1, 1, 1]) (kEnd AXE 0 f21_r))) (m0 + 1) ⟨[(0, .one (.str x0)), (1, .one (.bool x1)), (6, .one (.sl (some ⟨6, 0, 27⟩) 3 x2)), (7, .one (.int .i64 x3))], []⟩ = f21_T3 call n (fun y0 y1 y2 y3 => aloop (pruneAt f21_h 1000003) (f21_x call n [1, 1, 1, 0, 0, 0]) (kBlk 0 (kSeq (f21_x call n [1, 1, 1, 1]) (kEnd AXE 0 f21_r))) m0 ⟨[(0, .one (.str y0)), (1, .one (.bool y1)), (6, .one (.sl (some ⟨6, 0, 27⟩) 3 y2)), (7, .one (.int .i64 y3))], []⟩) x0 x1 x2 x3 := by kernel_rfl
def f21_L3 (call : CallF) (n : Nat) : Nat → (List UInt8) → Bool → (List Cell) → Int → Option RR
  | 0, _, _, _, _ => none
  | m0 + 1, x0, x1, x2, x3 =>
    f21_T3 call n (f21_L3 call n m0) x0 x1 x2 x3
theorem f21_e3 (call : CallF) (n : Nat) : ∀ (m0 : Nat) (x0 : List UInt8) (x1 : Bool) (x2 : List Cell) (x3 : Int), aloop (pruneAt f21_h 1000003) (f21_x call n [1, 1, 1, 0, 0, 0]) (kBlk 0 (kSeq (f21_x call n [1, 1, 1, 1]) (kEnd AXE 0 f21_r))) m0 ⟨[(0, .one (.str x0)), (1, .one (.bool x1)), (6, .one (.sl (some ⟨6, 0, 27⟩) 3 x2)), (7, .one (.int .i64 x3))], []⟩ = f21_L3 call n m0 x0 x1 x2 x3 := by
  intro m0
  induction m0 with
  | zero => intros; rfl
  | succ m0 ih =>
    intro x0 x1 x2 x3
    rw [f21_l3]
    simp only [ih]
    rfl
/-- pigeonhole/pigeonholeref08.All -/
def f21_T (call : CallF) (n : Nat) (j3n : (List UInt8) → Bool → (List Cell) → Int → Option RR) (a0 : List UInt8) (a1 : Bool) : Option RR :=
  j3n a0 a1 ([] : List Cell) (0 : Int)
def f21_L (call : CallF) (n : Nat) (a0 : List UInt8) (a1 : Bool) : Option RR :=
  f21_T call n (fun y0 y1 y2 y3 => f21_L3 call n n y0 y1 y2 y3) a0 a1
theorem f21_l (n : Nat) (a0 : List UInt8) (a1 : Bool) : acall AXE AXF (n + 1) 21 [.one (.str a0), .one (.bool a1)] [] = f21_T (acall AXE AXF n) (n + 1) (fun y0 y1 y2 y3 => aloop (pruneAt f21_h 1000003) (f21_x (acall AXE AXF n) (n + 1) [1, 1, 1, 0, 0, 0]) (kBlk 0 (kSeq (f21_x (acall AXE AXF n) (n + 1) [1, 1, 1, 1]) (kEnd AXE 0 f21_r))) (n + 1) ⟨[(0, .one (.str y0)), (1, .one (.bool y1)), (6, .one (.sl (some ⟨6, 0, 27⟩) 3 y2)), (7, .one (.int .i64 y3))], []⟩) a0 a1 := by kernel_rfl
theorem f21_eq (n : Nat) (a0 : List UInt8) (a1 : Bool) : acall AXE AXF (n + 1) 21 [.one (.str a0), .one (.bool a1)] [] = f21_L (acall AXE AXF n) (n + 1) a0 a1 := by
  rw [f21_l]
  simp only [f21_e3]
  rfl
/-- pigeonhole/reply.Codes: label 3 -/
def f27_T3 (call : CallF) (n : Nat) (j3m : (List Cell) → (List Cell) → Int → Int → Option RR) (x0 : List Cell) (x1 : List Cell) (x2 : Int) (x3 : Int) : Option RR :=
  bif (decide (x3 < x2)) then (
    guardB (decide (0 ≤ x3) && decide ((Int.toNat x3) * 3 + 3 ≤ x1.length)) (
      consK ((x1.drop ((Int.toNat x3) * 3)).take 3) fun c1 r2 =>
      castI .i64 c1 fun n3 =>
      consK r2 fun c4 r5 =>
      castS c4 fun s6 =>
      consK r5 fun c7 r8 =>
      castL 1 c7 fun _ l9 =>
      guardB (decide (((x0).length + (([.int .i64 n3] : List Cell)).length) * 100 ≤ rowLim)) (
        j3m (x0 ++ ([.int .i64 n3] : List Cell)) x1 x2 (IntKind.wrap .i64 (x3 + (1 : Int)))))) else (
    some (.one (.sl (some ⟨2, 0, 3⟩) 1 x0), []))
theorem f27_l3 (call : CallF) (n : Nat) (m0 : Nat) (x0 : List Cell) (x1 : List Cell) (x2 : Int) (x3 : Int) : aloop (pruneAt f27_h 1000003) (f27_x call n [1, 1, 0, 1, 0, 0]) (kBlk 0 (kSeq (f27_x call n [1, 1, 1]) (kEnd AXE 0 f27_r))) (m0 + 1) ⟨[(3, .one (.sl (some ⟨3, 0, 3⟩) 1 x0)), (6, .one (.sl none 3 x1)), (7, .one (.int .i64 x2)), (8, .one (.int .i64 x3))], []⟩ = f27_T3 call n (fun y0 y1 y2 y3 => aloop (pruneAt f27_h 1000003) (f27_x call n [1, 1, 0, 1, 0, 0]) (kBlk 0 (kSeq (f27_x call n [1, 1, 1]) (kEnd AXE 0 f27_r))) m0 ⟨[(3, .one (.sl (some ⟨3, 0, 3⟩) 1 y0)), (6, .one (.sl none 3 y1)), (7, .one (.int .i64 y2)), (8, .one (.int .i64 y3))], []⟩) x0 x1 x2 x3 := by kernel_rfl
def f27_L3 (call : CallF) (n : Nat) : Nat → (List Cell) → (List Cell) → Int → Int → Option RR
  | 0, _, _, _, _ => none
  | m0 + 1, x0, x1, x2, x3 =>
    f27_T3 call n (f27_L3 call n m0) x0 x1 x2 x3
theorem f27_e3 (call : CallF) (n : Nat) : ∀ (m0 : Nat) (x0 : List Cell) (x1 : List Cell) (x2 : Int) (x3 : Int), aloop (pruneAt f27_h 1000003) (f27_x call n [1, 1, 0, 1, 0, 0]) (kBlk 0 (kSeq (f27_x call n [1, 1, 1]) (kEnd AXE 0 f27_r))) m0 ⟨[(3, .one (.sl (some ⟨3, 0, 3⟩) 1 x0)), (6, .one (.sl none 3 x1)), (7, .one (.int .i64 x2)), (8, .one (.int .i64 x3))], []⟩ = f27_L3 call n m0 x0 x1 x2 x3 := by
  intro m0
  induction m0 with
  | zero => intros; rfl
  | succ m0 ih =>
    intro x0 x1 x2 x3
    rw [f27_l3]
    simp only [ih]
    rfl
/-- pigeonhole/reply.Codes -/
def f27_T (call : CallF) (n : Nat) (j3n : (List Cell) → (List Cell) → Int → Int → Option RR) (a0 : List Cell) : Option RR :=
  j3n ([] : List Cell) a0 (((a0).length / 3 : Nat) : Int) (0 : Int)
def f27_L (call : CallF) (n : Nat) (a0 : List Cell) : Option RR :=
  f27_T call n (fun y0 y1 y2 y3 => f27_L3 call n n y0 y1 y2 y3) a0
theorem f27_l (n : Nat) (a0 : List Cell) : acall AXE AXF (n + 1) 27 [.one (.sl none 3 a0)] [] = f27_T (acall AXE AXF n) (n + 1) (fun y0 y1 y2 y3 => aloop (pruneAt f27_h 1000003) (f27_x (acall AXE AXF n) (n + 1) [1, 1, 0, 1, 0, 0]) (kBlk 0 (kSeq (f27_x (acall AXE AXF n) (n + 1) [1, 1, 1]) (kEnd AXE 0 f27_r))) (n + 1) ⟨[(3, .one (.sl (some ⟨3, 0, 3⟩) 1 y0)), (6, .one (.sl none 3 y1)), (7, .one (.int .i64 y2)), (8, .one (.int .i64 y3))], []⟩) a0 := by kernel_rfl
theorem f27_eq (n : Nat) (a0 : List Cell) : acall AXE AXF (n + 1) 27 [.one (.sl none 3 a0)] [] = f27_L (acall AXE AXF n) (n + 1) a0 := by
  rw [f27_l]
  simp only [f27_e3]
  rfl
/-- pigeonhole/reply.Lasting: label 1 -/
def f29_T1 (call : CallF) (n : Nat) (x0 : Bool) : Option RR :=
  some (.one (.bool x0), [])
theorem f29_l1 (call : CallF) (n : Nat) (x0 : Bool) : (f29_x call n [1, 1]) (kEnd AXE 0 f29_r) ⟨[(2, .one (.bool x0))], []⟩ = f29_T1 call n x0 := by kernel_rfl
def f29_L1 (call : CallF) (n : Nat) (x0 : Bool) : Option RR :=
  f29_T1 call n x0
theorem f29_e1 (call : CallF) (n : Nat) (x0 : Bool) : (f29_x call n [1, 1]) (kEnd AXE 0 f29_r) ⟨[(2, .one (.bool x0))], []⟩ = f29_L1 call n x0 := by
  rw [f29_l1]
  rfl
/-- pigeonhole/reply.Lasting -/
def f29_T (call : CallF) (n : Nat) (j1 : Bool → Option RR) (a0 : Int) : Option RR :=
  bif (decide (a0 ≥ (500 : Int))) then (
    j1 (decide (a0 ≤ (599 : Int)))) else (
    j1 false)
def f29_L (call : CallF) (n : Nat) (a0 : Int) : Option RR :=
  f29_T call n (fun y0 => f29_L1 call n y0) a0
theorem f29_l (n : Nat) (a0 : Int) : acall AXE AXF (n + 1) 29 [.one (.int .i64 a0)] [] = f29_T (acall AXE AXF n) (n + 1) (fun y0 => (f29_x (acall AXE AXF n) (n + 1) [1, 1]) (kEnd AXE 0 f29_r) ⟨[(2, .one (.bool y0))], []⟩) a0 := by kernel_rfl
theorem f29_eq (n : Nat) (a0 : Int) : acall AXE AXF (n + 1) 29 [.one (.int .i64 a0)] [] = f29_L (acall AXE AXF n) (n + 1) a0 := by
  rw [f29_l]
  simp only [f29_e1]
  rfl
/-- pigeonhole/pigeonholeref08.fits: label 2 -/
def f44_T2 (call : CallF) (n : Nat) (x0 : Bool) : Option RR :=
  some (.one (.bool x0), [])
theorem f44_l2 (call : CallF) (n : Nat) (x0 : Bool) : (f44_x call n [1, 1, 1]) (kEnd AXE 0 f44_r) ⟨[(4, .one (.bool x0))], []⟩ = f44_T2 call n x0 := by kernel_rfl
def f44_L2 (call : CallF) (n : Nat) (x0 : Bool) : Option RR :=
  f44_T2 call n x0
theorem f44_e2 (call : CallF) (n : Nat) (x0 : Bool) : (f44_x call n [1, 1, 1]) (kEnd AXE 0 f44_r) ⟨[(4, .one (.bool x0))], []⟩ = f44_L2 call n x0 := by
  rw [f44_l2]
  rfl
/-- pigeonhole/pigeonholeref08.fits -/
def f44_T (call : CallF) (n : Nat) (j2 : Bool → Option RR) (a0 : List UInt8) (a1 : Int) : Option RR :=
  primK pREnh [.one (.str a0)] fun v15 =>
  castAgg v15 fun r16 =>
  consK r16 fun c17 r18 =>
  castI .i64 c17 fun n19 =>
  consK r18 fun c20 r21 =>
  castI .i64 c20 fun n22 =>
  consK r21 fun c23 r24 =>
  castI .i64 c23 fun n25 =>
  consK r24 fun c26 r27 =>
  castB c26 fun b28 =>
  nilK r27 (
    bif b28 then (
      j2 (n19 == (IntKind.wrap .i64 (Int.tdiv a1 (100 : Int))))) else (
      j2 false))
def f44_L (call : CallF) (n : Nat) (a0 : List UInt8) (a1 : Int) : Option RR :=
  f44_T call n (fun y0 => f44_L2 call n y0) a0 a1
theorem f44_l (n : Nat) (a0 : List UInt8) (a1 : Int) : acall AXE AXF (n + 1) 44 [.one (.str a0), .one (.int .i64 a1)] [] = f44_T (acall AXE AXF n) (n + 1) (fun y0 => (f44_x (acall AXE AXF n) (n + 1) [1, 1, 1]) (kEnd AXE 0 f44_r) ⟨[(4, .one (.bool y0))], []⟩) a0 a1 := by kernel_rfl
theorem f44_eq (n : Nat) (a0 : List UInt8) (a1 : Int) : acall AXE AXF (n + 1) 44 [.one (.str a0), .one (.int .i64 a1)] [] = f44_L (acall AXE AXF n) (n + 1) a0 a1 := by
  rw [f44_l]
  simp only [f44_e2]
  rfl
/-- pigeonhole/pigeonholeref08.plain: label 9 -/
def f45_T9 (call : CallF) (n : Nat) (x0 : Bool) : Option RR :=
  some (.one (.bool x0), [])
theorem f45_l9 (call : CallF) (n : Nat) (m0 : Nat) (x0 : Bool) : (f45_x call n [1, 0, 1, 0, 0, 1, 0, 0, 1, 0, 1]) (kBlk 1 (kSeq (f45_x call n [1, 0, 1, 0, 0, 1, 1]) (kSeq (fun k => prK (pruneAt f45_h 1000002) (aloop (pruneAt f45_h 1000002) (f45_x call n [1, 0, 1, 0, 0]) k m0)) (kBlk 0 (kSeq (f45_x call n [1, 1]) (kEnd AXE 0 f45_r)))))) ⟨[(2, .one (.bool x0))], []⟩ = f45_T9 call n x0 := by kernel_rfl
def f45_L9 (call : CallF) (n : Nat) (h_m0 : (List UInt8) → Int → Option RR) (x0 : Bool) : Option RR :=
  f45_T9 call n x0
theorem f45_e9 (call : CallF) (n : Nat) (m0 : Nat) (x0 : Bool) : (f45_x call n [1, 0, 1, 0, 0, 1, 0, 0, 1, 0, 1]) (kBlk 1 (kSeq (f45_x call n [1, 0, 1, 0, 0, 1, 1]) (kSeq (fun k => prK (pruneAt f45_h 1000002) (aloop (pruneAt f45_h 1000002) (f45_x call n [1, 0, 1, 0, 0]) k m0)) (kBlk 0 (kSeq (f45_x call n [1, 1]) (kEnd AXE 0 f45_r)))))) ⟨[(2, .one (.bool x0))], []⟩ = f45_L9 call n (fun y0 y1 => aloop (pruneAt f45_h 1000002) (f45_x call n [1, 0, 1, 0, 0]) (kBlk 0 (kSeq (f45_x call n [1, 1]) (kEnd AXE 0 f45_r))) m0 ⟨[(0, .one (.str y0)), (3, .one (.int .i64 y1))], []⟩) x0 := by
  rw [f45_l9]
  rfl
/-- pigeonhole/pigeonholeref08.plain: label 7 -/
def f45_T7 (call : CallF) (n : Nat) (j9 : Bool → Option RR) (j2m : (List UInt8) → Int → Option RR) (x0 : List UInt8) (x1 : Int) (x2 : Bool) : Option RR :=
  bif x2 then (
    j9 false) else (
    j2m x0 (IntKind.wrap .i64 (x1 + (1 : Int))))
theorem f45_l7 (call : CallF) (n : Nat) (m0 : Nat) (x0 : List UInt8) (x1 : Int) (x2 : Bool) : (f45_x call n [1, 0, 1, 0, 0, 1, 0, 0, 1]) (kBlk 1 (kSeq (f45_x call n [1, 0, 1, 0, 0, 1, 1]) (kSeq (fun k => prK (pruneAt f45_h 1000002) (aloop (pruneAt f45_h 1000002) (f45_x call n [1, 0, 1, 0, 0]) k m0)) (kBlk 0 (kSeq (f45_x call n [1, 1]) (kEnd AXE 0 f45_r)))))) ⟨[(0, .one (.str x0)), (3, .one (.int .i64 x1)), (19, .one (.bool x2))], []⟩ = f45_T7 call n (fun y0 => (f45_x call n [1, 0, 1, 0, 0, 1, 0, 0, 1, 0, 1]) (kBlk 1 (kSeq (f45_x call n [1, 0, 1, 0, 0, 1, 1]) (kSeq (fun k => prK (pruneAt f45_h 1000002) (aloop (pruneAt f45_h 1000002) (f45_x call n [1, 0, 1, 0, 0]) k m0)) (kBlk 0 (kSeq (f45_x call n [1, 1]) (kEnd AXE 0 f45_r)))))) ⟨[(2, .one (.bool y0))], []⟩) (fun y0 y1 => aloop (pruneAt f45_h 1000002) (f45_x call n [1, 0, 1, 0, 0]) (kBlk 0 (kSeq (f45_x call n [1, 1]) (kEnd AXE 0 f45_r))) m0 ⟨[(0, .one (.str y0)), (3, .one (.int .i64 y1))], []⟩) x0 x1 x2 := by kernel_rfl
def f45_L7 (call : CallF) (n : Nat) (h_m0 : (List UInt8) → Int → Option RR) (x0 : List UInt8) (x1 : Int) (x2 : Bool) : Option RR :=
  f45_T7 call n (fun y0 => f45_L9 call n h_m0 y0) h_m0 x0 x1 x2
theorem f45_e7 (call : CallF) (n : Nat) (m0 : Nat) (x0 : List UInt8) (x1 : Int) (x2 : Bool) : (f45_x call n [1, 0, 1, 0, 0, 1, 0, 0, 1]) (kBlk 1 (kSeq (f45_x call n [1, 0, 1, 0, 0, 1, 1]) (kSeq (fun k => prK (pruneAt f45_h 1000002) (aloop (pruneAt f45_h 1000002) (f45_x call n [1, 0, 1, 0, 0]) k m0)) (kBlk 0 (kSeq (f45_x call n [1, 1]) (kEnd AXE 0 f45_r)))))) ⟨[(0, .one (.str x0)), (3, .one (.int .i64 x1)), (19, .one (.bool x2))], []⟩ = f45_L7 call n (fun y0 y1 => aloop (pruneAt f45_h 1000002) (f45_x call n [1, 0, 1, 0, 0]) (kBlk 0 (kSeq (f45_x call n [1, 1]) (kEnd AXE 0 f45_r))) m0 ⟨[(0, .one (.str y0)), (3, .one (.int .i64 y1))], []⟩) x0 x1 x2 := by
  rw [f45_l7]
  simp only [f45_e9]
  rfl
/-- pigeonhole/pigeonholeref08.plain: label 2 -/
def f45_T2 (call : CallF) (n : Nat) (j7 : (List UInt8) → Int → Bool → Option RR) (x0 : List UInt8) (x1 : Int) : Option RR :=
  bif (decide (x1 < ((x0).length : Int))) then (
    itemK x0 x1 fun u1 =>
    bif (decide ((UInt8.toNat u1 : Int) < (32 : Int))) then (
      j7 x0 x1 true) else (
      itemK x0 x1 fun u2 =>
      j7 x0 x1 (decide ((UInt8.toNat u2 : Int) > (126 : Int))))) else (
    some (.one (.bool (decide (((x0).length : Int) ≤ (400 : Int)))), []))
theorem f45_l2 (call : CallF) (n : Nat) (m0 : Nat) (x0 : List UInt8) (x1 : Int) : aloop (pruneAt f45_h 1000002) (f45_x call n [1, 0, 1, 0, 0]) (kBlk 0 (kSeq (f45_x call n [1, 1]) (kEnd AXE 0 f45_r))) (m0 + 1) ⟨[(0, .one (.str x0)), (3, .one (.int .i64 x1))], []⟩ = f45_T2 call n (fun y0 y1 y2 => (f45_x call n [1, 0, 1, 0, 0, 1, 0, 0, 1]) (kBlk 1 (kSeq (f45_x call n [1, 0, 1, 0, 0, 1, 1]) (kSeq (fun k => prK (pruneAt f45_h 1000002) (aloop (pruneAt f45_h 1000002) (f45_x call n [1, 0, 1, 0, 0]) k m0)) (kBlk 0 (kSeq (f45_x call n [1, 1]) (kEnd AXE 0 f45_r)))))) ⟨[(0, .one (.str y0)), (3, .one (.int .i64 y1)), (19, .one (.bool y2))], []⟩) x0 x1 := by kernel_rfl
def f45_L2 (call : CallF) (n : Nat) : Nat → (List UInt8) → Int → Option RR
  | 0, _, _ => none
  | m0 + 1, x0, x1 =>
    f45_T2 call n (fun y0 y1 y2 => f45_L7 call n (f45_L2 call n m0) y0 y1 y2) x0 x1
theorem f45_e2 (call : CallF) (n : Nat) : ∀ (m0 : Nat) (x0 : List UInt8) (x1 : Int), aloop (pruneAt f45_h 1000002) (f45_x call n [1, 0, 1, 0, 0]) (kBlk 0 (kSeq (f45_x call n [1, 1]) (kEnd AXE 0 f45_r))) m0 ⟨[(0, .one (.str x0)), (3, .one (.int .i64 x1))], []⟩ = f45_L2 call n m0 x0 x1 := by
  intro m0
  induction m0 with
  | zero => intros; rfl
  | succ m0 ih =>
    intro x0 x1
    rw [f45_l2]
    simp only [f45_e7, ih]
    rfl
/-- pigeonhole/pigeonholeref08.plain -/
def f45_T (call : CallF) (n : Nat) (j2n : (List UInt8) → Int → Option RR) (a0 : List UInt8) : Option RR :=
  j2n a0 (0 : Int)
def f45_L (call : CallF) (n : Nat) (a0 : List UInt8) : Option RR :=
  f45_T call n (fun y0 y1 => f45_L2 call n n y0 y1) a0
theorem f45_l (n : Nat) (a0 : List UInt8) : acall AXE AXF (n + 1) 45 [.one (.str a0)] [] = f45_T (acall AXE AXF n) (n + 1) (fun y0 y1 => aloop (pruneAt f45_h 1000002) (f45_x (acall AXE AXF n) (n + 1) [1, 0, 1, 0, 0]) (kBlk 0 (kSeq (f45_x (acall AXE AXF n) (n + 1) [1, 1]) (kEnd AXE 0 f45_r))) (n + 1) ⟨[(0, .one (.str y0)), (3, .one (.int .i64 y1))], []⟩) a0 := by kernel_rfl
theorem f45_eq (n : Nat) (a0 : List UInt8) : acall AXE AXF (n + 1) 45 [.one (.str a0)] [] = f45_L (acall AXE AXF n) (n + 1) a0 := by
  rw [f45_l]
  simp only [f45_e2]
  rfl
end AX
end Go.Proofs.YtalkglheaadigaaDoor
