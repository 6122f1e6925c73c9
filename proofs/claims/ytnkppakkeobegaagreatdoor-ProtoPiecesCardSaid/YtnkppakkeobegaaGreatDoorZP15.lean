/-
  PqFun.
-/
import Derived.Test.YtnkppakkeobegaaGreatDoorZP14
set_option maxRecDepth 20000
set_option linter.unusedVariables false
set_option linter.unusedSimpArgs false
set_option linter.unusedSectionVars false
namespace Go.Proofs.YtnkppakkeobegaaGreatDoor
namespace AX
set_option linter.unusedVariables false
noncomputable section
def f4_L (call : CallF) (n : Nat) (a0 : Bool) (a1 a2 : LC) (a3 : Bool) (G : Heap) : OR :=
 callGK call 7 [] G fun v1 G2 =>
 oB v1 fun b3 =>
 bif (!b3) then (
  some (.one (.bool false), G2)) else (
  joinK (fun (x5 : Bool) (x6 x7 : LC) (x8 x9 : Bool) (G10 : Heap) =>
   bif x9 then (
    some (.one (.bool true), G10)) else (
    joinK (fun (x24 x25 : LC) (x26 : Bool) (x27 x28 : Cell) (G29 : Heap) =>
     castP x27 (
      castP x28 (
       some (.one (.bool false), G29)) fun b32 o33 =>
      some (.one (.bool false), G29)) fun b30 o31 =>
     castP x28 (
      some (.one (.bool false), G29)) fun b34 o35 =>
     joinK (fun (x37 x38 : LC) (x39 x40 x41 x42 : Nat) (x43 : Int) (G44 : Heap) =>
      callGK call 13 [.one (.gptr x39 x40), .one (.sl none 1 x37), .one (.sl none 0 ([] : List Cell)), .one (.int .i64 x43)] G44 fun v45 G46 =>
      castTup v45 fun v47 =>
      zS v47 fun s48 r49 =>
      zS r49 fun s50 r51 =>
      nilK r51 (
       callGK call 13 [.one (.gptr x41 x42), .one (.sl none 1 x37), .one (.sl none 1 x38), .one (.int .i64 x43)] G46 fun v52 G53 =>
       castTup v52 fun v54 =>
       zS v54 fun s55 r56 =>
       zS r56 fun s57 r58 =>
       nilK r58 (
        bif (s48 == s55) then (
         bif (s50 == s57) then (
          bif (!(s50 == ([110, 111, 110, 101] : List UInt8))) then (
           callGK call 14 [.one (.gptr x39 x40)] G53 fun v59 G60 =>
           oB v59 fun b61 =>
           callGK call 14 [.one (.gptr x41 x42)] G60 fun v62 G63 =>
           oB v62 fun b64 =>
           some (.one (.bool (b61 == b64)), G63)) else (
           some (.one (.bool false), G53))) else (
          some (.one (.bool false), G53))) else (
         some (.one (.bool false), G53))))) fun j36 =>
     bif x26 then (
      j36 x24 x25 b30 o31 b34 o35 (250 : Int) G29) else (
      j36 x24 x25 b30 o31 b34 o35 (550 : Int) G29)) fun j11 =>
    callGK call 8 [.one (.bool x5), .one (.str ([120, 46, 111, 114, 103] : List UInt8))] G10 fun v12 G13 =>
    oP v12 (
     callGK call 8 [.one (.bool x5), .one (.str ([120, 46, 111, 114, 103] : List UInt8))] G13 fun v16 G17 =>
     oP v16 (
      j11 x6 x7 x8 .nilp .nilp G17) fun b18 o19 =>
     j11 x6 x7 x8 .nilp (.gptr b18 o19) G17) fun b14 o15 =>
    callGK call 8 [.one (.bool x5), .one (.str ([120, 46, 111, 114, 103] : List UInt8))] G13 fun v20 G21 =>
    oP v20 (
     j11 x6 x7 x8 (.gptr b14 o15) .nilp G21) fun b22 o23 =>
    j11 x6 x7 x8 (.gptr b14 o15) (.gptr b22 o23) G21)) fun j4 =>
  bif (decide ((((a1).length / 1 : Nat) : Int) > (1000 : Int))) then (
   j4 a0 a1 a2 a3 true G2) else (
   j4 a0 a1 a2 a3 (decide ((((a2).length / 1 : Nat) : Int) > (60 : Int))) G2))
theorem f4_eq (n : Nat) (a0 : Bool) (a1 a2 : LC) (a3 : Bool) (G : Heap) : acall AXE AXF (n + 1) 4 [.one (.bool a0), .one (.sl none 1 a1), .one (.sl none 1 a2), .one (.bool a3)] G = f4_L (acall AXE AXF n) (n + 1) a0 a1 a2 a3 G := by kernel_rfl
def f8_L (call : CallF) (n : Nat) (a0 : Bool) (a1 : LB) (G : Heap) : OR :=
 callK call 26 [.one (.str a1)] fun v1 =>
 oB v1 fun b2 =>
 bif (!b2) then (
  some (.one .nilp, G)) else (
  gnew G ([.bool a0, .str a1, .own 5 1 ([] : List Cell), .bool false, .nilp, .own 28 2 ([] : List Cell), .nilp, .int .i64 (0 : Int), .str ([] : List UInt8), .str ([] : List UInt8), .str ([] : List UInt8), .str ([] : List UInt8), .int .i64 (0 : Int), .own 28 2 ([] : List Cell), .own 5 1 ([] : List Cell), .int .i64 (0 : Int), .bool false]) fun b3 G4 =>
  some (.one (.gptr b3 0), G4))
theorem f8_eq (n : Nat) (a0 : Bool) (a1 : LB) (G : Heap) : acall AXE AXF (n + 1) 8 [.one (.bool a0), .one (.str a1)] G = f8_L (acall AXE AXF n) (n + 1) a0 a1 G := by kernel_rfl
def f13_B0 (call : CallF) (n : Nat) (s27 : Nat → LC → LC → Int → LB → LB → Int → Int → Heap → OR) (s49 : Nat → LC → LC → Int → LB → LB → Int → Int → LC → Int → Heap → OR) (x50 : Nat) (x51 x52 : LC) (x53 : Int) (x54 x55 : LB) (x56 x57 : Int) (x58 : LC) (x59 : Int) (G60 : Heap) : OR :=
 callGK call 11 [.one (.gptr x50 0)] G60 fun v61 G62 =>
 oI .i64 v61 fun n63 =>
 bif (decide (x59 < n63)) then (
  guardB (decide (((x58).length + (([.int .i64 x53, .str ([] : List UInt8), .sl none 1 ([.str ([115, 111] : List UInt8)] : List Cell)] : List Cell)).length) * 1000 ≤ rowLim)) (
   s49 x50 x51 x52 x53 x54 x55 x56 x57 (x58 ++ ([.int .i64 x53, .str ([] : List UInt8), .sl none 1 ([.str ([115, 111] : List UInt8)] : List Cell)] : List Cell)) (IntKind.wrap .i64 (x59 + (1 : Int))) G62)) else (
  callGK call 12 [.one (.gptr x50 0), .one (.sl none 3 x58)] G62 fun v64 G65 =>
  castTup v64 fun v66 =>
  zL 1 v66 fun l67 r68 =>
  zB r68 fun b69 r70 =>
  nilK r70 (
   bif (!b69) then (
    some (.tup [.one (.str x54), .one (.str ([110, 111, 110, 101] : List UInt8))], G65)) else (
    bytesK l67 fun s71 =>
    bif decide ((x54).length + (s71).length ≤ strLim) then (
     s27 x50 x51 x52 x53 (x54 ++ s71) x55 x56 x57 G65) else none)))
def f13_B1 (call : CallF) (n : Nat) (s1 : Nat → LC → LC → Int → LB → LB → Int → Int → Heap → OR) (s27 : Nat → LC → LC → Int → LB → LB → Int → Int → Heap → OR) (x28 : Nat) (x29 x30 : LC) (x31 : Int) (x32 x33 : LB) (x34 x35 : Int) (G36 : Heap) : OR :=
 callGK call 10 [.one (.gptr x28 0)] G36 fun v37 G38 =>
 castTup v37 fun v39 =>
 zL 1 v39 fun l40 r41 =>
 consK r41 fun z42 r43 =>
 aggV z42 fun r44 =>
 takeS_api_Ask r44 fun w45 r46 =>
 nilK r46 (
  nilK r43 (
   bytesK l40 fun s47 =>
   bif decide ((x32).length + (s47).length ≤ strLim) then (
    bif (w45.fKind == (0 : Int)) then (
     s1 x28 x29 x30 x31 (x32 ++ s47) x33 x34 (IntKind.wrap .i64 (x35 + (1 : Int))) G38) else (
     bif decide ((x33).length + (w45.fRcpt_Local).length ≤ strLim) then (
      bif decide (((x33 ++ w45.fRcpt_Local)).length + (([64] : List UInt8)).length ≤ strLim) then (
       bif decide ((((x33 ++ w45.fRcpt_Local) ++ ([64] : List UInt8))).length + (w45.fRcpt_Domain).length ≤ strLim) then (
        bif decide (((((x33 ++ w45.fRcpt_Local) ++ ([64] : List UInt8)) ++ w45.fRcpt_Domain)).length + (([58] : List UInt8)).length ≤ strLim) then (
         bytesK w45.fBody fun s48 =>
         bif decide ((((((x33 ++ w45.fRcpt_Local) ++ ([64] : List UInt8)) ++ w45.fRcpt_Domain) ++ ([58] : List UInt8))).length + (s48).length ≤ strLim) then (
          bif decide (((((((x33 ++ w45.fRcpt_Local) ++ ([64] : List UInt8)) ++ w45.fRcpt_Domain) ++ ([58] : List UInt8)) ++ s48)).length + (([59] : List UInt8)).length ≤ strLim) then (
           loopJ (α := Nat → LC → LC → Int → LB → LB → Int → Int → LC → Int → Heap → OR) (fun _ _ _ _ _ _ _ _ _ _ _ => none) (f13_B0 call n s27) n x28 x29 x30 x31 (x32 ++ s47) ((((((x33 ++ w45.fRcpt_Local) ++ ([64] : List UInt8)) ++ w45.fRcpt_Domain) ++ ([58] : List UInt8)) ++ s48) ++ ([59] : List UInt8)) x34 x35 ([] : List Cell) (0 : Int) G38) else none) else none) else none) else none) else none) else none)) else none))
def f13_B2 (call : CallF) (n : Nat) (s1 : Nat → LC → LC → Int → LB → LB → Int → Int → Heap → OR) (x2 : Nat) (x3 x4 : LC) (x5 : Int) (x6 x7 : LB) (x8 x9 : Int) (G10 : Heap) : OR :=
 bif (decide (x9 ≤ (((x4).length / 1 : Nat) : Int))) then (
  joinK (fun (x14 : Nat) (x15 x16 : LC) (x17 : Int) (x18 x19 : LB) (x20 x21 x22 : Int) (G23 : Heap) =>
   bif decide (0 ≤ x20 ∧ x20 ≤ x22 ∧ (Int.toNat x22) ≤ (x15.length / 1)) then (
    callGK call 9 [.one (.gptr x14 0), .one (.sl none 1 ((x15.take ((Int.toNat x22) * 1)).drop ((Int.toNat x20) * 1)))] G23 fun v24 G25 =>
    castTup v24 fun v26 =>
    nilK v26 (
     loopJ (α := Nat → LC → LC → Int → LB → LB → Int → Int → Heap → OR) (fun _ _ _ _ _ _ _ _ _ => none) (f13_B1 call n s1) n x14 x15 x16 x17 x18 x19 x22 x21 G25)) else none) fun j11 =>
  bif (decide (x9 < (((x4).length / 1 : Nat) : Int))) then (
   itemK x4 x9 fun c12 =>
   castI .i64 c12 fun n13 =>
   j11 x2 x3 x4 x5 x6 x7 x8 x9 (minI (maxI n13 x8) (((x3).length / 1 : Nat) : Int)) G10) else (
   j11 x2 x3 x4 x5 x6 x7 x8 x9 (((x3).length / 1 : Nat) : Int) G10)) else (
  some (.tup [.one (.str x6), .one (.str x7)], G10))
def f13_L (call : CallF) (n : Nat) (a0 : Nat) (a1 a2 : LC) (a3 : Int) (G : Heap) : OR :=
 loopJ (α := Nat → LC → LC → Int → LB → LB → Int → Int → Heap → OR) (fun _ _ _ _ _ _ _ _ _ => none) (f13_B2 call n) n a0 a1 a2 a3 ([] : List UInt8) ([] : List UInt8) (0 : Int) (0 : Int) G
theorem f13_eq (n : Nat) (a0 : Nat) (a1 a2 : LC) (a3 : Int) (G : Heap) : acall AXE AXF (n + 1) 13 [.one (.gptr a0 0), .one (.sl none 1 a1), .one (.sl none 1 a2), .one (.int .i64 a3)] G = f13_L (acall AXE AXF n) (n + 1) a0 a1 a2 a3 G := by kernel_rfl
def f14_L (call : CallF) (n : Nat) (a0 : Nat) (G : Heap) : OR :=
 gB G a0 16 fun b1 =>
 some (.one (.bool b1), G)
theorem f14_eq (n : Nat) (a0 : Nat) (G : Heap) : acall AXE AXF (n + 1) 14 [.one (.gptr a0 0)] G = f14_L (acall AXE AXF n) (n + 1) a0 G := by kernel_rfl
def f9_L (call : CallF) (n : Nat) (a0 : Nat) (a1 : LC) (G : Heap) : OR :=
 gtake 5 1 G a0 2 fun l1 G2 =>
 guardB (decide (((l1).length + (a1).length) * 1000 ≤ rowLim)) (
  gset G2 a0 2 (.own 5 1 (l1 ++ a1)) fun G3 =>
  some (.tup [], G3))
theorem f9_eq (n : Nat) (a0 : Nat) (a1 : LC) (G : Heap) : acall AXE AXF (n + 1) 9 [.one (.gptr a0 0), .one (.sl none 1 a1)] G = f9_L (acall AXE AXF n) (n + 1) a0 a1 G := by kernel_rfl
def f10_B0 (call : CallF) (n : Nat) (j1 : Nat → LC → Int → LB → LB → LB → LB → Int → LC → LC → Heap → OR) (s2 : Nat → LC → Int → LB → LB → LB → LB → Int → LC → LC → Heap → OR) (x3 : Nat) (x4 : LC) (x5 : Int) (x6 x7 x8 x9 : LB) (x10 : Int) (x11 x12 : LC) (G13 : Heap) : OR :=
 gI .i64 G13 x3 7 fun n14 =>
 bif (n14 == (0 : Int)) then (
  gB G13 x3 16 fun b15 =>
  bif (!b15) then (
   callGK call 27 [.one (.gptr x3 0)] G13 fun v16 G17 =>
   castTup v16 fun v18 =>
   zL 3 v18 fun l19 r20 =>
   zB r20 fun b21 r22 =>
   nilK r22 (
    bif (!b21) then (
     j1 x3 x4 x5 x6 x7 x8 x9 x10 x11 x12 G17) else (
     callK call 28 [.one (.sl none 3 l19)] fun v23 =>
     oL 1 v23 fun l24 =>
     guardB (decide (((x4).length + (l24).length) * 1000 ≤ rowLim)) (
      s2 x3 (x4 ++ l24) x5 x6 x7 x8 x9 x10 x11 x12 G17)))) else (
   j1 x3 x4 x5 x6 x7 x8 x9 x10 x11 x12 G13)) else (
  j1 x3 x4 x5 x6 x7 x8 x9 x10 x11 x12 G13)
def f10_L (call : CallF) (n : Nat) (a0 : Nat) (G : Heap) : OR :=
 joinK (fun (x25 : Nat) (x26 : LC) (x27 : Int) (x28 x29 x30 x31 : LB) (x32 : Int) (x33 x34 : LC) (G35 : Heap) =>
  gcells 8 G35 x25 7 fun r36 =>
  cI .i64 r36 fun n37 r38 =>
  cS r38 fun s39 r40 =>
  cS r40 fun s41 r42 =>
  cS r42 fun s43 r44 =>
  cS r44 fun s45 r46 =>
  cI .i64 r46 fun n47 r48 =>
  cG 2 r48 fun l49 r50 =>
  cG 1 r50 fun l51 r52 =>
  callK call 29 [.agg (⟨n37, s39, s41, s43, s45, n47, l49, l51⟩ : S_api_Ask).cells] fun v53 =>
  castAgg v53 fun r54 =>
  takeS_api_Ask r54 fun w55 r56 =>
  nilK r56 (
   some (.tup [.one (.sl (some ⟨2, 0, 5⟩) 1 x26), .agg w55.cells], G35))) fun j1 =>
 loopJ (α := Nat → LC → Int → LB → LB → LB → LB → Int → LC → LC → Heap → OR) (fun _ _ _ _ _ _ _ _ _ _ _ => none) (f10_B0 call n j1) n a0 ([] : List Cell) (0 : Int) ([] : List UInt8) ([] : List UInt8) ([] : List UInt8) ([] : List UInt8) (0 : Int) ([] : List Cell) ([] : List Cell) G
theorem f10_eq (n : Nat) (a0 : Nat) (G : Heap) : acall AXE AXF (n + 1) 10 [.one (.gptr a0 0)] G = f10_L (acall AXE AXF n) (n + 1) a0 G := by kernel_rfl
def f11_L (call : CallF) (n : Nat) (a0 : Nat) (G : Heap) : OR :=
 gI .i64 G a0 7 fun n1 =>
 bif (n1 == (1 : Int)) then (
  some (.one (.int .i64 (1 : Int)), G)) else (
  bif (n1 == (2 : Int)) then (
   primGK pMany [.one (.gptr a0 0)] G fun v2 =>
   oI .i64 v2 fun n3 =>
   some (.one (.int .i64 n3), G)) else (
   some (.one (.int .i64 (0 : Int)), G)))
theorem f11_eq (n : Nat) (a0 : Nat) (G : Heap) : acall AXE AXF (n + 1) 11 [.one (.gptr a0 0)] G = f11_L (acall AXE AXF n) (n + 1) a0 G := by kernel_rfl
def f12_L (call : CallF) (n : Nat) (a0 : Nat) (a1 : LC) (G : Heap) : OR :=
 joinK (fun (x8 : Nat) (x9 : LC) (x10 : Bool) (G11 : Heap) =>
  bif x10 then (
   some (.tup [.one (.sl (some ⟨4, 0, 5⟩) 1 ([] : List Cell)), .one (.bool false)], G11)) else (
   joinK (fun (x27 : Nat) (x28 : LC) (G29 : Heap) =>
    gsets G29 x27 7 ([.int .i64 (0 : Int), .str ([] : List UInt8), .str ([] : List UInt8), .str ([] : List UInt8), .str ([] : List UInt8), .int .i64 (0 : Int), .own 28 2 ([] : List Cell), .own 5 1 ([] : List Cell)]) fun G30 =>
    callK call 28 [.one (.sl none 3 x28)] fun v31 =>
    oL 1 v31 fun l32 =>
    some (.tup [.one (.sl none 1 l32), .one (.bool true)], G30)) fun j12 =>
   gI .i64 G11 x8 7 fun n13 =>
   bif (n13 == (2 : Int)) then (
    callGK call 34 [.one (.gptr x8 0)] G11 fun v14 G15 =>
    castTup v14 fun v16 =>
    nilK v16 (
     j12 x8 x9 G15)) else (
    guardB (decide (0 ≤ (0 : Int)) && decide ((Int.toNat (0 : Int)) * 3 + 3 ≤ x9.length)) (
     cI .i64 ((((x9.drop ((Int.toNat (0 : Int)) * 3)).take 3).drop 0).take 1) fun n17 r18 =>
     bif (decide (n17 < (300 : Int))) then (
      gtake 28 2 G11 x8 5 fun l19 G20 =>
      gcells 2 G20 x8 10 fun r21 =>
      cS r21 fun s22 r23 =>
      cS r23 fun s24 r25 =>
      guardB (decide (((l19).length + (([.str s22, .str s24] : List Cell)).length) * 1000 ≤ rowLim)) (
       gset G20 x8 5 (.own 28 2 (l19 ++ ([.str s22, .str s24] : List Cell))) fun G26 =>
       j12 x8 x9 G26)) else (
      j12 x8 x9 G11))))) fun j1 =>
 gI .i64 G a0 7 fun n2 =>
 bif (n2 == (0 : Int)) then (
  j1 a0 a1 true G) else (
  callGK call 11 [.one (.gptr a0 0)] G fun v3 G4 =>
  oI .i64 v3 fun n5 =>
  bif ((((a1).length / 3 : Nat) : Int) != n5) then (
   j1 a0 a1 true G4) else (
   callK call 31 [.one (.sl none 3 a1), .one (.clo 32 0 [])] fun v6 =>
   oB v6 fun b7 =>
   j1 a0 a1 b7 G4))
theorem f12_eq (n : Nat) (a0 : Nat) (a1 : LC) (G : Heap) : acall AXE AXF (n + 1) 12 [.one (.gptr a0 0), .one (.sl none 3 a1)] G = f12_L (acall AXE AXF n) (n + 1) a0 a1 G := by kernel_rfl
def f26_L (call : CallF) (n : Nat) (a0 : LB) : OR :=
 callRK call 45 [.one (.ptr 0 0)] [(⟨a0, (0 : Int), false⟩ : S_addr_reader).cells] fun v1 h2 =>
 consK h2 fun r3 h4 =>
 takeS_addr_reader r3 fun w5 r6 =>
 nilK r6 (
  nilK h4 (
   castTup v1 fun v7 =>
   zS v7 fun s8 r9 =>
   zB r9 fun b10 r11 =>
   nilK r11 (
    bif b10 then (
     bif (w5.fat == ((a0).length : Int)) then (
      some (.one (.bool (!w5.flarge)), [])) else (
      some (.one (.bool false), []))) else (
     some (.one (.bool false), [])))))
theorem f26_eq (n : Nat) (a0 : LB) : acall AXE AXF (n + 1) 26 [.one (.str a0)] [] = f26_L (acall AXE AXF n) (n + 1) a0 := by kernel_rfl
def f27_L (call : CallF) (n : Nat) (a0 : Nat) (G : Heap) : OR :=
 joinK (fun (x4 : Nat) (x5 : Bool) (G6 : Heap) =>
  bif x5 then (
   callGK call 46 [.one (.gptr x4 0)] G6 fun v7 G8 =>
   castTup v7 fun v9 =>
   zL 3 v9 fun l10 r11 =>
   zB r11 fun b12 r13 =>
   nilK r13 (
    some (.tup [.one (.sl none 3 l10), .one (.bool b12)], G8))) else (
   gL 1 G6 x4 2 fun l14 =>
   primK pBIndex [.one (.sl none 1 l14), .one (.sl none 1 ([.int .u8 (13 : Int), .int .u8 (10 : Int)] : List Cell))] fun v15 =>
   oI .i64 v15 fun n16 =>
   bif (decide (n16 < (0 : Int))) then (
    some (.tup [.one (.sl (some ⟨2, 0, 39⟩) 3 ([] : List Cell)), .one (.bool false)], G6)) else (
    gL 1 G6 x4 2 fun l17 =>
    bif decide (0 ≤ n16 ∧ (Int.toNat n16) ≤ (l17.length / 1)) then (
     bytesK ((l17.take ((Int.toNat n16) * 1)).drop (0 * 1)) fun s18 =>
     gtake 5 1 G6 x4 2 fun l19 G20 =>
     bif decide (0 ≤ (IntKind.wrap .i64 (n16 + (2 : Int))) ∧ (Int.toNat (IntKind.wrap .i64 (n16 + (2 : Int)))) ≤ (l19.length / 1)) then (
      gset G20 x4 2 (.own 5 1 (l19.drop ((Int.toNat (IntKind.wrap .i64 (n16 + (2 : Int)))) * 1))) fun G21 =>
      callGK call 48 [.one (.gptr x4 0), .one (.str s18)] G21 fun v22 G23 =>
      castOne1 v22 fun c24 =>
      castN 39 3 c24 fun l25 =>
      joinK (fun (x49 : LC) (G50 : Heap) =>
       some (.tup [.one (.sl (some ⟨2, 0, 39⟩) 3 x49), .one (.bool true)], G50)) fun j26 =>
      joinK (fun (x32 : Nat) (x33 : LC) (x34 : Bool) (G35 : Heap) =>
       bif x34 then (
        gI .i64 G35 x32 15 fun n36 =>
        gset G35 x32 15 (.int .i64 (IntKind.wrap .i64 (n36 + (1 : Int)))) fun G37 =>
        gI .i64 G37 x32 15 fun n38 =>
        bif (n38 == (10 : Int)) then (
         gset G37 x32 16 (.bool true) fun G39 =>
         callK call 38 [.one (.int .i64 (421 : Int)), .one (.str ([52, 46, 55, 46, 48] : List UInt8)), .one (.str ([116, 111, 111, 32, 109, 97, 110, 121, 32, 101, 114, 114, 111, 114, 115] : List UInt8))] fun v40 =>
         castAgg v40 fun r41 =>
         cI .i64 r41 fun n42 r43 =>
         cS r43 fun s44 r45 =>
         consK r45 fun c46 r47 =>
         castN 9 1 c46 fun l48 =>
         nilK r47 (
          guardB (decide (((x33).length + (([.int .i64 n42, .str s44, .sl none 1 l48] : List Cell)).length) * 1000 ≤ rowLim)) (
           j26 (x33 ++ ([.int .i64 n42, .str s44, .sl none 1 l48] : List Cell)) G39))) else (
         j26 x33 G37)) else (
        j26 x33 G35)) fun j27 =>
      bif (decide ((((l25).length / 3 : Nat) : Int) > (0 : Int))) then (
       guardB (decide (0 ≤ (0 : Int)) && decide ((Int.toNat (0 : Int)) * 3 + 3 ≤ l25.length)) (
        cI .i64 ((((l25.drop ((Int.toNat (0 : Int)) * 3)).take 3).drop 0).take 1) fun n28 r29 =>
        callK call 49 [.one (.int .i64 n28)] fun v30 =>
        oB v30 fun b31 =>
        j27 x4 l25 b31 G23)) else (
       j27 x4 l25 false G23)) else none) else none))) fun j1 =>
 gP G a0 6 (
  j1 a0 false G) fun b2 o3 =>
 j1 a0 true G
theorem f27_eq (n : Nat) (a0 : Nat) (G : Heap) : acall AXE AXF (n + 1) 27 [.one (.gptr a0 0)] G = f27_L (acall AXE AXF n) (n + 1) a0 G := by kernel_rfl
def f28_B0 (call : CallF) (n : Nat) (s1 : LC → LC → Int → Int → OR) (x2 x3 : LC) (x4 x5 : Int) : OR :=
 bif (decide (x5 < x4)) then (
  guardB (decide (0 ≤ x5) && decide ((Int.toNat x5) * 3 + 3 ≤ x3.length)) (
   takeS_api_Reply ((x3.drop ((Int.toNat x5) * 3)).take 3) fun w6 r7 =>
   primK pBytes [.agg w6.cells] fun v8 =>
   castTup v8 fun v9 =>
   zL 1 v9 fun l10 r11 =>
   zI .i64 r11 fun n12 r13 =>
   nilK r13 (
    guardB (decide (((x2).length + (l10).length) * 1000 ≤ rowLim)) (
     s1 (x2 ++ l10) x3 x4 (IntKind.wrap .i64 (x5 + (1 : Int))))))) else (
  some (.one (.sl (some ⟨2, 0, 5⟩) 1 x2), []))
def f28_L (call : CallF) (n : Nat) (a0 : LC) : OR :=
 loopJ (α := LC → LC → Int → Int → OR) (fun _ _ _ _ => none) (f28_B0 call n) n ([] : List Cell) a0 (((a0).length / 3 : Nat) : Int) (0 : Int)
theorem f28_eq (n : Nat) (a0 : LC) : acall AXE AXF (n + 1) 28 [.one (.sl none 3 a0)] [] = f28_L (acall AXE AXF n) (n + 1) a0 := by kernel_rfl
def f29_L (call : CallF) (n : Nat) (a0 : S_api_Ask) : OR :=
 primK pSClone [.one (.sl none 2 a0.fTo)] fun v1 =>
 oL 2 v1 fun l2 =>
 primK pBClone [.one (.sl none 1 a0.fBody)] fun v3 =>
 oL 1 v3 fun l4 =>
 some (.agg ({ a0 with fTo := l2, fBody := l4 } : S_api_Ask).cells, [])
theorem f29_eq (n : Nat) (a0 : S_api_Ask) : acall AXE AXF (n + 1) 29 [.agg a0.cells] [] = f29_L (acall AXE AXF n) (n + 1) a0 := by kernel_rfl
def f31_L (call : CallF) (n : Nat) (a0 : LC) : OR :=
 callK call 53 [.one (.sl none 3 a0), .one (.clo 32 0 [])] fun v1 =>
 oI .i64 v1 fun n2 =>
 some (.one (.bool (decide (n2 ≥ (0 : Int)))), [])
theorem f31_eq (n : Nat) (a0 : LC) : acall AXE AXF (n + 1) 31 [.one (.sl none 3 a0), .one (.clo 32 0 [])] [] = f31_L (acall AXE AXF n) (n + 1) a0 := by kernel_rfl
def f34_L (call : CallF) (n : Nat) (a0 : Nat) (G : Heap) : OR :=
 gset G a0 4 .nilp fun G1 =>
 gset G1 a0 5 (.own 28 2 ([] : List Cell)) fun G2 =>
 some (.tup [], G2)
theorem f34_eq (n : Nat) (a0 : Nat) (G : Heap) : acall AXE AXF (n + 1) 34 [.one (.gptr a0 0)] G = f34_L (acall AXE AXF n) (n + 1) a0 G := by kernel_rfl
def f38_L (call : CallF) (n : Nat) (a0 : Int) (a1 a2 : LB) : OR :=
 some (.agg [.int .i64 a0, .str a1, .sl (some ⟨1000000, 2, 9⟩) 1 ([.str a2] : List Cell)], [])
theorem f38_eq (n : Nat) (a0 : Int) (a1 a2 : LB) : acall AXE AXF (n + 1) 38 [.one (.int .i64 a0), .one (.str a1), .one (.str a2)] [] = f38_L (acall AXE AXF n) (n + 1) a0 a1 a2 := by kernel_rfl
def f45_B0 (call : CallF) (n : Nat) (s8 : Int → S_addr_reader → OR) (x9 : Int) (x10 : S_addr_reader) : OR :=
 callRK call 65 [.one (.ptr 0 0)] [x10.cells] fun v11 h12 =>
 consK h12 fun r13 h14 =>
 takeS_addr_reader r13 fun w15 r16 =>
 nilK r16 (
  nilK h14 (
   oI .u8 v11 fun n17 =>
   bif (n17 == (46 : Int)) then (
    callRK call 64 [.one (.ptr 0 0)] [({ w15 with fat := (IntKind.wrap .i64 (w15.fat + (1 : Int))) } : S_addr_reader).cells] fun v18 h19 =>
    consK h19 fun r20 h21 =>
    takeS_addr_reader r20 fun w22 r23 =>
    nilK r23 (
     nilK h21 (
      oB v18 fun b24 =>
      bif (!b24) then (
       some (.tup [.one (.str ([] : List UInt8)), .one (.bool false)], [w22.cells])) else (
       s8 x9 w22)))) else (
    joinK (fun (x26 : Int) (x27 : S_addr_reader) =>
     bif decide (0 ≤ x26 ∧ x26 ≤ x27.fat ∧ (Int.toNat x27.fat) ≤ (x27.fs).length) then (
      some (.tup [.one (.str ((x27.fs.take (Int.toNat x27.fat)).drop (Int.toNat x26))), .one (.bool true)], [x27.cells])) else none) fun j25 =>
    bif w15.flarge then (
     j25 x9 ({ w15 with flarge := true } : S_addr_reader)) else (
     j25 x9 ({ w15 with flarge := (decide ((IntKind.wrap .i64 (w15.fat - x9)) > (64 : Int))) } : S_addr_reader)))))
def f45_L (call : CallF) (n : Nat) (a0 : S_addr_reader) : OR :=
 callRK call 64 [.one (.ptr 0 0)] [a0.cells] fun v1 h2 =>
 consK h2 fun r3 h4 =>
 takeS_addr_reader r3 fun w5 r6 =>
 nilK r6 (
  nilK h4 (
   oB v1 fun b7 =>
   bif (!b7) then (
    some (.tup [.one (.str ([] : List UInt8)), .one (.bool false)], [w5.cells])) else (
    loopJ (α := Int → S_addr_reader → OR) (fun _ _ => none) (f45_B0 call n) n a0.fat w5)))
theorem f45_eq (n : Nat) (a0 : S_addr_reader) : acall AXE AXF (n + 1) 45 [.one (.ptr 0 0)] [a0.cells] = f45_L (acall AXE AXF n) (n + 1) a0 := by kernel_rfl
def f46_L (call : CallF) (n : Nat) (a0 : Nat) (G : Heap) : OR :=
 joinK (fun (x20 : Nat) (x21 : Int) (x22 : Bool) (G23 : Heap) =>
  gtake 5 1 G23 x20 2 fun l24 G25 =>
  bif decide (0 ≤ x21 ∧ (Int.toNat x21) ≤ (l24.length / 1)) then (
   gset G25 x20 2 (.own 5 1 (l24.drop ((Int.toNat x21) * 1))) fun G26 =>
   bif (!x22) then (
    some (.tup [.one (.sl (some ⟨2, 0, 39⟩) 3 ([] : List Cell)), .one (.bool false)], G26)) else (
    joinK (fun (x40 : Nat) (x41 : S_api_Text) (G42 : Heap) =>
     gset G42 x40 6 .nilp fun G43 =>
     joinK (fun (x84 : Nat) (x85 : S_api_Text) (x86 : Int) (x87 : LB) (x88 : LC) (G89 : Heap) =>
      primGK pMany [.one (.gptr x84 0)] G89 fun v90 =>
      oI .i64 v90 fun n91 =>
      primK pRepeat [.one (.sl none 3 ([.int .i64 x86, .str x87, .sl none 1 x88] : List Cell)), .one (.int .i64 n91)] fun v92 =>
      oL 3 v92 fun l93 =>
      callGK call 34 [.one (.gptr x84 0)] G89 fun v94 G95 =>
      castTup v94 fun v96 =>
      nilK v96 (
       some (.tup [.one (.sl none 3 l93), .one (.bool true)], G95))) fun j44 =>
     bif x41.fBare then (
      callK call 38 [.one (.int .i64 (554 : Int)), .one (.str ([53, 46, 54, 46, 48] : List UInt8)), .one (.str ([98, 97, 114, 101, 32, 108, 105, 110, 101, 32, 101, 110, 100] : List UInt8))] fun v45 =>
      castAgg v45 fun r46 =>
      cI .i64 r46 fun n47 r48 =>
      cS r48 fun s49 r50 =>
      consK r50 fun c51 r52 =>
      castN 9 1 c51 fun l53 =>
      nilK r52 (
       j44 x40 x41 n47 s49 l53 G43)) else (
      bif x41.fLong then (
       callK call 38 [.one (.int .i64 (554 : Int)), .one (.str ([53, 46, 54, 46, 48] : List UInt8)), .one (.str ([108, 111, 110, 103, 32, 108, 105, 110, 101] : List UInt8))] fun v54 =>
       castAgg v54 fun r55 =>
       cI .i64 r55 fun n56 r57 =>
       cS r57 fun s58 r59 =>
       consK r59 fun c60 r61 =>
       castN 9 1 c60 fun l62 =>
       nilK r61 (
        j44 x40 x41 n56 s58 l62 G43)) else (
       bif x41.fLarge then (
        callK call 38 [.one (.int .i64 (552 : Int)), .one (.str ([53, 46, 51, 46, 52] : List UInt8)), .one (.str ([116, 111, 111, 32, 108, 97, 114, 103, 101] : List UInt8))] fun v63 =>
        castAgg v63 fun r64 =>
        cI .i64 r64 fun n65 r66 =>
        cS r66 fun s67 r68 =>
        consK r68 fun c69 r70 =>
        castN 9 1 c69 fun l71 =>
        nilK r70 (
         j44 x40 x41 n65 s67 l71 G43)) else (
        gP G43 x40 4 (
         none) fun b72 o73 =>
        gcells 2 G43 b72 (o73 + 0) fun r74 =>
        cS r74 fun s75 r76 =>
        cS r76 fun s77 r78 =>
        gP G43 x40 4 (
         none) fun b79 o80 =>
        gI .i64 G43 b79 (o80 + 2) fun n81 =>
        gL 2 G43 x40 5 fun l82 =>
        gsets G43 x40 7 ((⟨(2 : Int), s75, s77, ([] : List UInt8), ([] : List UInt8), n81, l82, x41.fBytes⟩ : S_api_Ask).cells) fun G83 =>
        some (.tup [.one (.sl (some ⟨2, 0, 39⟩) 3 ([] : List Cell)), .one (.bool true)], G83))))) fun j27 =>
    gP G26 x20 6 (
     callGK call 67 [.one .nilp] G26 fun v30 G31 =>
     castAgg v30 fun r32 =>
     takeS_api_Text r32 fun w33 r34 =>
     nilK r34 (
      j27 x20 w33 G31)) fun b28 o29 =>
    callGK call 67 [.one (.gptr b28 o29)] G26 fun v35 G36 =>
    castAgg v35 fun r37 =>
    takeS_api_Text r37 fun w38 r39 =>
    nilK r39 (
     j27 x20 w38 G36))) else none) fun j1 =>
 gP G a0 6 (
  gL 1 G a0 2 fun l4 =>
  callGK call 66 [.one .nilp, .one (.sl none 1 l4)] G fun v5 G6 =>
  castTup v5 fun v7 =>
  zI .i64 v7 fun n8 r9 =>
  zB r9 fun b10 r11 =>
  nilK r11 (
   j1 a0 n8 b10 G6)) fun b2 o3 =>
 gL 1 G a0 2 fun l12 =>
 callGK call 66 [.one (.gptr b2 o3), .one (.sl none 1 l12)] G fun v13 G14 =>
 castTup v13 fun v15 =>
 zI .i64 v15 fun n16 r17 =>
 zB r17 fun b18 r19 =>
 nilK r19 (
  j1 a0 n16 b18 G14)
theorem f46_eq (n : Nat) (a0 : Nat) (G : Heap) : acall AXE AXF (n + 1) 46 [.one (.gptr a0 0)] G = f46_L (acall AXE AXF n) (n + 1) a0 G := by kernel_rfl
def f48_L (call : CallF) (n : Nat) (a0 : Nat) (a1 : LB) (G : Heap) : OR :=
 callK call 74 [.one (.str a1)] fun v1 =>
 castTup v1 fun v2 =>
 consK v2 fun z3 r4 =>
 aggV z3 fun r5 =>
 takeS_api_Cmd r5 fun w6 r7 =>
 nilK r7 (
  zI .i64 r4 fun n8 r9 =>
  nilK r9 (
   joinK (fun (x16 : Nat) (x17 : Int) (x18 : Bool) (x19 : S_api_Cmd) (G20 : Heap) =>
    bif x18 then (
     callK call 38 [.one (.int .i64 (500 : Int)), .one (.str ([53, 46, 53, 46, 50] : List UInt8)), .one (.str ([119, 104, 97, 116, 32, 105, 115, 32, 116, 104, 97, 116] : List UInt8))] fun v21 =>
     castAgg v21 fun r22 =>
     cI .i64 r22 fun n23 r24 =>
     cS r24 fun s25 r26 =>
     consK r26 fun c27 r28 =>
     castN 9 1 c27 fun l29 =>
     nilK r28 (
      some (.one (.sl (some ⟨4, 0, 39⟩) 3 ([.int .i64 n23, .str s25, .sl none 1 l29] : List Cell)), G20))) else (
     bif (x17 == (501 : Int)) then (
      callK call 38 [.one (.int .i64 (501 : Int)), .one (.str ([53, 46, 53, 46, 52] : List UInt8)), .one (.str ([110, 111, 116, 32, 115, 111] : List UInt8))] fun v30 =>
      castAgg v30 fun r31 =>
      cI .i64 r31 fun n32 r33 =>
      cS r33 fun s34 r35 =>
      consK r35 fun c36 r37 =>
      castN 9 1 c36 fun l38 =>
      nilK r37 (
       some (.one (.sl (some ⟨4, 0, 39⟩) 3 ([.int .i64 n32, .str s34, .sl none 1 l38] : List Cell)), G20))) else (
      bif (x17 == (555 : Int)) then (
       callK call 38 [.one (.int .i64 (555 : Int)), .one (.str ([53, 46, 53, 46, 52] : List UInt8)), .one (.str ([110, 111, 32, 115, 117, 99, 104, 32, 112, 97, 114, 97, 109, 101, 116, 101, 114] : List UInt8))] fun v39 =>
       castAgg v39 fun r40 =>
       cI .i64 r40 fun n41 r42 =>
       cS r42 fun s43 r44 =>
       consK r44 fun c45 r46 =>
       castN 9 1 c45 fun l47 =>
       nilK r46 (
        some (.one (.sl (some ⟨4, 0, 39⟩) 3 ([.int .i64 n41, .str s43, .sl none 1 l47] : List Cell)), G20))) else (
       joinK (fun (x49 : Nat) (x50 : Int) (x51 : Bool) (x52 : S_api_Cmd) (G53 : Heap) =>
        bif x51 then (
         callGK call 75 [.one (.gptr x49 0), .one (.int .i64 x52.fVerb)] G53 fun v54 G55 =>
         castOne1 v54 fun c56 =>
         castN 39 3 c56 fun l57 =>
         some (.one (.sl (some ⟨4, 0, 39⟩) 3 l57), G55)) else (
         bif (x50 == (4 : Int)) then (
          callGK call 76 [.one (.gptr x49 0), .agg x52.cells] G53 fun v58 G59 =>
          castOne1 v58 fun c60 =>
          castN 39 3 c60 fun l61 =>
          some (.one (.sl (some ⟨4, 0, 39⟩) 3 l61), G59)) else (
          bif (x50 == (5 : Int)) then (
           callGK call 77 [.one (.gptr x49 0), .agg x52.cells] G53 fun v62 G63 =>
           castOne1 v62 fun c64 =>
           castN 39 3 c64 fun l65 =>
           some (.one (.sl (some ⟨4, 0, 39⟩) 3 l65), G63)) else (
           bif (x50 == (6 : Int)) then (
            callGK call 78 [.one (.gptr x49 0)] G53 fun v66 G67 =>
            castOne1 v66 fun c68 =>
            castN 39 3 c68 fun l69 =>
            some (.one (.sl (some ⟨4, 0, 39⟩) 3 l69), G67)) else (
            callGK call 79 [.one (.gptr x49 0), .one (.int .i64 x52.fVerb)] G53 fun v70 G71 =>
            castOne1 v70 fun c72 =>
            castN 39 3 c72 fun l73 =>
            some (.one (.sl (some ⟨4, 0, 39⟩) 3 l73), G71)))))) fun j48 =>
       bif (x19.fVerb == (1 : Int)) then (
        j48 x16 x19.fVerb true x19 G20) else (
        bif (x19.fVerb == (2 : Int)) then (
         j48 x16 x19.fVerb true x19 G20) else (
         j48 x16 x19.fVerb (x19.fVerb == (3 : Int)) x19 G20)))))) fun j10 =>
   bif (n8 == (500 : Int)) then (
    j10 a0 n8 true w6 G) else (
    bif (w6.fVerb == (3 : Int)) then (
     gB G a0 0 fun b11 =>
     bif (!b11) then (
      j10 a0 n8 true w6 G) else (
      bif (w6.fVerb == (1 : Int)) then (
       gB G a0 0 fun b12 =>
       j10 a0 n8 b12 w6 G) else (
       bif (w6.fVerb == (2 : Int)) then (
        gB G a0 0 fun b13 =>
        j10 a0 n8 b13 w6 G) else (
        j10 a0 n8 false w6 G)))) else (
     bif (w6.fVerb == (1 : Int)) then (
      gB G a0 0 fun b14 =>
      j10 a0 n8 b14 w6 G) else (
      bif (w6.fVerb == (2 : Int)) then (
       gB G a0 0 fun b15 =>
       j10 a0 n8 b15 w6 G) else (
       j10 a0 n8 false w6 G))))))
theorem f48_eq (n : Nat) (a0 : Nat) (a1 : LB) (G : Heap) : acall AXE AXF (n + 1) 48 [.one (.gptr a0 0), .one (.str a1)] G = f48_L (acall AXE AXF n) (n + 1) a0 a1 G := by kernel_rfl
def f49_L (call : CallF) (n : Nat) (a0 : Int) : OR :=
 bif (a0 == (500 : Int)) then (
  some (.one (.bool true), [])) else (
  bif (a0 == (501 : Int)) then (
   some (.one (.bool true), [])) else (
   bif (a0 == (503 : Int)) then (
    some (.one (.bool true), [])) else (
    some (.one (.bool (a0 == (555 : Int))), []))))
theorem f49_eq (n : Nat) (a0 : Int) : acall AXE AXF (n + 1) 49 [.one (.int .i64 a0)] [] = f49_L (acall AXE AXF n) (n + 1) a0 := by kernel_rfl
def f53_B0 (call : CallF) (n : Nat) (s1 : LC → Int → Int → OR) (x2 : LC) (x3 x4 : Int) : OR :=
 bif (decide (x4 < x3)) then (
  guardB (decide (0 ≤ x4) && decide ((Int.toNat x4) * 3 + 3 ≤ x2.length)) (
   takeS_api_Reply ((x2.drop ((Int.toNat x4) * 3)).take 3) fun w5 r6 =>
   callK call 32 [.agg w5.cells] fun v7 =>
   oB v7 fun b8 =>
   bif b8 then (
    some (.one (.int .i64 x4), [])) else (
    s1 x2 x3 (IntKind.wrap .i64 (x4 + (1 : Int)))))) else (
  some (.one (.int .i64 (-1 : Int)), []))
def f53_L (call : CallF) (n : Nat) (a0 : LC) : OR :=
 loopJ (α := LC → Int → Int → OR) (fun _ _ _ => none) (f53_B0 call n) n a0 (((a0).length / 3 : Nat) : Int) (0 : Int)
theorem f53_eq (n : Nat) (a0 : LC) : acall AXE AXF (n + 1) 53 [.one (.sl none 3 a0), .one (.clo 32 0 [])] [] = f53_L (acall AXE AXF n) (n + 1) a0 := by kernel_rfl
def f64_L (call : CallF) (n : Nat) (a0 : S_addr_reader) : OR :=
 callRK call 92 [.one (.ptr 0 0), .one (.clo 93 0 [])] [a0.cells] fun v1 h2 =>
 consK h2 fun r3 h4 =>
 takeS_addr_reader r3 fun w5 r6 =>
 nilK r6 (
  nilK h4 (
   oS v1 fun s7 =>
   bif (!(s7 == ([] : List UInt8))) then (
    itemK s7 (0 : Int) fun u8 =>
    bif ((UInt8.toNat u8 : Int) != (45 : Int)) then (
     itemK s7 (IntKind.wrap .i64 (((s7).length : Int) - (1 : Int))) fun u9 =>
     some (.one (.bool ((UInt8.toNat u9 : Int) != (45 : Int))), [w5.cells])) else (
     some (.one (.bool false), [w5.cells]))) else (
    some (.one (.bool false), [w5.cells]))))
theorem f64_eq (n : Nat) (a0 : S_addr_reader) : acall AXE AXF (n + 1) 64 [.one (.ptr 0 0)] [a0.cells] = f64_L (acall AXE AXF n) (n + 1) a0 := by kernel_rfl
def f65_L (call : CallF) (n : Nat) (a0 : S_addr_reader) : OR :=
 bif (a0.fat == ((a0.fs).length : Int)) then (
  some (.one (.int .u8 (0 : Int)), [a0.cells])) else (
  itemK a0.fs a0.fat fun u1 =>
  some (.one (.int .u8 (UInt8.toNat u1 : Int)), [a0.cells]))
theorem f65_eq (n : Nat) (a0 : S_addr_reader) : acall AXE AXF (n + 1) 65 [.one (.ptr 0 0)] [a0.cells] = f65_L (acall AXE AXF n) (n + 1) a0 := by kernel_rfl
def f66_B0 (call : CallF) (n : Nat) (j1 : Nat → Int → Heap → OR) (s2 : Nat → LC → Int → Heap → OR) (x3 : Nat) (x4 : LC) (x5 : Int) (G6 : Heap) : OR :=
 bif (decide (x5 < (((x4).length / 1 : Nat) : Int))) then (
  gI .i64 G6 x3 1 fun n7 =>
  bif (n7 != (5 : Int)) then (
   itemK x4 x5 fun c8 =>
   castI .u8 c8 fun n9 =>
   callGK call 96 [.one (.gptr x3 0), .one (.int .u8 n9)] G6 fun v10 G11 =>
   castTup v10 fun v12 =>
   nilK v12 (
    s2 x3 x4 (IntKind.wrap .i64 (x5 + (1 : Int))) G11)) else (
   j1 x3 x5 G6)) else (
  j1 x3 x5 G6)
def f66_L (call : CallF) (n : Nat) (a0 : Nat) (a1 : LC) (G : Heap) : OR :=
 joinK (fun (x13 : Nat) (x14 : Int) (G15 : Heap) =>
  callGK call 97 [.one (.gptr x13 0)] G15 fun v16 G17 =>
  oB v16 fun b18 =>
  some (.tup [.one (.int .i64 x14), .one (.bool b18)], G17)) fun j1 =>
 loopJ (α := Nat → LC → Int → Heap → OR) (fun _ _ _ _ => none) (f66_B0 call n j1) n a0 a1 (0 : Int) G
theorem f66_eq (n : Nat) (a0 : Nat) (a1 : LC) (G : Heap) : acall AXE AXF (n + 1) 66 [.one (.gptr a0 0), .one (.sl none 1 a1)] G = f66_L (acall AXE AXF n) (n + 1) a0 a1 G := by kernel_rfl
def f67_L (call : CallF) (n : Nat) (a0 : Nat) (G : Heap) : OR :=
 gcells 4 G a0 3 fun r1 =>
 cG 1 r1 fun l2 r3 =>
 cB r3 fun b4 r5 =>
 cB r5 fun b6 r7 =>
 cB r7 fun b8 r9 =>
 primK pBClone [.one (.sl none 1 l2)] fun v10 =>
 oL 1 v10 fun l11 =>
 some (.agg (⟨l11, b4, b6, b8⟩ : S_api_Text).cells, G)
theorem f67_eq (n : Nat) (a0 : Nat) (G : Heap) : acall AXE AXF (n + 1) 67 [.one (.gptr a0 0)] G = f67_L (acall AXE AXF n) (n + 1) a0 G := by kernel_rfl
def f74_L (call : CallF) (n : Nat) (a0 : LB) : OR :=
 joinK (fun (x4 : LB) (x5 : Bool) (x6 : S_api_Cmd) =>
  bif x5 then (
   some (.tup [.agg (⟨(0 : Int), ([] : List UInt8), ([] : List UInt8), ([] : List UInt8), false, (0 : Int), (0 : Int)⟩ : S_api_Cmd).cells, .one (.int .i64 (500 : Int))], [])) else (
   primK pCut [.one (.str x4), .one (.str ([32] : List UInt8))] fun v7 =>
   castTup v7 fun v8 =>
   zS v8 fun s9 r10 =>
   zS r10 fun s11 r12 =>
   zB r12 fun b13 r14 =>
   nilK r14 (
    callK call 103 [.one (.str s9)] fun v15 =>
    oI .i64 v15 fun n16 =>
    joinK (fun (x60 : Int) (x61 x62 : S_api_Cmd) =>
     bif (x60 != (0 : Int)) then (
      some (.tup [.agg (⟨(0 : Int), ([] : List UInt8), ([] : List UInt8), ([] : List UInt8), false, (0 : Int), (0 : Int)⟩ : S_api_Cmd).cells, .one (.int .i64 x60)], [])) else (
      some (.tup [.agg x62.cells, .one (.int .i64 (0 : Int))], []))) fun j17 =>
    bif (n16 == (0 : Int)) then (
     j17 (500 : Int) x6 (⟨n16, ([] : List UInt8), ([] : List UInt8), ([] : List UInt8), false, (-1 : Int), (0 : Int)⟩ : S_api_Cmd)) else (
     joinK (fun (x19 : LB) (x20 : Bool) (x21 x22 : Int) (x23 : Bool) (x24 x25 : S_api_Cmd) =>
      bif x23 then (
       callK call 26 [.one (.str x19)] fun v26 =>
       oB v26 fun b27 =>
       bif b27 then (
        callK call 104 [.one (.bool true)] fun v28 =>
        oI .i64 v28 fun n29 =>
        j17 n29 x24 ({ x25 with fArg := x19 } : S_api_Cmd)) else (
        callK call 105 [.one (.str x19)] fun v30 =>
        oB v30 fun b31 =>
        callK call 104 [.one (.bool b31)] fun v32 =>
        oI .i64 v32 fun n33 =>
        j17 n33 x24 ({ x25 with fArg := x19 } : S_api_Cmd))) else (
       bif (x22 == (4 : Int)) then (
        callRK call 106 [.one (.ptr 0 0), .one (.str x19), .one (.str ([70, 82, 79, 77, 58] : List UInt8)), .one (.bool true)] [x25.cells] fun v34 h35 =>
        consK h35 fun r36 h37 =>
        takeS_api_Cmd r36 fun w38 r39 =>
        nilK r39 (
         nilK h37 (
          oI .i64 v34 fun n40 =>
          j17 n40 x24 w38))) else (
        bif (x22 == (5 : Int)) then (
         callRK call 106 [.one (.ptr 0 0), .one (.str x19), .one (.str ([84, 79, 58] : List UInt8)), .one (.bool false)] [x25.cells] fun v41 h42 =>
         consK h42 fun r43 h44 =>
         takeS_api_Cmd r43 fun w45 r46 =>
         nilK r46 (
          nilK h44 (
           oI .i64 v41 fun n47 =>
           j17 n47 x24 w45))) else (
         joinK (fun (x49 : LB) (x50 : Bool) (x51 x52 : Int) (x53 : Bool) (x54 x55 : S_api_Cmd) =>
          bif x53 then (
           callK call 104 [.one (.bool (!x50))] fun v56 =>
           oI .i64 v56 fun n57 =>
           j17 n57 x54 x55) else (
           bif (x52 == (10 : Int)) then (
            callK call 104 [.one (.bool (!(x49 == ([] : List UInt8))))] fun v58 =>
            oI .i64 v58 fun n59 =>
            j17 n59 x54 ({ x55 with fArg := x49 } : S_api_Cmd)) else (
            j17 x51 x54 ({ x55 with fArg := x49 } : S_api_Cmd)))) fun j48 =>
         bif (x22 == (6 : Int)) then (
          j48 x19 x20 x21 x22 true x24 x25) else (
          bif (x22 == (7 : Int)) then (
           j48 x19 x20 x21 x22 true x24 x25) else (
           j48 x19 x20 x21 x22 (x22 == (9 : Int)) x24 x25)))))) fun j18 =>
     bif (n16 == (1 : Int)) then (
      j18 s11 b13 (0 : Int) n16 true x6 (⟨n16, ([] : List UInt8), ([] : List UInt8), ([] : List UInt8), false, (-1 : Int), (0 : Int)⟩ : S_api_Cmd)) else (
      bif (n16 == (2 : Int)) then (
       j18 s11 b13 (0 : Int) n16 true x6 (⟨n16, ([] : List UInt8), ([] : List UInt8), ([] : List UInt8), false, (-1 : Int), (0 : Int)⟩ : S_api_Cmd)) else (
       j18 s11 b13 (0 : Int) n16 (n16 == (3 : Int)) x6 (⟨n16, ([] : List UInt8), ([] : List UInt8), ([] : List UInt8), false, (-1 : Int), (0 : Int)⟩ : S_api_Cmd))))))) fun j1 =>
 bif (decide (((a0).length : Int) > (510 : Int))) then (
  j1 a0 true (⟨(0 : Int), ([] : List UInt8), ([] : List UInt8), ([] : List UInt8), false, (0 : Int), (0 : Int)⟩ : S_api_Cmd)) else (
  callK call 101 [.one (.str a0)] fun v2 =>
  oB v2 fun b3 =>
  j1 a0 (!b3) (⟨(0 : Int), ([] : List UInt8), ([] : List UInt8), ([] : List UInt8), false, (0 : Int), (0 : Int)⟩ : S_api_Cmd))
theorem f74_eq (n : Nat) (a0 : LB) : acall AXE AXF (n + 1) 74 [.one (.str a0)] [] = f74_L (acall AXE AXF n) (n + 1) a0 := by kernel_rfl
def f75_L (call : CallF) (n : Nat) (a0 : Nat) (a1 : Int) (G : Heap) : OR :=
 gset G a0 3 (.bool true) fun G1 =>
 callGK call 34 [.one (.gptr a0 0)] G1 fun v2 G3 =>
 castTup v2 fun v4 =>
 nilK v4 (
  gS G3 a0 1 fun s5 =>
  callK call 38 [.one (.int .i64 (250 : Int)), .one (.str ([] : List UInt8)), .one (.str s5)] fun v6 =>
  castAgg v6 fun r7 =>
  cI .i64 r7 fun n8 r9 =>
  cS r9 fun s10 r11 =>
  consK r11 fun c12 r13 =>
  castN 9 1 c12 fun l14 =>
  nilK r13 (
   joinK (fun (x16 : Int) (x17 : LB) (x18 : LC) (G19 : Heap) =>
    some (.one (.sl (some ⟨4, 0, 39⟩) 3 ([.int .i64 x16, .str x17, .sl none 1 x18] : List Cell)), G19)) fun j15 =>
   bif (a1 != (1 : Int)) then (
    guardB (decide (((l14).length + (([.str ([80, 73, 80, 69, 76, 73, 78, 73, 78, 71] : List UInt8), .str ([83, 73, 90, 69, 32, 51, 50, 55, 54, 56] : List UInt8), .str ([56, 66, 73, 84, 77, 73, 77, 69] : List UInt8), .str ([69, 78, 72, 65, 78, 67, 69, 68, 83, 84, 65, 84, 85, 83, 67, 79, 68, 69, 83] : List UInt8)] : List Cell)).length) * 1000 ≤ rowLim)) (
     j15 n8 s10 (l14 ++ ([.str ([80, 73, 80, 69, 76, 73, 78, 73, 78, 71] : List UInt8), .str ([83, 73, 90, 69, 32, 51, 50, 55, 54, 56] : List UInt8), .str ([56, 66, 73, 84, 77, 73, 77, 69] : List UInt8), .str ([69, 78, 72, 65, 78, 67, 69, 68, 83, 84, 65, 84, 85, 83, 67, 79, 68, 69, 83] : List UInt8)] : List Cell)) G3)) else (
    j15 n8 s10 l14 G3)))
theorem f75_eq (n : Nat) (a0 : Nat) (a1 : Int) (G : Heap) : acall AXE AXF (n + 1) 75 [.one (.gptr a0 0), .one (.int .i64 a1)] G = f75_L (acall AXE AXF n) (n + 1) a0 a1 G := by kernel_rfl
def f76_L (call : CallF) (n : Nat) (a0 : Nat) (a1 : S_api_Cmd) (G : Heap) : OR :=
 joinK (fun (x5 : Nat) (x6 : Bool) (x7 : S_api_Cmd) (G8 : Heap) =>
  bif x6 then (
   callK call 107 [] fun v9 =>
   castOne1 v9 fun c10 =>
   castN 39 3 c10 fun l11 =>
   some (.one (.sl (some ⟨4, 0, 39⟩) 3 l11), G8)) else (
   bif (decide (x7.fSize > (32768 : Int))) then (
    callK call 38 [.one (.int .i64 (552 : Int)), .one (.str ([53, 46, 51, 46, 52] : List UInt8)), .one (.str ([116, 111, 111, 32, 108, 97, 114, 103, 101] : List UInt8))] fun v12 =>
    castAgg v12 fun r13 =>
    cI .i64 r13 fun n14 r15 =>
    cS r15 fun s16 r17 =>
    consK r17 fun c18 r19 =>
    castN 9 1 c18 fun l20 =>
    nilK r19 (
     some (.one (.sl (some ⟨4, 0, 39⟩) 3 ([.int .i64 n14, .str s16, .sl none 1 l20] : List Cell)), G8))) else (
    gnew G8 ((⟨x7.fPath_Local, x7.fPath_Domain, x7.fSize⟩ : S_proto_sender).cells) fun b21 G22 =>
    gset G22 x5 4 (.gptr b21 0) fun G23 =>
    callK call 38 [.one (.int .i64 (250 : Int)), .one (.str ([50, 46, 49, 46, 48] : List UInt8)), .one (.str ([111, 107] : List UInt8))] fun v24 =>
    castAgg v24 fun r25 =>
    cI .i64 r25 fun n26 r27 =>
    cS r27 fun s28 r29 =>
    consK r29 fun c30 r31 =>
    castN 9 1 c30 fun l32 =>
    nilK r31 (
     some (.one (.sl (some ⟨4, 0, 39⟩) 3 ([.int .i64 n26, .str s28, .sl none 1 l32] : List Cell)), G23))))) fun j1 =>
 gB G a0 3 fun b2 =>
 bif (!b2) then (
  j1 a0 true a1 G) else (
  gP G a0 4 (
   j1 a0 false a1 G) fun b3 o4 =>
  j1 a0 true a1 G)
theorem f76_eq (n : Nat) (a0 : Nat) (a1 : S_api_Cmd) (G : Heap) : acall AXE AXF (n + 1) 76 [.one (.gptr a0 0), .agg a1.cells] G = f76_L (acall AXE AXF n) (n + 1) a0 a1 G := by kernel_rfl
def f77_L (call : CallF) (n : Nat) (a0 : Nat) (a1 : S_api_Cmd) (G : Heap) : OR :=
 joinK (fun (x4 : Nat) (x5 : Bool) (x6 : S_api_Cmd) (G7 : Heap) =>
  bif x5 then (
   callK call 107 [] fun v8 =>
   castOne1 v8 fun c9 =>
   castN 39 3 c9 fun l10 =>
   some (.one (.sl (some ⟨4, 0, 39⟩) 3 l10), G7)) else (
   gL 2 G7 x4 5 fun l11 =>
   bif (decide ((((l11).length / 2 : Nat) : Int) ≥ (20 : Int))) then (
    callK call 38 [.one (.int .i64 (452 : Int)), .one (.str ([52, 46, 53, 46, 51] : List UInt8)), .one (.str ([116, 111, 111, 32, 109, 97, 110, 121] : List UInt8))] fun v12 =>
    castAgg v12 fun r13 =>
    cI .i64 r13 fun n14 r15 =>
    cS r15 fun s16 r17 =>
    consK r17 fun c18 r19 =>
    castN 9 1 c18 fun l20 =>
    nilK r19 (
     some (.one (.sl (some ⟨4, 0, 39⟩) 3 ([.int .i64 n14, .str s16, .sl none 1 l20] : List Cell)), G7))) else (
    gP G7 x4 4 (
     none) fun b21 o22 =>
    gcells 2 G7 b21 (o22 + 0) fun r23 =>
    cS r23 fun s24 r25 =>
    cS r25 fun s26 r27 =>
    gP G7 x4 4 (
     none) fun b28 o29 =>
    gI .i64 G7 b28 (o29 + 2) fun n30 =>
    gsets G7 x4 7 ((⟨(1 : Int), s24, s26, x6.fPath_Local, x6.fPath_Domain, n30, ([] : List Cell), ([] : List Cell)⟩ : S_api_Ask).cells) fun G31 =>
    some (.one (.sl (some ⟨4, 0, 39⟩) 3 ([] : List Cell)), G31)))) fun j1 =>
 gP G a0 4 (
  j1 a0 true a1 G) fun b2 o3 =>
 j1 a0 false a1 G
theorem f77_eq (n : Nat) (a0 : Nat) (a1 : S_api_Cmd) (G : Heap) : acall AXE AXF (n + 1) 77 [.one (.gptr a0 0), .agg a1.cells] G = f77_L (acall AXE AXF n) (n + 1) a0 a1 G := by kernel_rfl
def f78_L (call : CallF) (n : Nat) (a0 : Nat) (G : Heap) : OR :=
 joinK (fun (x4 : Nat) (x5 : Bool) (G6 : Heap) =>
  bif x5 then (
   callK call 107 [] fun v7 =>
   castOne1 v7 fun c8 =>
   castN 39 3 c8 fun l9 =>
   some (.one (.sl (some ⟨2, 0, 39⟩) 3 l9), G6)) else (
   gL 2 G6 x4 5 fun l10 =>
   bif ((((l10).length / 2 : Nat) : Int) == (0 : Int)) then (
    callK call 38 [.one (.int .i64 (554 : Int)), .one (.str ([53, 46, 53, 46, 49] : List UInt8)), .one (.str ([110, 111, 32, 114, 101, 99, 105, 112, 105, 101, 110, 116, 115] : List UInt8))] fun v11 =>
    castAgg v11 fun r12 =>
    cI .i64 r12 fun n13 r14 =>
    cS r14 fun s15 r16 =>
    consK r16 fun c17 r18 =>
    castN 9 1 c17 fun l19 =>
    nilK r18 (
     some (.one (.sl (some ⟨2, 0, 39⟩) 3 ([.int .i64 n13, .str s15, .sl none 1 l19] : List Cell)), G6))) else (
    joinK (fun (G27 : Heap) =>
     callK call 38 [.one (.int .i64 (354 : Int)), .one (.str ([] : List UInt8)), .one (.str ([103, 111, 32, 111, 110] : List UInt8))] fun v28 =>
     castAgg v28 fun r29 =>
     cI .i64 r29 fun n30 r31 =>
     cS r31 fun s32 r33 =>
     consK r33 fun c34 r35 =>
     castN 9 1 c34 fun l36 =>
     nilK r35 (
      some (.one (.sl (some ⟨2, 0, 39⟩) 3 ([.int .i64 n30, .str s32, .sl none 1 l36] : List Cell)), G27))) fun j20 =>
    callGK call 108 [.one (.int .i64 (32768 : Int))] G6 fun v21 G22 =>
    oP v21 (
     gset G22 x4 6 .nilp fun G25 =>
     j20 G25) fun b23 o24 =>
    gset G22 x4 6 (.gptr b23 o24) fun G26 =>
    j20 G26))) fun j1 =>
 gP G a0 4 (
  j1 a0 true G) fun b2 o3 =>
 j1 a0 false G
theorem f78_eq (n : Nat) (a0 : Nat) (G : Heap) : acall AXE AXF (n + 1) 78 [.one (.gptr a0 0)] G = f78_L (acall AXE AXF n) (n + 1) a0 G := by kernel_rfl
def f79_L (call : CallF) (n : Nat) (a0 : Nat) (a1 : Int) (G : Heap) : OR :=
 joinK (fun (G33 : Heap) =>
  callK call 38 [.one (.int .i64 (250 : Int)), .one (.str ([50, 46, 48, 46, 48] : List UInt8)), .one (.str ([111, 107] : List UInt8))] fun v34 =>
  castAgg v34 fun r35 =>
  cI .i64 r35 fun n36 r37 =>
  cS r37 fun s38 r39 =>
  consK r39 fun c40 r41 =>
  castN 9 1 c40 fun l42 =>
  nilK r41 (
   some (.one (.sl (some ⟨4, 0, 39⟩) 3 ([.int .i64 n36, .str s38, .sl none 1 l42] : List Cell)), G33))) fun j1 =>
 bif (a1 == (7 : Int)) then (
  callGK call 34 [.one (.gptr a0 0)] G fun v2 G3 =>
  castTup v2 fun v4 =>
  nilK v4 (
   j1 G3)) else (
  bif (a1 == (10 : Int)) then (
   callK call 38 [.one (.int .i64 (252 : Int)), .one (.str ([50, 46, 53, 46, 48] : List UInt8)), .one (.str ([112, 101, 114, 104, 97, 112, 115] : List UInt8))] fun v5 =>
   castAgg v5 fun r6 =>
   cI .i64 r6 fun n7 r8 =>
   cS r8 fun s9 r10 =>
   consK r10 fun c11 r12 =>
   castN 9 1 c11 fun l13 =>
   nilK r12 (
    some (.one (.sl (some ⟨4, 0, 39⟩) 3 ([.int .i64 n7, .str s9, .sl none 1 l13] : List Cell)), G))) else (
   bif (a1 == (11 : Int)) then (
    callK call 38 [.one (.int .i64 (214 : Int)), .one (.str ([50, 46, 48, 46, 48] : List UInt8)), .one (.str ([110, 111, 110, 101] : List UInt8))] fun v14 =>
    castAgg v14 fun r15 =>
    cI .i64 r15 fun n16 r17 =>
    cS r17 fun s18 r19 =>
    consK r19 fun c20 r21 =>
    castN 9 1 c20 fun l22 =>
    nilK r21 (
     some (.one (.sl (some ⟨4, 0, 39⟩) 3 ([.int .i64 n16, .str s18, .sl none 1 l22] : List Cell)), G))) else (
    bif (a1 == (9 : Int)) then (
     gset G a0 16 (.bool true) fun G23 =>
     callK call 38 [.one (.int .i64 (221 : Int)), .one (.str ([50, 46, 48, 46, 48] : List UInt8)), .one (.str ([98, 121, 101] : List UInt8))] fun v24 =>
     castAgg v24 fun r25 =>
     cI .i64 r25 fun n26 r27 =>
     cS r27 fun s28 r29 =>
     consK r29 fun c30 r31 =>
     castN 9 1 c30 fun l32 =>
     nilK r31 (
      some (.one (.sl (some ⟨4, 0, 39⟩) 3 ([.int .i64 n26, .str s28, .sl none 1 l32] : List Cell)), G23))) else (
     j1 G))))
theorem f79_eq (n : Nat) (a0 : Nat) (a1 : Int) (G : Heap) : acall AXE AXF (n + 1) 79 [.one (.gptr a0 0), .one (.int .i64 a1)] G = f79_L (acall AXE AXF n) (n + 1) a0 a1 G := by kernel_rfl
def f32_L (call : CallF) (n : Nat) (a0 : S_api_Reply) : OR :=
 primK pGood [.agg a0.cells] fun v1 =>
 oB v1 fun b2 =>
 some (.one (.bool (!b2)), [])
theorem f32_eq (n : Nat) (a0 : S_api_Reply) : acall AXE AXF (n + 1) 32 [.agg a0.cells] [] = f32_L (acall AXE AXF n) (n + 1) a0 := by kernel_rfl
def f92_B0 (call : CallF) (n : Nat) (j1 : Int → S_addr_reader → OR) (s2 : Int → S_addr_reader → OR) (x3 : Int) (x4 : S_addr_reader) : OR :=
 bif (decide (x4.fat < ((x4.fs).length : Int))) then (
  itemK x4.fs x4.fat fun u5 =>
  callK call 93 [.one (.int .u8 (UInt8.toNat u5 : Int))] fun v6 =>
  oB v6 fun b7 =>
  bif b7 then (
   s2 x3 ({ x4 with fat := (IntKind.wrap .i64 (x4.fat + (1 : Int))) } : S_addr_reader)) else (
   j1 x3 x4)) else (
  j1 x3 x4)
def f92_L (call : CallF) (n : Nat) (a0 : S_addr_reader) : OR :=
 joinK (fun (x8 : Int) (x9 : S_addr_reader) =>
  bif decide (0 ≤ x8 ∧ x8 ≤ x9.fat ∧ (Int.toNat x9.fat) ≤ (x9.fs).length) then (
   some (.one (.str ((x9.fs.take (Int.toNat x9.fat)).drop (Int.toNat x8))), [x9.cells])) else none) fun j1 =>
 loopJ (α := Int → S_addr_reader → OR) (fun _ _ => none) (f92_B0 call n j1) n a0.fat a0
theorem f92_eq (n : Nat) (a0 : S_addr_reader) : acall AXE AXF (n + 1) 92 [.one (.ptr 0 0), .one (.clo 93 0 [])] [a0.cells] = f92_L (acall AXE AXF n) (n + 1) a0 := by kernel_rfl
def f92_1_B0 (call : CallF) (n : Nat) (j1 : Int → S_addr_reader → OR) (s2 : Int → S_addr_reader → OR) (x3 : Int) (x4 : S_addr_reader) : OR :=
 bif (decide (x4.fat < ((x4.fs).length : Int))) then (
  itemK x4.fs x4.fat fun u5 =>
  callK call 208 [.one (.int .u8 (UInt8.toNat u5 : Int))] fun v6 =>
  oB v6 fun b7 =>
  bif b7 then (
   s2 x3 ({ x4 with fat := (IntKind.wrap .i64 (x4.fat + (1 : Int))) } : S_addr_reader)) else (
   j1 x3 x4)) else (
  j1 x3 x4)
def f92_1_L (call : CallF) (n : Nat) (a0 : S_addr_reader) : OR :=
 joinK (fun (x8 : Int) (x9 : S_addr_reader) =>
  bif decide (0 ≤ x8 ∧ x8 ≤ x9.fat ∧ (Int.toNat x9.fat) ≤ (x9.fs).length) then (
   some (.one (.str ((x9.fs.take (Int.toNat x9.fat)).drop (Int.toNat x8))), [x9.cells])) else none) fun j1 =>
 loopJ (α := Int → S_addr_reader → OR) (fun _ _ => none) (f92_1_B0 call n j1) n a0.fat a0
theorem f92_1_eq (n : Nat) (a0 : S_addr_reader) : acall AXE AXF (n + 1) 92 [.one (.ptr 0 0), .one (.clo 208 0 [])] [a0.cells] = f92_1_L (acall AXE AXF n) (n + 1) a0 := by kernel_rfl
def f96_L (call : CallF) (n : Nat) (a0 : Nat) (a1 : Int) (G : Heap) : OR :=
 gI .i64 G a0 1 fun n1 =>
 joinK (fun (x25 : Nat) (x26 : Int) (G27 : Heap) =>
  callGK call 121 [.one (.gptr x25 0), .one (.int .u8 x26)] G27 fun v28 G29 =>
  castTup v28 fun v30 =>
  nilK v30 (
   some (.tup [], G29))) fun j2 =>
 bif (n1 == (0 : Int)) then (
  gset G a0 2 (.int .i64 (0 : Int)) fun G3 =>
  bif (a1 == (46 : Int)) then (
   gset G3 a0 1 (.int .i64 (1 : Int)) fun G4 =>
   some (.tup [], G4)) else (
   callGK call 121 [.one (.gptr a0 0), .one (.int .u8 a1)] G3 fun v5 G6 =>
   castTup v5 fun v7 =>
   nilK v7 (
    some (.tup [], G6)))) else (
  bif (n1 == (1 : Int)) then (
   bif (a1 == (13 : Int)) then (
    gset G a0 1 (.int .i64 (2 : Int)) fun G8 =>
    some (.tup [], G8)) else (
    j2 a0 a1 G)) else (
   bif (n1 == (3 : Int)) then (
    j2 a0 a1 G) else (
    bif (n1 == (2 : Int)) then (
     bif (a1 == (10 : Int)) then (
      gset G a0 1 (.int .i64 (5 : Int)) fun G9 =>
      some (.tup [], G9)) else (
      gset G a0 5 (.bool true) fun G10 =>
      callGK call 122 [.one (.gptr a0 0), .one (.sl none 1 ([.int .u8 (13 : Int)] : List Cell))] G10 fun v11 G12 =>
      castTup v11 fun v13 =>
      nilK v13 (
       callGK call 121 [.one (.gptr a0 0), .one (.int .u8 a1)] G12 fun v14 G15 =>
       castTup v14 fun v16 =>
       nilK v16 (
        some (.tup [], G15))))) else (
     bif (n1 == (4 : Int)) then (
      bif (a1 == (10 : Int)) then (
       callGK call 122 [.one (.gptr a0 0), .one (.sl none 1 ([.int .u8 (10 : Int)] : List Cell))] G fun v17 G18 =>
       castTup v17 fun v19 =>
       nilK v19 (
        gset G18 a0 1 (.int .i64 (0 : Int)) fun G20 =>
        some (.tup [], G20))) else (
       gset G a0 5 (.bool true) fun G21 =>
       callGK call 121 [.one (.gptr a0 0), .one (.int .u8 a1)] G21 fun v22 G23 =>
       castTup v22 fun v24 =>
       nilK v24 (
        some (.tup [], G23)))) else (
      some (.tup [], G))))))
theorem f96_eq (n : Nat) (a0 : Nat) (a1 : Int) (G : Heap) : acall AXE AXF (n + 1) 96 [.one (.gptr a0 0), .one (.int .u8 a1)] G = f96_L (acall AXE AXF n) (n + 1) a0 a1 G := by kernel_rfl
def f97_L (call : CallF) (n : Nat) (a0 : Nat) (G : Heap) : OR :=
 gI .i64 G a0 1 fun n1 =>
 some (.one (.bool (n1 == (5 : Int))), G)
theorem f97_eq (n : Nat) (a0 : Nat) (G : Heap) : acall AXE AXF (n + 1) 97 [.one (.gptr a0 0)] G = f97_L (acall AXE AXF n) (n + 1) a0 G := by kernel_rfl
def f101_B0 (call : CallF) (n : Nat) (s1 : LC → Int → Int → OR) (x2 : LC) (x3 x4 : Int) : OR :=
 bif (decide (x4 < x3)) then (
  itemK x2 x4 fun c5 =>
  castI .u8 c5 fun n6 =>
  joinK (fun (x8 : LC) (x9 x10 : Int) (x11 : Bool) =>
   bif x11 then (
    some (.one (.bool false), [])) else (
    s1 x8 x9 (IntKind.wrap .i64 (x10 + (1 : Int))))) fun j7 =>
  bif (decide (n6 < (32 : Int))) then (
   j7 x2 x3 x4 true) else (
   j7 x2 x3 x4 (decide (n6 > (126 : Int))))) else (
  some (.one (.bool true), []))
def f101_L (call : CallF) (n : Nat) (a0 : LB) : OR :=
 loopJ (α := LC → Int → Int → OR) (fun _ _ _ => none) (f101_B0 call n) n (byteCells a0) ((((byteCells a0)).length / 1 : Nat) : Int) (0 : Int)
theorem f101_eq (n : Nat) (a0 : LB) : acall AXE AXF (n + 1) 101 [.one (.str a0)] [] = f101_L (acall AXE AXF n) (n + 1) a0 := by kernel_rfl
def f103_B0 (call : CallF) (n : Nat) (s5 : LB → LC → Int → Int → OR) (x6 : LB) (x7 : LC) (x8 x9 : Int) : OR :=
 bif (decide (x9 < x8)) then (
  itemK x7 x9 fun c10 =>
  castS c10 fun s11 =>
  joinK (fun (x13 : LB) (x14 : Int) (x15 : LC) (x16 x17 : Int) (x18 : Bool) =>
   bif x18 then (
    some (.one (.int .i64 x14), [])) else (
    s5 x13 x15 x16 (IntKind.wrap .i64 (x17 + (1 : Int))))) fun j12 =>
  bif (decide (x9 > (0 : Int))) then (
   j12 x6 x9 x7 x8 x9 (s11 == x6)) else (
   j12 x6 x9 x7 x8 x9 false)) else (
  some (.one (.int .i64 (0 : Int)), []))
def f103_L (call : CallF) (n : Nat) (a0 : LB) : OR :=
 callK call 126 [.one (.str a0)] fun v1 =>
 oS v1 fun s2 =>
 callK call 127 [] fun v3 =>
 oL 1 v3 fun l4 =>
 loopJ (α := LB → LC → Int → Int → OR) (fun _ _ _ _ => none) (f103_B0 call n) n s2 l4 (((l4).length / 1 : Nat) : Int) (0 : Int)
theorem f103_eq (n : Nat) (a0 : LB) : acall AXE AXF (n + 1) 103 [.one (.str a0)] [] = f103_L (acall AXE AXF n) (n + 1) a0 := by kernel_rfl
def f104_L (call : CallF) (n : Nat) (a0 : Bool) : OR :=
 bif a0 then (
  some (.one (.int .i64 (0 : Int)), [])) else (
  some (.one (.int .i64 (501 : Int)), []))
theorem f104_eq (n : Nat) (a0 : Bool) : acall AXE AXF (n + 1) 104 [.one (.bool a0)] [] = f104_L (acall AXE AXF n) (n + 1) a0 := by kernel_rfl
def f105_L (call : CallF) (n : Nat) (a0 : LB) : OR :=
 joinK (fun (x4 : LB) (x5 : Bool) =>
  bif x5 then (
   some (.one (.bool false), [])) else (
   bif decide (0 ≤ (1 : Int) ∧ (1 : Int) ≤ (IntKind.wrap .i64 (((x4).length : Int) - (1 : Int))) ∧ (Int.toNat (IntKind.wrap .i64 (((x4).length : Int) - (1 : Int)))) ≤ (x4).length) then (
    primK pContains [.one (.str ((x4.take (Int.toNat (IntKind.wrap .i64 (((x4).length : Int) - (1 : Int))))).drop (Int.toNat (1 : Int)))), .one (.str ([91, 93, 92, 32] : List UInt8))] fun v6 =>
    oB v6 fun b7 =>
    some (.one (.bool (!b7)), [])) else none)) fun j1 =>
 bif (decide (((a0).length : Int) < (3 : Int))) then (
  j1 a0 true) else (
  itemK a0 (0 : Int) fun u2 =>
  bif ((UInt8.toNat u2 : Int) != (91 : Int)) then (
   j1 a0 true) else (
   itemK a0 (IntKind.wrap .i64 (((a0).length : Int) - (1 : Int))) fun u3 =>
   j1 a0 ((UInt8.toNat u3 : Int) != (93 : Int))))
theorem f105_eq (n : Nat) (a0 : LB) : acall AXE AXF (n + 1) 105 [.one (.str a0)] [] = f105_L (acall AXE AXF n) (n + 1) a0 := by kernel_rfl
def f106_L (call : CallF) (n : Nat) (a0 : S_api_Cmd) (a1 a2 : LB) (a3 : Bool) : OR :=
 joinK (fun (x4 x5 : LB) (x6 x7 : Bool) (x8 : S_api_Cmd) =>
  bif x7 then (
   some (.one (.int .i64 (501 : Int)), [x8.cells])) else (
   bif decide (0 ≤ ((x5).length : Int) ∧ (Int.toNat ((x5).length : Int)) ≤ (x4).length) then (
    callK call 129 [.one (.str ((x4.take (x4).length).drop (Int.toNat ((x5).length : Int)))), .one (.bool x6)] fun v9 =>
    castTup v9 fun v10 =>
    consK v10 fun z11 r12 =>
    aggV z11 fun r13 =>
    cS r13 fun s14 r15 =>
    cS r15 fun s16 r17 =>
    nilK r17 (
     zI .i64 r12 fun n18 r19 =>
     zI .i64 r19 fun n20 r21 =>
     nilK r21 (
      bif (n20 != (0 : Int)) then (
       some (.one (.int .i64 (501 : Int)), [x8.cells])) else (
       bif decide (0 ≤ n18 ∧ (Int.toNat n18) ≤ (((x4.take (x4).length).drop (Int.toNat ((x5).length : Int)))).length) then (
        bif (((((x4.take (x4).length).drop (Int.toNat ((x5).length : Int))).take (((x4.take (x4).length).drop (Int.toNat ((x5).length : Int)))).length).drop (Int.toNat n18)) == ([] : List UInt8)) then (
         some (.one (.int .i64 (0 : Int)), [({ x8 with fPath_Local := s14, fPath_Domain := s16, fNull := ((s14 == ([] : List UInt8)) && ((s16 == ([] : List UInt8)) && true)) } : S_api_Cmd).cells])) else (
         itemK ((((x4.take (x4).length).drop (Int.toNat ((x5).length : Int))).take (((x4.take (x4).length).drop (Int.toNat ((x5).length : Int)))).length).drop (Int.toNat n18)) (0 : Int) fun u22 =>
         bif ((UInt8.toNat u22 : Int) != (32 : Int)) then (
          some (.one (.int .i64 (501 : Int)), [({ x8 with fPath_Local := s14, fPath_Domain := s16, fNull := ((s14 == ([] : List UInt8)) && ((s16 == ([] : List UInt8)) && true)) } : S_api_Cmd).cells])) else (
          bif decide (0 ≤ (1 : Int) ∧ (Int.toNat (1 : Int)) ≤ (((((x4.take (x4).length).drop (Int.toNat ((x5).length : Int))).take (((x4.take (x4).length).drop (Int.toNat ((x5).length : Int)))).length).drop (Int.toNat n18))).length) then (
           primK pSplit [.one (.str ((((((x4.take (x4).length).drop (Int.toNat ((x5).length : Int))).take (((x4.take (x4).length).drop (Int.toNat ((x5).length : Int)))).length).drop (Int.toNat n18)).take (((((x4.take (x4).length).drop (Int.toNat ((x5).length : Int))).take (((x4.take (x4).length).drop (Int.toNat ((x5).length : Int)))).length).drop (Int.toNat n18))).length).drop (Int.toNat (1 : Int)))), .one (.str ([32] : List UInt8))] fun v23 =>
           oL 1 v23 fun l24 =>
           callRK call 130 [.one (.ptr 0 0), .one (.sl none 1 l24)] [({ x8 with fPath_Local := s14, fPath_Domain := s16, fNull := ((s14 == ([] : List UInt8)) && ((s16 == ([] : List UInt8)) && true)) } : S_api_Cmd).cells] fun v25 h26 =>
           consK h26 fun r27 h28 =>
           takeS_api_Cmd r27 fun w29 r30 =>
           nilK r30 (
            nilK h28 (
             oI .i64 v25 fun n31 =>
             some (.one (.int .i64 n31), [w29.cells])))) else none))) else none)))) else none)) fun j1 =>
 bif (decide (((a1).length : Int) < ((a2).length : Int))) then (
  j1 a1 a2 a3 true a0) else (
  bif decide (0 ≤ ((a2).length : Int) ∧ (Int.toNat ((a2).length : Int)) ≤ (a1).length) then (
   callK call 126 [.one (.str ((a1.take (Int.toNat ((a2).length : Int))).drop 0))] fun v2 =>
   oS v2 fun s3 =>
   j1 a1 a2 a3 (!(s3 == a2)) a0) else none)
theorem f106_eq (n : Nat) (a0 : S_api_Cmd) (a1 a2 : LB) (a3 : Bool) : acall AXE AXF (n + 1) 106 [.one (.ptr 0 0), .one (.str a1), .one (.str a2), .one (.bool a3)] [a0.cells] = f106_L (acall AXE AXF n) (n + 1) a0 a1 a2 a3 := by kernel_rfl
def f107_L (call : CallF) (n : Nat) : OR :=
 callK call 38 [.one (.int .i64 (503 : Int)), .one (.str ([53, 46, 53, 46, 49] : List UInt8)), .one (.str ([110, 111, 116, 32, 110, 111, 119] : List UInt8))] fun v1 =>
 castAgg v1 fun r2 =>
 cI .i64 r2 fun n3 r4 =>
 cS r4 fun s5 r6 =>
 consK r6 fun c7 r8 =>
 castN 9 1 c7 fun l9 =>
 nilK r8 (
  some (.one (.sl (some ⟨0, 0, 39⟩) 3 ([.int .i64 n3, .str s5, .sl none 1 l9] : List Cell)), []))
theorem f107_eq (n : Nat) : acall AXE AXF (n + 1) 107 [] [] = f107_L (acall AXE AXF n) (n + 1) := by kernel_rfl
def f108_L (call : CallF) (n : Nat) (a0 : Int) (G : Heap) : OR :=
 gnew G ([.int .i64 (maxI a0 (0 : Int)), .int .i64 (0 : Int), .int .i64 (0 : Int), .own 5 1 ([] : List Cell), .bool false, .bool false, .bool false]) fun b1 G2 =>
 some (.one (.gptr b1 0), G2)
theorem f108_eq (n : Nat) (a0 : Int) (G : Heap) : acall AXE AXF (n + 1) 108 [.one (.int .i64 a0)] G = f108_L (acall AXE AXF n) (n + 1) a0 G := by kernel_rfl
def f93_L (call : CallF) (n : Nat) (a0 : Int) : OR :=
 callK call 94 [.one (.int .u8 a0)] fun v1 =>
 oB v1 fun b2 =>
 bif b2 then (
  some (.one (.bool true), [])) else (
  callK call 95 [.one (.int .u8 a0)] fun v3 =>
  oB v3 fun b4 =>
  bif b4 then (
   some (.one (.bool true), [])) else (
   some (.one (.bool (a0 == (45 : Int))), [])))
theorem f93_eq (n : Nat) (a0 : Int) : acall AXE AXF (n + 1) 93 [.one (.int .u8 a0)] [] = f93_L (acall AXE AXF n) (n + 1) a0 := by kernel_rfl
def f121_L (call : CallF) (n : Nat) (a0 : Nat) (a1 : Int) (G : Heap) : OR :=
 callGK call 122 [.one (.gptr a0 0), .one (.sl none 1 ([.int .u8 a1] : List Cell))] G fun v1 G2 =>
 castTup v1 fun v3 =>
 nilK v3 (
  gset G2 a0 1 (.int .i64 (3 : Int)) fun G4 =>
  bif (a1 == (13 : Int)) then (
   gset G4 a0 1 (.int .i64 (4 : Int)) fun G5 =>
   some (.tup [], G5)) else (
   bif (a1 == (10 : Int)) then (
    gset G4 a0 5 (.bool true) fun G6 =>
    some (.tup [], G6)) else (
    some (.tup [], G4))))
theorem f121_eq (n : Nat) (a0 : Nat) (a1 : Int) (G : Heap) : acall AXE AXF (n + 1) 121 [.one (.gptr a0 0), .one (.int .u8 a1)] G = f121_L (acall AXE AXF n) (n + 1) a0 a1 G := by kernel_rfl
def f122_B0 (call : CallF) (n : Nat) (s1 : Nat → LC → Int → Int → Heap → OR) (x2 : Nat) (x3 : LC) (x4 x5 : Int) (G6 : Heap) : OR :=
 bif (decide (x5 < x4)) then (
  joinK (fun (x27 : Nat) (x28 : LC) (x29 x30 : Int) (G31 : Heap) =>
   s1 x27 x28 x29 (IntKind.wrap .i64 (x30 + (1 : Int))) G31) fun j7 =>
  itemK x3 x5 fun c8 =>
  castI .u8 c8 fun n9 =>
  joinK (fun (x15 : Nat) (x16 : Int) (x17 : LC) (x18 x19 : Int) (G20 : Heap) =>
   gL 1 G20 x15 3 fun l21 =>
   gI .i64 G20 x15 0 fun n22 =>
   bif ((((l21).length / 1 : Nat) : Int) == n22) then (
    gset G20 x15 6 (.bool true) fun G23 =>
    j7 x15 x17 x18 x19 G23) else (
    gtake 5 1 G20 x15 3 fun l24 G25 =>
    guardB (decide (((l24).length + (([.int .u8 x16] : List Cell)).length) * 1000 ≤ rowLim)) (
     gset G25 x15 3 (.own 5 1 (l24 ++ ([.int .u8 x16] : List Cell))) fun G26 =>
     j7 x15 x17 x18 x19 G26))) fun j10 =>
  gI .i64 G6 x2 2 fun n11 =>
  gset G6 x2 2 (.int .i64 (IntKind.wrap .i64 (n11 + (1 : Int)))) fun G12 =>
  gI .i64 G12 x2 2 fun n13 =>
  bif (decide (n13 > (1000 : Int))) then (
   gset G12 x2 4 (.bool true) fun G14 =>
   j10 x2 n9 x3 x4 x5 G14) else (
   j10 x2 n9 x3 x4 x5 G12)) else (
  some (.tup [], G6))
def f122_L (call : CallF) (n : Nat) (a0 : Nat) (a1 : LC) (G : Heap) : OR :=
 loopJ (α := Nat → LC → Int → Int → Heap → OR) (fun _ _ _ _ _ => none) (f122_B0 call n) n a0 a1 (((a1).length / 1 : Nat) : Int) (0 : Int) G
theorem f122_eq (n : Nat) (a0 : Nat) (a1 : LC) (G : Heap) : acall AXE AXF (n + 1) 122 [.one (.gptr a0 0), .one (.sl none 1 a1)] G = f122_L (acall AXE AXF n) (n + 1) a0 a1 G := by kernel_rfl
def f126_B0 (call : CallF) (n : Nat) (s1 : Nat → Nat → Int → Int → LC → OR) (x2 x3 : Nat) (x4 x5 : Int) (x6 : LC) : OR :=
 bif (decide (x5 < x4)) then (
  joinK (fun (x19 x20 : Nat) (x21 x22 : Int) (x23 : LC) =>
   s1 x19 x20 x21 (IntKind.wrap .i64 (x22 + (1 : Int))) x23) fun j7 =>
  guardB (decide (0 ≤ x5) && decide (Int.toNat x5 < x3)) (
   rowAt x6 ((Int.toNat x5) * 1) fun c8 =>
   castI .u8 c8 fun n9 =>
   joinK (fun (x11 : Nat) (x12 x13 : Int) (x14 : Nat) (x15 x16 : Int) (x17 : Bool) (x18 : LC) =>
    bif x17 then (
     guardB (decide (0 ≤ x12) && decide (Int.toNat x12 < x11)) (
      bif Nat.blt ((Int.toNat x12) * 1) x18.length then (
       j7 x11 x14 x15 x16 (x18.set ((Int.toNat x12) * 1) (.int .u8 (IntKind.wrap .u8 ((BitVec.toNat ((BitVec.ofInt (IntKind.bits .u8) x13) &&& ~~~(BitVec.ofInt (IntKind.bits .u8) (32 : Int))) : Nat) : Int))))) else none)) else (
     j7 x11 x14 x15 x16 x18)) fun j10 =>
   bif (decide (n9 ≥ (97 : Int))) then (
    j10 x2 x5 n9 x3 x4 x5 (decide (n9 ≤ (122 : Int))) x6) else (
    j10 x2 x5 n9 x3 x4 x5 false x6))) else (
  bif Nat.ble x2 x6.length then (
   bytesK (x6.take x2) fun s24 =>
   some (.one (.str s24), [])) else none)
def f126_L (call : CallF) (n : Nat) (a0 : LB) : OR :=
 loopJ (α := Nat → Nat → Int → Int → LC → OR) (fun _ _ _ _ _ => none) (f126_B0 call n) n (a0.length) (a0.length) ((a0.length) : Int) (0 : Int) (byteCells a0)
theorem f126_eq (n : Nat) (a0 : LB) : acall AXE AXF (n + 1) 126 [.one (.str a0)] [] = f126_L (acall AXE AXF n) (n + 1) a0 := by kernel_rfl
def f127_L (call : CallF) (n : Nat) : OR :=
 some (.one (.sl (some ⟨0, 0, 9⟩) 1 ([.str ([] : List UInt8), .str ([72, 69, 76, 79] : List UInt8), .str ([69, 72, 76, 79] : List UInt8), .str ([76, 72, 76, 79] : List UInt8), .str ([77, 65, 73, 76] : List UInt8), .str ([82, 67, 80, 84] : List UInt8), .str ([68, 65, 84, 65] : List UInt8), .str ([82, 83, 69, 84] : List UInt8), .str ([78, 79, 79, 80] : List UInt8), .str ([81, 85, 73, 84] : List UInt8), .str ([86, 82, 70, 89] : List UInt8), .str ([72, 69, 76, 80] : List UInt8)] : List Cell)), [])
theorem f127_eq (n : Nat) : acall AXE AXF (n + 1) 127 [] [] = f127_L (acall AXE AXF n) (n + 1) := by kernel_rfl
def f129_L (call : CallF) (n : Nat) (a0 : LB) (a1 : Bool) : OR :=
 joinK (fun (x4 : LB) (x5 : Bool) (x6 x7 : LB) =>
  bif x5 then (
   some (.tup [.agg [.str ([] : List UInt8), .str ([] : List UInt8)], .one (.int .i64 (2 : Int)), .one (.int .i64 (0 : Int))], [])) else (
   joinK (fun (x23 : Bool) (x24 x25 : LB) (x26 : S_addr_reader) =>
    joinK (fun (x44 : Bool) (x45 x46 : LB) (x47 : S_addr_reader) =>
     joinK (fun (x88 : Int) (x89 x90 : LB) (x91 : S_addr_reader) =>
      bif (x88 != (0 : Int)) then (
       some (.tup [.agg [.str ([] : List UInt8), .str ([] : List UInt8)], .one (.int .i64 (0 : Int)), .one (.int .i64 x88)], [])) else (
       some (.tup [.agg [.str x89, .str x90], .one (.int .i64 x91.fat), .one (.int .i64 (0 : Int))], []))) fun j48 =>
     bif x44 then (
      callRK call 145 [.one (.ptr 0 0), .one (.int .u8 (62 : Int))] [x47.cells] fun v49 h50 =>
      consK h50 fun r51 h52 =>
      takeS_addr_reader r51 fun w53 r54 =>
      nilK r54 (
       nilK h52 (
        oB v49 fun b55 =>
        callRK call 148 [.one (.ptr 0 0), .agg [.str x45, .str x46], .one (.bool b55)] [w53.cells] fun v56 h57 =>
        consK h57 fun r58 h59 =>
        takeS_addr_reader r58 fun w60 r61 =>
        nilK r61 (
         nilK h59 (
          castTup v56 fun v62 =>
          consK v62 fun z63 r64 =>
          aggV z63 fun r65 =>
          cS r65 fun s66 r67 =>
          cS r67 fun s68 r69 =>
          nilK r69 (
           zI .i64 r64 fun n70 r71 =>
           nilK r71 (
            j48 n70 s66 s68 w60))))))) else (
      callRK call 148 [.one (.ptr 0 0), .agg [.str x45, .str x46], .one (.bool false)] [x47.cells] fun v72 h73 =>
      consK h73 fun r74 h75 =>
      takeS_addr_reader r74 fun w76 r77 =>
      nilK r77 (
       nilK h75 (
        castTup v72 fun v78 =>
        consK v78 fun z79 r80 =>
        aggV z79 fun r81 =>
        cS r81 fun s82 r83 =>
        cS r83 fun s84 r85 =>
        nilK r85 (
         zI .i64 r80 fun n86 r87 =>
         nilK r87 (
          j48 n86 s82 s84 w76)))))) fun j27 =>
    bif x23 then (
     callRK call 147 [.one (.ptr 0 0)] [x26.cells] fun v28 h29 =>
     consK h29 fun r30 h31 =>
     takeS_addr_reader r30 fun w32 r33 =>
     nilK r33 (
      nilK h31 (
       castTup v28 fun v34 =>
       consK v34 fun z35 r36 =>
       aggV z35 fun r37 =>
       cS r37 fun s38 r39 =>
       cS r39 fun s40 r41 =>
       nilK r41 (
        zB r36 fun b42 r43 =>
        nilK r43 (
         j27 b42 s38 s40 w32))))) else (
     j27 x23 x24 x25 x26)) fun j8 =>
   callRK call 145 [.one (.ptr 0 0), .one (.int .u8 (60 : Int))] [(⟨x4, (0 : Int), false⟩ : S_addr_reader).cells] fun v9 h10 =>
   consK h10 fun r11 h12 =>
   takeS_addr_reader r11 fun w13 r14 =>
   nilK r14 (
    nilK h12 (
     oB v9 fun b15 =>
     bif b15 then (
      callRK call 146 [.one (.ptr 0 0)] [w13.cells] fun v16 h17 =>
      consK h17 fun r18 h19 =>
      takeS_addr_reader r18 fun w20 r21 =>
      nilK r21 (
       nilK h19 (
        oB v16 fun b22 =>
        j8 b22 x6 x7 w20))) else (
      j8 false x6 x7 w13))))) fun j1 =>
 bif a1 then (
  primK pHasPrefix [.one (.str a0), .one (.str ([60, 62] : List UInt8))] fun v2 =>
  oB v2 fun b3 =>
  j1 a0 b3 ([] : List UInt8) ([] : List UInt8)) else (
  j1 a0 false ([] : List UInt8) ([] : List UInt8))
theorem f129_eq (n : Nat) (a0 : LB) (a1 : Bool) : acall AXE AXF (n + 1) 129 [.one (.str a0), .one (.bool a1)] [] = f129_L (acall AXE AXF n) (n + 1) a0 a1 := by kernel_rfl
def f130_B0 (call : CallF) (n : Nat) (s1 : LC → Int → Int → S_api_Cmd → Nat → (List (Cell × Cell × Nat)) → OR) (x2 : LC) (x3 x4 : Int) (x5 : S_api_Cmd) (x6 : Nat) (x7 : List (Cell × Cell × Nat)) : OR :=
 bif (decide (x4 < x3)) then (
  itemK x2 x4 fun c8 =>
  castS c8 fun s9 =>
  primK pCut [.one (.str s9), .one (.str ([61] : List UInt8))] fun v10 =>
  castTup v10 fun v11 =>
  zS v11 fun s12 r13 =>
  zS r13 fun s14 r15 =>
  zB r15 fun b16 r17 =>
  nilK r17 (
   callK call 126 [.one (.str s12)] fun v18 =>
   oS v18 fun s19 =>
   joinK (fun (x31 x32 : LB) (x33 : LC) (x34 x35 : Int) (x36 : Bool) (x37 : S_api_Cmd) (x38 : Nat) (x39 : List (Cell × Cell × Nat)) =>
    bif x36 then (
     some (.one (.int .i64 (501 : Int)), [x37.cells])) else (
     lookK (.str x31) x39 (.int .i64 (0 : Int)) fun c40 t41 =>
     castI .i64 c40 fun n42 =>
     updK (.str x31) (.int .i64 (IntKind.wrap .i64 (n42 + (1 : Int)))) x38 x39 fun k43 m44 =>
     joinK (fun (x53 : Int) (x54 : LC) (x55 x56 : Int) (x57 : S_api_Cmd) (x58 : Nat) (x59 : List (Cell × Cell × Nat)) =>
      bif (x53 != (0 : Int)) then (
       some (.one (.int .i64 x53), [x57.cells])) else (
       s1 x54 x55 (IntKind.wrap .i64 (x56 + (1 : Int))) x57 x58 x59)) fun j45 =>
     bif (x37.fVerb == (4 : Int)) then (
      callRK call 151 [.one (.ptr 0 0), .one (.str x31), .one (.str x32)] [x37.cells] fun v46 h47 =>
      consK h47 fun r48 h49 =>
      takeS_api_Cmd r48 fun w50 r51 =>
      nilK r51 (
       nilK h49 (
        oI .i64 v46 fun n52 =>
        j45 n52 x33 x34 x35 w50 k43 m44))) else (
      j45 (555 : Int) x33 x34 x35 x37 k43 m44))) fun j20 =>
   callK call 149 [.one (.str s19)] fun v21 =>
   oB v21 fun b22 =>
   bif (!b22) then (
    j20 s19 s14 x2 x3 x4 true x5 x6 x7) else (
    bif b16 then (
     callK call 150 [.one (.str s14)] fun v23 =>
     oB v23 fun b24 =>
     bif (!b24) then (
      j20 s19 s14 x2 x3 x4 true x5 x6 x7) else (
      lookK (.str s19) x7 (.int .i64 (0 : Int)) fun c25 t26 =>
      castI .i64 c25 fun n27 =>
      j20 s19 s14 x2 x3 x4 (decide (n27 > (0 : Int))) x5 x6 x7)) else (
     lookK (.str s19) x7 (.int .i64 (0 : Int)) fun c28 t29 =>
     castI .i64 c28 fun n30 =>
     j20 s19 s14 x2 x3 x4 (decide (n30 > (0 : Int))) x5 x6 x7)))) else (
  some (.one (.int .i64 (0 : Int)), [x5.cells]))
def f130_L (call : CallF) (n : Nat) (a0 : S_api_Cmd) (a1 : LC) : OR :=
 loopJ (α := LC → Int → Int → S_api_Cmd → Nat → (List (Cell × Cell × Nat)) → OR) (fun _ _ _ _ _ _ => none) (f130_B0 call n) n a1 (((a1).length / 1 : Nat) : Int) (0 : Int) a0 0 ([] : List (Cell × Cell × Nat))
theorem f130_eq (n : Nat) (a0 : S_api_Cmd) (a1 : LC) : acall AXE AXF (n + 1) 130 [.one (.ptr 0 0), .one (.sl none 1 a1)] [a0.cells] = f130_L (acall AXE AXF n) (n + 1) a0 a1 := by kernel_rfl
def f94_L (call : CallF) (n : Nat) (a0 : Int) : OR :=
 bif (decide ((IntKind.wrap .u8 ((BitVec.toNat ((BitVec.ofInt (IntKind.bits .u8) a0) ||| (BitVec.ofInt (IntKind.bits .u8) (32 : Int))) : Nat) : Int)) ≥ (97 : Int))) then (
  some (.one (.bool (decide ((IntKind.wrap .u8 ((BitVec.toNat ((BitVec.ofInt (IntKind.bits .u8) a0) ||| (BitVec.ofInt (IntKind.bits .u8) (32 : Int))) : Nat) : Int)) ≤ (122 : Int)))), [])) else (
  some (.one (.bool false), []))
theorem f94_eq (n : Nat) (a0 : Int) : acall AXE AXF (n + 1) 94 [.one (.int .u8 a0)] [] = f94_L (acall AXE AXF n) (n + 1) a0 := by kernel_rfl
def f95_L (call : CallF) (n : Nat) (a0 : Int) : OR :=
 bif (decide (a0 ≥ (48 : Int))) then (
  some (.one (.bool (decide (a0 ≤ (57 : Int)))), [])) else (
  some (.one (.bool false), []))
theorem f95_eq (n : Nat) (a0 : Int) : acall AXE AXF (n + 1) 95 [.one (.int .u8 a0)] [] = f95_L (acall AXE AXF n) (n + 1) a0 := by kernel_rfl
def f145_L (call : CallF) (n : Nat) (a0 : S_addr_reader) (a1 : Int) : OR :=
 joinK (fun (x3 : Bool) (x4 : S_addr_reader) =>
  bif x3 then (
   some (.one (.bool true), [({ x4 with fat := (IntKind.wrap .i64 (x4.fat + (1 : Int))) } : S_addr_reader).cells])) else (
   some (.one (.bool false), [x4.cells]))) fun j1 =>
 bif (decide (a0.fat < ((a0.fs).length : Int))) then (
  itemK a0.fs a0.fat fun u2 =>
  j1 ((UInt8.toNat u2 : Int) == a1) a0) else (
  j1 false a0)
theorem f145_eq (n : Nat) (a0 : S_addr_reader) (a1 : Int) : acall AXE AXF (n + 1) 145 [.one (.ptr 0 0), .one (.int .u8 a1)] [a0.cells] = f145_L (acall AXE AXF n) (n + 1) a0 a1 := by kernel_rfl
def f146_B0 (call : CallF) (n : Nat) (s8 : S_addr_reader → OR) (x9 : S_addr_reader) : OR :=
 callRK call 145 [.one (.ptr 0 0), .one (.int .u8 (64 : Int))] [x9.cells] fun v10 h11 =>
 consK h11 fun r12 h13 =>
 takeS_addr_reader r12 fun w14 r15 =>
 nilK r15 (
  nilK h13 (
   oB v10 fun b16 =>
   bif (!b16) then (
    some (.one (.bool false), [w14.cells])) else (
    callRK call 45 [.one (.ptr 0 0)] [w14.cells] fun v17 h18 =>
    consK h18 fun r19 h20 =>
    takeS_addr_reader r19 fun w21 r22 =>
    nilK r22 (
     nilK h20 (
      castTup v17 fun v23 =>
      zS v23 fun s24 r25 =>
      zB r25 fun b26 r27 =>
      nilK r27 (
       bif (!b26) then (
        some (.one (.bool false), [w21.cells])) else (
        callRK call 145 [.one (.ptr 0 0), .one (.int .u8 (44 : Int))] [w21.cells] fun v28 h29 =>
        consK h29 fun r30 h31 =>
        takeS_addr_reader r30 fun w32 r33 =>
        nilK r33 (
         nilK h31 (
          oB v28 fun b34 =>
          bif (!b34) then (
           callRK call 145 [.one (.ptr 0 0), .one (.int .u8 (58 : Int))] [w32.cells] fun v35 h36 =>
           consK h36 fun r37 h38 =>
           takeS_addr_reader r37 fun w39 r40 =>
           nilK r40 (
            nilK h38 (
             oB v35 fun b41 =>
             some (.one (.bool b41), [w39.cells])))) else (
           s8 w32))))))))))
def f146_L (call : CallF) (n : Nat) (a0 : S_addr_reader) : OR :=
 callRK call 65 [.one (.ptr 0 0)] [a0.cells] fun v1 h2 =>
 consK h2 fun r3 h4 =>
 takeS_addr_reader r3 fun w5 r6 =>
 nilK r6 (
  nilK h4 (
   oI .u8 v1 fun n7 =>
   bif (n7 != (64 : Int)) then (
    some (.one (.bool true), [w5.cells])) else (
    loopJ (α := S_addr_reader → OR) (fun _ => none) (f146_B0 call n) n w5)))
theorem f146_eq (n : Nat) (a0 : S_addr_reader) : acall AXE AXF (n + 1) 146 [.one (.ptr 0 0)] [a0.cells] = f146_L (acall AXE AXF n) (n + 1) a0 := by kernel_rfl
def f147_L (call : CallF) (n : Nat) (a0 : S_addr_reader) : OR :=
 callRK call 177 [.one (.ptr 0 0)] [a0.cells] fun v1 h2 =>
 consK h2 fun r3 h4 =>
 takeS_addr_reader r3 fun w5 r6 =>
 nilK r6 (
  nilK h4 (
   castTup v1 fun v7 =>
   zS v7 fun s8 r9 =>
   zB r9 fun b10 r11 =>
   nilK r11 (
    joinK (fun (x20 : Bool) (x21 : S_addr_reader) (x22 x23 : LB) =>
     bif x20 then (
      some (.tup [.agg [.str ([] : List UInt8), .str ([] : List UInt8)], .one (.bool false)], [x21.cells])) else (
      callRK call 45 [.one (.ptr 0 0)] [x21.cells] fun v24 h25 =>
      consK h25 fun r26 h27 =>
      takeS_addr_reader r26 fun w28 r29 =>
      nilK r29 (
       nilK h27 (
        castTup v24 fun v30 =>
        zS v30 fun s31 r32 =>
        zB r32 fun b33 r34 =>
        nilK r34 (
         some (.tup [.agg [.str x22, .str s31], .one (.bool b33)], [w28.cells])))))) fun j12 =>
    bif (!b10) then (
     j12 true w5 s8 ([] : List UInt8)) else (
     callRK call 145 [.one (.ptr 0 0), .one (.int .u8 (64 : Int))] [w5.cells] fun v13 h14 =>
     consK h14 fun r15 h16 =>
     takeS_addr_reader r15 fun w17 r18 =>
     nilK r18 (
      nilK h16 (
       oB v13 fun b19 =>
       j12 (!b19) w17 s8 ([] : List UInt8)))))))
theorem f147_eq (n : Nat) (a0 : S_addr_reader) : acall AXE AXF (n + 1) 147 [.one (.ptr 0 0)] [a0.cells] = f147_L (acall AXE AXF n) (n + 1) a0 := by kernel_rfl
def f148_L (call : CallF) (n : Nat) (a0 : S_addr_reader) (a1 a2 : LB) (a3 : Bool) : OR :=
 bif (!a3) then (
  some (.tup [.agg [.str ([] : List UInt8), .str ([] : List UInt8)], .one (.int .i64 (3 : Int))], [a0.cells])) else (
  bif a0.flarge then (
   some (.tup [.agg [.str ([] : List UInt8), .str ([] : List UInt8)], .one (.int .i64 (4 : Int))], [a0.cells])) else (
   some (.tup [.agg [.str a1, .str a2], .one (.int .i64 (0 : Int))], [a0.cells])))
theorem f148_eq (n : Nat) (a0 : S_addr_reader) (a1 a2 : LB) (a3 : Bool) : acall AXE AXF (n + 1) 148 [.one (.ptr 0 0), .agg [.str a1, .str a2], .one (.bool a3)] [a0.cells] = f148_L (acall AXE AXF n) (n + 1) a0 a1 a2 a3 := by kernel_rfl
def f149_B0 (call : CallF) (n : Nat) (s1 : LB → LC → Int → Int → OR) (x2 : LB) (x3 : LC) (x4 x5 : Int) : OR :=
 bif (decide (x5 < x4)) then (
  itemK x3 x5 fun c6 =>
  castI .u8 c6 fun n7 =>
  joinK (fun (x9 : LB) (x10 : LC) (x11 x12 : Int) (x13 : Bool) =>
   bif x13 then (
    some (.one (.bool false), [])) else (
    s1 x9 x10 x11 (IntKind.wrap .i64 (x12 + (1 : Int))))) fun j8 =>
  bif (decide (n7 < (65 : Int))) then (
   bif (decide (n7 < (48 : Int))) then (
    j8 x2 x3 x4 x5 (n7 != (45 : Int))) else (
    bif (decide (n7 > (57 : Int))) then (
     j8 x2 x3 x4 x5 (n7 != (45 : Int))) else (
     j8 x2 x3 x4 x5 false))) else (
   bif (decide (n7 > (90 : Int))) then (
    bif (decide (n7 < (48 : Int))) then (
     j8 x2 x3 x4 x5 (n7 != (45 : Int))) else (
     bif (decide (n7 > (57 : Int))) then (
      j8 x2 x3 x4 x5 (n7 != (45 : Int))) else (
      j8 x2 x3 x4 x5 false))) else (
    j8 x2 x3 x4 x5 false))) else (
  some (.one (.bool (!(x2 == ([] : List UInt8)))), []))
def f149_L (call : CallF) (n : Nat) (a0 : LB) : OR :=
 loopJ (α := LB → LC → Int → Int → OR) (fun _ _ _ _ => none) (f149_B0 call n) n a0 (byteCells a0) ((((byteCells a0)).length / 1 : Nat) : Int) (0 : Int)
theorem f149_eq (n : Nat) (a0 : LB) : acall AXE AXF (n + 1) 149 [.one (.str a0)] [] = f149_L (acall AXE AXF n) (n + 1) a0 := by kernel_rfl
def f150_L (call : CallF) (n : Nat) (a0 : LB) : OR :=
 bif (!(a0 == ([] : List UInt8))) then (
  primK pContains [.one (.str a0), .one (.str ([61, 32] : List UInt8))] fun v1 =>
  oB v1 fun b2 =>
  some (.one (.bool (!b2)), [])) else (
  some (.one (.bool false), []))
theorem f150_eq (n : Nat) (a0 : LB) : acall AXE AXF (n + 1) 150 [.one (.str a0)] [] = f150_L (acall AXE AXF n) (n + 1) a0 := by kernel_rfl
def f151_L (call : CallF) (n : Nat) (a0 : S_api_Cmd) (a1 a2 : LB) : OR :=
 bif (a1 == ([83, 73, 90, 69] : List UInt8)) then (
  primK pParseU [.one (.str a2), .one (.int .i64 (10 : Int)), .one (.int .i64 (64 : Int))] fun v1 =>
  castTup v1 fun v2 =>
  zI .u64 v2 fun n3 r4 =>
  zE r4 fun b5 r6 =>
  nilK r6 (
   joinK (fun (x8 : Int) (x9 : Bool) (x10 : S_api_Cmd) =>
    bif x9 then (
     some (.one (.int .i64 (501 : Int)), [x10.cells])) else (
     some (.one (.int .i64 (0 : Int)), [({ x10 with fSize := (IntKind.wrap .i64 x8) } : S_api_Cmd).cells]))) fun j7 =>
   bif b5 then (
    j7 n3 true a0) else (
    bif (decide (((a2).length : Int) > (20 : Int))) then (
     j7 n3 true a0) else (
     j7 n3 (decide (n3 > (9007199254740992 : Int))) a0)))) else (
  bif (a1 == ([66, 79, 68, 89] : List UInt8)) then (
   updK (.str ([55, 66, 73, 84] : List UInt8)) (.int .i64 (7 : Int)) 0 ([] : List (Cell × Cell × Nat)) fun k11 m12 =>
   updK (.str ([56, 66, 73, 84, 77, 73, 77, 69] : List UInt8)) (.int .i64 (8 : Int)) k11 m12 fun k13 m14 =>
   callK call 126 [.one (.str a2)] fun v15 =>
   oS v15 fun s16 =>
   lookK (.str s16) m14 (.int .i64 (0 : Int)) fun c17 t18 =>
   castI .i64 c17 fun n19 =>
   callK call 104 [.one (.bool (decide (n19 > (0 : Int))))] fun v20 =>
   oI .i64 v20 fun n21 =>
   some (.one (.int .i64 n21), [({ a0 with fBody := n19 } : S_api_Cmd).cells])) else (
   some (.one (.int .i64 (555 : Int)), [a0.cells])))
theorem f151_eq (n : Nat) (a0 : S_api_Cmd) (a1 a2 : LB) : acall AXE AXF (n + 1) 151 [.one (.ptr 0 0), .one (.str a1), .one (.str a2)] [a0.cells] = f151_L (acall AXE AXF n) (n + 1) a0 a1 a2 := by kernel_rfl
def f177_L (call : CallF) (n : Nat) (a0 : S_addr_reader) : OR :=
 joinK (fun (x36 : LB) (x37 : Bool) (x38 : S_addr_reader) =>
  joinK (fun (x40 : LB) (x41 : Bool) (x42 : S_addr_reader) =>
   bif x41 then (
    some (.tup [.one (.str x40), .one (.bool (!(x40 == ([] : List UInt8))))], [x42.cells])) else (
    some (.tup [.one (.str x40), .one (.bool false)], [x42.cells]))) fun j39 =>
  bif x38.flarge then (
   j39 x36 x37 ({ x38 with flarge := true } : S_addr_reader)) else (
   j39 x36 x37 ({ x38 with flarge := (decide (((x36).length : Int) > (64 : Int))) } : S_addr_reader))) fun j1 =>
 callRK call 145 [.one (.ptr 0 0), .one (.int .u8 (34 : Int))] [a0.cells] fun v2 h3 =>
 consK h3 fun r4 h5 =>
 takeS_addr_reader r4 fun w6 r7 =>
 nilK r7 (
  nilK h5 (
   oB v2 fun b8 =>
   bif b8 then (
    primHK pQuoted [.one (.ptr 0 0)] w6.cells fun v9 h10 =>
    consK h10 fun c11 r12 =>
    castS c11 fun s13 =>
    consK r12 fun c14 r15 =>
    castI .i64 c14 fun n16 =>
    consK r15 fun c17 r18 =>
    castB c17 fun b19 =>
    nilK r18 (
     castTup v9 fun v20 =>
     zS v20 fun s21 r22 =>
     zB r22 fun b23 r24 =>
     nilK r24 (
      j1 s21 b23 (⟨s13, n16, b19⟩ : S_addr_reader)))) else (
    callRK call 196 [.one (.ptr 0 0)] [w6.cells] fun v25 h26 =>
    consK h26 fun r27 h28 =>
    takeS_addr_reader r27 fun w29 r30 =>
    nilK r30 (
     nilK h28 (
      castTup v25 fun v31 =>
      zS v31 fun s32 r33 =>
      zB r33 fun b34 r35 =>
      nilK r35 (
       j1 s32 b34 w29))))))
theorem f177_eq (n : Nat) (a0 : S_addr_reader) : acall AXE AXF (n + 1) 177 [.one (.ptr 0 0)] [a0.cells] = f177_L (acall AXE AXF n) (n + 1) a0 := by kernel_rfl
def f196_B0 (call : CallF) (n : Nat) (s8 : Int → S_addr_reader → OR) (x9 : Int) (x10 : S_addr_reader) : OR :=
 callRK call 145 [.one (.ptr 0 0), .one (.int .u8 (46 : Int))] [x10.cells] fun v11 h12 =>
 consK h12 fun r13 h14 =>
 takeS_addr_reader r13 fun w15 r16 =>
 nilK r16 (
  nilK h14 (
   oB v11 fun b17 =>
   bif b17 then (
    callRK call 92 [.one (.ptr 0 0), .one (.clo 208 0 [])] [w15.cells] fun v18 h19 =>
    consK h19 fun r20 h21 =>
    takeS_addr_reader r20 fun w22 r23 =>
    nilK r23 (
     nilK h21 (
      oS v18 fun s24 =>
      bif (s24 == ([] : List UInt8)) then (
       some (.tup [.one (.str ([] : List UInt8)), .one (.bool false)], [w22.cells])) else (
       s8 x9 w22)))) else (
    bif decide (0 ≤ x9 ∧ x9 ≤ w15.fat ∧ (Int.toNat w15.fat) ≤ (w15.fs).length) then (
     some (.tup [.one (.str ((w15.fs.take (Int.toNat w15.fat)).drop (Int.toNat x9))), .one (.bool true)], [w15.cells])) else none)))
def f196_L (call : CallF) (n : Nat) (a0 : S_addr_reader) : OR :=
 callRK call 92 [.one (.ptr 0 0), .one (.clo 208 0 [])] [a0.cells] fun v1 h2 =>
 consK h2 fun r3 h4 =>
 takeS_addr_reader r3 fun w5 r6 =>
 nilK r6 (
  nilK h4 (
   oS v1 fun s7 =>
   bif (s7 == ([] : List UInt8)) then (
    some (.tup [.one (.str ([] : List UInt8)), .one (.bool false)], [w5.cells])) else (
    loopJ (α := Int → S_addr_reader → OR) (fun _ _ => none) (f196_B0 call n) n a0.fat w5)))
theorem f196_eq (n : Nat) (a0 : S_addr_reader) : acall AXE AXF (n + 1) 196 [.one (.ptr 0 0)] [a0.cells] = f196_L (acall AXE AXF n) (n + 1) a0 := by kernel_rfl
def f208_L (call : CallF) (n : Nat) (a0 : Int) : OR :=
 callK call 94 [.one (.int .u8 a0)] fun v1 =>
 oB v1 fun b2 =>
 bif b2 then (
  some (.one (.bool true), [])) else (
  callK call 95 [.one (.int .u8 a0)] fun v3 =>
  oB v3 fun b4 =>
  bif b4 then (
   some (.one (.bool true), [])) else (
   primK pIndexByte [.one (.str ([33, 35, 36, 37, 38, 39, 42, 43, 45, 47, 61, 63, 94, 95, 96, 123, 124, 125, 126] : List UInt8)), .one (.int .u8 a0)] fun v5 =>
   oI .i64 v5 fun n6 =>
   some (.one (.bool (decide (n6 ≥ (0 : Int)))), [])))
theorem f208_eq (n : Nat) (a0 : Int) : acall AXE AXF (n + 1) 208 [.one (.int .u8 a0)] [] = f208_L (acall AXE AXF n) (n + 1) a0 := by kernel_rfl
end
end AX
end Go.Proofs.YtnkppakkeobegaaGreatDoor
