/-
  The functions, printed, and that they are the reckoning.
-/
import Derived.Test.YtfbicbgdfcbhpaaGreatDoorSxTab
set_option maxRecDepth 20000
set_option linter.unusedVariables false
set_option linter.unusedSimpArgs false
set_option linter.unusedSectionVars false
namespace Go.Proofs.YtfbicbgdfcbhpaaGreatDoor
namespace AX
set_option linter.unusedVariables false
noncomputable section
def f28_P17 (B : Code) (call : CallF) (n : Nat) (m0 : Nat) (x0 : LB) (x1 : LC) (x2 : Int) (x3 : S_ref31_Got) (x4 : S_api_Event) : OR :=
  f28_x B call n [1, 1, 1, 0, 1, 0, 0, 1, 1] (kSeq (fun k => prK 1000004 (pruneAt f28_h 1000004) (aloop 1000004 (pruneAt f28_h 1000004) (f28_x B call n [1, 1, 1, 0, 1, 0, 0]) k m0)) (kBlk 0 (kSeq (f28_x B call n [1, 1, 1, 1]) (kEnd AXE 0 f28_r)))) ⟨[(0, .one (.str x0)), (2, .one (.ptr 0 0)), (3, .one (.sl none 1 x1)), (4, .one (.ptr 1 0)), (5, .one (.int .i64 x2))], [[.int .i64 x3.fE.fKind, .int .i64 x3.fE.fSlot, .int .i64 x3.fE.fN, .int .i64 x3.fE.fK, .bool x3.fE.fLmtp, .str x3.fE.fName, .int .i64 x3.fE.fLimit_Bytes, .int .i64 x3.fE.fLimit_Count, .sl (some ⟨1000000, 8, 9⟩) 1 x3.fE.fTo, .sl (some ⟨1000000, 9, 5⟩) 1 x3.fE.fData, .int .i64 x3.fE.fCode, .sl (some ⟨1000000, 11, 3⟩) 1 x3.fE.fKeep, .int .i64 x3.fErr], [.int .i64 x4.fKind, .int .i64 x4.fSlot, .int .i64 x4.fN, .int .i64 x4.fK, .bool x4.fLmtp, .str x4.fName, .int .i64 x4.fLimit_Bytes, .int .i64 x4.fLimit_Count, .sl (some ⟨1000001, 8, 9⟩) 1 x4.fTo, .sl (some ⟨1000001, 9, 5⟩) 1 x4.fData, .int .i64 x4.fCode, .sl (some ⟨1000001, 11, 3⟩) 1 x4.fKeep]]⟩
def f28_P21 (B : Code) (call : CallF) (n : Nat) (x0 : S_ref31_Got) : OR :=
  f28_x B call n [1, 1, 1, 1, 1, 1, 1, 1, 0, 1, 0, 0, 1, 0, 1] (kSeq (f28_x B call n [1, 1, 1, 1, 1, 1, 1, 1, 0, 1, 0, 1]) (kSeq (f28_x B call n [1, 1, 1, 1, 1, 1, 1, 1, 1]) (kEnd AXE 0 f28_r))) ⟨[(2, .one (.ptr 0 0))], [x0.cells]⟩
def f28_P29 (B : Code) (call : CallF) (n : Nat) (x0 : S_ref31_Got) : OR :=
  f28_x B call n [1, 1, 1, 1, 1, 1, 1, 1, 0, 1, 0, 1, 1, 0, 1, 0, 1] (kSeq (f28_x B call n [1, 1, 1, 1, 1, 1, 1, 1, 0, 1, 0, 1, 1, 1]) (kSeq (f28_x B call n [1, 1, 1, 1, 1, 1, 1, 1, 1]) (kEnd AXE 0 f28_r))) ⟨[(2, .one (.ptr 0 0))], [x0.cells]⟩
def f28_P52 (B : Code) (call : CallF) (n : Nat) (x0 : S_ref31_Got) : OR :=
  f28_x B call n [1, 1, 1, 1, 1, 1, 1, 1, 0, 1, 0, 1, 1, 1, 1, 1, 1, 0, 0, 1, 0, 1] (kSeq (f28_x B call n [1, 1, 1, 1, 1, 1, 1, 1, 0, 1, 0, 1, 1, 1, 1, 1, 1, 0, 1]) (kSeq (f28_x B call n [1, 1, 1, 1, 1, 1, 1, 1, 1]) (kEnd AXE 0 f28_r))) ⟨[(2, .one (.ptr 0 0))], [x0.cells]⟩
def f28_P62 (B : Code) (call : CallF) (n : Nat) (x0 : S_ref31_Got) : OR :=
  f28_x B call n [1, 1, 1, 1, 1, 1, 1, 1, 0, 1, 0, 1, 1, 1, 1, 1, 1, 0, 1, 1, 1] (kSeq (f28_x B call n [1, 1, 1, 1, 1, 1, 1, 1, 1]) (kEnd AXE 0 f28_r)) ⟨[(2, .one (.ptr 0 0))], [[.int .i64 x0.fE.fKind, .int .i64 x0.fE.fSlot, .int .i64 x0.fE.fN, .int .i64 x0.fE.fK, .bool x0.fE.fLmtp, .str x0.fE.fName, .int .i64 x0.fE.fLimit_Bytes, .int .i64 x0.fE.fLimit_Count, .sl none 1 x0.fE.fTo, .sl (some ⟨1000000, 9, 5⟩) 1 x0.fE.fData, .int .i64 x0.fE.fCode, .sl (some ⟨1000000, 11, 3⟩) 1 x0.fE.fKeep, .int .i64 x0.fErr]]⟩
def f28_P58 (B : Code) (call : CallF) (n : Nat) (x0 : S_ref31_Got) (x1 : S_api_Event) : OR :=
  f28_x B call n [1, 1, 1, 1, 1, 1, 1, 1, 0, 1, 0, 1, 1, 1, 1, 1, 1, 0, 1, 1] (kSeq (f28_x B call n [1, 1, 1, 1, 1, 1, 1, 1, 1]) (kEnd AXE 0 f28_r)) ⟨[(2, .one (.ptr 0 0)), (4, .one (.ptr 1 0))], [[.int .i64 x0.fE.fKind, .int .i64 x0.fE.fSlot, .int .i64 x0.fE.fN, .int .i64 x0.fE.fK, .bool x0.fE.fLmtp, .str x0.fE.fName, .int .i64 x0.fE.fLimit_Bytes, .int .i64 x0.fE.fLimit_Count, .sl (some ⟨1000000, 8, 9⟩) 1 x0.fE.fTo, .sl (some ⟨1000000, 9, 5⟩) 1 x0.fE.fData, .int .i64 x0.fE.fCode, .sl (some ⟨1000000, 11, 3⟩) 1 x0.fE.fKeep, .int .i64 x0.fErr], [.int .i64 x1.fKind, .int .i64 x1.fSlot, .int .i64 x1.fN, .int .i64 x1.fK, .bool x1.fLmtp, .str x1.fName, .int .i64 x1.fLimit_Bytes, .int .i64 x1.fLimit_Count, .sl none 1 x1.fTo, .sl (some ⟨1000001, 9, 5⟩) 1 x1.fData, .int .i64 x1.fCode, .sl (some ⟨1000001, 11, 3⟩) 1 x1.fKeep]]⟩
def f28_P53 (B : Code) (call : CallF) (n : Nat) (x0 : LC) (x1 : S_ref31_Got) (x2 : S_api_Event) : OR :=
  f28_x B call n [1, 1, 1, 1, 1, 1, 1, 1, 0, 1, 0, 1, 1, 1, 1, 1, 1, 0, 1] (kSeq (f28_x B call n [1, 1, 1, 1, 1, 1, 1, 1, 1]) (kEnd AXE 0 f28_r)) ⟨[(2, .one (.ptr 0 0)), (4, .one (.ptr 1 0)), (6, .one (.sl none 1 x0))], [[.int .i64 x1.fE.fKind, .int .i64 x1.fE.fSlot, .int .i64 x1.fE.fN, .int .i64 x1.fE.fK, .bool x1.fE.fLmtp, .str x1.fE.fName, .int .i64 x1.fE.fLimit_Bytes, .int .i64 x1.fE.fLimit_Count, .sl (some ⟨1000000, 8, 9⟩) 1 x1.fE.fTo, .sl (some ⟨1000000, 9, 5⟩) 1 x1.fE.fData, .int .i64 x1.fE.fCode, .sl (some ⟨1000000, 11, 3⟩) 1 x1.fE.fKeep, .int .i64 x1.fErr], [.int .i64 x2.fKind, .int .i64 x2.fSlot, .int .i64 x2.fN, .int .i64 x2.fK, .bool x2.fLmtp, .str x2.fName, .int .i64 x2.fLimit_Bytes, .int .i64 x2.fLimit_Count, .sl (some ⟨1000001, 8, 9⟩) 1 x2.fTo, .sl (some ⟨1000001, 9, 5⟩) 1 x2.fData, .int .i64 x2.fCode, .sl (some ⟨1000001, 11, 3⟩) 1 x2.fKeep]]⟩
def f28_P49 (B : Code) (call : CallF) (n : Nat) (x0 : LC) (x1 : Bool) (x2 : S_ref31_Got) (x3 : S_api_Event) : OR :=
  f28_x B call n [1, 1, 1, 1, 1, 1, 1, 1, 0, 1, 0, 1, 1, 1, 1, 1, 1, 0, 0, 1] (kSeq (f28_x B call n [1, 1, 1, 1, 1, 1, 1, 1, 0, 1, 0, 1, 1, 1, 1, 1, 1, 0, 1]) (kSeq (f28_x B call n [1, 1, 1, 1, 1, 1, 1, 1, 1]) (kEnd AXE 0 f28_r))) ⟨[(2, .one (.ptr 0 0)), (4, .one (.ptr 1 0)), (6, .one (.sl none 1 x0)), (76, .one (.bool x1))], [[.int .i64 x2.fE.fKind, .int .i64 x2.fE.fSlot, .int .i64 x2.fE.fN, .int .i64 x2.fE.fK, .bool x2.fE.fLmtp, .str x2.fE.fName, .int .i64 x2.fE.fLimit_Bytes, .int .i64 x2.fE.fLimit_Count, .sl (some ⟨1000000, 8, 9⟩) 1 x2.fE.fTo, .sl (some ⟨1000000, 9, 5⟩) 1 x2.fE.fData, .int .i64 x2.fE.fCode, .sl (some ⟨1000000, 11, 3⟩) 1 x2.fE.fKeep, .int .i64 x2.fErr], [.int .i64 x3.fKind, .int .i64 x3.fSlot, .int .i64 x3.fN, .int .i64 x3.fK, .bool x3.fLmtp, .str x3.fName, .int .i64 x3.fLimit_Bytes, .int .i64 x3.fLimit_Count, .sl (some ⟨1000001, 8, 9⟩) 1 x3.fTo, .sl (some ⟨1000001, 9, 5⟩) 1 x3.fData, .int .i64 x3.fCode, .sl (some ⟨1000001, 11, 3⟩) 1 x3.fKeep]]⟩
def f28_P27 (B : Code) (call : CallF) (n : Nat) (x0 : S_ref31_Got) : OR :=
  f28_x B call n [1, 1, 1, 1, 1, 1, 1, 1, 1, 1, 0, 1, 0, 1] (kSeq (f28_x B call n [1, 1, 1, 1, 1, 1, 1, 1, 1, 1, 1]) (kEnd AXE 0 f28_r)) ⟨[(2, .one (.ptr 0 0))], [x0.cells]⟩
def f28_P42 (B : Code) (call : CallF) (n : Nat) (x0 : S_ref31_Got) : OR :=
  f28_x B call n [1, 1, 1, 1, 1, 1, 1, 1, 1, 1, 1, 1, 0, 1, 0, 1] (kSeq (f28_x B call n [1, 1, 1, 1, 1, 1, 1, 1, 1, 1, 1, 1, 1]) (kEnd AXE 0 f28_r)) ⟨[(2, .one (.ptr 0 0))], [x0.cells]⟩
def f28_P47 (B : Code) (call : CallF) (n : Nat) (x0 : S_ref31_Got) : OR :=
  f28_x B call n [1, 1, 1, 1, 1, 1, 1, 1, 1, 1, 1, 1, 1, 1, 1] (kEnd AXE 0 f28_r) ⟨[(2, .one (.ptr 0 0))], [[.int .i64 x0.fE.fKind, .int .i64 x0.fE.fSlot, .int .i64 x0.fE.fN, .int .i64 x0.fE.fK, .bool x0.fE.fLmtp, .str x0.fE.fName, .int .i64 x0.fE.fLimit_Bytes, .int .i64 x0.fE.fLimit_Count, .sl (some ⟨1000000, 8, 9⟩) 1 x0.fE.fTo, .sl (some ⟨1000000, 9, 5⟩) 1 x0.fE.fData, .int .i64 x0.fE.fCode, .sl (some ⟨1000000, 11, 3⟩) 1 x0.fE.fKeep, .int .i64 x0.fErr]]⟩
def f28_P43 (B : Code) (call : CallF) (n : Nat) (x0 : S_ref31_Got) (x1 : S_api_Event) : OR :=
  f28_x B call n [1, 1, 1, 1, 1, 1, 1, 1, 1, 1, 1, 1, 1, 1] (kEnd AXE 0 f28_r) ⟨[(2, .one (.ptr 0 0)), (4, .one (.ptr 1 0))], [[.int .i64 x0.fE.fKind, .int .i64 x0.fE.fSlot, .int .i64 x0.fE.fN, .int .i64 x0.fE.fK, .bool x0.fE.fLmtp, .str x0.fE.fName, .int .i64 x0.fE.fLimit_Bytes, .int .i64 x0.fE.fLimit_Count, .sl (some ⟨1000000, 8, 9⟩) 1 x0.fE.fTo, .sl (some ⟨1000000, 9, 5⟩) 1 x0.fE.fData, .int .i64 x0.fE.fCode, .sl (some ⟨1000000, 11, 3⟩) 1 x0.fE.fKeep, .int .i64 x0.fErr], [.int .i64 x1.fKind, .int .i64 x1.fSlot, .int .i64 x1.fN, .int .i64 x1.fK, .bool x1.fLmtp, .str x1.fName, .int .i64 x1.fLimit_Bytes, .int .i64 x1.fLimit_Count, .sl (some ⟨1000001, 8, 9⟩) 1 x1.fTo, .sl (some ⟨1000001, 9, 5⟩) 1 x1.fData, .int .i64 x1.fCode, .sl (some ⟨1000001, 11, 3⟩) 1 x1.fKeep]]⟩
def f28_P50 (B : Code) (call : CallF) (n : Nat) (x0 : LC) (x1 : S_ref31_Got) (x2 : S_api_Event) : OR :=
  f28_x B call n [1, 1, 1, 1, 1, 1, 1, 1, 1, 1, 1, 1, 1, 0, 1, 0, 1, 1, 1, 1, 1, 0, 1] (kBlk 2 (kSeq (f28_x B call n [1, 1, 1, 1, 1, 1, 1, 1, 1, 1, 1, 1, 1, 1]) (kEnd AXE 0 f28_r))) ⟨[(2, .one (.ptr 0 0)), (4, .one (.ptr 1 0)), (10, .one (.sl none 1 x0))], [[.int .i64 x1.fE.fKind, .int .i64 x1.fE.fSlot, .int .i64 x1.fE.fN, .int .i64 x1.fE.fK, .bool x1.fE.fLmtp, .str x1.fE.fName, .int .i64 x1.fE.fLimit_Bytes, .int .i64 x1.fE.fLimit_Count, .sl (some ⟨1000000, 8, 9⟩) 1 x1.fE.fTo, .sl (some ⟨1000000, 9, 5⟩) 1 x1.fE.fData, .int .i64 x1.fE.fCode, .sl (some ⟨1000000, 11, 3⟩) 1 x1.fE.fKeep, .int .i64 x1.fErr], [.int .i64 x2.fKind, .int .i64 x2.fSlot, .int .i64 x2.fN, .int .i64 x2.fK, .bool x2.fLmtp, .str x2.fName, .int .i64 x2.fLimit_Bytes, .int .i64 x2.fLimit_Count, .sl (some ⟨1000001, 8, 9⟩) 1 x2.fTo, .sl (some ⟨1000001, 9, 5⟩) 1 x2.fData, .int .i64 x2.fCode, .sl (some ⟨1000001, 11, 3⟩) 1 x2.fKeep]]⟩
def f28_P59 (B : Code) (call : CallF) (n : Nat) (x0 : S_ref31_Got) : OR :=
  f28_x B call n [1, 1, 1, 1, 1, 1, 1, 1, 1, 1, 1, 1, 1, 0, 1, 0, 1, 1, 1, 1, 1, 1, 1, 0, 0, 1, 0, 1] (kSeq (f28_x B call n [1, 1, 1, 1, 1, 1, 1, 1, 1, 1, 1, 1, 1, 0, 1, 0, 1, 1, 1, 1, 1, 1, 1, 0, 1]) (kBlk 2 (kSeq (f28_x B call n [1, 1, 1, 1, 1, 1, 1, 1, 1, 1, 1, 1, 1, 1]) (kEnd AXE 0 f28_r)))) ⟨[(2, .one (.ptr 0 0))], [x0.cells]⟩
def f28_P54 (B : Code) (call : CallF) (n : Nat) (x0 : LC) (x1 : Bool) (x2 : S_ref31_Got) (x3 : S_api_Event) : OR :=
  f28_x B call n [1, 1, 1, 1, 1, 1, 1, 1, 1, 1, 1, 1, 1, 0, 1, 0, 1, 1, 1, 1, 1, 1, 1, 0, 0, 1] (kSeq (f28_x B call n [1, 1, 1, 1, 1, 1, 1, 1, 1, 1, 1, 1, 1, 0, 1, 0, 1, 1, 1, 1, 1, 1, 1, 0, 1]) (kBlk 2 (kSeq (f28_x B call n [1, 1, 1, 1, 1, 1, 1, 1, 1, 1, 1, 1, 1, 1]) (kEnd AXE 0 f28_r)))) ⟨[(2, .one (.ptr 0 0)), (4, .one (.ptr 1 0)), (10, .one (.sl none 1 x0)), (156, .one (.bool x1))], [[.int .i64 x2.fE.fKind, .int .i64 x2.fE.fSlot, .int .i64 x2.fE.fN, .int .i64 x2.fE.fK, .bool x2.fE.fLmtp, .str x2.fE.fName, .int .i64 x2.fE.fLimit_Bytes, .int .i64 x2.fE.fLimit_Count, .sl (some ⟨1000000, 8, 9⟩) 1 x2.fE.fTo, .sl (some ⟨1000000, 9, 5⟩) 1 x2.fE.fData, .int .i64 x2.fE.fCode, .sl (some ⟨1000000, 11, 3⟩) 1 x2.fE.fKeep, .int .i64 x2.fErr], [.int .i64 x3.fKind, .int .i64 x3.fSlot, .int .i64 x3.fN, .int .i64 x3.fK, .bool x3.fLmtp, .str x3.fName, .int .i64 x3.fLimit_Bytes, .int .i64 x3.fLimit_Count, .sl (some ⟨1000001, 8, 9⟩) 1 x3.fTo, .sl (some ⟨1000001, 9, 5⟩) 1 x3.fData, .int .i64 x3.fCode, .sl (some ⟨1000001, 11, 3⟩) 1 x3.fKeep]]⟩
def f28_P64 (B : Code) (call : CallF) (n : Nat) (x0 : S_ref31_Got) : OR :=
  f28_x B call n [1, 1, 1, 1, 1, 1, 1, 1, 1, 1, 1, 1, 1, 1, 1] (kEnd AXE 0 f28_r) ⟨[(2, .one (.ptr 0 0))], [[.int .i64 x0.fE.fKind, .int .i64 x0.fE.fSlot, .int .i64 x0.fE.fN, .int .i64 x0.fE.fK, .bool x0.fE.fLmtp, .str x0.fE.fName, .int .i64 x0.fE.fLimit_Bytes, .int .i64 x0.fE.fLimit_Count, .sl (some ⟨1000000, 8, 9⟩) 1 x0.fE.fTo, .sl (some ⟨1000000, 9, 5⟩) 1 x0.fE.fData, .int .i64 x0.fE.fCode, .sl none 1 x0.fE.fKeep, .int .i64 x0.fErr]]⟩
def f28_P63 (B : Code) (call : CallF) (n : Nat) (x0 : S_ref31_Got) (x1 : S_api_Event) : OR :=
  f28_x B call n [1, 1, 1, 1, 1, 1, 1, 1, 1, 1, 1, 1, 1, 1] (kEnd AXE 0 f28_r) ⟨[(2, .one (.ptr 0 0)), (4, .one (.ptr 1 0))], [[.int .i64 x0.fE.fKind, .int .i64 x0.fE.fSlot, .int .i64 x0.fE.fN, .int .i64 x0.fE.fK, .bool x0.fE.fLmtp, .str x0.fE.fName, .int .i64 x0.fE.fLimit_Bytes, .int .i64 x0.fE.fLimit_Count, .sl (some ⟨1000000, 8, 9⟩) 1 x0.fE.fTo, .sl (some ⟨1000000, 9, 5⟩) 1 x0.fE.fData, .int .i64 x0.fE.fCode, .sl (some ⟨1000000, 11, 3⟩) 1 x0.fE.fKeep, .int .i64 x0.fErr], [.int .i64 x1.fKind, .int .i64 x1.fSlot, .int .i64 x1.fN, .int .i64 x1.fK, .bool x1.fLmtp, .str x1.fName, .int .i64 x1.fLimit_Bytes, .int .i64 x1.fLimit_Count, .sl (some ⟨1000001, 8, 9⟩) 1 x1.fTo, .sl (some ⟨1000001, 9, 5⟩) 1 x1.fData, .int .i64 x1.fCode, .sl none 1 x1.fKeep]]⟩
def f28_P60 (B : Code) (call : CallF) (n : Nat) (x0 : LC) (x1 : S_ref31_Got) (x2 : S_api_Event) : OR :=
  f28_x B call n [1, 1, 1, 1, 1, 1, 1, 1, 1, 1, 1, 1, 1, 0, 1, 0, 1, 1, 1, 1, 1, 1, 1, 1, 1, 0, 1] (kBlk 2 (kSeq (f28_x B call n [1, 1, 1, 1, 1, 1, 1, 1, 1, 1, 1, 1, 1, 1]) (kEnd AXE 0 f28_r))) ⟨[(2, .one (.ptr 0 0)), (4, .one (.ptr 1 0)), (10, .one (.sl none 1 x0))], [[.int .i64 x1.fE.fKind, .int .i64 x1.fE.fSlot, .int .i64 x1.fE.fN, .int .i64 x1.fE.fK, .bool x1.fE.fLmtp, .str x1.fE.fName, .int .i64 x1.fE.fLimit_Bytes, .int .i64 x1.fE.fLimit_Count, .sl (some ⟨1000000, 8, 9⟩) 1 x1.fE.fTo, .sl (some ⟨1000000, 9, 5⟩) 1 x1.fE.fData, .int .i64 x1.fE.fCode, .sl (some ⟨1000000, 11, 3⟩) 1 x1.fE.fKeep, .int .i64 x1.fErr], [.int .i64 x2.fKind, .int .i64 x2.fSlot, .int .i64 x2.fN, .int .i64 x2.fK, .bool x2.fLmtp, .str x2.fName, .int .i64 x2.fLimit_Bytes, .int .i64 x2.fLimit_Count, .sl (some ⟨1000001, 8, 9⟩) 1 x2.fTo, .sl (some ⟨1000001, 9, 5⟩) 1 x2.fData, .int .i64 x2.fCode, .sl (some ⟨1000001, 11, 3⟩) 1 x2.fKeep]]⟩
def f28_P61 (B : Code) (call : CallF) (n : Nat) (x0 : LC) (x1 : S_ref31_Got) (x2 : S_api_Event) : OR :=
  f28_x B call n [1, 1, 1, 1, 1, 1, 1, 1, 1, 1, 1, 1, 1, 1] (kEnd AXE 0 f28_r) ⟨[(2, .one (.ptr 0 0)), (4, .one (.ptr 1 0)), (10, .one (.sl none 1 x0))], [[.int .i64 x1.fE.fKind, .int .i64 x1.fE.fSlot, .int .i64 x1.fE.fN, .int .i64 x1.fE.fK, .bool x1.fE.fLmtp, .str x1.fE.fName, .int .i64 x1.fE.fLimit_Bytes, .int .i64 x1.fE.fLimit_Count, .sl (some ⟨1000000, 8, 9⟩) 1 x1.fE.fTo, .sl (some ⟨1000000, 9, 5⟩) 1 x1.fE.fData, .int .i64 x1.fE.fCode, .sl (some ⟨1000000, 11, 3⟩) 1 x1.fE.fKeep, .int .i64 x1.fErr], [.int .i64 x2.fKind, .int .i64 x2.fSlot, .int .i64 x2.fN, .int .i64 x2.fK, .bool x2.fLmtp, .str x2.fName, .int .i64 x2.fLimit_Bytes, .int .i64 x2.fLimit_Count, .sl (some ⟨1000001, 8, 9⟩) 1 x2.fTo, .sl (some ⟨1000001, 9, 5⟩) 1 x2.fData, .int .i64 x2.fCode, .sl (some ⟨1000001, 11, 3⟩) 1 x2.fKeep]]⟩
def f28_P57 (B : Code) (call : CallF) (n : Nat) (x0 : LC) (x1 : Bool) (x2 : S_ref31_Got) (x3 : S_api_Event) : OR :=
  f28_x B call n [1, 1, 1, 1, 1, 1, 1, 1, 1, 1, 1, 1, 1, 0, 1, 0, 1, 1, 1, 1, 1, 1, 1, 1, 1] (kBlk 2 (kSeq (f28_x B call n [1, 1, 1, 1, 1, 1, 1, 1, 1, 1, 1, 1, 1, 1]) (kEnd AXE 0 f28_r))) ⟨[(2, .one (.ptr 0 0)), (4, .one (.ptr 1 0)), (10, .one (.sl none 1 x0)), (166, .one (.bool x1))], [[.int .i64 x2.fE.fKind, .int .i64 x2.fE.fSlot, .int .i64 x2.fE.fN, .int .i64 x2.fE.fK, .bool x2.fE.fLmtp, .str x2.fE.fName, .int .i64 x2.fE.fLimit_Bytes, .int .i64 x2.fE.fLimit_Count, .sl (some ⟨1000000, 8, 9⟩) 1 x2.fE.fTo, .sl (some ⟨1000000, 9, 5⟩) 1 x2.fE.fData, .int .i64 x2.fE.fCode, .sl (some ⟨1000000, 11, 3⟩) 1 x2.fE.fKeep, .int .i64 x2.fErr], [.int .i64 x3.fKind, .int .i64 x3.fSlot, .int .i64 x3.fN, .int .i64 x3.fK, .bool x3.fLmtp, .str x3.fName, .int .i64 x3.fLimit_Bytes, .int .i64 x3.fLimit_Count, .sl (some ⟨1000001, 8, 9⟩) 1 x3.fTo, .sl (some ⟨1000001, 9, 5⟩) 1 x3.fData, .int .i64 x3.fCode, .sl (some ⟨1000001, 11, 3⟩) 1 x3.fKeep]]⟩
def f28_P51 (B : Code) (call : CallF) (n : Nat) (x0 : LC) (x1 : Int) (x2 : Bool) (x3 : S_ref31_Got) (x4 : S_api_Event) : OR :=
  f28_x B call n [1, 1, 1, 1, 1, 1, 1, 1, 1, 1, 1, 1, 1, 0, 1, 0, 1, 1, 1, 1, 1, 1, 1] (kBlk 2 (kSeq (f28_x B call n [1, 1, 1, 1, 1, 1, 1, 1, 1, 1, 1, 1, 1, 1]) (kEnd AXE 0 f28_r))) ⟨[(2, .one (.ptr 0 0)), (4, .one (.ptr 1 0)), (10, .one (.sl none 1 x0)), (115, .one (.int .i64 x1)), (145, .one (.bool x2))], [[.int .i64 x3.fE.fKind, .int .i64 x3.fE.fSlot, .int .i64 x3.fE.fN, .int .i64 x3.fE.fK, .bool x3.fE.fLmtp, .str x3.fE.fName, .int .i64 x3.fE.fLimit_Bytes, .int .i64 x3.fE.fLimit_Count, .sl (some ⟨1000000, 8, 9⟩) 1 x3.fE.fTo, .sl (some ⟨1000000, 9, 5⟩) 1 x3.fE.fData, .int .i64 x3.fE.fCode, .sl (some ⟨1000000, 11, 3⟩) 1 x3.fE.fKeep, .int .i64 x3.fErr], [.int .i64 x4.fKind, .int .i64 x4.fSlot, .int .i64 x4.fN, .int .i64 x4.fK, .bool x4.fLmtp, .str x4.fName, .int .i64 x4.fLimit_Bytes, .int .i64 x4.fLimit_Count, .sl (some ⟨1000001, 8, 9⟩) 1 x4.fTo, .sl (some ⟨1000001, 9, 5⟩) 1 x4.fData, .int .i64 x4.fCode, .sl (some ⟨1000001, 11, 3⟩) 1 x4.fKeep]]⟩
def f28_P48 (B : Code) (call : CallF) (n : Nat) (x0 : LC) (x1 : Int) (x2 : Bool) (x3 : S_ref31_Got) (x4 : S_api_Event) : OR :=
  f28_x B call n [1, 1, 1, 1, 1, 1, 1, 1, 1, 1, 1, 1, 1, 0, 1, 0, 1, 1, 1, 1, 1] (kBlk 2 (kSeq (f28_x B call n [1, 1, 1, 1, 1, 1, 1, 1, 1, 1, 1, 1, 1, 1]) (kEnd AXE 0 f28_r))) ⟨[(2, .one (.ptr 0 0)), (4, .one (.ptr 1 0)), (10, .one (.sl none 1 x0)), (115, .one (.int .i64 x1)), (135, .one (.bool x2))], [[.int .i64 x3.fE.fKind, .int .i64 x3.fE.fSlot, .int .i64 x3.fE.fN, .int .i64 x3.fE.fK, .bool x3.fE.fLmtp, .str x3.fE.fName, .int .i64 x3.fE.fLimit_Bytes, .int .i64 x3.fE.fLimit_Count, .sl (some ⟨1000000, 8, 9⟩) 1 x3.fE.fTo, .sl (some ⟨1000000, 9, 5⟩) 1 x3.fE.fData, .int .i64 x3.fE.fCode, .sl (some ⟨1000000, 11, 3⟩) 1 x3.fE.fKeep, .int .i64 x3.fErr], [.int .i64 x4.fKind, .int .i64 x4.fSlot, .int .i64 x4.fN, .int .i64 x4.fK, .bool x4.fLmtp, .str x4.fName, .int .i64 x4.fLimit_Bytes, .int .i64 x4.fLimit_Count, .sl (some ⟨1000001, 8, 9⟩) 1 x4.fTo, .sl (some ⟨1000001, 9, 5⟩) 1 x4.fData, .int .i64 x4.fCode, .sl (some ⟨1000001, 11, 3⟩) 1 x4.fKeep]]⟩
def f28_P44 (B : Code) (call : CallF) (n : Nat) (x0 : Bool) (x1 : LC) (x2 : Int) (x3 : S_ref31_Got) (x4 : S_api_Event) : OR :=
  f28_x B call n [1, 1, 1, 1, 1, 1, 1, 1, 1, 1, 1, 1, 1, 0, 1, 0, 1, 1, 1] (kBlk 2 (kSeq (f28_x B call n [1, 1, 1, 1, 1, 1, 1, 1, 1, 1, 1, 1, 1, 1]) (kEnd AXE 0 f28_r))) ⟨[(127, .one (.bool x0)), (2, .one (.ptr 0 0)), (4, .one (.ptr 1 0)), (10, .one (.sl none 1 x1)), (115, .one (.int .i64 x2))], [[.int .i64 x3.fE.fKind, .int .i64 x3.fE.fSlot, .int .i64 x3.fE.fN, .int .i64 x3.fE.fK, .bool x3.fE.fLmtp, .str x3.fE.fName, .int .i64 x3.fE.fLimit_Bytes, .int .i64 x3.fE.fLimit_Count, .sl (some ⟨1000000, 8, 9⟩) 1 x3.fE.fTo, .sl (some ⟨1000000, 9, 5⟩) 1 x3.fE.fData, .int .i64 x3.fE.fCode, .sl (some ⟨1000000, 11, 3⟩) 1 x3.fE.fKeep, .int .i64 x3.fErr], [.int .i64 x4.fKind, .int .i64 x4.fSlot, .int .i64 x4.fN, .int .i64 x4.fK, .bool x4.fLmtp, .str x4.fName, .int .i64 x4.fLimit_Bytes, .int .i64 x4.fLimit_Count, .sl (some ⟨1000001, 8, 9⟩) 1 x4.fTo, .sl (some ⟨1000001, 9, 5⟩) 1 x4.fData, .int .i64 x4.fCode, .sl (some ⟨1000001, 11, 3⟩) 1 x4.fKeep]]⟩
def f28_P45 (B : Code) (call : CallF) (n : Nat) (x0 : LC) (x1 : Int) (x2 : Bool) (x3 : S_ref31_Got) (x4 : S_api_Event) : OR :=
  f28_x B call n [1, 1, 1, 1, 1, 1, 1, 1, 1, 1, 1, 1, 1, 0, 1, 0, 1, 1, 1] (kBlk 2 (kSeq (f28_x B call n [1, 1, 1, 1, 1, 1, 1, 1, 1, 1, 1, 1, 1, 1]) (kEnd AXE 0 f28_r))) ⟨[(2, .one (.ptr 0 0)), (4, .one (.ptr 1 0)), (10, .one (.sl none 1 x0)), (115, .one (.int .i64 x1)), (127, .one (.bool x2))], [[.int .i64 x3.fE.fKind, .int .i64 x3.fE.fSlot, .int .i64 x3.fE.fN, .int .i64 x3.fE.fK, .bool x3.fE.fLmtp, .str x3.fE.fName, .int .i64 x3.fE.fLimit_Bytes, .int .i64 x3.fE.fLimit_Count, .sl (some ⟨1000000, 8, 9⟩) 1 x3.fE.fTo, .sl (some ⟨1000000, 9, 5⟩) 1 x3.fE.fData, .int .i64 x3.fE.fCode, .sl (some ⟨1000000, 11, 3⟩) 1 x3.fE.fKeep, .int .i64 x3.fErr], [.int .i64 x4.fKind, .int .i64 x4.fSlot, .int .i64 x4.fN, .int .i64 x4.fK, .bool x4.fLmtp, .str x4.fName, .int .i64 x4.fLimit_Bytes, .int .i64 x4.fLimit_Count, .sl (some ⟨1000001, 8, 9⟩) 1 x4.fTo, .sl (some ⟨1000001, 9, 5⟩) 1 x4.fData, .int .i64 x4.fCode, .sl (some ⟨1000001, 11, 3⟩) 1 x4.fKeep]]⟩
def f28_P33 (B : Code) (call : CallF) (n : Nat) (x0 : Int) (x1 : LC) (x2 : Bool) (x3 : S_ref31_Got) (x4 : S_api_Event) : OR :=
  f28_x B call n [1, 1, 1, 1, 1, 1, 1, 1, 1, 1, 1, 1, 0, 1] (kSeq (f28_x B call n [1, 1, 1, 1, 1, 1, 1, 1, 1, 1, 1, 1, 1]) (kEnd AXE 0 f28_r)) ⟨[(2, .one (.ptr 0 0)), (4, .one (.ptr 1 0)), (7, .one (.int .i64 x0)), (10, .one (.sl none 1 x1)), (113, .one (.bool x2))], [[.int .i64 x3.fE.fKind, .int .i64 x3.fE.fSlot, .int .i64 x3.fE.fN, .int .i64 x3.fE.fK, .bool x3.fE.fLmtp, .str x3.fE.fName, .int .i64 x3.fE.fLimit_Bytes, .int .i64 x3.fE.fLimit_Count, .sl (some ⟨1000000, 8, 9⟩) 1 x3.fE.fTo, .sl (some ⟨1000000, 9, 5⟩) 1 x3.fE.fData, .int .i64 x3.fE.fCode, .sl (some ⟨1000000, 11, 3⟩) 1 x3.fE.fKeep, .int .i64 x3.fErr], [.int .i64 x4.fKind, .int .i64 x4.fSlot, .int .i64 x4.fN, .int .i64 x4.fK, .bool x4.fLmtp, .str x4.fName, .int .i64 x4.fLimit_Bytes, .int .i64 x4.fLimit_Count, .sl (some ⟨1000001, 8, 9⟩) 1 x4.fTo, .sl (some ⟨1000001, 9, 5⟩) 1 x4.fData, .int .i64 x4.fCode, .sl (some ⟨1000001, 11, 3⟩) 1 x4.fKeep]]⟩
def f28_P31 (B : Code) (call : CallF) (n : Nat) (x0 : Int) (x1 x2 : LC) (x3 : S_ref31_Got) (x4 : S_api_Event) : OR :=
  f28_x B call n [1, 1, 1, 1, 1, 1, 1, 1, 1, 1, 1, 1] (kEnd AXE 0 f28_r) ⟨[(2, .one (.ptr 0 0)), (4, .one (.ptr 1 0)), (7, .one (.int .i64 x0)), (10, .one (.sl none 1 x1)), (12, .one (.sl (some ⟨12, 0, 3⟩) 1 x2))], [[.int .i64 x3.fE.fKind, .int .i64 x3.fE.fSlot, .int .i64 x3.fE.fN, .int .i64 x3.fE.fK, .bool x3.fE.fLmtp, .str x3.fE.fName, .int .i64 x3.fE.fLimit_Bytes, .int .i64 x3.fE.fLimit_Count, .sl (some ⟨1000000, 8, 9⟩) 1 x3.fE.fTo, .sl (some ⟨1000000, 9, 5⟩) 1 x3.fE.fData, .int .i64 x3.fE.fCode, .sl (some ⟨1000000, 11, 3⟩) 1 x3.fE.fKeep, .int .i64 x3.fErr], [.int .i64 x4.fKind, .int .i64 x4.fSlot, .int .i64 x4.fN, .int .i64 x4.fK, .bool x4.fLmtp, .str x4.fName, .int .i64 x4.fLimit_Bytes, .int .i64 x4.fLimit_Count, .sl (some ⟨1000001, 8, 9⟩) 1 x4.fTo, .sl (some ⟨1000001, 9, 5⟩) 1 x4.fData, .int .i64 x4.fCode, .sl (some ⟨1000001, 11, 3⟩) 1 x4.fKeep]]⟩
def f28_P28 (B : Code) (call : CallF) (n : Nat) (x0 : Int) (x1 : LC) (x2 : S_ref31_Got) (x3 : S_api_Event) : OR :=
  f28_x B call n [1, 1, 1, 1, 1, 1, 1, 1, 1, 1, 1] (kEnd AXE 0 f28_r) ⟨[(2, .one (.ptr 0 0)), (4, .one (.ptr 1 0)), (7, .one (.int .i64 x0)), (10, .one (.sl none 1 x1))], [[.int .i64 x2.fE.fKind, .int .i64 x2.fE.fSlot, .int .i64 x2.fE.fN, .int .i64 x2.fE.fK, .bool x2.fE.fLmtp, .str x2.fE.fName, .int .i64 x2.fE.fLimit_Bytes, .int .i64 x2.fE.fLimit_Count, .sl (some ⟨1000000, 8, 9⟩) 1 x2.fE.fTo, .sl (some ⟨1000000, 9, 5⟩) 1 x2.fE.fData, .int .i64 x2.fE.fCode, .sl (some ⟨1000000, 11, 3⟩) 1 x2.fE.fKeep, .int .i64 x2.fErr], [.int .i64 x3.fKind, .int .i64 x3.fSlot, .int .i64 x3.fN, .int .i64 x3.fK, .bool x3.fLmtp, .str x3.fName, .int .i64 x3.fLimit_Bytes, .int .i64 x3.fLimit_Count, .sl (some ⟨1000001, 8, 9⟩) 1 x3.fTo, .sl (some ⟨1000001, 9, 5⟩) 1 x3.fData, .int .i64 x3.fCode, .sl (some ⟨1000001, 11, 3⟩) 1 x3.fKeep]]⟩
def f28_P25 (B : Code) (call : CallF) (n : Nat) (x0 : Int) (x1 : LC) (x2 : Bool) (x3 : S_ref31_Got) (x4 : S_api_Event) : OR :=
  f28_x B call n [1, 1, 1, 1, 1, 1, 1, 1, 1, 1, 0, 1] (kSeq (f28_x B call n [1, 1, 1, 1, 1, 1, 1, 1, 1, 1, 1]) (kEnd AXE 0 f28_r)) ⟨[(2, .one (.ptr 0 0)), (4, .one (.ptr 1 0)), (7, .one (.int .i64 x0)), (10, .one (.sl none 1 x1)), (88, .one (.bool x2))], [[.int .i64 x3.fE.fKind, .int .i64 x3.fE.fSlot, .int .i64 x3.fE.fN, .int .i64 x3.fE.fK, .bool x3.fE.fLmtp, .str x3.fE.fName, .int .i64 x3.fE.fLimit_Bytes, .int .i64 x3.fE.fLimit_Count, .sl (some ⟨1000000, 8, 9⟩) 1 x3.fE.fTo, .sl (some ⟨1000000, 9, 5⟩) 1 x3.fE.fData, .int .i64 x3.fE.fCode, .sl (some ⟨1000000, 11, 3⟩) 1 x3.fE.fKeep, .int .i64 x3.fErr], [.int .i64 x4.fKind, .int .i64 x4.fSlot, .int .i64 x4.fN, .int .i64 x4.fK, .bool x4.fLmtp, .str x4.fName, .int .i64 x4.fLimit_Bytes, .int .i64 x4.fLimit_Count, .sl (some ⟨1000001, 8, 9⟩) 1 x4.fTo, .sl (some ⟨1000001, 9, 5⟩) 1 x4.fData, .int .i64 x4.fCode, .sl (some ⟨1000001, 11, 3⟩) 1 x4.fKeep]]⟩
def f28_P23 (B : Code) (call : CallF) (n : Nat) (x0 : Int) (x1 : LC) (x2 : Bool) (x3 : S_ref31_Got) (x4 : S_api_Event) : OR :=
  f28_x B call n [1, 1, 1, 1, 1, 1, 1, 1, 1, 1] (kEnd AXE 0 f28_r) ⟨[(2, .one (.ptr 0 0)), (4, .one (.ptr 1 0)), (7, .one (.int .i64 x0)), (10, .one (.sl none 1 x1)), (11, .one (.bool x2))], [[.int .i64 x3.fE.fKind, .int .i64 x3.fE.fSlot, .int .i64 x3.fE.fN, .int .i64 x3.fE.fK, .bool x3.fE.fLmtp, .str x3.fE.fName, .int .i64 x3.fE.fLimit_Bytes, .int .i64 x3.fE.fLimit_Count, .sl (some ⟨1000000, 8, 9⟩) 1 x3.fE.fTo, .sl (some ⟨1000000, 9, 5⟩) 1 x3.fE.fData, .int .i64 x3.fE.fCode, .sl (some ⟨1000000, 11, 3⟩) 1 x3.fE.fKeep, .int .i64 x3.fErr], [.int .i64 x4.fKind, .int .i64 x4.fSlot, .int .i64 x4.fN, .int .i64 x4.fK, .bool x4.fLmtp, .str x4.fName, .int .i64 x4.fLimit_Bytes, .int .i64 x4.fLimit_Count, .sl (some ⟨1000001, 8, 9⟩) 1 x4.fTo, .sl (some ⟨1000001, 9, 5⟩) 1 x4.fData, .int .i64 x4.fCode, .sl (some ⟨1000001, 11, 3⟩) 1 x4.fKeep]]⟩
def f28_P20 (B : Code) (call : CallF) (n : Nat) (x0 : LC) (x1 : Int) (x2 : S_ref31_Got) (x3 : S_api_Event) : OR :=
  f28_x B call n [1, 1, 1, 1, 1, 1, 1, 1, 1] (kEnd AXE 0 f28_r) ⟨[(2, .one (.ptr 0 0)), (4, .one (.ptr 1 0)), (6, .one (.sl none 1 x0)), (7, .one (.int .i64 x1))], [[.int .i64 x2.fE.fKind, .int .i64 x2.fE.fSlot, .int .i64 x2.fE.fN, .int .i64 x2.fE.fK, .bool x2.fE.fLmtp, .str x2.fE.fName, .int .i64 x2.fE.fLimit_Bytes, .int .i64 x2.fE.fLimit_Count, .sl (some ⟨1000000, 8, 9⟩) 1 x2.fE.fTo, .sl (some ⟨1000000, 9, 5⟩) 1 x2.fE.fData, .int .i64 x2.fE.fCode, .sl (some ⟨1000000, 11, 3⟩) 1 x2.fE.fKeep, .int .i64 x2.fErr], [.int .i64 x3.fKind, .int .i64 x3.fSlot, .int .i64 x3.fN, .int .i64 x3.fK, .bool x3.fLmtp, .str x3.fName, .int .i64 x3.fLimit_Bytes, .int .i64 x3.fLimit_Count, .sl (some ⟨1000001, 8, 9⟩) 1 x3.fTo, .sl (some ⟨1000001, 9, 5⟩) 1 x3.fData, .int .i64 x3.fCode, .sl (some ⟨1000001, 11, 3⟩) 1 x3.fKeep]]⟩
def f28_P46 (B : Code) (call : CallF) (n : Nat) (x0 : LC) (x1 : Int) (x2 : Bool) (x3 : S_ref31_Got) (x4 : S_api_Event) : OR :=
  f28_x B call n [1, 1, 1, 1, 1, 1, 1, 1, 0, 1, 0, 1, 1, 1, 1, 1, 1] (kSeq (f28_x B call n [1, 1, 1, 1, 1, 1, 1, 1, 1]) (kEnd AXE 0 f28_r)) ⟨[(2, .one (.ptr 0 0)), (4, .one (.ptr 1 0)), (6, .one (.sl none 1 x0)), (7, .one (.int .i64 x1)), (73, .one (.bool x2))], [[.int .i64 x3.fE.fKind, .int .i64 x3.fE.fSlot, .int .i64 x3.fE.fN, .int .i64 x3.fE.fK, .bool x3.fE.fLmtp, .str x3.fE.fName, .int .i64 x3.fE.fLimit_Bytes, .int .i64 x3.fE.fLimit_Count, .sl (some ⟨1000000, 8, 9⟩) 1 x3.fE.fTo, .sl (some ⟨1000000, 9, 5⟩) 1 x3.fE.fData, .int .i64 x3.fE.fCode, .sl (some ⟨1000000, 11, 3⟩) 1 x3.fE.fKeep, .int .i64 x3.fErr], [.int .i64 x4.fKind, .int .i64 x4.fSlot, .int .i64 x4.fN, .int .i64 x4.fK, .bool x4.fLmtp, .str x4.fName, .int .i64 x4.fLimit_Bytes, .int .i64 x4.fLimit_Count, .sl (some ⟨1000001, 8, 9⟩) 1 x4.fTo, .sl (some ⟨1000001, 9, 5⟩) 1 x4.fData, .int .i64 x4.fCode, .sl (some ⟨1000001, 11, 3⟩) 1 x4.fKeep]]⟩
def f28_P41 (B : Code) (call : CallF) (n : Nat) (x0 : LC) (x1 : Int) (x2 : S_ref31_Got) (x3 : S_api_Event) : OR :=
  f28_x B call n [1, 1, 1, 1, 1, 1, 1, 1, 0, 1, 0, 1, 1, 1, 1, 1] (kSeq (f28_x B call n [1, 1, 1, 1, 1, 1, 1, 1, 1]) (kEnd AXE 0 f28_r)) ⟨[(2, .one (.ptr 0 0)), (4, .one (.ptr 1 0)), (6, .one (.sl none 1 x0)), (7, .one (.int .i64 x1))], [[.int .i64 x2.fE.fKind, .int .i64 x2.fE.fSlot, .int .i64 x2.fE.fN, .int .i64 x2.fE.fK, .bool x2.fE.fLmtp, .str x2.fE.fName, .int .i64 x2.fE.fLimit_Bytes, .int .i64 x2.fE.fLimit_Count, .sl (some ⟨1000000, 8, 9⟩) 1 x2.fE.fTo, .sl (some ⟨1000000, 9, 5⟩) 1 x2.fE.fData, .int .i64 x2.fE.fCode, .sl (some ⟨1000000, 11, 3⟩) 1 x2.fE.fKeep, .int .i64 x2.fErr], [.int .i64 x3.fKind, .int .i64 x3.fSlot, .int .i64 x3.fN, .int .i64 x3.fK, .bool x3.fLmtp, .str x3.fName, .int .i64 x3.fLimit_Bytes, .int .i64 x3.fLimit_Count, .sl (some ⟨1000001, 8, 9⟩) 1 x3.fTo, .sl (some ⟨1000001, 9, 5⟩) 1 x3.fData, .int .i64 x3.fCode, .sl (some ⟨1000001, 11, 3⟩) 1 x3.fKeep]]⟩
def f28_P32 (B : Code) (call : CallF) (n : Nat) (x0 : LC) (x1 : Int) (x2 : S_ref31_Got) (x3 : S_api_Event) : OR :=
  f28_x B call n [1, 1, 1, 1, 1, 1, 1, 1, 0, 1, 0, 1, 1, 1, 1] (kSeq (f28_x B call n [1, 1, 1, 1, 1, 1, 1, 1, 1]) (kEnd AXE 0 f28_r)) ⟨[(2, .one (.ptr 0 0)), (4, .one (.ptr 1 0)), (6, .one (.sl none 1 x0)), (7, .one (.int .i64 x1))], [[.int .i64 x2.fE.fKind, .int .i64 x2.fE.fSlot, .int .i64 x2.fE.fN, .int .i64 x2.fE.fK, .bool x2.fE.fLmtp, .str x2.fE.fName, .int .i64 x2.fE.fLimit_Bytes, .int .i64 x2.fE.fLimit_Count, .sl (some ⟨1000000, 8, 9⟩) 1 x2.fE.fTo, .sl (some ⟨1000000, 9, 5⟩) 1 x2.fE.fData, .int .i64 x2.fE.fCode, .sl (some ⟨1000000, 11, 3⟩) 1 x2.fE.fKeep, .int .i64 x2.fErr], [.int .i64 x3.fKind, .int .i64 x3.fSlot, .int .i64 x3.fN, .int .i64 x3.fK, .bool x3.fLmtp, .str x3.fName, .int .i64 x3.fLimit_Bytes, .int .i64 x3.fLimit_Count, .sl (some ⟨1000001, 8, 9⟩) 1 x3.fTo, .sl (some ⟨1000001, 9, 5⟩) 1 x3.fData, .int .i64 x3.fCode, .sl (some ⟨1000001, 11, 3⟩) 1 x3.fKeep]]⟩
def f28_P30 (B : Code) (call : CallF) (n : Nat) (x0 : LC) (x1 : Int) (x2 : LB) (x3 : S_ref31_Got) (x4 : S_api_Event) : OR :=
  f28_x B call n [1, 1, 1, 1, 1, 1, 1, 1, 0, 1, 0, 1, 1, 1] (kSeq (f28_x B call n [1, 1, 1, 1, 1, 1, 1, 1, 1]) (kEnd AXE 0 f28_r)) ⟨[(2, .one (.ptr 0 0)), (4, .one (.ptr 1 0)), (6, .one (.sl none 1 x0)), (7, .one (.int .i64 x1)), (8, .one (.str x2))], [[.int .i64 x3.fE.fKind, .int .i64 x3.fE.fSlot, .int .i64 x3.fE.fN, .int .i64 x3.fE.fK, .bool x3.fE.fLmtp, .str x3.fE.fName, .int .i64 x3.fE.fLimit_Bytes, .int .i64 x3.fE.fLimit_Count, .sl (some ⟨1000000, 8, 9⟩) 1 x3.fE.fTo, .sl (some ⟨1000000, 9, 5⟩) 1 x3.fE.fData, .int .i64 x3.fE.fCode, .sl (some ⟨1000000, 11, 3⟩) 1 x3.fE.fKeep, .int .i64 x3.fErr], [.int .i64 x4.fKind, .int .i64 x4.fSlot, .int .i64 x4.fN, .int .i64 x4.fK, .bool x4.fLmtp, .str x4.fName, .int .i64 x4.fLimit_Bytes, .int .i64 x4.fLimit_Count, .sl (some ⟨1000001, 8, 9⟩) 1 x4.fTo, .sl (some ⟨1000001, 9, 5⟩) 1 x4.fData, .int .i64 x4.fCode, .sl (some ⟨1000001, 11, 3⟩) 1 x4.fKeep]]⟩
def f28_P26 (B : Code) (call : CallF) (n : Nat) (x0 : LC) (x1 : Int) (x2 : LB) (x3 : Bool) (x4 : S_ref31_Got) (x5 : S_api_Event) : OR :=
  f28_x B call n [1, 1, 1, 1, 1, 1, 1, 1, 0, 1, 0, 1, 1, 0, 1] (kSeq (f28_x B call n [1, 1, 1, 1, 1, 1, 1, 1, 0, 1, 0, 1, 1, 1]) (kSeq (f28_x B call n [1, 1, 1, 1, 1, 1, 1, 1, 1]) (kEnd AXE 0 f28_r))) ⟨[(2, .one (.ptr 0 0)), (4, .one (.ptr 1 0)), (6, .one (.sl none 1 x0)), (7, .one (.int .i64 x1)), (8, .one (.str x2)), (66, .one (.bool x3))], [[.int .i64 x4.fE.fKind, .int .i64 x4.fE.fSlot, .int .i64 x4.fE.fN, .int .i64 x4.fE.fK, .bool x4.fE.fLmtp, .str x4.fE.fName, .int .i64 x4.fE.fLimit_Bytes, .int .i64 x4.fE.fLimit_Count, .sl (some ⟨1000000, 8, 9⟩) 1 x4.fE.fTo, .sl (some ⟨1000000, 9, 5⟩) 1 x4.fE.fData, .int .i64 x4.fE.fCode, .sl (some ⟨1000000, 11, 3⟩) 1 x4.fE.fKeep, .int .i64 x4.fErr], [.int .i64 x5.fKind, .int .i64 x5.fSlot, .int .i64 x5.fN, .int .i64 x5.fK, .bool x5.fLmtp, .str x5.fName, .int .i64 x5.fLimit_Bytes, .int .i64 x5.fLimit_Count, .sl (some ⟨1000001, 8, 9⟩) 1 x5.fTo, .sl (some ⟨1000001, 9, 5⟩) 1 x5.fData, .int .i64 x5.fCode, .sl (some ⟨1000001, 11, 3⟩) 1 x5.fKeep]]⟩
def f28_P24 (B : Code) (call : CallF) (n : Nat) (x0 : LC) (x1 : Int) (x2 : LB) (x3 : Bool) (x4 : S_ref31_Got) (x5 : S_api_Event) : OR :=
  f28_x B call n [1, 1, 1, 1, 1, 1, 1, 1, 0, 1, 0, 1, 1] (kSeq (f28_x B call n [1, 1, 1, 1, 1, 1, 1, 1, 1]) (kEnd AXE 0 f28_r)) ⟨[(2, .one (.ptr 0 0)), (4, .one (.ptr 1 0)), (6, .one (.sl none 1 x0)), (7, .one (.int .i64 x1)), (8, .one (.str x2)), (9, .one (.bool x3))], [[.int .i64 x4.fE.fKind, .int .i64 x4.fE.fSlot, .int .i64 x4.fE.fN, .int .i64 x4.fE.fK, .bool x4.fE.fLmtp, .str x4.fE.fName, .int .i64 x4.fE.fLimit_Bytes, .int .i64 x4.fE.fLimit_Count, .sl (some ⟨1000000, 8, 9⟩) 1 x4.fE.fTo, .sl (some ⟨1000000, 9, 5⟩) 1 x4.fE.fData, .int .i64 x4.fE.fCode, .sl (some ⟨1000000, 11, 3⟩) 1 x4.fE.fKeep, .int .i64 x4.fErr], [.int .i64 x5.fKind, .int .i64 x5.fSlot, .int .i64 x5.fN, .int .i64 x5.fK, .bool x5.fLmtp, .str x5.fName, .int .i64 x5.fLimit_Bytes, .int .i64 x5.fLimit_Count, .sl (some ⟨1000001, 8, 9⟩) 1 x5.fTo, .sl (some ⟨1000001, 9, 5⟩) 1 x5.fData, .int .i64 x5.fCode, .sl (some ⟨1000001, 11, 3⟩) 1 x5.fKeep]]⟩
def f28_P22 (B : Code) (call : CallF) (n : Nat) (x0 : LC) (x1 : Int) (x2 : S_ref31_Got) (x3 : S_api_Event) : OR :=
  f28_x B call n [1, 1, 1, 1, 1, 1, 1, 1, 0, 1, 0, 1] (kSeq (f28_x B call n [1, 1, 1, 1, 1, 1, 1, 1, 1]) (kEnd AXE 0 f28_r)) ⟨[(2, .one (.ptr 0 0)), (4, .one (.ptr 1 0)), (6, .one (.sl none 1 x0)), (7, .one (.int .i64 x1))], [[.int .i64 x2.fE.fKind, .int .i64 x2.fE.fSlot, .int .i64 x2.fE.fN, .int .i64 x2.fE.fK, .bool x2.fE.fLmtp, .str x2.fE.fName, .int .i64 x2.fE.fLimit_Bytes, .int .i64 x2.fE.fLimit_Count, .sl (some ⟨1000000, 8, 9⟩) 1 x2.fE.fTo, .sl (some ⟨1000000, 9, 5⟩) 1 x2.fE.fData, .int .i64 x2.fE.fCode, .sl (some ⟨1000000, 11, 3⟩) 1 x2.fE.fKeep, .int .i64 x2.fErr], [.int .i64 x3.fKind, .int .i64 x3.fSlot, .int .i64 x3.fN, .int .i64 x3.fK, .bool x3.fLmtp, .str x3.fName, .int .i64 x3.fLimit_Bytes, .int .i64 x3.fLimit_Count, .sl (some ⟨1000001, 8, 9⟩) 1 x3.fTo, .sl (some ⟨1000001, 9, 5⟩) 1 x3.fData, .int .i64 x3.fCode, .sl (some ⟨1000001, 11, 3⟩) 1 x3.fKeep]]⟩
def f28_P19 (B : Code) (call : CallF) (n : Nat) (x0 : LC) (x1 : Int) (x2 : Bool) (x3 : S_ref31_Got) (x4 : S_api_Event) : OR :=
  f28_x B call n [1, 1, 1, 1, 1, 1, 1, 1, 0, 1, 0, 0, 1] (kSeq (f28_x B call n [1, 1, 1, 1, 1, 1, 1, 1, 0, 1, 0, 1]) (kSeq (f28_x B call n [1, 1, 1, 1, 1, 1, 1, 1, 1]) (kEnd AXE 0 f28_r))) ⟨[(2, .one (.ptr 0 0)), (4, .one (.ptr 1 0)), (6, .one (.sl none 1 x0)), (7, .one (.int .i64 x1)), (50, .one (.bool x2))], [[.int .i64 x3.fE.fKind, .int .i64 x3.fE.fSlot, .int .i64 x3.fE.fN, .int .i64 x3.fE.fK, .bool x3.fE.fLmtp, .str x3.fE.fName, .int .i64 x3.fE.fLimit_Bytes, .int .i64 x3.fE.fLimit_Count, .sl (some ⟨1000000, 8, 9⟩) 1 x3.fE.fTo, .sl (some ⟨1000000, 9, 5⟩) 1 x3.fE.fData, .int .i64 x3.fE.fCode, .sl (some ⟨1000000, 11, 3⟩) 1 x3.fE.fKeep, .int .i64 x3.fErr], [.int .i64 x4.fKind, .int .i64 x4.fSlot, .int .i64 x4.fN, .int .i64 x4.fK, .bool x4.fLmtp, .str x4.fName, .int .i64 x4.fLimit_Bytes, .int .i64 x4.fLimit_Count, .sl (some ⟨1000001, 8, 9⟩) 1 x4.fTo, .sl (some ⟨1000001, 9, 5⟩) 1 x4.fData, .int .i64 x4.fCode, .sl (some ⟨1000001, 11, 3⟩) 1 x4.fKeep]]⟩
def f28_P18 (B : Code) (call : CallF) (n : Nat) (x0 : LC) (x1 : Int) (x2 : Bool) (x3 : S_ref31_Got) (x4 : S_api_Event) : OR :=
  f28_x B call n [1, 1, 1, 1, 1, 1, 1, 1, 0, 1] (kSeq (f28_x B call n [1, 1, 1, 1, 1, 1, 1, 1, 1]) (kEnd AXE 0 f28_r)) ⟨[(2, .one (.ptr 0 0)), (4, .one (.ptr 1 0)), (6, .one (.sl none 1 x0)), (7, .one (.int .i64 x1)), (47, .one (.bool x2))], [[.int .i64 x3.fE.fKind, .int .i64 x3.fE.fSlot, .int .i64 x3.fE.fN, .int .i64 x3.fE.fK, .bool x3.fE.fLmtp, .str x3.fE.fName, .int .i64 x3.fE.fLimit_Bytes, .int .i64 x3.fE.fLimit_Count, .sl (some ⟨1000000, 8, 9⟩) 1 x3.fE.fTo, .sl (some ⟨1000000, 9, 5⟩) 1 x3.fE.fData, .int .i64 x3.fE.fCode, .sl (some ⟨1000000, 11, 3⟩) 1 x3.fE.fKeep, .int .i64 x3.fErr], [.int .i64 x4.fKind, .int .i64 x4.fSlot, .int .i64 x4.fN, .int .i64 x4.fK, .bool x4.fLmtp, .str x4.fName, .int .i64 x4.fLimit_Bytes, .int .i64 x4.fLimit_Count, .sl (some ⟨1000001, 8, 9⟩) 1 x4.fTo, .sl (some ⟨1000001, 9, 5⟩) 1 x4.fData, .int .i64 x4.fCode, .sl (some ⟨1000001, 11, 3⟩) 1 x4.fKeep]]⟩
def f28_P4 (B : Code) (call : CallF) (n : Nat) (m0 : Nat) (x0 : LB) (x1 : LC) (x2 : Int) (x3 : S_ref31_Got) (x4 : S_api_Event) : OR :=
  aloop 1000004 (pruneAt f28_h 1000004) (f28_x B call n [1, 1, 1, 0, 1, 0, 0]) (kBlk 0 (kSeq (f28_x B call n [1, 1, 1, 1]) (kEnd AXE 0 f28_r))) m0 ⟨[(0, .one (.str x0)), (2, .one (.ptr 0 0)), (3, .one (.sl none 1 x1)), (4, .one (.ptr 1 0)), (5, .one (.int .i64 x2))], [[.int .i64 x3.fE.fKind, .int .i64 x3.fE.fSlot, .int .i64 x3.fE.fN, .int .i64 x3.fE.fK, .bool x3.fE.fLmtp, .str x3.fE.fName, .int .i64 x3.fE.fLimit_Bytes, .int .i64 x3.fE.fLimit_Count, .sl (some ⟨1000000, 8, 9⟩) 1 x3.fE.fTo, .sl (some ⟨1000000, 9, 5⟩) 1 x3.fE.fData, .int .i64 x3.fE.fCode, .sl (some ⟨1000000, 11, 3⟩) 1 x3.fE.fKeep, .int .i64 x3.fErr], [.int .i64 x4.fKind, .int .i64 x4.fSlot, .int .i64 x4.fN, .int .i64 x4.fK, .bool x4.fLmtp, .str x4.fName, .int .i64 x4.fLimit_Bytes, .int .i64 x4.fLimit_Count, .sl (some ⟨1000001, 8, 9⟩) 1 x4.fTo, .sl (some ⟨1000001, 9, 5⟩) 1 x4.fData, .int .i64 x4.fCode, .sl (some ⟨1000001, 11, 3⟩) 1 x4.fKeep]]⟩
def f28_P (B : Code) (call : CallF) (n : Nat) (a0 : LB) : OR :=
  f28_x B call n [] (kEnd AXE 0 f28_r) ⟨[(0, .one (.str a0))], []⟩
def f28_T17 (call : CallF) (n : Nat) (j4m : LB → LC → Int → S_ref31_Got → S_api_Event → OR) (x0 : LB) (x1 : LC) (x2 : Int) (x3 : S_ref31_Got) (x4 : S_api_Event) : OR :=
  j4m x0 x1 (IntKind.wrap .i64 (x2 + (1 : Int))) x3 x4
theorem f28_o17 (call : CallF) (n : Nat) (m0 : Nat) (B : Code) (hB : B = f28_b) : f28_P17 B call n m0 = f28_T17 call n (f28_P4 B call n m0) := by
  subst hB; funext x0 x1 x2 x3 x4; kernel_rfl
theorem f28_l17 (call : CallF) (n : Nat) (m0 : Nat) : f28_P17 f28_b call n m0 = f28_T17 call n (f28_P4 f28_b call n m0) :=
  f28_o17 call n m0 _ (by kernel_rfl)
def f28_L17 (call : CallF) (n : Nat) (h_m0 : LB → LC → Int → S_ref31_Got → S_api_Event → OR) : LB → LC → Int → S_ref31_Got → S_api_Event → OR :=
  f28_T17 call n h_m0
theorem f28_e17 (call : CallF) (n : Nat) (m0 : Nat) : f28_P17 f28_b call n m0 = f28_L17 call n (f28_P4 f28_b call n m0) := by
  rw [f28_l17]; rfl
def f28_T21 (call : CallF) (n : Nat) (x0 : S_ref31_Got) : OR :=
  some (.agg x0.cells, [])
theorem f28_o21 (call : CallF) (n : Nat) (B : Code) (hB : B = f28_b) : f28_P21 B call n = f28_T21 call n := by
  subst hB; funext x0; kernel_rfl
theorem f28_l21 (call : CallF) (n : Nat) : f28_P21 f28_b call n = f28_T21 call n :=
  f28_o21 call n _ (by kernel_rfl)
def f28_L21 (call : CallF) (n : Nat) : S_ref31_Got → OR :=
  f28_T21 call n
theorem f28_e21 (call : CallF) (n : Nat) : f28_P21 f28_b call n = f28_L21 call n := by
  rw [f28_l21]; rfl
def f28_T29 (call : CallF) (n : Nat) (x0 : S_ref31_Got) : OR :=
  some (.agg x0.cells, [])
theorem f28_o29 (call : CallF) (n : Nat) (B : Code) (hB : B = f28_b) : f28_P29 B call n = f28_T29 call n := by
  subst hB; funext x0; kernel_rfl
theorem f28_l29 (call : CallF) (n : Nat) : f28_P29 f28_b call n = f28_T29 call n :=
  f28_o29 call n _ (by kernel_rfl)
def f28_L29 (call : CallF) (n : Nat) : S_ref31_Got → OR :=
  f28_T29 call n
theorem f28_e29 (call : CallF) (n : Nat) : f28_P29 f28_b call n = f28_L29 call n := by
  rw [f28_l29]; rfl
def f28_T52 (call : CallF) (n : Nat) (x0 : S_ref31_Got) : OR :=
  some (.agg x0.cells, [])
theorem f28_o52 (call : CallF) (n : Nat) (B : Code) (hB : B = f28_b) : f28_P52 B call n = f28_T52 call n := by
  subst hB; funext x0; kernel_rfl
theorem f28_l52 (call : CallF) (n : Nat) : f28_P52 f28_b call n = f28_T52 call n :=
  f28_o52 call n _ (by kernel_rfl)
def f28_L52 (call : CallF) (n : Nat) : S_ref31_Got → OR :=
  f28_T52 call n
theorem f28_e52 (call : CallF) (n : Nat) : f28_P52 f28_b call n = f28_L52 call n := by
  rw [f28_l52]; rfl
def f28_T62 (call : CallF) (n : Nat) (x0 : S_ref31_Got) : OR :=
  some (.agg [.int .i64 x0.fE.fKind, .int .i64 x0.fE.fSlot, .int .i64 x0.fE.fN, .int .i64 x0.fE.fK, .bool x0.fE.fLmtp, .str x0.fE.fName, .int .i64 x0.fE.fLimit_Bytes, .int .i64 x0.fE.fLimit_Count, .sl none 1 x0.fE.fTo, .sl (some ⟨1000000, 9, 5⟩) 1 x0.fE.fData, .int .i64 x0.fE.fCode, .sl (some ⟨1000000, 11, 3⟩) 1 x0.fE.fKeep, .int .i64 x0.fErr], [])
theorem f28_o62 (call : CallF) (n : Nat) (B : Code) (hB : B = f28_b) : f28_P62 B call n = f28_T62 call n := by
  subst hB; funext x0; kernel_rfl
theorem f28_l62 (call : CallF) (n : Nat) : f28_P62 f28_b call n = f28_T62 call n :=
  f28_o62 call n _ (by kernel_rfl)
def f28_L62 (call : CallF) (n : Nat) : S_ref31_Got → OR :=
  f28_T62 call n
theorem f28_e62 (call : CallF) (n : Nat) : f28_P62 f28_b call n = f28_L62 call n := by
  rw [f28_l62]; rfl
def f28_T58 (call : CallF) (n : Nat) (j62 : S_ref31_Got → OR) (x0 : S_ref31_Got) (x1 : S_api_Event) : OR :=
  j62 (⟨x1, (0 : Int)⟩ : S_ref31_Got)
theorem f28_o58 (X0 : Code) (call : CallF) (n : Nat) (B : Code) (hB : B = (hole f28_b [1, 1, 1, 1, 1, 1, 1, 1, 0, 1, 0, 1, 1, 1, 1, 1, 1, 0, 1, 1, 1] X0)) : f28_P58 B call n = f28_T58 call n (f28_P62 B call n) := by
  subst hB; funext x0 x1; kernel_rfl
theorem f28_l58 (call : CallF) (n : Nat) : f28_P58 f28_b call n = f28_T58 call n (f28_P62 f28_b call n) :=
  f28_o58 (piece [1, 1, 1, 1, 1, 1, 1, 1, 0, 1, 0, 1, 1, 1, 1, 1, 1, 0, 1, 1, 1] f28_b) call n _ (by kernel_rfl)
def f28_L58 (call : CallF) (n : Nat) : S_ref31_Got → S_api_Event → OR :=
  f28_T58 call n (f28_L62 call n)
theorem f28_e58 (call : CallF) (n : Nat) : f28_P58 f28_b call n = f28_L58 call n := by
  rw [f28_l58, f28_e62]; rfl
def f28_T53 (call : CallF) (n : Nat) (j58 : S_ref31_Got → S_api_Event → OR) (x0 : LC) (x1 : S_ref31_Got) (x2 : S_api_Event) : OR :=
  j58 x1 ({ x2 with fTo := x0 } : S_api_Event)
theorem f28_o53 (X0 : Code) (call : CallF) (n : Nat) (B : Code) (hB : B = (hole f28_b [1, 1, 1, 1, 1, 1, 1, 1, 0, 1, 0, 1, 1, 1, 1, 1, 1, 0, 1, 1] X0)) : f28_P53 B call n = f28_T53 call n (f28_P58 B call n) := by
  subst hB; funext x0 x1 x2; kernel_rfl
theorem f28_l53 (call : CallF) (n : Nat) : f28_P53 f28_b call n = f28_T53 call n (f28_P58 f28_b call n) :=
  f28_o53 (piece [1, 1, 1, 1, 1, 1, 1, 1, 0, 1, 0, 1, 1, 1, 1, 1, 1, 0, 1, 1] f28_b) call n _ (by kernel_rfl)
def f28_L53 (call : CallF) (n : Nat) : LC → S_ref31_Got → S_api_Event → OR :=
  f28_T53 call n (f28_L58 call n)
theorem f28_e53 (call : CallF) (n : Nat) : f28_P53 f28_b call n = f28_L53 call n := by
  rw [f28_l53, f28_e58]; rfl
def f28_T49 (call : CallF) (n : Nat) (j52 : S_ref31_Got → OR) (j53 : LC → S_ref31_Got → S_api_Event → OR) (x0 : LC) (x1 : Bool) (x2 : S_ref31_Got) (x3 : S_api_Event) : OR :=
  bif x1 then (
    callK call 60 [] fun v1 =>
    castAgg v1 fun r2 =>
    takeS_ref31_Got r2 fun w3 r4 =>
    nilK r4 (
      j52 w3)) else (
    j53 x0 x2 x3)
theorem f28_o49 (X0 X1 : Code) (call : CallF) (n : Nat) (B : Code) (hB : B = (hole (hole f28_b [1, 1, 1, 1, 1, 1, 1, 1, 0, 1, 0, 1, 1, 1, 1, 1, 1, 0, 0, 1, 0, 1] X0) [1, 1, 1, 1, 1, 1, 1, 1, 0, 1, 0, 1, 1, 1, 1, 1, 1, 0, 1] X1)) : f28_P49 B call n = f28_T49 call n (f28_P52 B call n) (f28_P53 B call n) := by
  subst hB; funext x0 x1 x2 x3; cases x1 <;> kernel_rfl
theorem f28_l49 (call : CallF) (n : Nat) : f28_P49 f28_b call n = f28_T49 call n (f28_P52 f28_b call n) (f28_P53 f28_b call n) :=
  f28_o49 (piece [1, 1, 1, 1, 1, 1, 1, 1, 0, 1, 0, 1, 1, 1, 1, 1, 1, 0, 0, 1, 0, 1] f28_b) (piece [1, 1, 1, 1, 1, 1, 1, 1, 0, 1, 0, 1, 1, 1, 1, 1, 1, 0, 1] f28_b) call n _ (by kernel_rfl)
def f28_L49 (call : CallF) (n : Nat) : LC → Bool → S_ref31_Got → S_api_Event → OR :=
  f28_T49 call n (f28_L52 call n) (f28_L53 call n)
theorem f28_e49 (call : CallF) (n : Nat) : f28_P49 f28_b call n = f28_L49 call n := by
  rw [f28_l49, f28_e52, f28_e53]; rfl
def f28_T27 (call : CallF) (n : Nat) (x0 : S_ref31_Got) : OR :=
  some (.agg x0.cells, [])
theorem f28_o27 (call : CallF) (n : Nat) (B : Code) (hB : B = f28_b) : f28_P27 B call n = f28_T27 call n := by
  subst hB; funext x0; kernel_rfl
theorem f28_l27 (call : CallF) (n : Nat) : f28_P27 f28_b call n = f28_T27 call n :=
  f28_o27 call n _ (by kernel_rfl)
def f28_L27 (call : CallF) (n : Nat) : S_ref31_Got → OR :=
  f28_T27 call n
theorem f28_e27 (call : CallF) (n : Nat) : f28_P27 f28_b call n = f28_L27 call n := by
  rw [f28_l27]; rfl
def f28_T42 (call : CallF) (n : Nat) (x0 : S_ref31_Got) : OR :=
  some (.agg x0.cells, [])
theorem f28_o42 (call : CallF) (n : Nat) (B : Code) (hB : B = f28_b) : f28_P42 B call n = f28_T42 call n := by
  subst hB; funext x0; kernel_rfl
theorem f28_l42 (call : CallF) (n : Nat) : f28_P42 f28_b call n = f28_T42 call n :=
  f28_o42 call n _ (by kernel_rfl)
def f28_L42 (call : CallF) (n : Nat) : S_ref31_Got → OR :=
  f28_T42 call n
theorem f28_e42 (call : CallF) (n : Nat) : f28_P42 f28_b call n = f28_L42 call n := by
  rw [f28_l42]; rfl
def f28_T47 (call : CallF) (n : Nat) (x0 : S_ref31_Got) : OR :=
  some (.agg [.int .i64 x0.fE.fKind, .int .i64 x0.fE.fSlot, .int .i64 x0.fE.fN, .int .i64 x0.fE.fK, .bool x0.fE.fLmtp, .str x0.fE.fName, .int .i64 x0.fE.fLimit_Bytes, .int .i64 x0.fE.fLimit_Count, .sl (some ⟨1000000, 8, 9⟩) 1 x0.fE.fTo, .sl (some ⟨1000000, 9, 5⟩) 1 x0.fE.fData, .int .i64 x0.fE.fCode, .sl (some ⟨1000000, 11, 3⟩) 1 x0.fE.fKeep, .int .i64 x0.fErr], [])
theorem f28_o47 (call : CallF) (n : Nat) (B : Code) (hB : B = f28_b) : f28_P47 B call n = f28_T47 call n := by
  subst hB; funext x0; kernel_rfl
theorem f28_l47 (call : CallF) (n : Nat) : f28_P47 f28_b call n = f28_T47 call n :=
  f28_o47 call n _ (by kernel_rfl)
def f28_L47 (call : CallF) (n : Nat) : S_ref31_Got → OR :=
  f28_T47 call n
theorem f28_e47 (call : CallF) (n : Nat) : f28_P47 f28_b call n = f28_L47 call n := by
  rw [f28_l47]; rfl
def f28_T43 (call : CallF) (n : Nat) (j47 : S_ref31_Got → OR) (x0 : S_ref31_Got) (x1 : S_api_Event) : OR :=
  j47 (⟨x1, (0 : Int)⟩ : S_ref31_Got)
theorem f28_o43 (X0 : Code) (call : CallF) (n : Nat) (B : Code) (hB : B = (hole f28_b [1, 1, 1, 1, 1, 1, 1, 1, 1, 1, 1, 1, 1, 1, 1] X0)) : f28_P43 B call n = f28_T43 call n (f28_P47 B call n) := by
  subst hB; funext x0 x1; kernel_rfl
theorem f28_l43 (call : CallF) (n : Nat) : f28_P43 f28_b call n = f28_T43 call n (f28_P47 f28_b call n) :=
  f28_o43 (piece [1, 1, 1, 1, 1, 1, 1, 1, 1, 1, 1, 1, 1, 1, 1] f28_b) call n _ (by kernel_rfl)
def f28_L43 (call : CallF) (n : Nat) : S_ref31_Got → S_api_Event → OR :=
  f28_T43 call n (f28_L47 call n)
theorem f28_e43 (call : CallF) (n : Nat) : f28_P43 f28_b call n = f28_L43 call n := by
  rw [f28_l43, f28_e47]; rfl
def f28_T50 (call : CallF) (n : Nat) (j43 : S_ref31_Got → S_api_Event → OR) (x0 : LC) (x1 : S_ref31_Got) (x2 : S_api_Event) : OR :=
  itemK x0 (1 : Int) fun c1 =>
  castI .i64 c1 fun n2 =>
  j43 x1 ({ x2 with fK := n2 } : S_api_Event)
theorem f28_o50 (X0 : Code) (call : CallF) (n : Nat) (B : Code) (hB : B = (hole f28_b [1, 1, 1, 1, 1, 1, 1, 1, 1, 1, 1, 1, 1, 1] X0)) : f28_P50 B call n = f28_T50 call n (f28_P43 B call n) := by
  subst hB; funext x0 x1 x2; kernel_rfl
theorem f28_l50 (call : CallF) (n : Nat) : f28_P50 f28_b call n = f28_T50 call n (f28_P43 f28_b call n) :=
  f28_o50 (piece [1, 1, 1, 1, 1, 1, 1, 1, 1, 1, 1, 1, 1, 1] f28_b) call n _ (by kernel_rfl)
def f28_L50 (call : CallF) (n : Nat) : LC → S_ref31_Got → S_api_Event → OR :=
  f28_T50 call n (f28_L43 call n)
theorem f28_e50 (call : CallF) (n : Nat) : f28_P50 f28_b call n = f28_L50 call n := by
  rw [f28_l50, f28_e43]; rfl
def f28_T59 (call : CallF) (n : Nat) (x0 : S_ref31_Got) : OR :=
  some (.agg x0.cells, [])
theorem f28_o59 (call : CallF) (n : Nat) (B : Code) (hB : B = f28_b) : f28_P59 B call n = f28_T59 call n := by
  subst hB; funext x0; kernel_rfl
theorem f28_l59 (call : CallF) (n : Nat) : f28_P59 f28_b call n = f28_T59 call n :=
  f28_o59 call n _ (by kernel_rfl)
def f28_L59 (call : CallF) (n : Nat) : S_ref31_Got → OR :=
  f28_T59 call n
theorem f28_e59 (call : CallF) (n : Nat) : f28_P59 f28_b call n = f28_L59 call n := by
  rw [f28_l59]; rfl
def f28_T54 (call : CallF) (n : Nat) (j59 : S_ref31_Got → OR) (j43 : S_ref31_Got → S_api_Event → OR) (x0 : LC) (x1 : Bool) (x2 : S_ref31_Got) (x3 : S_api_Event) : OR :=
  bif x1 then (
    callK call 60 [] fun v1 =>
    castAgg v1 fun r2 =>
    takeS_ref31_Got r2 fun w3 r4 =>
    nilK r4 (
      j59 w3)) else (
    itemK x0 (0 : Int) fun c5 =>
    castI .i64 c5 fun n6 =>
    itemK x0 (1 : Int) fun c7 =>
    castI .i64 c7 fun n8 =>
    j43 x2 ({ x3 with fN := n6, fCode := n8 } : S_api_Event))
theorem f28_o54 (X0 X1 : Code) (call : CallF) (n : Nat) (B : Code) (hB : B = (hole (hole f28_b [1, 1, 1, 1, 1, 1, 1, 1, 1, 1, 1, 1, 1, 0, 1, 0, 1, 1, 1, 1, 1, 1, 1, 0, 0, 1, 0, 1] X0) [1, 1, 1, 1, 1, 1, 1, 1, 1, 1, 1, 1, 1, 1] X1)) : f28_P54 B call n = f28_T54 call n (f28_P59 B call n) (f28_P43 B call n) := by
  subst hB; funext x0 x1 x2 x3; cases x1 <;> kernel_rfl
theorem f28_l54 (call : CallF) (n : Nat) : f28_P54 f28_b call n = f28_T54 call n (f28_P59 f28_b call n) (f28_P43 f28_b call n) :=
  f28_o54 (piece [1, 1, 1, 1, 1, 1, 1, 1, 1, 1, 1, 1, 1, 0, 1, 0, 1, 1, 1, 1, 1, 1, 1, 0, 0, 1, 0, 1] f28_b) (piece [1, 1, 1, 1, 1, 1, 1, 1, 1, 1, 1, 1, 1, 1] f28_b) call n _ (by kernel_rfl)
def f28_L54 (call : CallF) (n : Nat) : LC → Bool → S_ref31_Got → S_api_Event → OR :=
  f28_T54 call n (f28_L59 call n) (f28_L43 call n)
theorem f28_e54 (call : CallF) (n : Nat) : f28_P54 f28_b call n = f28_L54 call n := by
  rw [f28_l54, f28_e59, f28_e43]; rfl
def f28_T64 (call : CallF) (n : Nat) (x0 : S_ref31_Got) : OR :=
  some (.agg [.int .i64 x0.fE.fKind, .int .i64 x0.fE.fSlot, .int .i64 x0.fE.fN, .int .i64 x0.fE.fK, .bool x0.fE.fLmtp, .str x0.fE.fName, .int .i64 x0.fE.fLimit_Bytes, .int .i64 x0.fE.fLimit_Count, .sl (some ⟨1000000, 8, 9⟩) 1 x0.fE.fTo, .sl (some ⟨1000000, 9, 5⟩) 1 x0.fE.fData, .int .i64 x0.fE.fCode, .sl none 1 x0.fE.fKeep, .int .i64 x0.fErr], [])
theorem f28_o64 (call : CallF) (n : Nat) (B : Code) (hB : B = f28_b) : f28_P64 B call n = f28_T64 call n := by
  subst hB; funext x0; kernel_rfl
theorem f28_l64 (call : CallF) (n : Nat) : f28_P64 f28_b call n = f28_T64 call n :=
  f28_o64 call n _ (by kernel_rfl)
def f28_L64 (call : CallF) (n : Nat) : S_ref31_Got → OR :=
  f28_T64 call n
theorem f28_e64 (call : CallF) (n : Nat) : f28_P64 f28_b call n = f28_L64 call n := by
  rw [f28_l64]; rfl
def f28_T63 (call : CallF) (n : Nat) (j64 : S_ref31_Got → OR) (x0 : S_ref31_Got) (x1 : S_api_Event) : OR :=
  j64 (⟨x1, (0 : Int)⟩ : S_ref31_Got)
theorem f28_o63 (X0 : Code) (call : CallF) (n : Nat) (B : Code) (hB : B = (hole f28_b [1, 1, 1, 1, 1, 1, 1, 1, 1, 1, 1, 1, 1, 1, 1] X0)) : f28_P63 B call n = f28_T63 call n (f28_P64 B call n) := by
  subst hB; funext x0 x1; kernel_rfl
theorem f28_l63 (call : CallF) (n : Nat) : f28_P63 f28_b call n = f28_T63 call n (f28_P64 f28_b call n) :=
  f28_o63 (piece [1, 1, 1, 1, 1, 1, 1, 1, 1, 1, 1, 1, 1, 1, 1] f28_b) call n _ (by kernel_rfl)
def f28_L63 (call : CallF) (n : Nat) : S_ref31_Got → S_api_Event → OR :=
  f28_T63 call n (f28_L64 call n)
theorem f28_e63 (call : CallF) (n : Nat) : f28_P63 f28_b call n = f28_L63 call n := by
  rw [f28_l63, f28_e64]; rfl
def f28_T60 (call : CallF) (n : Nat) (j63 : S_ref31_Got → S_api_Event → OR) (x0 : LC) (x1 : S_ref31_Got) (x2 : S_api_Event) : OR :=
  bif decide (0 ≤ (1 : Int) ∧ (Int.toNat (1 : Int)) ≤ (x0.length / 1)) then (
    j63 x1 ({ x2 with fKeep := ((x0.take ((x0.length / 1) * 1)).drop ((Int.toNat (1 : Int)) * 1)) } : S_api_Event)) else none
theorem f28_o60 (X0 : Code) (call : CallF) (n : Nat) (B : Code) (hB : B = (hole f28_b [1, 1, 1, 1, 1, 1, 1, 1, 1, 1, 1, 1, 1, 1] X0)) : f28_P60 B call n = f28_T60 call n (f28_P63 B call n) := by
  subst hB; funext x0 x1 x2; kernel_rfl
theorem f28_l60 (call : CallF) (n : Nat) : f28_P60 f28_b call n = f28_T60 call n (f28_P63 f28_b call n) :=
  f28_o60 (piece [1, 1, 1, 1, 1, 1, 1, 1, 1, 1, 1, 1, 1, 1] f28_b) call n _ (by kernel_rfl)
def f28_L60 (call : CallF) (n : Nat) : LC → S_ref31_Got → S_api_Event → OR :=
  f28_T60 call n (f28_L63 call n)
theorem f28_e60 (call : CallF) (n : Nat) : f28_P60 f28_b call n = f28_L60 call n := by
  rw [f28_l60, f28_e63]; rfl
def f28_T61 (call : CallF) (n : Nat) (j47 : S_ref31_Got → OR) (x0 : LC) (x1 : S_ref31_Got) (x2 : S_api_Event) : OR :=
  j47 (⟨x2, (0 : Int)⟩ : S_ref31_Got)
theorem f28_o61 (X0 : Code) (call : CallF) (n : Nat) (B : Code) (hB : B = (hole f28_b [1, 1, 1, 1, 1, 1, 1, 1, 1, 1, 1, 1, 1, 1, 1] X0)) : f28_P61 B call n = f28_T61 call n (f28_P47 B call n) := by
  subst hB; funext x0 x1 x2; kernel_rfl
theorem f28_l61 (call : CallF) (n : Nat) : f28_P61 f28_b call n = f28_T61 call n (f28_P47 f28_b call n) :=
  f28_o61 (piece [1, 1, 1, 1, 1, 1, 1, 1, 1, 1, 1, 1, 1, 1, 1] f28_b) call n _ (by kernel_rfl)
def f28_L61 (call : CallF) (n : Nat) : LC → S_ref31_Got → S_api_Event → OR :=
  f28_T61 call n (f28_L47 call n)
theorem f28_e61 (call : CallF) (n : Nat) : f28_P61 f28_b call n = f28_L61 call n := by
  rw [f28_l61, f28_e47]; rfl
def f28_T57 (call : CallF) (n : Nat) (j60 : LC → S_ref31_Got → S_api_Event → OR) (j61 : LC → S_ref31_Got → S_api_Event → OR) (x0 : LC) (x1 : Bool) (x2 : S_ref31_Got) (x3 : S_api_Event) : OR :=
  bif x1 then (
    itemK x0 (0 : Int) fun c1 =>
    castI .i64 c1 fun n2 =>
    j60 x0 x2 ({ x3 with fN := n2 } : S_api_Event)) else (
    j61 x0 x2 x3)
theorem f28_o57 (X0 X1 : Code) (call : CallF) (n : Nat) (B : Code) (hB : B = (hole (hole f28_b [1, 1, 1, 1, 1, 1, 1, 1, 1, 1, 1, 1, 1, 0, 1, 0, 1, 1, 1, 1, 1, 1, 1, 1, 1, 0, 1] X0) [1, 1, 1, 1, 1, 1, 1, 1, 1, 1, 1, 1, 1, 1] X1)) : f28_P57 B call n = f28_T57 call n (f28_P60 B call n) (f28_P61 B call n) := by
  subst hB; funext x0 x1 x2 x3; cases x1 <;> kernel_rfl
theorem f28_l57 (call : CallF) (n : Nat) : f28_P57 f28_b call n = f28_T57 call n (f28_P60 f28_b call n) (f28_P61 f28_b call n) :=
  f28_o57 (piece [1, 1, 1, 1, 1, 1, 1, 1, 1, 1, 1, 1, 1, 0, 1, 0, 1, 1, 1, 1, 1, 1, 1, 1, 1, 0, 1] f28_b) (piece [1, 1, 1, 1, 1, 1, 1, 1, 1, 1, 1, 1, 1, 1] f28_b) call n _ (by kernel_rfl)
def f28_L57 (call : CallF) (n : Nat) : LC → Bool → S_ref31_Got → S_api_Event → OR :=
  f28_T57 call n (f28_L60 call n) (f28_L61 call n)
theorem f28_e57 (call : CallF) (n : Nat) : f28_P57 f28_b call n = f28_L57 call n := by
  rw [f28_l57, f28_e60, f28_e61]; rfl
def f28_T51 (call : CallF) (n : Nat) (j54 : LC → Bool → S_ref31_Got → S_api_Event → OR) (j57 : LC → Bool → S_ref31_Got → S_api_Event → OR) (x0 : LC) (x1 : Int) (x2 : Bool) (x3 : S_ref31_Got) (x4 : S_api_Event) : OR :=
  bif x2 then (
    itemK x0 (1 : Int) fun c1 =>
    castI .i64 c1 fun n2 =>
    bif (decide (n2 < (0 : Int))) then (
      j54 x0 true x3 x4) else (
      itemK x0 (1 : Int) fun c3 =>
      castI .i64 c3 fun n4 =>
      j54 x0 (decide (n4 > (17 : Int))) x3 x4)) else (
    j57 x0 (x1 == (16 : Int)) x3 x4)
theorem f28_o51 (X0 X1 : Code) (call : CallF) (n : Nat) (B : Code) (hB : B = (hole (hole f28_b [1, 1, 1, 1, 1, 1, 1, 1, 1, 1, 1, 1, 1, 0, 1, 0, 1, 1, 1, 1, 1, 1, 1, 0, 0, 1] X0) [1, 1, 1, 1, 1, 1, 1, 1, 1, 1, 1, 1, 1, 0, 1, 0, 1, 1, 1, 1, 1, 1, 1, 1, 1] X1)) : f28_P51 B call n = f28_T51 call n (f28_P54 B call n) (f28_P57 B call n) := by
  subst hB; funext x0 x1 x2 x3 x4; cases x2 <;> kernel_rfl
theorem f28_l51 (call : CallF) (n : Nat) : f28_P51 f28_b call n = f28_T51 call n (f28_P54 f28_b call n) (f28_P57 f28_b call n) :=
  f28_o51 (piece [1, 1, 1, 1, 1, 1, 1, 1, 1, 1, 1, 1, 1, 0, 1, 0, 1, 1, 1, 1, 1, 1, 1, 0, 0, 1] f28_b) (piece [1, 1, 1, 1, 1, 1, 1, 1, 1, 1, 1, 1, 1, 0, 1, 0, 1, 1, 1, 1, 1, 1, 1, 1, 1] f28_b) call n _ (by kernel_rfl)
def f28_L51 (call : CallF) (n : Nat) : LC → Int → Bool → S_ref31_Got → S_api_Event → OR :=
  f28_T51 call n (f28_L54 call n) (f28_L57 call n)
theorem f28_e51 (call : CallF) (n : Nat) : f28_P51 f28_b call n = f28_L51 call n := by
  rw [f28_l51, f28_e54, f28_e57]; rfl
def f28_T48 (call : CallF) (n : Nat) (j50 : LC → S_ref31_Got → S_api_Event → OR) (j51 : LC → Int → Bool → S_ref31_Got → S_api_Event → OR) (x0 : LC) (x1 : Int) (x2 : Bool) (x3 : S_ref31_Got) (x4 : S_api_Event) : OR :=
  bif x2 then (
    itemK x0 (0 : Int) fun c1 =>
    castI .i64 c1 fun n2 =>
    j50 x0 x3 ({ x4 with fN := n2 } : S_api_Event)) else (
    j51 x0 x1 (x1 == (14 : Int)) x3 x4)
theorem f28_o48 (X0 X1 : Code) (call : CallF) (n : Nat) (B : Code) (hB : B = (hole (hole f28_b [1, 1, 1, 1, 1, 1, 1, 1, 1, 1, 1, 1, 1, 0, 1, 0, 1, 1, 1, 1, 1, 0, 1] X0) [1, 1, 1, 1, 1, 1, 1, 1, 1, 1, 1, 1, 1, 0, 1, 0, 1, 1, 1, 1, 1, 1, 1] X1)) : f28_P48 B call n = f28_T48 call n (f28_P50 B call n) (f28_P51 B call n) := by
  subst hB; funext x0 x1 x2 x3 x4; cases x2 <;> kernel_rfl
theorem f28_l48 (call : CallF) (n : Nat) : f28_P48 f28_b call n = f28_T48 call n (f28_P50 f28_b call n) (f28_P51 f28_b call n) :=
  f28_o48 (piece [1, 1, 1, 1, 1, 1, 1, 1, 1, 1, 1, 1, 1, 0, 1, 0, 1, 1, 1, 1, 1, 0, 1] f28_b) (piece [1, 1, 1, 1, 1, 1, 1, 1, 1, 1, 1, 1, 1, 0, 1, 0, 1, 1, 1, 1, 1, 1, 1] f28_b) call n _ (by kernel_rfl)
def f28_L48 (call : CallF) (n : Nat) : LC → Int → Bool → S_ref31_Got → S_api_Event → OR :=
  f28_T48 call n (f28_L50 call n) (f28_L51 call n)
theorem f28_e48 (call : CallF) (n : Nat) : f28_P48 f28_b call n = f28_L48 call n := by
  rw [f28_l48, f28_e50, f28_e51]; rfl
def f28_T44 (call : CallF) (n : Nat) (j43 : S_ref31_Got → S_api_Event → OR) (j48 : LC → Int → Bool → S_ref31_Got → S_api_Event → OR) (x0 : Bool) (x1 : LC) (x2 : Int) (x3 : S_ref31_Got) (x4 : S_api_Event) : OR :=
  bif x0 then (
    itemK x1 (0 : Int) fun c1 =>
    castI .i64 c1 fun n2 =>
    j43 x3 ({ x4 with fN := n2 } : S_api_Event)) else (
    j48 x1 x2 (x2 == (11 : Int)) x3 x4)
theorem f28_o44 (X0 X1 : Code) (call : CallF) (n : Nat) (B : Code) (hB : B = (hole (hole f28_b [1, 1, 1, 1, 1, 1, 1, 1, 1, 1, 1, 1, 1, 0, 1, 0, 1, 1, 1, 1, 1] X0) [1, 1, 1, 1, 1, 1, 1, 1, 1, 1, 1, 1, 1, 1] X1)) : f28_P44 B call n = f28_T44 call n (f28_P43 B call n) (f28_P48 B call n) := by
  subst hB; funext x0 x1 x2 x3 x4; cases x0 <;> kernel_rfl
theorem f28_l44 (call : CallF) (n : Nat) : f28_P44 f28_b call n = f28_T44 call n (f28_P43 f28_b call n) (f28_P48 f28_b call n) :=
  f28_o44 (piece [1, 1, 1, 1, 1, 1, 1, 1, 1, 1, 1, 1, 1, 0, 1, 0, 1, 1, 1, 1, 1] f28_b) (piece [1, 1, 1, 1, 1, 1, 1, 1, 1, 1, 1, 1, 1, 1] f28_b) call n _ (by kernel_rfl)
def f28_L44 (call : CallF) (n : Nat) : Bool → LC → Int → S_ref31_Got → S_api_Event → OR :=
  f28_T44 call n (f28_L43 call n) (f28_L48 call n)
theorem f28_e44 (call : CallF) (n : Nat) : f28_P44 f28_b call n = f28_L44 call n := by
  rw [f28_l44, f28_e43, f28_e48]; rfl
def f28_T45 (call : CallF) (n : Nat) (j43 : S_ref31_Got → S_api_Event → OR) (j48 : LC → Int → Bool → S_ref31_Got → S_api_Event → OR) (x0 : LC) (x1 : Int) (x2 : Bool) (x3 : S_ref31_Got) (x4 : S_api_Event) : OR :=
  bif x2 then (
    itemK x0 (0 : Int) fun c1 =>
    castI .i64 c1 fun n2 =>
    j43 x3 ({ x4 with fN := n2 } : S_api_Event)) else (
    j48 x0 x1 (x1 == (11 : Int)) x3 x4)
theorem f28_o45 (X0 X1 : Code) (call : CallF) (n : Nat) (B : Code) (hB : B = (hole (hole f28_b [1, 1, 1, 1, 1, 1, 1, 1, 1, 1, 1, 1, 1, 0, 1, 0, 1, 1, 1, 1, 1] X0) [1, 1, 1, 1, 1, 1, 1, 1, 1, 1, 1, 1, 1, 1] X1)) : f28_P45 B call n = f28_T45 call n (f28_P43 B call n) (f28_P48 B call n) := by
  subst hB; funext x0 x1 x2 x3 x4; cases x2 <;> kernel_rfl
theorem f28_l45 (call : CallF) (n : Nat) : f28_P45 f28_b call n = f28_T45 call n (f28_P43 f28_b call n) (f28_P48 f28_b call n) :=
  f28_o45 (piece [1, 1, 1, 1, 1, 1, 1, 1, 1, 1, 1, 1, 1, 0, 1, 0, 1, 1, 1, 1, 1] f28_b) (piece [1, 1, 1, 1, 1, 1, 1, 1, 1, 1, 1, 1, 1, 1] f28_b) call n _ (by kernel_rfl)
def f28_L45 (call : CallF) (n : Nat) : LC → Int → Bool → S_ref31_Got → S_api_Event → OR :=
  f28_T45 call n (f28_L43 call n) (f28_L48 call n)
theorem f28_e45 (call : CallF) (n : Nat) : f28_P45 f28_b call n = f28_L45 call n := by
  rw [f28_l45, f28_e43, f28_e48]; rfl
def f28_T33 (call : CallF) (n : Nat) (j42 : S_ref31_Got → OR) (j43 : S_ref31_Got → S_api_Event → OR) (j44 : Bool → LC → Int → S_ref31_Got → S_api_Event → OR) (j45 : LC → Int → Bool → S_ref31_Got → S_api_Event → OR) (x0 : Int) (x1 : LC) (x2 : Bool) (x3 : S_ref31_Got) (x4 : S_api_Event) : OR :=
  bif x2 then (
    callK call 60 [] fun v1 =>
    castAgg v1 fun r2 =>
    takeS_ref31_Got r2 fun w3 r4 =>
    nilK r4 (
      j42 w3)) else (
    bif (x0 == (6 : Int)) then (
      itemK x1 (0 : Int) fun c5 =>
      castI .i64 c5 fun n6 =>
      itemK x1 (1 : Int) fun c7 =>
      castI .i64 c7 fun n8 =>
      j43 x3 ({ x4 with fLimit_Bytes := n6, fLimit_Count := n8 } : S_api_Event)) else (
      bif (x0 == (7 : Int)) then (
        itemK x1 (0 : Int) fun c9 =>
        castI .i64 c9 fun n10 =>
        itemK x1 (1 : Int) fun c11 =>
        castI .i64 c11 fun n12 =>
        j43 x3 ({ x4 with fLimit_Bytes := n10, fLimit_Count := n12 } : S_api_Event)) else (
        bif (x0 == (4 : Int)) then (
          j44 true x1 x0 x3 x4) else (
          bif (x0 == (10 : Int)) then (
            j44 true x1 x0 x3 x4) else (
            j45 x1 x0 (x0 == (15 : Int)) x3 x4)))))
theorem f28_o33 (X0 X1 X2 : Code) (call : CallF) (n : Nat) (B : Code) (hB : B = (hole (hole (hole f28_b [1, 1, 1, 1, 1, 1, 1, 1, 1, 1, 1, 1, 1, 0, 1, 0, 1, 1, 1] X0) [1, 1, 1, 1, 1, 1, 1, 1, 1, 1, 1, 1, 0, 1, 0, 1] X1) [1, 1, 1, 1, 1, 1, 1, 1, 1, 1, 1, 1, 1, 1] X2)) : f28_P33 B call n = f28_T33 call n (f28_P42 B call n) (f28_P43 B call n) (f28_P44 B call n) (f28_P45 B call n) := by
  subst hB; funext x0 x1 x2 x3 x4; cases x2 <;> kernel_rfl
theorem f28_l33 (call : CallF) (n : Nat) : f28_P33 f28_b call n = f28_T33 call n (f28_P42 f28_b call n) (f28_P43 f28_b call n) (f28_P44 f28_b call n) (f28_P45 f28_b call n) :=
  f28_o33 (piece [1, 1, 1, 1, 1, 1, 1, 1, 1, 1, 1, 1, 1, 0, 1, 0, 1, 1, 1] f28_b) (piece [1, 1, 1, 1, 1, 1, 1, 1, 1, 1, 1, 1, 0, 1, 0, 1] f28_b) (piece [1, 1, 1, 1, 1, 1, 1, 1, 1, 1, 1, 1, 1, 1] f28_b) call n _ (by kernel_rfl)
def f28_L33 (call : CallF) (n : Nat) : Int → LC → Bool → S_ref31_Got → S_api_Event → OR :=
  f28_T33 call n (f28_L42 call n) (f28_L43 call n) (f28_L44 call n) (f28_L45 call n)
theorem f28_e33 (call : CallF) (n : Nat) : f28_P33 f28_b call n = f28_L33 call n := by
  rw [f28_l33, f28_e42, f28_e43, f28_e44, f28_e45]; rfl
def f28_T31 (call : CallF) (n : Nat) (j33 : Int → LC → Bool → S_ref31_Got → S_api_Event → OR) (x0 : Int) (x1 x2 : LC) (x3 : S_ref31_Got) (x4 : S_api_Event) : OR :=
  itemK x2 x0 fun c1 =>
  castI .i64 c1 fun n2 =>
  bif (decide (n2 ≥ (0 : Int))) then (
    itemK x2 x0 fun c3 =>
    castI .i64 c3 fun n4 =>
    bif ((((x1).length / 1 : Nat) : Int) != n4) then (
      j33 x0 x1 true x3 x4) else (
      bif (x0 == (16 : Int)) then (
        j33 x0 x1 (decide ((((x1).length / 1 : Nat) : Int) < (1 : Int))) x3 x4) else (
        j33 x0 x1 false x3 x4))) else (
    bif (x0 == (16 : Int)) then (
      j33 x0 x1 (decide ((((x1).length / 1 : Nat) : Int) < (1 : Int))) x3 x4) else (
      j33 x0 x1 false x3 x4))
theorem f28_o31 (X0 : Code) (call : CallF) (n : Nat) (B : Code) (hB : B = (hole f28_b [1, 1, 1, 1, 1, 1, 1, 1, 1, 1, 1, 1, 0, 1] X0)) : f28_P31 B call n = f28_T31 call n (f28_P33 B call n) := by
  subst hB; funext x0 x1 x2 x3 x4; kernel_rfl
theorem f28_l31 (call : CallF) (n : Nat) : f28_P31 f28_b call n = f28_T31 call n (f28_P33 f28_b call n) :=
  f28_o31 (piece [1, 1, 1, 1, 1, 1, 1, 1, 1, 1, 1, 1, 0, 1] f28_b) call n _ (by kernel_rfl)
def f28_L31 (call : CallF) (n : Nat) : Int → LC → LC → S_ref31_Got → S_api_Event → OR :=
  f28_T31 call n (f28_L33 call n)
theorem f28_e31 (call : CallF) (n : Nat) : f28_P31 f28_b call n = f28_L31 call n := by
  rw [f28_l31, f28_e33]; rfl
def f28_T28 (call : CallF) (n : Nat) (j31 : Int → LC → LC → S_ref31_Got → S_api_Event → OR) (x0 : Int) (x1 : LC) (x2 : S_ref31_Got) (x3 : S_api_Event) : OR :=
  j31 x0 x1 ([.int .i64 (0 : Int), .int .i64 (0 : Int), .int .i64 (0 : Int), .int .i64 (0 : Int), .int .i64 (1 : Int), .int .i64 (0 : Int), .int .i64 (2 : Int), .int .i64 (2 : Int), .int .i64 (0 : Int), .int .i64 (0 : Int), .int .i64 (1 : Int), .int .i64 (2 : Int), .int .i64 (0 : Int), .int .i64 (0 : Int), .int .i64 (2 : Int), .int .i64 (1 : Int), .int .i64 (-1 : Int), .int .i64 (0 : Int)] : List Cell) x2 x3
theorem f28_o28 (X0 : Code) (call : CallF) (n : Nat) (B : Code) (hB : B = (hole f28_b [1, 1, 1, 1, 1, 1, 1, 1, 1, 1, 1, 1] X0)) : f28_P28 B call n = f28_T28 call n (f28_P31 B call n) := by
  subst hB; funext x0 x1 x2 x3; kernel_rfl
theorem f28_l28 (call : CallF) (n : Nat) : f28_P28 f28_b call n = f28_T28 call n (f28_P31 f28_b call n) :=
  f28_o28 (piece [1, 1, 1, 1, 1, 1, 1, 1, 1, 1, 1, 1] f28_b) call n _ (by kernel_rfl)
def f28_L28 (call : CallF) (n : Nat) : Int → LC → S_ref31_Got → S_api_Event → OR :=
  f28_T28 call n (f28_L31 call n)
theorem f28_e28 (call : CallF) (n : Nat) : f28_P28 f28_b call n = f28_L28 call n := by
  rw [f28_l28, f28_e31]; rfl
def f28_T25 (call : CallF) (n : Nat) (j27 : S_ref31_Got → OR) (j28 : Int → LC → S_ref31_Got → S_api_Event → OR) (x0 : Int) (x1 : LC) (x2 : Bool) (x3 : S_ref31_Got) (x4 : S_api_Event) : OR :=
  bif x2 then (
    callK call 60 [] fun v1 =>
    castAgg v1 fun r2 =>
    takeS_ref31_Got r2 fun w3 r4 =>
    nilK r4 (
      j27 w3)) else (
    j28 x0 x1 x3 x4)
theorem f28_o25 (X0 X1 : Code) (call : CallF) (n : Nat) (B : Code) (hB : B = (hole (hole f28_b [1, 1, 1, 1, 1, 1, 1, 1, 1, 1, 0, 1, 0, 1] X0) [1, 1, 1, 1, 1, 1, 1, 1, 1, 1, 1] X1)) : f28_P25 B call n = f28_T25 call n (f28_P27 B call n) (f28_P28 B call n) := by
  subst hB; funext x0 x1 x2 x3 x4; cases x2 <;> kernel_rfl
theorem f28_l25 (call : CallF) (n : Nat) : f28_P25 f28_b call n = f28_T25 call n (f28_P27 f28_b call n) (f28_P28 f28_b call n) :=
  f28_o25 (piece [1, 1, 1, 1, 1, 1, 1, 1, 1, 1, 0, 1, 0, 1] f28_b) (piece [1, 1, 1, 1, 1, 1, 1, 1, 1, 1, 1] f28_b) call n _ (by kernel_rfl)
def f28_L25 (call : CallF) (n : Nat) : Int → LC → Bool → S_ref31_Got → S_api_Event → OR :=
  f28_T25 call n (f28_L27 call n) (f28_L28 call n)
theorem f28_e25 (call : CallF) (n : Nat) : f28_P25 f28_b call n = f28_L25 call n := by
  rw [f28_l25, f28_e27, f28_e28]; rfl
def f28_T23 (call : CallF) (n : Nat) (j25 : Int → LC → Bool → S_ref31_Got → S_api_Event → OR) (x0 : Int) (x1 : LC) (x2 : Bool) (x3 : S_ref31_Got) (x4 : S_api_Event) : OR :=
  j25 x0 x1 (!x2) x3 x4
theorem f28_o23 (X0 : Code) (call : CallF) (n : Nat) (B : Code) (hB : B = (hole f28_b [1, 1, 1, 1, 1, 1, 1, 1, 1, 1, 0, 1] X0)) : f28_P23 B call n = f28_T23 call n (f28_P25 B call n) := by
  subst hB; funext x0 x1 x2 x3 x4; kernel_rfl
theorem f28_l23 (call : CallF) (n : Nat) : f28_P23 f28_b call n = f28_T23 call n (f28_P25 f28_b call n) :=
  f28_o23 (piece [1, 1, 1, 1, 1, 1, 1, 1, 1, 1, 0, 1] f28_b) call n _ (by kernel_rfl)
def f28_L23 (call : CallF) (n : Nat) : Int → LC → Bool → S_ref31_Got → S_api_Event → OR :=
  f28_T23 call n (f28_L25 call n)
theorem f28_e23 (call : CallF) (n : Nat) : f28_P23 f28_b call n = f28_L23 call n := by
  rw [f28_l23, f28_e25]; rfl
def f28_T20 (call : CallF) (n : Nat) (j23 : Int → LC → Bool → S_ref31_Got → S_api_Event → OR) (x0 : LC) (x1 : Int) (x2 : S_ref31_Got) (x3 : S_api_Event) : OR :=
  callK call 63 [.one (.sl none 1 x0)] fun v1 =>
  castTup v1 fun v2 =>
  zL 1 v2 fun l3 r4 =>
  zB r4 fun b5 r6 =>
  nilK r6 (
    j23 x1 l3 b5 x2 x3)
theorem f28_o20 (X0 : Code) (call : CallF) (n : Nat) (B : Code) (hB : B = (hole f28_b [1, 1, 1, 1, 1, 1, 1, 1, 1, 1] X0)) : f28_P20 B call n = f28_T20 call n (f28_P23 B call n) := by
  subst hB; funext x0 x1 x2 x3; kernel_rfl
theorem f28_l20 (call : CallF) (n : Nat) : f28_P20 f28_b call n = f28_T20 call n (f28_P23 f28_b call n) :=
  f28_o20 (piece [1, 1, 1, 1, 1, 1, 1, 1, 1, 1] f28_b) call n _ (by kernel_rfl)
def f28_L20 (call : CallF) (n : Nat) : LC → Int → S_ref31_Got → S_api_Event → OR :=
  f28_T20 call n (f28_L23 call n)
theorem f28_e20 (call : CallF) (n : Nat) : f28_P20 f28_b call n = f28_L20 call n := by
  rw [f28_l20, f28_e23]; rfl
def f28_T46 (call : CallF) (n : Nat) (j49 : LC → Bool → S_ref31_Got → S_api_Event → OR) (j20 : LC → Int → S_ref31_Got → S_api_Event → OR) (x0 : LC) (x1 : Int) (x2 : Bool) (x3 : S_ref31_Got) (x4 : S_api_Event) : OR :=
  bif x2 then (
    callK call 62 [.one (.sl none 1 x0)] fun v1 =>
    oB v1 fun b2 =>
    j49 x0 (!b2) x3 x4) else (
    j20 x0 x1 x3 x4)
theorem f28_o46 (X0 X1 : Code) (call : CallF) (n : Nat) (B : Code) (hB : B = (hole (hole f28_b [1, 1, 1, 1, 1, 1, 1, 1, 0, 1, 0, 1, 1, 1, 1, 1, 1, 0, 0, 1] X0) [1, 1, 1, 1, 1, 1, 1, 1, 1] X1)) : f28_P46 B call n = f28_T46 call n (f28_P49 B call n) (f28_P20 B call n) := by
  subst hB; funext x0 x1 x2 x3 x4; cases x2 <;> kernel_rfl
theorem f28_l46 (call : CallF) (n : Nat) : f28_P46 f28_b call n = f28_T46 call n (f28_P49 f28_b call n) (f28_P20 f28_b call n) :=
  f28_o46 (piece [1, 1, 1, 1, 1, 1, 1, 1, 0, 1, 0, 1, 1, 1, 1, 1, 1, 0, 0, 1] f28_b) (piece [1, 1, 1, 1, 1, 1, 1, 1, 1] f28_b) call n _ (by kernel_rfl)
def f28_L46 (call : CallF) (n : Nat) : LC → Int → Bool → S_ref31_Got → S_api_Event → OR :=
  f28_T46 call n (f28_L49 call n) (f28_L20 call n)
theorem f28_e46 (call : CallF) (n : Nat) : f28_P46 f28_b call n = f28_L46 call n := by
  rw [f28_l46, f28_e49, f28_e20]; rfl
def f28_T41 (call : CallF) (n : Nat) (j46 : LC → Int → Bool → S_ref31_Got → S_api_Event → OR) (x0 : LC) (x1 : Int) (x2 : S_ref31_Got) (x3 : S_api_Event) : OR :=
  j46 x0 x1 (x1 == (8 : Int)) x2 x3
theorem f28_o41 (X0 : Code) (call : CallF) (n : Nat) (B : Code) (hB : B = (hole f28_b [1, 1, 1, 1, 1, 1, 1, 1, 0, 1, 0, 1, 1, 1, 1, 1, 1] X0)) : f28_P41 B call n = f28_T41 call n (f28_P46 B call n) := by
  subst hB; funext x0 x1 x2 x3; kernel_rfl
theorem f28_l41 (call : CallF) (n : Nat) : f28_P41 f28_b call n = f28_T41 call n (f28_P46 f28_b call n) :=
  f28_o41 (piece [1, 1, 1, 1, 1, 1, 1, 1, 0, 1, 0, 1, 1, 1, 1, 1, 1] f28_b) call n _ (by kernel_rfl)
def f28_L41 (call : CallF) (n : Nat) : LC → Int → S_ref31_Got → S_api_Event → OR :=
  f28_T41 call n (f28_L46 call n)
theorem f28_e41 (call : CallF) (n : Nat) : f28_P41 f28_b call n = f28_L41 call n := by
  rw [f28_l41, f28_e46]; rfl
def f28_T32 (call : CallF) (n : Nat) (j41 : LC → Int → S_ref31_Got → S_api_Event → OR) (x0 : LC) (x1 : Int) (x2 : S_ref31_Got) (x3 : S_api_Event) : OR :=
  bif decide (0 ≤ (1 : Int) ∧ (Int.toNat (1 : Int)) ≤ (x0.length / 1)) then (
    j41 ((x0.take ((x0.length / 1) * 1)).drop ((Int.toNat (1 : Int)) * 1)) x1 x2 x3) else none
theorem f28_o32 (X0 : Code) (call : CallF) (n : Nat) (B : Code) (hB : B = (hole f28_b [1, 1, 1, 1, 1, 1, 1, 1, 0, 1, 0, 1, 1, 1, 1, 1] X0)) : f28_P32 B call n = f28_T32 call n (f28_P41 B call n) := by
  subst hB; funext x0 x1 x2 x3; kernel_rfl
theorem f28_l32 (call : CallF) (n : Nat) : f28_P32 f28_b call n = f28_T32 call n (f28_P41 f28_b call n) :=
  f28_o32 (piece [1, 1, 1, 1, 1, 1, 1, 1, 0, 1, 0, 1, 1, 1, 1, 1] f28_b) call n _ (by kernel_rfl)
def f28_L32 (call : CallF) (n : Nat) : LC → Int → S_ref31_Got → S_api_Event → OR :=
  f28_T32 call n (f28_L41 call n)
theorem f28_e32 (call : CallF) (n : Nat) : f28_P32 f28_b call n = f28_L32 call n := by
  rw [f28_l32, f28_e41]; rfl
def f28_T30 (call : CallF) (n : Nat) (j32 : LC → Int → S_ref31_Got → S_api_Event → OR) (x0 : LC) (x1 : Int) (x2 : LB) (x3 : S_ref31_Got) (x4 : S_api_Event) : OR :=
  j32 x0 x1 x3 ({ x4 with fName := x2 } : S_api_Event)
theorem f28_o30 (X0 : Code) (call : CallF) (n : Nat) (B : Code) (hB : B = (hole f28_b [1, 1, 1, 1, 1, 1, 1, 1, 0, 1, 0, 1, 1, 1, 1] X0)) : f28_P30 B call n = f28_T30 call n (f28_P32 B call n) := by
  subst hB; funext x0 x1 x2 x3 x4; kernel_rfl
theorem f28_l30 (call : CallF) (n : Nat) : f28_P30 f28_b call n = f28_T30 call n (f28_P32 f28_b call n) :=
  f28_o30 (piece [1, 1, 1, 1, 1, 1, 1, 1, 0, 1, 0, 1, 1, 1, 1] f28_b) call n _ (by kernel_rfl)
def f28_L30 (call : CallF) (n : Nat) : LC → Int → LB → S_ref31_Got → S_api_Event → OR :=
  f28_T30 call n (f28_L32 call n)
theorem f28_e30 (call : CallF) (n : Nat) : f28_P30 f28_b call n = f28_L30 call n := by
  rw [f28_l30, f28_e32]; rfl
def f28_T26 (call : CallF) (n : Nat) (j29 : S_ref31_Got → OR) (j30 : LC → Int → LB → S_ref31_Got → S_api_Event → OR) (x0 : LC) (x1 : Int) (x2 : LB) (x3 : Bool) (x4 : S_ref31_Got) (x5 : S_api_Event) : OR :=
  bif x3 then (
    callK call 60 [] fun v1 =>
    castAgg v1 fun r2 =>
    takeS_ref31_Got r2 fun w3 r4 =>
    nilK r4 (
      j29 w3)) else (
    j30 x0 x1 x2 x4 x5)
theorem f28_o26 (X0 X1 : Code) (call : CallF) (n : Nat) (B : Code) (hB : B = (hole (hole f28_b [1, 1, 1, 1, 1, 1, 1, 1, 0, 1, 0, 1, 1, 0, 1, 0, 1] X0) [1, 1, 1, 1, 1, 1, 1, 1, 0, 1, 0, 1, 1, 1] X1)) : f28_P26 B call n = f28_T26 call n (f28_P29 B call n) (f28_P30 B call n) := by
  subst hB; funext x0 x1 x2 x3 x4 x5; cases x3 <;> kernel_rfl
theorem f28_l26 (call : CallF) (n : Nat) : f28_P26 f28_b call n = f28_T26 call n (f28_P29 f28_b call n) (f28_P30 f28_b call n) :=
  f28_o26 (piece [1, 1, 1, 1, 1, 1, 1, 1, 0, 1, 0, 1, 1, 0, 1, 0, 1] f28_b) (piece [1, 1, 1, 1, 1, 1, 1, 1, 0, 1, 0, 1, 1, 1] f28_b) call n _ (by kernel_rfl)
def f28_L26 (call : CallF) (n : Nat) : LC → Int → LB → Bool → S_ref31_Got → S_api_Event → OR :=
  f28_T26 call n (f28_L29 call n) (f28_L30 call n)
theorem f28_e26 (call : CallF) (n : Nat) : f28_P26 f28_b call n = f28_L26 call n := by
  rw [f28_l26, f28_e29, f28_e30]; rfl
def f28_T24 (call : CallF) (n : Nat) (j26 : LC → Int → LB → Bool → S_ref31_Got → S_api_Event → OR) (x0 : LC) (x1 : Int) (x2 : LB) (x3 : Bool) (x4 : S_ref31_Got) (x5 : S_api_Event) : OR :=
  j26 x0 x1 x2 (!x3) x4 x5
theorem f28_o24 (X0 : Code) (call : CallF) (n : Nat) (B : Code) (hB : B = (hole f28_b [1, 1, 1, 1, 1, 1, 1, 1, 0, 1, 0, 1, 1, 0, 1] X0)) : f28_P24 B call n = f28_T24 call n (f28_P26 B call n) := by
  subst hB; funext x0 x1 x2 x3 x4 x5; kernel_rfl
theorem f28_l24 (call : CallF) (n : Nat) : f28_P24 f28_b call n = f28_T24 call n (f28_P26 f28_b call n) :=
  f28_o24 (piece [1, 1, 1, 1, 1, 1, 1, 1, 0, 1, 0, 1, 1, 0, 1] f28_b) call n _ (by kernel_rfl)
def f28_L24 (call : CallF) (n : Nat) : LC → Int → LB → Bool → S_ref31_Got → S_api_Event → OR :=
  f28_T24 call n (f28_L26 call n)
theorem f28_e24 (call : CallF) (n : Nat) : f28_P24 f28_b call n = f28_L24 call n := by
  rw [f28_l24, f28_e26]; rfl
def f28_T22 (call : CallF) (n : Nat) (j24 : LC → Int → LB → Bool → S_ref31_Got → S_api_Event → OR) (x0 : LC) (x1 : Int) (x2 : S_ref31_Got) (x3 : S_api_Event) : OR :=
  itemK x0 (0 : Int) fun c1 =>
  castS c1 fun s2 =>
  bif (x1 == (7 : Int)) then (
    callK call 61 [.one (.str s2), .one (.bool true)] fun v3 =>
    castTup v3 fun v4 =>
    zS v4 fun s5 r6 =>
    zB r6 fun b7 r8 =>
    nilK r8 (
      j24 x0 x1 s5 b7 x2 x3)) else (
    callK call 61 [.one (.str s2), .one (.bool (decide (x1 ≥ (10 : Int))))] fun v9 =>
    castTup v9 fun v10 =>
    zS v10 fun s11 r12 =>
    zB r12 fun b13 r14 =>
    nilK r14 (
      j24 x0 x1 s11 b13 x2 x3))
theorem f28_o22 (X0 : Code) (call : CallF) (n : Nat) (B : Code) (hB : B = (hole f28_b [1, 1, 1, 1, 1, 1, 1, 1, 0, 1, 0, 1, 1] X0)) : f28_P22 B call n = f28_T22 call n (f28_P24 B call n) := by
  subst hB; funext x0 x1 x2 x3; kernel_rfl
theorem f28_l22 (call : CallF) (n : Nat) : f28_P22 f28_b call n = f28_T22 call n (f28_P24 f28_b call n) :=
  f28_o22 (piece [1, 1, 1, 1, 1, 1, 1, 1, 0, 1, 0, 1, 1] f28_b) call n _ (by kernel_rfl)
def f28_L22 (call : CallF) (n : Nat) : LC → Int → S_ref31_Got → S_api_Event → OR :=
  f28_T22 call n (f28_L24 call n)
theorem f28_e22 (call : CallF) (n : Nat) : f28_P22 f28_b call n = f28_L22 call n := by
  rw [f28_l22, f28_e24]; rfl
def f28_T19 (call : CallF) (n : Nat) (j21 : S_ref31_Got → OR) (j22 : LC → Int → S_ref31_Got → S_api_Event → OR) (x0 : LC) (x1 : Int) (x2 : Bool) (x3 : S_ref31_Got) (x4 : S_api_Event) : OR :=
  bif x2 then (
    callK call 60 [] fun v1 =>
    castAgg v1 fun r2 =>
    takeS_ref31_Got r2 fun w3 r4 =>
    nilK r4 (
      j21 w3)) else (
    j22 x0 x1 x3 x4)
theorem f28_o19 (X0 X1 : Code) (call : CallF) (n : Nat) (B : Code) (hB : B = (hole (hole f28_b [1, 1, 1, 1, 1, 1, 1, 1, 0, 1, 0, 0, 1, 0, 1] X0) [1, 1, 1, 1, 1, 1, 1, 1, 0, 1, 0, 1] X1)) : f28_P19 B call n = f28_T19 call n (f28_P21 B call n) (f28_P22 B call n) := by
  subst hB; funext x0 x1 x2 x3 x4; cases x2 <;> kernel_rfl
theorem f28_l19 (call : CallF) (n : Nat) : f28_P19 f28_b call n = f28_T19 call n (f28_P21 f28_b call n) (f28_P22 f28_b call n) :=
  f28_o19 (piece [1, 1, 1, 1, 1, 1, 1, 1, 0, 1, 0, 0, 1, 0, 1] f28_b) (piece [1, 1, 1, 1, 1, 1, 1, 1, 0, 1, 0, 1] f28_b) call n _ (by kernel_rfl)
def f28_L19 (call : CallF) (n : Nat) : LC → Int → Bool → S_ref31_Got → S_api_Event → OR :=
  f28_T19 call n (f28_L21 call n) (f28_L22 call n)
theorem f28_e19 (call : CallF) (n : Nat) : f28_P19 f28_b call n = f28_L19 call n := by
  rw [f28_l19, f28_e21, f28_e22]; rfl
def f28_T18 (call : CallF) (n : Nat) (j19 : LC → Int → Bool → S_ref31_Got → S_api_Event → OR) (j20 : LC → Int → S_ref31_Got → S_api_Event → OR) (x0 : LC) (x1 : Int) (x2 : Bool) (x3 : S_ref31_Got) (x4 : S_api_Event) : OR :=
  bif x2 then (
    j19 x0 x1 ((((x0).length / 1 : Nat) : Int) == (0 : Int)) x3 x4) else (
    j20 x0 x1 x3 x4)
theorem f28_o18 (X0 X1 : Code) (call : CallF) (n : Nat) (B : Code) (hB : B = (hole (hole f28_b [1, 1, 1, 1, 1, 1, 1, 1, 0, 1, 0, 0, 1] X0) [1, 1, 1, 1, 1, 1, 1, 1, 1] X1)) : f28_P18 B call n = f28_T18 call n (f28_P19 B call n) (f28_P20 B call n) := by
  subst hB; funext x0 x1 x2 x3 x4; cases x2 <;> kernel_rfl
theorem f28_l18 (call : CallF) (n : Nat) : f28_P18 f28_b call n = f28_T18 call n (f28_P19 f28_b call n) (f28_P20 f28_b call n) :=
  f28_o18 (piece [1, 1, 1, 1, 1, 1, 1, 1, 0, 1, 0, 0, 1] f28_b) (piece [1, 1, 1, 1, 1, 1, 1, 1, 1] f28_b) call n _ (by kernel_rfl)
def f28_L18 (call : CallF) (n : Nat) : LC → Int → Bool → S_ref31_Got → S_api_Event → OR :=
  f28_T18 call n (f28_L19 call n) (f28_L20 call n)
theorem f28_e18 (call : CallF) (n : Nat) : f28_P18 f28_b call n = f28_L18 call n := by
  rw [f28_l18, f28_e19, f28_e20]; rfl
def f28_T4 (call : CallF) (n : Nat) (j17 : LB → LC → Int → S_ref31_Got → S_api_Event → OR) (j18 : LC → Int → Bool → S_ref31_Got → S_api_Event → OR) (x0 : LB) (x1 : LC) (x2 : Int) (x3 : S_ref31_Got) (x4 : S_api_Event) : OR :=
  bif (decide (x2 ≤ (17 : Int))) then (
    callK call 24 [.one (.int .i64 x2)] fun v1 =>
    oS v1 fun s2 =>
    itemK x1 (0 : Int) fun c3 =>
    castS c3 fun s4 =>
    bif (s2 == s4) then (
      j17 x0 x1 x2 x3 ({ x4 with fKind := x2 } : S_api_Event)) else (
      j17 x0 x1 x2 x3 x4)) else (
    bif (x4.fKind == (0 : Int)) then (
      some (.agg [.int .i64 (0 : Int), .int .i64 (0 : Int), .int .i64 (0 : Int), .int .i64 (0 : Int), .bool false, .str ([] : List UInt8), .int .i64 (0 : Int), .int .i64 (0 : Int), .sl (some ⟨1000000, 8, 9⟩) 1 ([] : List Cell), .sl (some ⟨1000000, 9, 5⟩) 1 ([] : List Cell), .int .i64 (0 : Int), .sl (some ⟨1000000, 11, 3⟩) 1 ([] : List Cell), .int .i64 (15 : Int)], [])) else (
      bif decide (0 ≤ (1 : Int) ∧ (Int.toNat (1 : Int)) ≤ (x1.length / 1)) then (
        bif (decide (x4.fKind ≤ (3 : Int))) then (
          callK call 59 [.agg x4.cells, .one (.str x0), .one (.sl none 1 ((x1.take ((x1.length / 1) * 1)).drop ((Int.toNat (1 : Int)) * 1)))] fun v5 =>
          castAgg v5 fun r6 =>
          takeS_ref31_Got r6 fun w7 r8 =>
          nilK r8 (
            some (.agg w7.cells, []))) else (
          bif (decide (x4.fKind ≥ (6 : Int))) then (
            j18 ((x1.take ((x1.length / 1) * 1)).drop ((Int.toNat (1 : Int)) * 1)) x4.fKind (decide (x4.fKind ≤ (12 : Int))) x3 x4) else (
            j18 ((x1.take ((x1.length / 1) * 1)).drop ((Int.toNat (1 : Int)) * 1)) x4.fKind false x3 x4))) else none))
theorem f28_o4 (X0 X1 : Code) (call : CallF) (n : Nat) (m0 : Nat) (B : Code) (hB : B = (hole (hole f28_b [1, 1, 1, 1, 1, 1, 1, 1, 0, 1] X0) [1, 1, 1, 0, 1, 0, 0, 1, 1] X1)) : f28_P4 B call n (m0 + 1) = f28_T4 call n (f28_P17 B call n m0) (f28_P18 B call n) := by
  subst hB; funext x0 x1 x2 x3 x4; kernel_rfl
theorem f28_l4 (call : CallF) (n : Nat) (m0 : Nat) : f28_P4 f28_b call n (m0 + 1) = f28_T4 call n (f28_P17 f28_b call n m0) (f28_P18 f28_b call n) :=
  f28_o4 (piece [1, 1, 1, 1, 1, 1, 1, 1, 0, 1] f28_b) (piece [1, 1, 1, 0, 1, 0, 0, 1, 1] f28_b) call n m0 _ (by kernel_rfl)
def f28_L4 (call : CallF) (n : Nat) : Nat → LB → LC → Int → S_ref31_Got → S_api_Event → OR
  | 0 => fun _ _ _ _ _ => none
  | m0 + 1 => f28_T4 call n (f28_L17 call n (f28_L4 call n m0)) (f28_L18 call n)
theorem f28_e4 (call : CallF) (n : Nat) : ∀ m0 : Nat, f28_P4 f28_b call n m0 = f28_L4 call n m0
  | 0 => by funext x0 x1 x2 x3 x4; kernel_rfl
  | m0 + 1 => by rw [f28_l4, f28_e17, f28_e18, f28_e4 call n m0]; rfl
/-- pigeonhole/pigeonholeref31.Read -/
def f28_T (call : CallF) (n : Nat) (j4n : LB → LC → Int → S_ref31_Got → S_api_Event → OR) (a0 : LB) : OR :=
  callK call 58 [.one (.str a0)] fun v87 =>
  oL 1 v87 fun l88 =>
  j4n a0 l88 (1 : Int) (⟨(⟨(0 : Int), (0 : Int), (0 : Int), (0 : Int), false, ([] : List UInt8), (0 : Int), (0 : Int), ([] : List Cell), ([] : List Cell), (0 : Int), ([] : List Cell)⟩ : S_api_Event), (0 : Int)⟩ : S_ref31_Got) (⟨(0 : Int), (0 : Int), (0 : Int), (0 : Int), false, ([] : List UInt8), (0 : Int), (0 : Int), ([] : List Cell), ([] : List Cell), (0 : Int), ([] : List Cell)⟩ : S_api_Event)
def f28_L (call : CallF) (n : Nat) (a0 : LB) : OR :=
  f28_T call n (f28_L4 call n n) a0
theorem f28_o (call : CallF) (n : Nat) (B : Code) (hB : B = f28_b) : f28_P B call n = f28_T call n (f28_P4 B call n n) := by
  subst hB; funext a0; kernel_rfl
theorem f28_l (call : CallF) (n : Nat) : f28_P f28_b call n = f28_T call n (f28_P4 f28_b call n n) :=
  f28_o call n _ (by kernel_rfl)
theorem f28_e (call : CallF) (n : Nat) : f28_P f28_b call n = f28_L call n := by
  rw [f28_l, f28_e4]; rfl
theorem f28_eq (n : Nat) (a0 : LB) : acall AXE AXF (n + 1) 28 [.one (.str a0)] [] = f28_L (acall AXE AXF n) (n + 1) a0 :=
  (show _ = f28_P f28_b (acall AXE AXF n) (n + 1) a0 by kernel_rfl).trans (by rw [f28_e])
def f30_P (B : Code) (call : CallF) (n : Nat) : OR :=
  f30_x B call n [] (kEnd AXE 0 f30_r) ⟨[], []⟩
/-- pigeonhole/script.words -/
def f30_T (call : CallF) (n : Nat) : OR :=
  some (.one (.sl (some ⟨0, 0, 9⟩) 1 ([.str ([] : List UInt8), .str ([111, 112, 101, 110] : List UInt8), .str ([98, 121, 116, 101, 115] : List UInt8), .str ([99, 108, 111, 115, 101] : List UInt8), .str ([116, 105, 99, 107] : List UInt8), .str ([114, 117, 110] : List UInt8), .str ([117, 115, 101, 114] : List UInt8), .str ([108, 105, 109, 105, 116] : List UInt8), .str ([97, 108, 105, 97, 115] : List UInt8), .str ([117, 110, 97, 108, 105, 97, 115] : List UInt8), .str ([101, 120, 112, 117, 110, 103, 101] : List UInt8), .str ([102, 108, 97, 103] : List UInt8), .str ([99, 111, 109, 112, 97, 99, 116] : List UInt8), .str ([112, 101, 114, 115, 105, 115, 116] : List UInt8), .str ([102, 97, 105, 108] : List UInt8), .str ([99, 114, 97, 115, 104] : List UInt8), .str ([98, 111, 111, 116] : List UInt8), .str ([114, 101, 112, 97, 105, 114] : List UInt8)] : List Cell)), [])
def f30_L (call : CallF) (n : Nat) : OR :=
  f30_T call n
theorem f30_o (call : CallF) (n : Nat) (B : Code) (hB : B = f30_b) : f30_P B call n = f30_T call n := by
  subst hB; kernel_rfl
theorem f30_l (call : CallF) (n : Nat) : f30_P f30_b call n = f30_T call n :=
  f30_o call n _ (by kernel_rfl)
theorem f30_e (call : CallF) (n : Nat) : f30_P f30_b call n = f30_L call n := by
  rw [f30_l]; rfl
theorem f30_eq (n : Nat) : acall AXE AXF (n + 1) 30 [] [] = f30_L (acall AXE AXF n) (n + 1) :=
  (show _ = f30_P f30_b (acall AXE AXF n) (n + 1) by kernel_rfl).trans (by rw [f30_e])
def f31_P13 (B : Code) (call : CallF) (n : Nat) (x0 : Bool) (x1 : S_api_Event) : OR :=
  f31_x B call n [1, 1, 0, 1, 0, 1, 1, 1, 1] (kSeq (f31_x B call n [1, 1, 1]) (kEnd AXE 1 f31_r)) ⟨[(6, .one (.bool x0))], [[.int .i64 x1.fKind, .int .i64 x1.fSlot, .int .i64 x1.fN, .int .i64 x1.fK, .bool x1.fLmtp, .str x1.fName, .int .i64 x1.fLimit_Bytes, .int .i64 x1.fLimit_Count, .sl none 1 x1.fTo, .sl none 1 x1.fData, .int .i64 x1.fCode, .sl (some ⟨1000000, 11, 3⟩) 1 x1.fKeep]]⟩
def f31_P26 (B : Code) (call : CallF) (n : Nat) (m0 : Nat) (x0 : Bool) (x1 : S_api_Event) : OR :=
  f31_x B call n [1, 1, 1, 1, 1, 0, 1, 0, 0, 1, 1, 0, 0, 1, 0, 1, 0, 1, 0, 1, 1] (kBlk 2 (kSeq (f31_x B call n [1, 1, 1, 1, 1, 0, 1, 0, 0, 1, 1, 0, 0, 1, 1]) (kBlk 1 (kSeq (f31_x B call n [1, 1, 1, 1, 1, 0, 1, 0, 0, 1, 1, 1]) (kSeq (fun k => prK 1000011 (pruneAt f31_h 1000011) (aloop 1000011 (pruneAt f31_h 1000011) (f31_x B call n [1, 1, 1, 1, 1, 0, 1, 0, 0]) k m0)) (kBlk 0 (kSeq (f31_x B call n [1, 1, 1, 1, 1, 1]) (kEnd AXE 1 f31_r)))))))) ⟨[(6, .one (.bool x0))], [[.int .i64 x1.fKind, .int .i64 x1.fSlot, .int .i64 x1.fN, .int .i64 x1.fK, .bool x1.fLmtp, .str x1.fName, .int .i64 x1.fLimit_Bytes, .int .i64 x1.fLimit_Count, .sl none 1 x1.fTo, .sl none 1 x1.fData, .int .i64 x1.fCode, .sl (some ⟨1000000, 11, 3⟩) 1 x1.fKeep]]⟩
def f31_P30 (B : Code) (call : CallF) (n : Nat) (m0 : Nat) (x0 : Bool) (x1 : S_api_Event) : OR :=
  f31_x B call n [1, 1, 1, 1, 1, 0, 1, 0, 0, 1, 1, 0, 0, 1, 1, 0, 1, 0, 1] (kSeq (f31_x B call n [1, 1, 1, 1, 1, 0, 1, 0, 0, 1, 1, 0, 0, 1, 1, 1]) (kBlk 1 (kSeq (f31_x B call n [1, 1, 1, 1, 1, 0, 1, 0, 0, 1, 1, 1]) (kSeq (fun k => prK 1000011 (pruneAt f31_h 1000011) (aloop 1000011 (pruneAt f31_h 1000011) (f31_x B call n [1, 1, 1, 1, 1, 0, 1, 0, 0]) k m0)) (kBlk 0 (kSeq (f31_x B call n [1, 1, 1, 1, 1, 1]) (kEnd AXE 1 f31_r))))))) ⟨[(6, .one (.bool x0))], [[.int .i64 x1.fKind, .int .i64 x1.fSlot, .int .i64 x1.fN, .int .i64 x1.fK, .bool x1.fLmtp, .str x1.fName, .int .i64 x1.fLimit_Bytes, .int .i64 x1.fLimit_Count, .sl none 1 x1.fTo, .sl none 1 x1.fData, .int .i64 x1.fCode, .sl (some ⟨1000000, 11, 3⟩) 1 x1.fKeep]]⟩
def f31_P27 (B : Code) (call : CallF) (n : Nat) (m0 : Nat) (x0 : LB) (x1 : LC) (x2 x3 : Int) (x4 : Bool) (x5 : S_api_Event) : OR :=
  f31_x B call n [1, 1, 1, 1, 1, 0, 1, 0, 0, 1, 1, 0, 0, 1, 1, 0, 1] (kSeq (f31_x B call n [1, 1, 1, 1, 1, 0, 1, 0, 0, 1, 1, 0, 0, 1, 1, 1]) (kBlk 1 (kSeq (f31_x B call n [1, 1, 1, 1, 1, 0, 1, 0, 0, 1, 1, 1]) (kSeq (fun k => prK 1000011 (pruneAt f31_h 1000011) (aloop 1000011 (pruneAt f31_h 1000011) (f31_x B call n [1, 1, 1, 1, 1, 0, 1, 0, 0]) k m0)) (kBlk 0 (kSeq (f31_x B call n [1, 1, 1, 1, 1, 1]) (kEnd AXE 1 f31_r))))))) ⟨[(0, .one (.ptr 0 0)), (7, .one (.str x0)), (13, .one (.sl none 1 x1)), (52, .one (.int .i64 x2)), (53, .one (.int .i64 x3)), (90, .one (.bool x4))], [[.int .i64 x5.fKind, .int .i64 x5.fSlot, .int .i64 x5.fN, .int .i64 x5.fK, .bool x5.fLmtp, .str x5.fName, .int .i64 x5.fLimit_Bytes, .int .i64 x5.fLimit_Count, .sl none 1 x5.fTo, .sl none 1 x5.fData, .int .i64 x5.fCode, .sl (some ⟨1000000, 11, 3⟩) 1 x5.fKeep]]⟩
def f31_P14 (B : Code) (call : CallF) (n : Nat) (m0 : Nat) (x0 : LB) (x1 x2 : Int) (x3 : LC) (x4 : S_api_Event) : OR :=
  aloop 1000011 (pruneAt f31_h 1000011) (f31_x B call n [1, 1, 1, 1, 1, 0, 1, 0, 0]) (kBlk 0 (kSeq (f31_x B call n [1, 1, 1, 1, 1, 1]) (kEnd AXE 1 f31_r))) m0 ⟨[(0, .one (.ptr 0 0)), (7, .one (.str x0)), (52, .one (.int .i64 x1)), (53, .one (.int .i64 x2)), (13, .one (.sl none 1 x3))], [[.int .i64 x4.fKind, .int .i64 x4.fSlot, .int .i64 x4.fN, .int .i64 x4.fK, .bool x4.fLmtp, .str x4.fName, .int .i64 x4.fLimit_Bytes, .int .i64 x4.fLimit_Count, .sl none 1 x4.fTo, .sl none 1 x4.fData, .int .i64 x4.fCode, .sl (some ⟨1000000, 11, 3⟩) 1 x4.fKeep]]⟩
def f31_P (B : Code) (call : CallF) (n : Nat) (a0 : S_api_Event) (a1 : LB) (a2 : Bool) : OR :=
  f31_x B call n [] (kEnd AXE 1 f31_r) ⟨[(0, .one (.ptr 0 0)), (1, .one (.str a1)), (2, .one (.bool a2))], [[.int .i64 a0.fKind, .int .i64 a0.fSlot, .int .i64 a0.fN, .int .i64 a0.fK, .bool a0.fLmtp, .str a0.fName, .int .i64 a0.fLimit_Bytes, .int .i64 a0.fLimit_Count, .sl none 1 a0.fTo, .sl none 1 a0.fData, .int .i64 a0.fCode, .sl (some ⟨1000000, 11, 3⟩) 1 a0.fKeep]]⟩
def f31_T13 (call : CallF) (n : Nat) (x0 : Bool) (x1 : S_api_Event) : OR :=
  some (.one (.bool x0), [[.int .i64 x1.fKind, .int .i64 x1.fSlot, .int .i64 x1.fN, .int .i64 x1.fK, .bool x1.fLmtp, .str x1.fName, .int .i64 x1.fLimit_Bytes, .int .i64 x1.fLimit_Count, .sl none 1 x1.fTo, .sl none 1 x1.fData, .int .i64 x1.fCode, .sl (some ⟨1000000, 11, 3⟩) 1 x1.fKeep]])
theorem f31_o13 (call : CallF) (n : Nat) (B : Code) (hB : B = f31_b) : f31_P13 B call n = f31_T13 call n := by
  subst hB; funext x0 x1; kernel_rfl
theorem f31_l13 (call : CallF) (n : Nat) : f31_P13 f31_b call n = f31_T13 call n :=
  f31_o13 call n _ (by kernel_rfl)
def f31_L13 (call : CallF) (n : Nat) : Bool → S_api_Event → OR :=
  f31_T13 call n
theorem f31_e13 (call : CallF) (n : Nat) : f31_P13 f31_b call n = f31_L13 call n := by
  rw [f31_l13]; rfl
def f31_T26 (call : CallF) (n : Nat) (x0 : Bool) (x1 : S_api_Event) : OR :=
  some (.one (.bool x0), [[.int .i64 x1.fKind, .int .i64 x1.fSlot, .int .i64 x1.fN, .int .i64 x1.fK, .bool x1.fLmtp, .str x1.fName, .int .i64 x1.fLimit_Bytes, .int .i64 x1.fLimit_Count, .sl none 1 x1.fTo, .sl none 1 x1.fData, .int .i64 x1.fCode, .sl (some ⟨1000000, 11, 3⟩) 1 x1.fKeep]])
theorem f31_o26 (call : CallF) (n : Nat) (m0 : Nat) (B : Code) (hB : B = f31_b) : f31_P26 B call n m0 = f31_T26 call n := by
  subst hB; funext x0 x1; kernel_rfl
theorem f31_l26 (call : CallF) (n : Nat) (m0 : Nat) : f31_P26 f31_b call n m0 = f31_T26 call n :=
  f31_o26 call n m0 _ (by kernel_rfl)
def f31_L26 (call : CallF) (n : Nat) (h_m0 : LB → Int → Int → LC → S_api_Event → OR) : Bool → S_api_Event → OR :=
  f31_T26 call n
theorem f31_e26 (call : CallF) (n : Nat) (m0 : Nat) : f31_P26 f31_b call n m0 = f31_L26 call n (f31_P14 f31_b call n m0) := by
  rw [f31_l26]; rfl
def f31_T30 (call : CallF) (n : Nat) (x0 : Bool) (x1 : S_api_Event) : OR :=
  some (.one (.bool x0), [[.int .i64 x1.fKind, .int .i64 x1.fSlot, .int .i64 x1.fN, .int .i64 x1.fK, .bool x1.fLmtp, .str x1.fName, .int .i64 x1.fLimit_Bytes, .int .i64 x1.fLimit_Count, .sl none 1 x1.fTo, .sl none 1 x1.fData, .int .i64 x1.fCode, .sl (some ⟨1000000, 11, 3⟩) 1 x1.fKeep]])
theorem f31_o30 (call : CallF) (n : Nat) (m0 : Nat) (B : Code) (hB : B = f31_b) : f31_P30 B call n m0 = f31_T30 call n := by
  subst hB; funext x0 x1; kernel_rfl
theorem f31_l30 (call : CallF) (n : Nat) (m0 : Nat) : f31_P30 f31_b call n m0 = f31_T30 call n :=
  f31_o30 call n m0 _ (by kernel_rfl)
def f31_L30 (call : CallF) (n : Nat) (h_m0 : LB → Int → Int → LC → S_api_Event → OR) : Bool → S_api_Event → OR :=
  f31_T30 call n
theorem f31_e30 (call : CallF) (n : Nat) (m0 : Nat) : f31_P30 f31_b call n m0 = f31_L30 call n (f31_P14 f31_b call n m0) := by
  rw [f31_l30]; rfl
def f31_T27 (call : CallF) (n : Nat) (j30 : Bool → S_api_Event → OR) (j14m : LB → Int → Int → LC → S_api_Event → OR) (x0 : LB) (x1 : LC) (x2 x3 : Int) (x4 : Bool) (x5 : S_api_Event) : OR :=
  bif x4 then (
    j30 false x5) else (
    bif decide (0 ≤ (1 : Int) ∧ (Int.toNat (1 : Int)) ≤ (x1.length / 1)) then (
      j14m x0 x2 (IntKind.wrap .i64 (x3 + (1 : Int))) ((x1.take ((x1.length / 1) * 1)).drop ((Int.toNat (1 : Int)) * 1)) x5) else none)
theorem f31_o27 (X0 : Code) (call : CallF) (n : Nat) (m0 : Nat) (B : Code) (hB : B = (hole f31_b [1, 1, 1, 1, 1, 0, 1, 0, 0, 1, 1, 0, 0, 1, 1, 0, 1, 0, 1] X0)) : f31_P27 B call n m0 = f31_T27 call n (f31_P30 B call n m0) (f31_P14 B call n m0) := by
  subst hB; funext x0 x1 x2 x3 x4 x5; cases x4 <;> kernel_rfl
theorem f31_l27 (call : CallF) (n : Nat) (m0 : Nat) : f31_P27 f31_b call n m0 = f31_T27 call n (f31_P30 f31_b call n m0) (f31_P14 f31_b call n m0) :=
  f31_o27 (piece [1, 1, 1, 1, 1, 0, 1, 0, 0, 1, 1, 0, 0, 1, 1, 0, 1, 0, 1] f31_b) call n m0 _ (by kernel_rfl)
def f31_L27 (call : CallF) (n : Nat) (h_m0 : LB → Int → Int → LC → S_api_Event → OR) : LB → LC → Int → Int → Bool → S_api_Event → OR :=
  f31_T27 call n (f31_L30 call n h_m0) h_m0
theorem f31_e27 (call : CallF) (n : Nat) (m0 : Nat) : f31_P27 f31_b call n m0 = f31_L27 call n (f31_P14 f31_b call n m0) := by
  rw [f31_l27, f31_e30]; rfl
def f31_T14 (call : CallF) (n : Nat) (j26 : Bool → S_api_Event → OR) (j27 : LB → LC → Int → Int → Bool → S_api_Event → OR) (x0 : LB) (x1 x2 : Int) (x3 : LC) (x4 : S_api_Event) : OR :=
  bif (decide (x2 < x1)) then (
    itemK x0 x2 fun u1 =>
    bif ((UInt8.toNat u1 : Int) == (116 : Int)) then (
      bif (decide ((((x3).length / 1 : Nat) : Int) > (0 : Int))) then (
        callK call 67 [.one (.sl none 1 x3)] fun v2 =>
        oB v2 fun b3 =>
        j26 b3 ({ x4 with fTo := x3 } : S_api_Event)) else (
        j26 false ({ x4 with fTo := x3 } : S_api_Event))) else (
      bif ((UInt8.toNat u1 : Int) == (119 : Int)) then (
        callRK call 68 [.one (.ptr 0 0), .one (.sl none 1 x3)] [[.int .i64 x4.fKind, .int .i64 x4.fSlot, .int .i64 x4.fN, .int .i64 x4.fK, .bool x4.fLmtp, .str x4.fName, .int .i64 x4.fLimit_Bytes, .int .i64 x4.fLimit_Count, .sl none 1 x4.fTo, .sl none 1 x4.fData, .int .i64 x4.fCode, .sl (some ⟨1000000, 11, 3⟩) 1 x4.fKeep]] fun v4 h5 =>
        consK h5 fun r6 h7 =>
        consK r6 fun c8 r9 =>
        castI .i64 c8 fun n10 =>
        consK r9 fun c11 r12 =>
        castI .i64 c11 fun n13 =>
        consK r12 fun c14 r15 =>
        castI .i64 c14 fun n16 =>
        consK r15 fun c17 r18 =>
        castI .i64 c17 fun n19 =>
        consK r18 fun c20 r21 =>
        castB c20 fun b22 =>
        consK r21 fun c23 r24 =>
        castS c23 fun s25 =>
        consK r24 fun c26 r27 =>
        castI .i64 c26 fun n28 =>
        consK r27 fun c29 r30 =>
        castI .i64 c29 fun n31 =>
        consK r30 fun c32 r33 =>
        castL 1 c32 fun _ l34 =>
        consK r33 fun c35 r36 =>
        castL 1 c35 fun _ l37 =>
        consK r36 fun c38 r39 =>
        castI .i64 c38 fun n40 =>
        consK r39 fun c41 r42 =>
        castN 3 1 c41 fun l43 =>
        nilK r42 (
          nilK h7 (
            oB v4 fun b44 =>
            some (.one (.bool b44), [[.int .i64 n10, .int .i64 n13, .int .i64 n16, .int .i64 n19, .bool b22, .str s25, .int .i64 n28, .int .i64 n31, .sl none 1 l34, .sl none 1 l37, .int .i64 n40, .sl (some ⟨1000000, 11, 3⟩) 1 l43]])))) else (
        bif ((((x3).length / 1 : Nat) : Int) == (0 : Int)) then (
          j27 x0 x3 x1 x2 true x4) else (
          itemK x0 x2 fun u45 =>
          itemK x3 (0 : Int) fun c46 =>
          castS c46 fun s47 =>
          callRK call 66 [.one (.ptr 0 0), .one (.int .u8 (UInt8.toNat u45 : Int)), .one (.str s47)] [[.int .i64 x4.fKind, .int .i64 x4.fSlot, .int .i64 x4.fN, .int .i64 x4.fK, .bool x4.fLmtp, .str x4.fName, .int .i64 x4.fLimit_Bytes, .int .i64 x4.fLimit_Count, .sl none 1 x4.fTo, .sl none 1 x4.fData, .int .i64 x4.fCode, .sl (some ⟨1000000, 11, 3⟩) 1 x4.fKeep]] fun v48 h49 =>
          consK h49 fun r50 h51 =>
          consK r50 fun c52 r53 =>
          castI .i64 c52 fun n54 =>
          consK r53 fun c55 r56 =>
          castI .i64 c55 fun n57 =>
          consK r56 fun c58 r59 =>
          castI .i64 c58 fun n60 =>
          consK r59 fun c61 r62 =>
          castI .i64 c61 fun n63 =>
          consK r62 fun c64 r65 =>
          castB c64 fun b66 =>
          consK r65 fun c67 r68 =>
          castS c67 fun s69 =>
          consK r68 fun c70 r71 =>
          castI .i64 c70 fun n72 =>
          consK r71 fun c73 r74 =>
          castI .i64 c73 fun n75 =>
          consK r74 fun c76 r77 =>
          castL 1 c76 fun _ l78 =>
          consK r77 fun c79 r80 =>
          castL 1 c79 fun _ l81 =>
          consK r80 fun c82 r83 =>
          castI .i64 c82 fun n84 =>
          consK r83 fun c85 r86 =>
          castN 3 1 c85 fun l87 =>
          nilK r86 (
            nilK h51 (
              oB v48 fun b88 =>
              j27 x0 x3 x1 x2 (!b88) (⟨n54, n57, n60, n63, b66, s69, n72, n75, l78, l81, n84, l87⟩ : S_api_Event))))))) else (
    some (.one (.bool ((((x3).length / 1 : Nat) : Int) == (0 : Int))), [[.int .i64 x4.fKind, .int .i64 x4.fSlot, .int .i64 x4.fN, .int .i64 x4.fK, .bool x4.fLmtp, .str x4.fName, .int .i64 x4.fLimit_Bytes, .int .i64 x4.fLimit_Count, .sl none 1 x4.fTo, .sl none 1 x4.fData, .int .i64 x4.fCode, .sl (some ⟨1000000, 11, 3⟩) 1 x4.fKeep]]))
theorem f31_o14 (X0 X1 : Code) (call : CallF) (n : Nat) (m0 : Nat) (B : Code) (hB : B = (hole (hole f31_b [1, 1, 1, 1, 1, 0, 1, 0, 0, 1, 1, 0, 0, 1, 0, 1, 0, 1, 0, 1, 1] X0) [1, 1, 1, 1, 1, 0, 1, 0, 0, 1, 1, 0, 0, 1, 1, 0, 1] X1)) : f31_P14 B call n (m0 + 1) = f31_T14 call n (f31_P26 B call n m0) (f31_P27 B call n m0) := by
  subst hB; funext x0 x1 x2 x3 x4; kernel_rfl
theorem f31_l14 (call : CallF) (n : Nat) (m0 : Nat) : f31_P14 f31_b call n (m0 + 1) = f31_T14 call n (f31_P26 f31_b call n m0) (f31_P27 f31_b call n m0) :=
  f31_o14 (piece [1, 1, 1, 1, 1, 0, 1, 0, 0, 1, 1, 0, 0, 1, 0, 1, 0, 1, 0, 1, 1] f31_b) (piece [1, 1, 1, 1, 1, 0, 1, 0, 0, 1, 1, 0, 0, 1, 1, 0, 1] f31_b) call n m0 _ (by kernel_rfl)
def f31_L14 (call : CallF) (n : Nat) : Nat → LB → Int → Int → LC → S_api_Event → OR
  | 0 => fun _ _ _ _ _ => none
  | m0 + 1 => f31_T14 call n (f31_L26 call n (f31_L14 call n m0)) (f31_L27 call n (f31_L14 call n m0))
theorem f31_e14 (call : CallF) (n : Nat) : ∀ m0 : Nat, f31_P14 f31_b call n m0 = f31_L14 call n m0
  | 0 => by funext x0 x1 x2 x3 x4; kernel_rfl
  | m0 + 1 => by rw [f31_l14, f31_e26, f31_e27, f31_e14 call n m0]; rfl
/-- pigeonhole/script.fill -/
def f31_T (call : CallF) (n : Nat) (j13 : Bool → S_api_Event → OR) (j14n : LB → Int → Int → LC → S_api_Event → OR) (a0 : S_api_Event) (a1 : LB) (a2 : Bool) : OR :=
  callK call 51 [] fun v150 =>
  oL 1 v150 fun l151 =>
  itemK l151 a0.fKind fun c152 =>
  castS c152 fun s153 =>
  bif (a0.fKind == (2 : Int)) then (
    primK pCut [.one (.str a1), .one (.str ([32] : List UInt8))] fun v154 =>
    castTup v154 fun v155 =>
    zS v155 fun s156 r157 =>
    zS r157 fun s158 r159 =>
    zB r159 fun b160 r161 =>
    nilK r161 (
      callK call 65 [.one (.str s158)] fun v162 =>
      castTup v162 fun v163 =>
      zL 1 v163 fun l164 r165 =>
      zB r165 fun b166 r167 =>
      nilK r167 (
        bif b166 then (
          callRK call 66 [.one (.ptr 0 0), .one (.int .u8 (115 : Int)), .one (.str s156)] [[.int .i64 a0.fKind, .int .i64 a0.fSlot, .int .i64 a0.fN, .int .i64 a0.fK, .bool a0.fLmtp, .str a0.fName, .int .i64 a0.fLimit_Bytes, .int .i64 a0.fLimit_Count, .sl none 1 a0.fTo, .sl none 1 l164, .int .i64 a0.fCode, .sl (some ⟨1000000, 11, 3⟩) 1 a0.fKeep]] fun v168 h169 =>
          consK h169 fun r170 h171 =>
          consK r170 fun c172 r173 =>
          castI .i64 c172 fun n174 =>
          consK r173 fun c175 r176 =>
          castI .i64 c175 fun n177 =>
          consK r176 fun c178 r179 =>
          castI .i64 c178 fun n180 =>
          consK r179 fun c181 r182 =>
          castI .i64 c181 fun n183 =>
          consK r182 fun c184 r185 =>
          castB c184 fun b186 =>
          consK r185 fun c187 r188 =>
          castS c187 fun s189 =>
          consK r188 fun c190 r191 =>
          castI .i64 c190 fun n192 =>
          consK r191 fun c193 r194 =>
          castI .i64 c193 fun n195 =>
          consK r194 fun c196 r197 =>
          castL 1 c196 fun _ l198 =>
          consK r197 fun c199 r200 =>
          castL 1 c199 fun _ l201 =>
          consK r200 fun c202 r203 =>
          castI .i64 c202 fun n204 =>
          consK r203 fun c205 r206 =>
          castN 3 1 c205 fun l207 =>
          nilK r206 (
            nilK h171 (
              oB v168 fun b208 =>
              j13 b208 (⟨n174, n177, n180, n183, b186, s189, n192, n195, l198, l201, n204, l207⟩ : S_api_Event)))) else (
          j13 false ({ a0 with fData := l164 } : S_api_Event))))) else (
    bif a2 then (
      primK pSplit [.one (.str a1), .one (.str ([32] : List UInt8))] fun v209 =>
      oL 1 v209 fun l210 =>
      j14n s153 ((s153).length : Int) (0 : Int) l210 a0) else (
      j14n s153 ((s153).length : Int) (0 : Int) ([] : List Cell) a0))
def f31_L (call : CallF) (n : Nat) (a0 : S_api_Event) (a1 : LB) (a2 : Bool) : OR :=
  f31_T call n (f31_L13 call n) (f31_L14 call n n) a0 a1 a2
theorem f31_o (X0 : Code) (call : CallF) (n : Nat) (B : Code) (hB : B = (hole f31_b [1, 1, 0, 1, 0, 1, 1, 1, 1] X0)) : f31_P B call n = f31_T call n (f31_P13 B call n) (f31_P14 B call n n) := by
  subst hB; funext a0 a1 a2; kernel_rfl
theorem f31_l (call : CallF) (n : Nat) : f31_P f31_b call n = f31_T call n (f31_P13 f31_b call n) (f31_P14 f31_b call n n) :=
  f31_o (piece [1, 1, 0, 1, 0, 1, 1, 1, 1] f31_b) call n _ (by kernel_rfl)
theorem f31_e (call : CallF) (n : Nat) : f31_P f31_b call n = f31_L call n := by
  rw [f31_l, f31_e13, f31_e14]; rfl
theorem f31_eq (n : Nat) (a0 : S_api_Event) (a1 : LB) (a2 : Bool) : acall AXE AXF (n + 1) 31 [.one (.ptr 0 0), .one (.str a1), .one (.bool a2)] [[.int .i64 a0.fKind, .int .i64 a0.fSlot, .int .i64 a0.fN, .int .i64 a0.fK, .bool a0.fLmtp, .str a0.fName, .int .i64 a0.fLimit_Bytes, .int .i64 a0.fLimit_Count, .sl none 1 a0.fTo, .sl none 1 a0.fData, .int .i64 a0.fCode, .sl (some ⟨1000000, 11, 3⟩) 1 a0.fKeep]] = f31_L (acall AXE AXF n) (n + 1) a0 a1 a2 :=
  (show _ = f31_P f31_b (acall AXE AXF n) (n + 1) a0 a1 a2 by kernel_rfl).trans (by rw [f31_e])
def f32_P5 (B : Code) (call : CallF) (n : Nat) (m0 : Nat) (x0 x1 : LC) (x2 : Int) : OR :=
  aloop 1000004 (pruneAt f32_h 1000004) (f32_x B call n [1, 1, 0, 1, 0, 0]) (kBlk 0 (kSeq (f32_x B call n [1, 1, 1]) (kEnd AXE 0 f32_r))) m0 ⟨[(0, .one (.sl none 1 x0)), (1, .one (.sl none 1 x1)), (5, .one (.int .i64 x2))], []⟩
def f32_P (B : Code) (call : CallF) (n : Nat) (a0 a1 : LC) : OR :=
  f32_x B call n [] (kEnd AXE 0 f32_r) ⟨[(0, .one (.sl none 1 a0)), (1, .one (.sl none 1 a1))], []⟩
def f32_T5 (call : CallF) (n : Nat) (j5m : LC → LC → Int → OR) (x0 x1 : LC) (x2 : Int) : OR :=
  bif (decide (x2 < (((x0).length / 1 : Nat) : Int))) then (
    itemK x0 x2 fun c1 =>
    castI .i64 c1 fun n2 =>
    itemK x1 x2 fun c3 =>
    castI .i64 c3 fun n4 =>
    bif (n2 != n4) then (
      some (.one (.bool false), [])) else (
      j5m x0 x1 (IntKind.wrap .i64 (x2 + (1 : Int))))) else (
    some (.one (.bool true), []))
theorem f32_o5 (call : CallF) (n : Nat) (m0 : Nat) (B : Code) (hB : B = f32_b) : f32_P5 B call n (m0 + 1) = f32_T5 call n (f32_P5 B call n m0) := by
  subst hB; funext x0 x1 x2; kernel_rfl
theorem f32_l5 (call : CallF) (n : Nat) (m0 : Nat) : f32_P5 f32_b call n (m0 + 1) = f32_T5 call n (f32_P5 f32_b call n m0) :=
  f32_o5 call n m0 _ (by kernel_rfl)
def f32_L5 (call : CallF) (n : Nat) : Nat → LC → LC → Int → OR
  | 0 => fun _ _ _ => none
  | m0 + 1 => f32_T5 call n (f32_L5 call n m0)
theorem f32_e5 (call : CallF) (n : Nat) : ∀ m0 : Nat, f32_P5 f32_b call n m0 = f32_L5 call n m0
  | 0 => by funext x0 x1 x2; kernel_rfl
  | m0 + 1 => by rw [f32_l5, f32_e5 call n m0]; rfl
/-- pigeonhole/pigeonholeref13.SameInts -/
def f32_T (call : CallF) (n : Nat) (j5n : LC → LC → Int → OR) (a0 a1 : LC) : OR :=
  bif ((((a0).length / 1 : Nat) : Int) != (((a1).length / 1 : Nat) : Int)) then (
    some (.one (.bool false), [])) else (
    j5n a0 a1 (0 : Int))
def f32_L (call : CallF) (n : Nat) (a0 a1 : LC) : OR :=
  f32_T call n (f32_L5 call n n) a0 a1
theorem f32_o (call : CallF) (n : Nat) (B : Code) (hB : B = f32_b) : f32_P B call n = f32_T call n (f32_P5 B call n n) := by
  subst hB; funext a0 a1; kernel_rfl
theorem f32_l (call : CallF) (n : Nat) : f32_P f32_b call n = f32_T call n (f32_P5 f32_b call n n) :=
  f32_o call n _ (by kernel_rfl)
theorem f32_e (call : CallF) (n : Nat) : f32_P f32_b call n = f32_L call n := by
  rw [f32_l, f32_e5]; rfl
theorem f32_eq (n : Nat) (a0 a1 : LC) : acall AXE AXF (n + 1) 32 [.one (.sl none 1 a0), .one (.sl none 1 a1)] [] = f32_L (acall AXE AXF n) (n + 1) a0 a1 :=
  (show _ = f32_P f32_b (acall AXE AXF n) (n + 1) a0 a1 by kernel_rfl).trans (by rw [f32_e])
def f51_P (B : Code) (call : CallF) (n : Nat) : OR :=
  f51_x B call n [] (kEnd AXE 0 f51_r) ⟨[], []⟩
/-- pigeonhole/script.forms -/
def f51_T (call : CallF) (n : Nat) : OR :=
  some (.one (.sl (some ⟨0, 0, 9⟩) 1 ([.str ([] : List UInt8), .str ([115, 112] : List UInt8), .str ([115, 100] : List UInt8), .str ([115] : List UInt8), .str ([110] : List UInt8), .str ([] : List UInt8), .str ([117, 98, 99] : List UInt8), .str ([109, 98, 99] : List UInt8), .str ([117, 116] : List UInt8), .str ([117] : List UInt8), .str ([109, 110] : List UInt8), .str ([109, 110, 107] : List UInt8), .str ([109] : List UInt8), .str ([] : List UInt8), .str ([110, 101] : List UInt8), .str ([110] : List UInt8), .str ([110, 119] : List UInt8), .str ([] : List UInt8)] : List Cell)), [])
def f51_L (call : CallF) (n : Nat) : OR :=
  f51_T call n
theorem f51_o (call : CallF) (n : Nat) (B : Code) (hB : B = f51_b) : f51_P B call n = f51_T call n := by
  subst hB; kernel_rfl
theorem f51_l (call : CallF) (n : Nat) : f51_P f51_b call n = f51_T call n :=
  f51_o call n _ (by kernel_rfl)
theorem f51_e (call : CallF) (n : Nat) : f51_P f51_b call n = f51_L call n := by
  rw [f51_l]; rfl
theorem f51_eq (n : Nat) : acall AXE AXF (n + 1) 51 [] [] = f51_L (acall AXE AXF n) (n + 1) :=
  (show _ = f51_P f51_b (acall AXE AXF n) (n + 1) by kernel_rfl).trans (by rw [f51_e])
def f52_P (B : Code) (call : CallF) (n : Nat) (a0 : Bool) : OR :=
  f52_x B call n [] (kEnd AXE 0 f52_r) ⟨[(0, .one (.bool a0))], []⟩
/-- pigeonhole/script.protocol -/
def f52_T (call : CallF) (n : Nat) (a0 : Bool) : OR :=
  bif a0 then (
    some (.one (.str ([108, 109, 116, 112] : List UInt8)), [])) else (
    some (.one (.str ([115, 109, 116, 112] : List UInt8)), []))
def f52_L (call : CallF) (n : Nat) (a0 : Bool) : OR :=
  f52_T call n a0
theorem f52_o (call : CallF) (n : Nat) (B : Code) (hB : B = f52_b) : f52_P B call n = f52_T call n := by
  subst hB; funext a0; kernel_rfl
theorem f52_l (call : CallF) (n : Nat) : f52_P f52_b call n = f52_T call n :=
  f52_o call n _ (by kernel_rfl)
theorem f52_e (call : CallF) (n : Nat) : f52_P f52_b call n = f52_L call n := by
  rw [f52_l]; rfl
theorem f52_eq (n : Nat) (a0 : Bool) : acall AXE AXF (n + 1) 52 [.one (.bool a0)] [] = f52_L (acall AXE AXF n) (n + 1) a0 :=
  (show _ = f52_P f52_b (acall AXE AXF n) (n + 1) a0 by kernel_rfl).trans (by rw [f52_e])
def f53_P10 (B : Code) (call : CallF) (n : Nat) (m0 : Nat) (x0 x1 : LC) (x2 x3 : Int) : OR :=
  f53_x B call n [1, 1, 0, 1, 0, 0, 1, 1, 1] (kSeq (fun k => prK 1000003 (pruneAt f53_h 1000003) (aloop 1000003 (pruneAt f53_h 1000003) (f53_x B call n [1, 1, 0, 1, 0, 0]) k m0)) (kBlk 0 (kSeq (f53_x B call n [1, 1, 1]) (kEnd AXE 0 f53_r)))) ⟨[(3, .one (.sl (some ⟨3, 0, 5⟩) 1 x0)), (7, .one (.sl none 1 x1)), (8, .one (.int .i64 x2)), (9, .one (.int .i64 x3))], []⟩
def f53_P13 (B : Code) (call : CallF) (n : Nat) (m0 : Nat) (x0 : LC) (x1 : Int) (x2 : LC) (x3 x4 : Int) (x5 : Bool) : OR :=
  f53_x B call n [1, 1, 0, 1, 0, 0, 1, 1, 0, 0, 1, 0, 1, 1, 1, 1, 1, 1, 1] (kBlk 2 (kBlk 1 (kSeq (f53_x B call n [1, 1, 0, 1, 0, 0, 1, 1, 1]) (kSeq (fun k => prK 1000003 (pruneAt f53_h 1000003) (aloop 1000003 (pruneAt f53_h 1000003) (f53_x B call n [1, 1, 0, 1, 0, 0]) k m0)) (kBlk 0 (kSeq (f53_x B call n [1, 1, 1]) (kEnd AXE 0 f53_r))))))) ⟨[(3, .one (.sl (some ⟨3, 0, 5⟩) 1 x0)), (5, .one (.int .u8 x1)), (7, .one (.sl none 1 x2)), (8, .one (.int .i64 x3)), (9, .one (.int .i64 x4)), (50, .one (.bool x5))], []⟩
def f53_P12 (B : Code) (call : CallF) (n : Nat) (m0 : Nat) (x0 : LC) (x1 : Int) (x2 : LC) (x3 x4 : Int) (x5 : Bool) : OR :=
  f53_x B call n [1, 1, 0, 1, 0, 0, 1, 1, 0, 0, 1, 0, 1, 1, 1, 1, 1] (kBlk 2 (kBlk 1 (kSeq (f53_x B call n [1, 1, 0, 1, 0, 0, 1, 1, 1]) (kSeq (fun k => prK 1000003 (pruneAt f53_h 1000003) (aloop 1000003 (pruneAt f53_h 1000003) (f53_x B call n [1, 1, 0, 1, 0, 0]) k m0)) (kBlk 0 (kSeq (f53_x B call n [1, 1, 1]) (kEnd AXE 0 f53_r))))))) ⟨[(3, .one (.sl (some ⟨3, 0, 5⟩) 1 x0)), (5, .one (.int .u8 x1)), (7, .one (.sl none 1 x2)), (8, .one (.int .i64 x3)), (9, .one (.int .i64 x4)), (44, .one (.bool x5))], []⟩
def f53_P11 (B : Code) (call : CallF) (n : Nat) (m0 : Nat) (x0 : LC) (x1 : Int) (x2 : LC) (x3 x4 : Int) (x5 : Bool) : OR :=
  f53_x B call n [1, 1, 0, 1, 0, 0, 1, 1, 0, 0, 1, 0, 1, 1, 1] (kBlk 2 (kBlk 1 (kSeq (f53_x B call n [1, 1, 0, 1, 0, 0, 1, 1, 1]) (kSeq (fun k => prK 1000003 (pruneAt f53_h 1000003) (aloop 1000003 (pruneAt f53_h 1000003) (f53_x B call n [1, 1, 0, 1, 0, 0]) k m0)) (kBlk 0 (kSeq (f53_x B call n [1, 1, 1]) (kEnd AXE 0 f53_r))))))) ⟨[(3, .one (.sl (some ⟨3, 0, 5⟩) 1 x0)), (5, .one (.int .u8 x1)), (7, .one (.sl none 1 x2)), (8, .one (.int .i64 x3)), (9, .one (.int .i64 x4)), (33, .one (.bool x5))], []⟩
def f53_P9 (B : Code) (call : CallF) (n : Nat) (m0 : Nat) (x0 : LC) (x1 : Int) (x2 : LC) (x3 x4 : Int) (x5 : Bool) : OR :=
  f53_x B call n [1, 1, 0, 1, 0, 0, 1, 1, 0, 0, 1, 0, 1] (kBlk 2 (kBlk 1 (kSeq (f53_x B call n [1, 1, 0, 1, 0, 0, 1, 1, 1]) (kSeq (fun k => prK 1000003 (pruneAt f53_h 1000003) (aloop 1000003 (pruneAt f53_h 1000003) (f53_x B call n [1, 1, 0, 1, 0, 0]) k m0)) (kBlk 0 (kSeq (f53_x B call n [1, 1, 1]) (kEnd AXE 0 f53_r))))))) ⟨[(3, .one (.sl (some ⟨3, 0, 5⟩) 1 x0)), (5, .one (.int .u8 x1)), (7, .one (.sl none 1 x2)), (8, .one (.int .i64 x3)), (9, .one (.int .i64 x4)), (22, .one (.bool x5))], []⟩
def f53_P3 (B : Code) (call : CallF) (n : Nat) (m0 : Nat) (x0 x1 : LC) (x2 x3 : Int) : OR :=
  aloop 1000003 (pruneAt f53_h 1000003) (f53_x B call n [1, 1, 0, 1, 0, 0]) (kBlk 0 (kSeq (f53_x B call n [1, 1, 1]) (kEnd AXE 0 f53_r))) m0 ⟨[(3, .one (.sl (some ⟨3, 0, 5⟩) 1 x0)), (7, .one (.sl none 1 x1)), (8, .one (.int .i64 x2)), (9, .one (.int .i64 x3))], []⟩
def f53_P (B : Code) (call : CallF) (n : Nat) (a0 : LC) : OR :=
  f53_x B call n [] (kEnd AXE 0 f53_r) ⟨[(0, .one (.sl none 1 a0))], []⟩
def f53_T10 (call : CallF) (n : Nat) (j3m : LC → LC → Int → Int → OR) (x0 x1 : LC) (x2 x3 : Int) : OR :=
  j3m x0 x1 x2 (IntKind.wrap .i64 (x3 + (1 : Int)))
theorem f53_o10 (call : CallF) (n : Nat) (m0 : Nat) (B : Code) (hB : B = f53_b) : f53_P10 B call n m0 = f53_T10 call n (f53_P3 B call n m0) := by
  subst hB; funext x0 x1 x2 x3; kernel_rfl
theorem f53_l10 (call : CallF) (n : Nat) (m0 : Nat) : f53_P10 f53_b call n m0 = f53_T10 call n (f53_P3 f53_b call n m0) :=
  f53_o10 call n m0 _ (by kernel_rfl)
def f53_L10 (call : CallF) (n : Nat) (h_m0 : LC → LC → Int → Int → OR) : LC → LC → Int → Int → OR :=
  f53_T10 call n h_m0
theorem f53_e10 (call : CallF) (n : Nat) (m0 : Nat) : f53_P10 f53_b call n m0 = f53_L10 call n (f53_P3 f53_b call n m0) := by
  rw [f53_l10]; rfl
def f53_T13 (call : CallF) (n : Nat) (j10 : LC → LC → Int → Int → OR) (x0 : LC) (x1 : Int) (x2 : LC) (x3 x4 : Int) (x5 : Bool) : OR :=
  bif x5 then (
    guardB (decide (((x0).length + (([.int .u8 (92 : Int), .int .u8 (110 : Int)] : List Cell)).length) * 1000 ≤ rowLim)) (
      j10 (x0 ++ ([.int .u8 (92 : Int), .int .u8 (110 : Int)] : List Cell)) x2 x3 x4)) else (
    itemK ([48, 49, 50, 51, 52, 53, 54, 55, 56, 57, 97, 98, 99, 100, 101, 102] : List UInt8) (Int.fdiv x1 ((2 : Int) ^ (min (Int.toNat (4 : Int)) (IntKind.bits .u8)))) fun u1 =>
    itemK ([48, 49, 50, 51, 52, 53, 54, 55, 56, 57, 97, 98, 99, 100, 101, 102] : List UInt8) (IntKind.wrap .u8 ((BitVec.toNat ((BitVec.ofInt (IntKind.bits .u8) x1) &&& (BitVec.ofInt (IntKind.bits .u8) (15 : Int))) : Nat) : Int)) fun u2 =>
    guardB (decide (((x0).length + (([.int .u8 (92 : Int), .int .u8 (120 : Int), .int .u8 (UInt8.toNat u1 : Int), .int .u8 (UInt8.toNat u2 : Int)] : List Cell)).length) * 1000 ≤ rowLim)) (
      j10 (x0 ++ ([.int .u8 (92 : Int), .int .u8 (120 : Int), .int .u8 (UInt8.toNat u1 : Int), .int .u8 (UInt8.toNat u2 : Int)] : List Cell)) x2 x3 x4))
theorem f53_o13 (X0 : Code) (call : CallF) (n : Nat) (m0 : Nat) (B : Code) (hB : B = (hole f53_b [1, 1, 0, 1, 0, 0, 1, 1, 1] X0)) : f53_P13 B call n m0 = f53_T13 call n (f53_P10 B call n m0) := by
  subst hB; funext x0 x1 x2 x3 x4 x5; cases x5 <;> kernel_rfl
theorem f53_l13 (call : CallF) (n : Nat) (m0 : Nat) : f53_P13 f53_b call n m0 = f53_T13 call n (f53_P10 f53_b call n m0) :=
  f53_o13 (piece [1, 1, 0, 1, 0, 0, 1, 1, 1] f53_b) call n m0 _ (by kernel_rfl)
def f53_L13 (call : CallF) (n : Nat) (h_m0 : LC → LC → Int → Int → OR) : LC → Int → LC → Int → Int → Bool → OR :=
  f53_T13 call n (f53_L10 call n h_m0)
theorem f53_e13 (call : CallF) (n : Nat) (m0 : Nat) : f53_P13 f53_b call n m0 = f53_L13 call n (f53_P3 f53_b call n m0) := by
  rw [f53_l13, f53_e10]; rfl
def f53_T12 (call : CallF) (n : Nat) (j10 : LC → LC → Int → Int → OR) (j13 : LC → Int → LC → Int → Int → Bool → OR) (x0 : LC) (x1 : Int) (x2 : LC) (x3 x4 : Int) (x5 : Bool) : OR :=
  bif x5 then (
    guardB (decide (((x0).length + (([.int .u8 (92 : Int), .int .u8 (114 : Int)] : List Cell)).length) * 1000 ≤ rowLim)) (
      j10 (x0 ++ ([.int .u8 (92 : Int), .int .u8 (114 : Int)] : List Cell)) x2 x3 x4)) else (
    j13 x0 x1 x2 x3 x4 (x1 == (10 : Int)))
theorem f53_o12 (X0 X1 : Code) (call : CallF) (n : Nat) (m0 : Nat) (B : Code) (hB : B = (hole (hole f53_b [1, 1, 0, 1, 0, 0, 1, 1, 0, 0, 1, 0, 1, 1, 1, 1, 1, 1, 1] X0) [1, 1, 0, 1, 0, 0, 1, 1, 1] X1)) : f53_P12 B call n m0 = f53_T12 call n (f53_P10 B call n m0) (f53_P13 B call n m0) := by
  subst hB; funext x0 x1 x2 x3 x4 x5; cases x5 <;> kernel_rfl
theorem f53_l12 (call : CallF) (n : Nat) (m0 : Nat) : f53_P12 f53_b call n m0 = f53_T12 call n (f53_P10 f53_b call n m0) (f53_P13 f53_b call n m0) :=
  f53_o12 (piece [1, 1, 0, 1, 0, 0, 1, 1, 0, 0, 1, 0, 1, 1, 1, 1, 1, 1, 1] f53_b) (piece [1, 1, 0, 1, 0, 0, 1, 1, 1] f53_b) call n m0 _ (by kernel_rfl)
def f53_L12 (call : CallF) (n : Nat) (h_m0 : LC → LC → Int → Int → OR) : LC → Int → LC → Int → Int → Bool → OR :=
  f53_T12 call n (f53_L10 call n h_m0) (f53_L13 call n h_m0)
theorem f53_e12 (call : CallF) (n : Nat) (m0 : Nat) : f53_P12 f53_b call n m0 = f53_L12 call n (f53_P3 f53_b call n m0) := by
  rw [f53_l12, f53_e10, f53_e13]; rfl
def f53_T11 (call : CallF) (n : Nat) (j10 : LC → LC → Int → Int → OR) (j12 : LC → Int → LC → Int → Int → Bool → OR) (x0 : LC) (x1 : Int) (x2 : LC) (x3 x4 : Int) (x5 : Bool) : OR :=
  bif x5 then (
    guardB (decide (((x0).length + (([.int .u8 x1] : List Cell)).length) * 1000 ≤ rowLim)) (
      j10 (x0 ++ ([.int .u8 x1] : List Cell)) x2 x3 x4)) else (
    j12 x0 x1 x2 x3 x4 (x1 == (13 : Int)))
theorem f53_o11 (X0 X1 : Code) (call : CallF) (n : Nat) (m0 : Nat) (B : Code) (hB : B = (hole (hole f53_b [1, 1, 0, 1, 0, 0, 1, 1, 0, 0, 1, 0, 1, 1, 1, 1, 1] X0) [1, 1, 0, 1, 0, 0, 1, 1, 1] X1)) : f53_P11 B call n m0 = f53_T11 call n (f53_P10 B call n m0) (f53_P12 B call n m0) := by
  subst hB; funext x0 x1 x2 x3 x4 x5; cases x5 <;> kernel_rfl
theorem f53_l11 (call : CallF) (n : Nat) (m0 : Nat) : f53_P11 f53_b call n m0 = f53_T11 call n (f53_P10 f53_b call n m0) (f53_P12 f53_b call n m0) :=
  f53_o11 (piece [1, 1, 0, 1, 0, 0, 1, 1, 0, 0, 1, 0, 1, 1, 1, 1, 1] f53_b) (piece [1, 1, 0, 1, 0, 0, 1, 1, 1] f53_b) call n m0 _ (by kernel_rfl)
def f53_L11 (call : CallF) (n : Nat) (h_m0 : LC → LC → Int → Int → OR) : LC → Int → LC → Int → Int → Bool → OR :=
  f53_T11 call n (f53_L10 call n h_m0) (f53_L12 call n h_m0)
theorem f53_e11 (call : CallF) (n : Nat) (m0 : Nat) : f53_P11 f53_b call n m0 = f53_L11 call n (f53_P3 f53_b call n m0) := by
  rw [f53_l11, f53_e10, f53_e12]; rfl
def f53_T9 (call : CallF) (n : Nat) (j10 : LC → LC → Int → Int → OR) (j11 : LC → Int → LC → Int → Int → Bool → OR) (x0 : LC) (x1 : Int) (x2 : LC) (x3 x4 : Int) (x5 : Bool) : OR :=
  bif x5 then (
    guardB (decide (((x0).length + (([.int .u8 (92 : Int), .int .u8 x1] : List Cell)).length) * 1000 ≤ rowLim)) (
      j10 (x0 ++ ([.int .u8 (92 : Int), .int .u8 x1] : List Cell)) x2 x3 x4)) else (
    bif (decide (x1 ≥ (32 : Int))) then (
      j11 x0 x1 x2 x3 x4 (decide (x1 ≤ (126 : Int)))) else (
      j11 x0 x1 x2 x3 x4 false))
theorem f53_o9 (X0 X1 : Code) (call : CallF) (n : Nat) (m0 : Nat) (B : Code) (hB : B = (hole (hole f53_b [1, 1, 0, 1, 0, 0, 1, 1, 0, 0, 1, 0, 1, 1, 1] X0) [1, 1, 0, 1, 0, 0, 1, 1, 1] X1)) : f53_P9 B call n m0 = f53_T9 call n (f53_P10 B call n m0) (f53_P11 B call n m0) := by
  subst hB; funext x0 x1 x2 x3 x4 x5; cases x5 <;> kernel_rfl
theorem f53_l9 (call : CallF) (n : Nat) (m0 : Nat) : f53_P9 f53_b call n m0 = f53_T9 call n (f53_P10 f53_b call n m0) (f53_P11 f53_b call n m0) :=
  f53_o9 (piece [1, 1, 0, 1, 0, 0, 1, 1, 0, 0, 1, 0, 1, 1, 1] f53_b) (piece [1, 1, 0, 1, 0, 0, 1, 1, 1] f53_b) call n m0 _ (by kernel_rfl)
def f53_L9 (call : CallF) (n : Nat) (h_m0 : LC → LC → Int → Int → OR) : LC → Int → LC → Int → Int → Bool → OR :=
  f53_T9 call n (f53_L10 call n h_m0) (f53_L11 call n h_m0)
theorem f53_e9 (call : CallF) (n : Nat) (m0 : Nat) : f53_P9 f53_b call n m0 = f53_L9 call n (f53_P3 f53_b call n m0) := by
  rw [f53_l9, f53_e10, f53_e11]; rfl
def f53_T3 (call : CallF) (n : Nat) (j9 : LC → Int → LC → Int → Int → Bool → OR) (x0 x1 : LC) (x2 x3 : Int) : OR :=
  bif (decide (x3 < x2)) then (
    itemK x1 x3 fun c1 =>
    castI .u8 c1 fun n2 =>
    bif (n2 == (34 : Int)) then (
      j9 x0 n2 x1 x2 x3 true) else (
      j9 x0 n2 x1 x2 x3 (n2 == (92 : Int)))) else (
    guardB (decide (((x0).length + (([.int .u8 (34 : Int)] : List Cell)).length) * 1000 ≤ rowLim)) (
      bytesK (x0 ++ ([.int .u8 (34 : Int)] : List Cell)) fun s3 =>
      some (.one (.str s3), [])))
theorem f53_o3 (X0 : Code) (call : CallF) (n : Nat) (m0 : Nat) (B : Code) (hB : B = (hole f53_b [1, 1, 0, 1, 0, 0, 1, 1, 0, 0, 1, 0, 1] X0)) : f53_P3 B call n (m0 + 1) = f53_T3 call n (f53_P9 B call n m0) := by
  subst hB; funext x0 x1 x2 x3; kernel_rfl
theorem f53_l3 (call : CallF) (n : Nat) (m0 : Nat) : f53_P3 f53_b call n (m0 + 1) = f53_T3 call n (f53_P9 f53_b call n m0) :=
  f53_o3 (piece [1, 1, 0, 1, 0, 0, 1, 1, 0, 0, 1, 0, 1] f53_b) call n m0 _ (by kernel_rfl)
def f53_L3 (call : CallF) (n : Nat) : Nat → LC → LC → Int → Int → OR
  | 0 => fun _ _ _ _ => none
  | m0 + 1 => f53_T3 call n (f53_L9 call n (f53_L3 call n m0))
theorem f53_e3 (call : CallF) (n : Nat) : ∀ m0 : Nat, f53_P3 f53_b call n m0 = f53_L3 call n m0
  | 0 => by funext x0 x1 x2 x3; kernel_rfl
  | m0 + 1 => by rw [f53_l3, f53_e9, f53_e3 call n m0]; rfl
/-- pigeonhole/script.quoted -/
def f53_T (call : CallF) (n : Nat) (j3n : LC → LC → Int → Int → OR) (a0 : LC) : OR :=
  j3n ([.int .u8 (34 : Int)] : List Cell) a0 (((a0).length / 1 : Nat) : Int) (0 : Int)
def f53_L (call : CallF) (n : Nat) (a0 : LC) : OR :=
  f53_T call n (f53_L3 call n n) a0
theorem f53_o (call : CallF) (n : Nat) (B : Code) (hB : B = f53_b) : f53_P B call n = f53_T call n (f53_P3 B call n n) := by
  subst hB; funext a0; kernel_rfl
theorem f53_l (call : CallF) (n : Nat) : f53_P f53_b call n = f53_T call n (f53_P3 f53_b call n n) :=
  f53_o call n _ (by kernel_rfl)
theorem f53_e (call : CallF) (n : Nat) : f53_P f53_b call n = f53_L call n := by
  rw [f53_l, f53_e3]; rfl
theorem f53_eq (n : Nat) (a0 : LC) : acall AXE AXF (n + 1) 53 [.one (.sl none 1 a0)] [] = f53_L (acall AXE AXF n) (n + 1) a0 :=
  (show _ = f53_P f53_b (acall AXE AXF n) (n + 1) a0 by kernel_rfl).trans (by rw [f53_e])
def f54_P (B : Code) (call : CallF) (n : Nat) (a0 : LB) : OR :=
  f54_x B call n [] (kEnd AXE 0 f54_r) ⟨[(0, .one (.str a0))], []⟩
/-- pigeonhole/script.named -/
def f54_T (call : CallF) (n : Nat) (a0 : LB) : OR :=
  bif (a0 == ([] : List UInt8)) then (
    some (.one (.str ([42] : List UInt8)), [])) else (
    some (.one (.str a0), []))
def f54_L (call : CallF) (n : Nat) (a0 : LB) : OR :=
  f54_T call n a0
theorem f54_o (call : CallF) (n : Nat) (B : Code) (hB : B = f54_b) : f54_P B call n = f54_T call n := by
  subst hB; funext a0; kernel_rfl
theorem f54_l (call : CallF) (n : Nat) : f54_P f54_b call n = f54_T call n :=
  f54_o call n _ (by kernel_rfl)
theorem f54_e (call : CallF) (n : Nat) : f54_P f54_b call n = f54_L call n := by
  rw [f54_l]; rfl
theorem f54_eq (n : Nat) (a0 : LB) : acall AXE AXF (n + 1) 54 [.one (.str a0)] [] = f54_L (acall AXE AXF n) (n + 1) a0 :=
  (show _ = f54_P f54_b (acall AXE AXF n) (n + 1) a0 by kernel_rfl).trans (by rw [f54_e])
def f56_P5 (B : Code) (call : CallF) (n : Nat) (m0 : Nat) (x0 x1 : LC) (x2 x3 : Int) : OR :=
  aloop 1000004 (pruneAt f56_h 1000004) (f56_x B call n [1, 1, 0, 1, 0, 0]) (kBlk 0 (kSeq (f56_x B call n [1, 1, 1]) (kEnd AXE 0 f56_r))) m0 ⟨[(0, .one (.sl none 1 x0)), (1, .one (.sl none 1 x1)), (12, .one (.int .i64 x2)), (13, .one (.int .i64 x3))], []⟩
def f56_P (B : Code) (call : CallF) (n : Nat) (a0 a1 : LC) : OR :=
  f56_x B call n [] (kEnd AXE 0 f56_r) ⟨[(0, .one (.sl none 1 a0)), (1, .one (.sl none 1 a1))], []⟩
def f56_T5 (call : CallF) (n : Nat) (j5m : LC → LC → Int → Int → OR) (x0 x1 : LC) (x2 x3 : Int) : OR :=
  bif (decide (x3 < x2)) then (
    itemK x0 x3 fun c1 =>
    castS c1 fun s2 =>
    itemK x1 x3 fun c3 =>
    castS c3 fun s4 =>
    bif (!(s2 == s4)) then (
      some (.one (.bool false), [])) else (
      j5m x0 x1 x2 (IntKind.wrap .i64 (x3 + (1 : Int))))) else (
    some (.one (.bool true), []))
theorem f56_o5 (call : CallF) (n : Nat) (m0 : Nat) (B : Code) (hB : B = f56_b) : f56_P5 B call n (m0 + 1) = f56_T5 call n (f56_P5 B call n m0) := by
  subst hB; funext x0 x1 x2 x3; kernel_rfl
theorem f56_l5 (call : CallF) (n : Nat) (m0 : Nat) : f56_P5 f56_b call n (m0 + 1) = f56_T5 call n (f56_P5 f56_b call n m0) :=
  f56_o5 call n m0 _ (by kernel_rfl)
def f56_L5 (call : CallF) (n : Nat) : Nat → LC → LC → Int → Int → OR
  | 0 => fun _ _ _ _ => none
  | m0 + 1 => f56_T5 call n (f56_L5 call n m0)
theorem f56_e5 (call : CallF) (n : Nat) : ∀ m0 : Nat, f56_P5 f56_b call n m0 = f56_L5 call n m0
  | 0 => by funext x0 x1 x2 x3; kernel_rfl
  | m0 + 1 => by rw [f56_l5, f56_e5 call n m0]; rfl
/-- slices.Equal[[]string,string] -/
def f56_T (call : CallF) (n : Nat) (j5n : LC → LC → Int → Int → OR) (a0 a1 : LC) : OR :=
  bif ((((a0).length / 1 : Nat) : Int) != (((a1).length / 1 : Nat) : Int)) then (
    some (.one (.bool false), [])) else (
    j5n a0 a1 (((a0).length / 1 : Nat) : Int) (0 : Int))
def f56_L (call : CallF) (n : Nat) (a0 a1 : LC) : OR :=
  f56_T call n (f56_L5 call n n) a0 a1
theorem f56_o (call : CallF) (n : Nat) (B : Code) (hB : B = f56_b) : f56_P B call n = f56_T call n (f56_P5 B call n n) := by
  subst hB; funext a0 a1; kernel_rfl
theorem f56_l (call : CallF) (n : Nat) : f56_P f56_b call n = f56_T call n (f56_P5 f56_b call n n) :=
  f56_o call n _ (by kernel_rfl)
theorem f56_e (call : CallF) (n : Nat) : f56_P f56_b call n = f56_L call n := by
  rw [f56_l, f56_e5]; rfl
theorem f56_eq (n : Nat) (a0 a1 : LC) : acall AXE AXF (n + 1) 56 [.one (.sl none 1 a0), .one (.sl none 1 a1)] [] = f56_L (acall AXE AXF n) (n + 1) a0 a1 :=
  (show _ = f56_P f56_b (acall AXE AXF n) (n + 1) a0 a1 by kernel_rfl).trans (by rw [f56_e])
def f57_P5 (B : Code) (call : CallF) (n : Nat) (m0 : Nat) (x0 x1 : LC) (x2 x3 : Int) : OR :=
  aloop 1000004 (pruneAt f57_h 1000004) (f57_x B call n [1, 1, 0, 1, 0, 0]) (kBlk 0 (kSeq (f57_x B call n [1, 1, 1]) (kEnd AXE 0 f57_r))) m0 ⟨[(0, .one (.sl none 1 x0)), (1, .one (.sl none 1 x1)), (12, .one (.int .i64 x2)), (13, .one (.int .i64 x3))], []⟩
def f57_P (B : Code) (call : CallF) (n : Nat) (a0 a1 : LC) : OR :=
  f57_x B call n [] (kEnd AXE 0 f57_r) ⟨[(0, .one (.sl none 1 a0)), (1, .one (.sl none 1 a1))], []⟩
def f57_T5 (call : CallF) (n : Nat) (j5m : LC → LC → Int → Int → OR) (x0 x1 : LC) (x2 x3 : Int) : OR :=
  bif (decide (x3 < x2)) then (
    itemK x0 x3 fun c1 =>
    castI .i64 c1 fun n2 =>
    itemK x1 x3 fun c3 =>
    castI .i64 c3 fun n4 =>
    bif (n2 != n4) then (
      some (.one (.bool false), [])) else (
      j5m x0 x1 x2 (IntKind.wrap .i64 (x3 + (1 : Int))))) else (
    some (.one (.bool true), []))
theorem f57_o5 (call : CallF) (n : Nat) (m0 : Nat) (B : Code) (hB : B = f57_b) : f57_P5 B call n (m0 + 1) = f57_T5 call n (f57_P5 B call n m0) := by
  subst hB; funext x0 x1 x2 x3; kernel_rfl
theorem f57_l5 (call : CallF) (n : Nat) (m0 : Nat) : f57_P5 f57_b call n (m0 + 1) = f57_T5 call n (f57_P5 f57_b call n m0) :=
  f57_o5 call n m0 _ (by kernel_rfl)
def f57_L5 (call : CallF) (n : Nat) : Nat → LC → LC → Int → Int → OR
  | 0 => fun _ _ _ _ => none
  | m0 + 1 => f57_T5 call n (f57_L5 call n m0)
theorem f57_e5 (call : CallF) (n : Nat) : ∀ m0 : Nat, f57_P5 f57_b call n m0 = f57_L5 call n m0
  | 0 => by funext x0 x1 x2 x3; kernel_rfl
  | m0 + 1 => by rw [f57_l5, f57_e5 call n m0]; rfl
/-- slices.Equal[[]int,int] -/
def f57_T (call : CallF) (n : Nat) (j5n : LC → LC → Int → Int → OR) (a0 a1 : LC) : OR :=
  bif ((((a0).length / 1 : Nat) : Int) != (((a1).length / 1 : Nat) : Int)) then (
    some (.one (.bool false), [])) else (
    j5n a0 a1 (((a0).length / 1 : Nat) : Int) (0 : Int))
def f57_L (call : CallF) (n : Nat) (a0 a1 : LC) : OR :=
  f57_T call n (f57_L5 call n n) a0 a1
theorem f57_o (call : CallF) (n : Nat) (B : Code) (hB : B = f57_b) : f57_P B call n = f57_T call n (f57_P5 B call n n) := by
  subst hB; funext a0 a1; kernel_rfl
theorem f57_l (call : CallF) (n : Nat) : f57_P f57_b call n = f57_T call n (f57_P5 f57_b call n n) :=
  f57_o call n _ (by kernel_rfl)
theorem f57_e (call : CallF) (n : Nat) : f57_P f57_b call n = f57_L call n := by
  rw [f57_l, f57_e5]; rfl
theorem f57_eq (n : Nat) (a0 a1 : LC) : acall AXE AXF (n + 1) 57 [.one (.sl none 1 a0), .one (.sl none 1 a1)] [] = f57_L (acall AXE AXF n) (n + 1) a0 a1 :=
  (show _ = f57_P f57_b (acall AXE AXF n) (n + 1) a0 a1 by kernel_rfl).trans (by rw [f57_e])
def f58_P11 (B : Code) (call : CallF) (n : Nat) (m0 : Nat) (x0 : LB) (x1 : LC) (x2 x3 : Int) : OR :=
  f58_x B call n [1, 1, 1, 0, 1, 0, 0, 1, 1] (kSeq (fun k => prK 1000004 (pruneAt f58_h 1000004) (aloop 1000004 (pruneAt f58_h 1000004) (f58_x B call n [1, 1, 1, 0, 1, 0, 0]) k m0)) (kBlk 0 (kSeq (f58_x B call n [1, 1, 1, 1]) (kEnd AXE 0 f58_r)))) ⟨[(0, .one (.str x0)), (3, .one (.sl (some ⟨3, 0, 9⟩) 1 x1)), (4, .one (.int .i64 x2)), (5, .one (.int .i64 x3))], []⟩
def f58_P10 (B : Code) (call : CallF) (n : Nat) (m0 : Nat) (x0 : LB) (x1 : LC) (x2 : Int) : OR :=
  f58_x B call n [1, 1, 1, 0, 1, 0, 0, 1, 0, 0, 1, 0, 1] (kBlk 1 (kSeq (f58_x B call n [1, 1, 1, 0, 1, 0, 0, 1, 1]) (kSeq (fun k => prK 1000004 (pruneAt f58_h 1000004) (aloop 1000004 (pruneAt f58_h 1000004) (f58_x B call n [1, 1, 1, 0, 1, 0, 0]) k m0)) (kBlk 0 (kSeq (f58_x B call n [1, 1, 1, 1]) (kEnd AXE 0 f58_r)))))) ⟨[(0, .one (.str x0)), (3, .one (.sl (some ⟨3, 0, 9⟩) 1 x1)), (5, .one (.int .i64 x2))], []⟩
def f58_P9 (B : Code) (call : CallF) (n : Nat) (m0 : Nat) (x0 : LB) (x1 : LC) (x2 x3 : Int) (x4 : Bool) : OR :=
  f58_x B call n [1, 1, 1, 0, 1, 0, 0, 1, 0, 0, 1] (kBlk 1 (kSeq (f58_x B call n [1, 1, 1, 0, 1, 0, 0, 1, 1]) (kSeq (fun k => prK 1000004 (pruneAt f58_h 1000004) (aloop 1000004 (pruneAt f58_h 1000004) (f58_x B call n [1, 1, 1, 0, 1, 0, 0]) k m0)) (kBlk 0 (kSeq (f58_x B call n [1, 1, 1, 1]) (kEnd AXE 0 f58_r)))))) ⟨[(0, .one (.str x0)), (3, .one (.sl (some ⟨3, 0, 9⟩) 1 x1)), (4, .one (.int .i64 x2)), (5, .one (.int .i64 x3)), (21, .one (.bool x4))], []⟩
def f58_P4 (B : Code) (call : CallF) (n : Nat) (m0 : Nat) (x0 : LB) (x1 : LC) (x2 x3 : Int) : OR :=
  aloop 1000004 (pruneAt f58_h 1000004) (f58_x B call n [1, 1, 1, 0, 1, 0, 0]) (kBlk 0 (kSeq (f58_x B call n [1, 1, 1, 1]) (kEnd AXE 0 f58_r))) m0 ⟨[(0, .one (.str x0)), (3, .one (.sl (some ⟨3, 0, 9⟩) 1 x1)), (4, .one (.int .i64 x2)), (5, .one (.int .i64 x3))], []⟩
def f58_P (B : Code) (call : CallF) (n : Nat) (a0 : LB) : OR :=
  f58_x B call n [] (kEnd AXE 0 f58_r) ⟨[(0, .one (.str a0))], []⟩
def f58_T11 (call : CallF) (n : Nat) (j4m : LB → LC → Int → Int → OR) (x0 : LB) (x1 : LC) (x2 x3 : Int) : OR :=
  j4m x0 x1 x2 (IntKind.wrap .i64 (x3 + (1 : Int)))
theorem f58_o11 (call : CallF) (n : Nat) (m0 : Nat) (B : Code) (hB : B = f58_b) : f58_P11 B call n m0 = f58_T11 call n (f58_P4 B call n m0) := by
  subst hB; funext x0 x1 x2 x3; kernel_rfl
theorem f58_l11 (call : CallF) (n : Nat) (m0 : Nat) : f58_P11 f58_b call n m0 = f58_T11 call n (f58_P4 f58_b call n m0) :=
  f58_o11 call n m0 _ (by kernel_rfl)
def f58_L11 (call : CallF) (n : Nat) (h_m0 : LB → LC → Int → Int → OR) : LB → LC → Int → Int → OR :=
  f58_T11 call n h_m0
theorem f58_e11 (call : CallF) (n : Nat) (m0 : Nat) : f58_P11 f58_b call n m0 = f58_L11 call n (f58_P4 f58_b call n m0) := by
  rw [f58_l11]; rfl
def f58_T10 (call : CallF) (n : Nat) (j11 : LB → LC → Int → Int → OR) (x0 : LB) (x1 : LC) (x2 : Int) : OR :=
  j11 x0 x1 (IntKind.wrap .i64 (x2 + (1 : Int))) x2
theorem f58_o10 (X0 : Code) (call : CallF) (n : Nat) (m0 : Nat) (B : Code) (hB : B = (hole f58_b [1, 1, 1, 0, 1, 0, 0, 1, 1] X0)) : f58_P10 B call n m0 = f58_T10 call n (f58_P11 B call n m0) := by
  subst hB; funext x0 x1 x2; kernel_rfl
theorem f58_l10 (call : CallF) (n : Nat) (m0 : Nat) : f58_P10 f58_b call n m0 = f58_T10 call n (f58_P11 f58_b call n m0) :=
  f58_o10 (piece [1, 1, 1, 0, 1, 0, 0, 1, 1] f58_b) call n m0 _ (by kernel_rfl)
def f58_L10 (call : CallF) (n : Nat) (h_m0 : LB → LC → Int → Int → OR) : LB → LC → Int → OR :=
  f58_T10 call n (f58_L11 call n h_m0)
theorem f58_e10 (call : CallF) (n : Nat) (m0 : Nat) : f58_P10 f58_b call n m0 = f58_L10 call n (f58_P4 f58_b call n m0) := by
  rw [f58_l10, f58_e11]; rfl
def f58_T9 (call : CallF) (n : Nat) (j10 : LB → LC → Int → OR) (j11 : LB → LC → Int → Int → OR) (x0 : LB) (x1 : LC) (x2 x3 : Int) (x4 : Bool) : OR :=
  bif x4 then (
    bif decide (0 ≤ x2 ∧ x2 ≤ x3 ∧ (Int.toNat x3) ≤ (x0).length) then (
      guardB (decide (((x1).length + (([.str ((x0.take (Int.toNat x3)).drop (Int.toNat x2))] : List Cell)).length) * 1000 ≤ rowLim)) (
        j10 x0 (x1 ++ ([.str ((x0.take (Int.toNat x3)).drop (Int.toNat x2))] : List Cell)) x3)) else none) else (
    j11 x0 x1 x2 x3)
theorem f58_o9 (X0 X1 : Code) (call : CallF) (n : Nat) (m0 : Nat) (B : Code) (hB : B = (hole (hole f58_b [1, 1, 1, 0, 1, 0, 0, 1, 0, 0, 1, 0, 1] X0) [1, 1, 1, 0, 1, 0, 0, 1, 1] X1)) : f58_P9 B call n m0 = f58_T9 call n (f58_P10 B call n m0) (f58_P11 B call n m0) := by
  subst hB; funext x0 x1 x2 x3 x4; cases x4 <;> kernel_rfl
theorem f58_l9 (call : CallF) (n : Nat) (m0 : Nat) : f58_P9 f58_b call n m0 = f58_T9 call n (f58_P10 f58_b call n m0) (f58_P11 f58_b call n m0) :=
  f58_o9 (piece [1, 1, 1, 0, 1, 0, 0, 1, 0, 0, 1, 0, 1] f58_b) (piece [1, 1, 1, 0, 1, 0, 0, 1, 1] f58_b) call n m0 _ (by kernel_rfl)
def f58_L9 (call : CallF) (n : Nat) (h_m0 : LB → LC → Int → Int → OR) : LB → LC → Int → Int → Bool → OR :=
  f58_T9 call n (f58_L10 call n h_m0) (f58_L11 call n h_m0)
theorem f58_e9 (call : CallF) (n : Nat) (m0 : Nat) : f58_P9 f58_b call n m0 = f58_L9 call n (f58_P4 f58_b call n m0) := by
  rw [f58_l9, f58_e10, f58_e11]; rfl
def f58_T4 (call : CallF) (n : Nat) (j9 : LB → LC → Int → Int → Bool → OR) (x0 : LB) (x1 : LC) (x2 x3 : Int) : OR :=
  bif (decide (x3 ≤ ((x0).length : Int))) then (
    bif (x3 == ((x0).length : Int)) then (
      j9 x0 x1 x2 x3 true) else (
      itemK x0 x3 fun u1 =>
      j9 x0 x1 x2 x3 ((UInt8.toNat u1 : Int) == (32 : Int)))) else (
    some (.one (.sl (some ⟨2, 0, 9⟩) 1 x1), []))
theorem f58_o4 (X0 : Code) (call : CallF) (n : Nat) (m0 : Nat) (B : Code) (hB : B = (hole f58_b [1, 1, 1, 0, 1, 0, 0, 1, 0, 0, 1] X0)) : f58_P4 B call n (m0 + 1) = f58_T4 call n (f58_P9 B call n m0) := by
  subst hB; funext x0 x1 x2 x3; kernel_rfl
theorem f58_l4 (call : CallF) (n : Nat) (m0 : Nat) : f58_P4 f58_b call n (m0 + 1) = f58_T4 call n (f58_P9 f58_b call n m0) :=
  f58_o4 (piece [1, 1, 1, 0, 1, 0, 0, 1, 0, 0, 1] f58_b) call n m0 _ (by kernel_rfl)
def f58_L4 (call : CallF) (n : Nat) : Nat → LB → LC → Int → Int → OR
  | 0 => fun _ _ _ _ => none
  | m0 + 1 => f58_T4 call n (f58_L9 call n (f58_L4 call n m0))
theorem f58_e4 (call : CallF) (n : Nat) : ∀ m0 : Nat, f58_P4 f58_b call n m0 = f58_L4 call n m0
  | 0 => by funext x0 x1 x2 x3; kernel_rfl
  | m0 + 1 => by rw [f58_l4, f58_e9, f58_e4 call n m0]; rfl
/-- pigeonhole/pigeonholeref31.split -/
def f58_T (call : CallF) (n : Nat) (j4n : LB → LC → Int → Int → OR) (a0 : LB) : OR :=
  j4n a0 ([] : List Cell) (0 : Int) (0 : Int)
def f58_L (call : CallF) (n : Nat) (a0 : LB) : OR :=
  f58_T call n (f58_L4 call n n) a0
theorem f58_o (call : CallF) (n : Nat) (B : Code) (hB : B = f58_b) : f58_P B call n = f58_T call n (f58_P4 B call n n) := by
  subst hB; funext a0; kernel_rfl
theorem f58_l (call : CallF) (n : Nat) : f58_P f58_b call n = f58_T call n (f58_P4 f58_b call n n) :=
  f58_o call n _ (by kernel_rfl)
theorem f58_e (call : CallF) (n : Nat) : f58_P f58_b call n = f58_L call n := by
  rw [f58_l, f58_e4]; rfl
theorem f58_eq (n : Nat) (a0 : LB) : acall AXE AXF (n + 1) 58 [.one (.str a0)] [] = f58_L (acall AXE AXF n) (n + 1) a0 :=
  (show _ = f58_P f58_b (acall AXE AXF n) (n + 1) a0 by kernel_rfl).trans (by rw [f58_e])
def f59_P25 (B : Code) (call : CallF) (n : Nat) (x0 : S_api_Event) (x1 : S_ref31_Got) : OR :=
  f59_x B call n [1, 1, 0, 1, 0, 1, 0, 1, 0, 1] (kSeq (f59_x B call n [1, 1, 0, 1, 0, 1, 1]) (kSeq (f59_x B call n [1, 1, 1]) (kEnd AXE 0 f59_r))) ⟨[(6, .one (.ptr 1 0))], [x0.cells, x1.cells]⟩
def f59_P7 (B : Code) (call : CallF) (n : Nat) (x0 : LB) (x1 : LC) (x2 : Int) (x3 : Bool) (x4 : S_api_Event) (x5 : S_ref31_Got) : OR :=
  f59_x B call n [1, 1, 0, 1, 0, 1, 0, 1] (kSeq (f59_x B call n [1, 1, 0, 1, 0, 1, 1]) (kSeq (f59_x B call n [1, 1, 1]) (kEnd AXE 0 f59_r))) ⟨[(1, .one (.str x0)), (2, .one (.sl none 1 x1)), (3, .one (.ptr 0 0)), (6, .one (.ptr 1 0)), (8, .one (.int .i64 x2)), (24, .one (.bool x3))], [x4.cells, [.int .i64 x5.fE.fKind, .int .i64 x5.fE.fSlot, .int .i64 x5.fE.fN, .int .i64 x5.fE.fK, .bool x5.fE.fLmtp, .str x5.fE.fName, .int .i64 x5.fE.fLimit_Bytes, .int .i64 x5.fE.fLimit_Count, .sl (some ⟨1000001, 8, 9⟩) 1 x5.fE.fTo, .sl (some ⟨1000001, 9, 5⟩) 1 x5.fE.fData, .int .i64 x5.fE.fCode, .sl (some ⟨1000001, 11, 3⟩) 1 x5.fE.fKeep, .int .i64 x5.fErr]]⟩
def f59_P26 (B : Code) (call : CallF) (n : Nat) (x0 : S_api_Event) (x1 : S_ref31_Got) : OR :=
  f59_x B call n [1, 1, 1, 0, 1, 0, 0, 1, 0, 1] (kSeq (f59_x B call n [1, 1, 1, 0, 1, 0, 1]) (kSeq (f59_x B call n [1, 1, 1, 1]) (kEnd AXE 0 f59_r))) ⟨[(6, .one (.ptr 1 0))], [x0.cells, x1.cells]⟩
def f59_P16 (B : Code) (call : CallF) (n : Nat) (x0 : LC) (x1 : Bool) (x2 : S_api_Event) (x3 : S_ref31_Got) : OR :=
  f59_x B call n [1, 1, 1, 0, 1, 0, 0, 1] (kSeq (f59_x B call n [1, 1, 1, 0, 1, 0, 1]) (kSeq (f59_x B call n [1, 1, 1, 1]) (kEnd AXE 0 f59_r))) ⟨[(2, .one (.sl none 1 x0)), (3, .one (.ptr 0 0)), (6, .one (.ptr 1 0)), (74, .one (.bool x1))], [x2.cells, [.int .i64 x3.fE.fKind, .int .i64 x3.fE.fSlot, .int .i64 x3.fE.fN, .int .i64 x3.fE.fK, .bool x3.fE.fLmtp, .str x3.fE.fName, .int .i64 x3.fE.fLimit_Bytes, .int .i64 x3.fE.fLimit_Count, .sl (some ⟨1000001, 8, 9⟩) 1 x3.fE.fTo, .sl (some ⟨1000001, 9, 5⟩) 1 x3.fE.fData, .int .i64 x3.fE.fCode, .sl (some ⟨1000001, 11, 3⟩) 1 x3.fE.fKeep, .int .i64 x3.fErr]]⟩
def f59_P27 (B : Code) (call : CallF) (n : Nat) (x0 : S_api_Event) (x1 : S_ref31_Got) : OR :=
  f59_x B call n [1, 1, 1, 1, 0, 1, 0, 1] (kSeq (f59_x B call n [1, 1, 1, 1, 1]) (kEnd AXE 0 f59_r)) ⟨[(6, .one (.ptr 1 0))], [x0.cells, x1.cells]⟩
def f59_P21 (B : Code) (call : CallF) (n : Nat) (x0 : LC) (x1 : Bool) (x2 : S_api_Event) (x3 : S_ref31_Got) : OR :=
  f59_x B call n [1, 1, 1, 1, 0, 1] (kSeq (f59_x B call n [1, 1, 1, 1, 1]) (kEnd AXE 0 f59_r)) ⟨[(2, .one (.sl none 1 x0)), (3, .one (.ptr 0 0)), (6, .one (.ptr 1 0)), (97, .one (.bool x1))], [x2.cells, [.int .i64 x3.fE.fKind, .int .i64 x3.fE.fSlot, .int .i64 x3.fE.fN, .int .i64 x3.fE.fK, .bool x3.fE.fLmtp, .str x3.fE.fName, .int .i64 x3.fE.fLimit_Bytes, .int .i64 x3.fE.fLimit_Count, .sl (some ⟨1000001, 8, 9⟩) 1 x3.fE.fTo, .sl (some ⟨1000001, 9, 5⟩) 1 x3.fE.fData, .int .i64 x3.fE.fCode, .sl (some ⟨1000001, 11, 3⟩) 1 x3.fE.fKeep, .int .i64 x3.fErr]]⟩
def f59_P (B : Code) (call : CallF) (n : Nat) (a0 : S_api_Event) (a1 : LB) (a2 : LC) : OR :=
  f59_x B call n [] (kEnd AXE 0 f59_r) ⟨[(0, .agg a0.cells), (1, .one (.str a1)), (2, .one (.sl none 1 a2))], []⟩
def f59_T25 (call : CallF) (n : Nat) (x0 : S_api_Event) (x1 : S_ref31_Got) : OR :=
  some (.agg x1.cells, [])
theorem f59_o25 (call : CallF) (n : Nat) (B : Code) (hB : B = f59_b) : f59_P25 B call n = f59_T25 call n := by
  subst hB; funext x0 x1; kernel_rfl
theorem f59_l25 (call : CallF) (n : Nat) : f59_P25 f59_b call n = f59_T25 call n :=
  f59_o25 call n _ (by kernel_rfl)
def f59_L25 (call : CallF) (n : Nat) : S_api_Event → S_ref31_Got → OR :=
  f59_T25 call n
theorem f59_e25 (call : CallF) (n : Nat) : f59_P25 f59_b call n = f59_L25 call n := by
  rw [f59_l25]; rfl
def f59_T7 (call : CallF) (n : Nat) (j25 : S_api_Event → S_ref31_Got → OR) (x0 : LB) (x1 : LC) (x2 : Int) (x3 : Bool) (x4 : S_api_Event) (x5 : S_ref31_Got) : OR :=
  bif x3 then (
    callK call 60 [] fun v1 =>
    castAgg v1 fun r2 =>
    takeS_ref31_Got r2 fun w3 r4 =>
    nilK r4 (
      j25 x4 w3)) else (
    itemK x1 (0 : Int) fun c5 =>
    castS c5 fun s6 =>
    bif decide (0 ≤ (IntKind.wrap .i64 ((IntKind.wrap .i64 (x2 + ((s6).length : Int))) + (1 : Int))) ∧ (Int.toNat (IntKind.wrap .i64 ((IntKind.wrap .i64 (x2 + ((s6).length : Int))) + (1 : Int)))) ≤ (x0).length) then (
      callK call 84 [.one (.str ((x0.take (x0).length).drop (Int.toNat (IntKind.wrap .i64 ((IntKind.wrap .i64 (x2 + ((s6).length : Int))) + (1 : Int))))))] fun v7 =>
      castTup v7 fun v8 =>
      zL 1 v8 fun l9 r10 =>
      zB r10 fun b11 r12 =>
      nilK r12 (
        bif (!b11) then (
          callK call 60 [] fun v13 =>
          castAgg v13 fun r14 =>
          takeS_ref31_Got r14 fun w15 r16 =>
          nilK r16 (
            some (.agg w15.cells, []))) else (
          itemK x1 (0 : Int) fun c17 =>
          castS c17 fun s18 =>
          callK call 83 [.one (.str s18)] fun v19 =>
          oI .i64 v19 fun n20 =>
          some (.agg (⟨({ x4 with fSlot := n20, fData := l9 } : S_api_Event), (0 : Int)⟩ : S_ref31_Got).cells, [])))) else none)
theorem f59_o7 (X0 : Code) (call : CallF) (n : Nat) (B : Code) (hB : B = (hole f59_b [1, 1, 0, 1, 0, 1, 0, 1, 0, 1] X0)) : f59_P7 B call n = f59_T7 call n (f59_P25 B call n) := by
  subst hB; funext x0 x1 x2 x3 x4 x5; cases x3 <;> kernel_rfl
theorem f59_l7 (call : CallF) (n : Nat) : f59_P7 f59_b call n = f59_T7 call n (f59_P25 f59_b call n) :=
  f59_o7 (piece [1, 1, 0, 1, 0, 1, 0, 1, 0, 1] f59_b) call n _ (by kernel_rfl)
def f59_L7 (call : CallF) (n : Nat) : LB → LC → Int → Bool → S_api_Event → S_ref31_Got → OR :=
  f59_T7 call n (f59_L25 call n)
theorem f59_e7 (call : CallF) (n : Nat) : f59_P7 f59_b call n = f59_L7 call n := by
  rw [f59_l7, f59_e25]; rfl
def f59_T26 (call : CallF) (n : Nat) (x0 : S_api_Event) (x1 : S_ref31_Got) : OR :=
  some (.agg x1.cells, [])
theorem f59_o26 (call : CallF) (n : Nat) (B : Code) (hB : B = f59_b) : f59_P26 B call n = f59_T26 call n := by
  subst hB; funext x0 x1; kernel_rfl
theorem f59_l26 (call : CallF) (n : Nat) : f59_P26 f59_b call n = f59_T26 call n :=
  f59_o26 call n _ (by kernel_rfl)
def f59_L26 (call : CallF) (n : Nat) : S_api_Event → S_ref31_Got → OR :=
  f59_T26 call n
theorem f59_e26 (call : CallF) (n : Nat) : f59_P26 f59_b call n = f59_L26 call n := by
  rw [f59_l26]; rfl
def f59_T16 (call : CallF) (n : Nat) (j26 : S_api_Event → S_ref31_Got → OR) (x0 : LC) (x1 : Bool) (x2 : S_api_Event) (x3 : S_ref31_Got) : OR :=
  bif x1 then (
    callK call 60 [] fun v1 =>
    castAgg v1 fun r2 =>
    takeS_ref31_Got r2 fun w3 r4 =>
    nilK r4 (
      j26 x2 w3)) else (
    itemK x0 (0 : Int) fun c5 =>
    castS c5 fun s6 =>
    callK call 83 [.one (.str s6)] fun v7 =>
    oI .i64 v7 fun n8 =>
    itemK x0 (1 : Int) fun c9 =>
    castS c9 fun s10 =>
    some (.agg (⟨({ x2 with fSlot := n8, fLmtp := (s10 == ([108, 109, 116, 112] : List UInt8)) } : S_api_Event), (0 : Int)⟩ : S_ref31_Got).cells, []))
theorem f59_o16 (X0 : Code) (call : CallF) (n : Nat) (B : Code) (hB : B = (hole f59_b [1, 1, 1, 0, 1, 0, 0, 1, 0, 1] X0)) : f59_P16 B call n = f59_T16 call n (f59_P26 B call n) := by
  subst hB; funext x0 x1 x2 x3; cases x1 <;> kernel_rfl
theorem f59_l16 (call : CallF) (n : Nat) : f59_P16 f59_b call n = f59_T16 call n (f59_P26 f59_b call n) :=
  f59_o16 (piece [1, 1, 1, 0, 1, 0, 0, 1, 0, 1] f59_b) call n _ (by kernel_rfl)
def f59_L16 (call : CallF) (n : Nat) : LC → Bool → S_api_Event → S_ref31_Got → OR :=
  f59_T16 call n (f59_L26 call n)
theorem f59_e16 (call : CallF) (n : Nat) : f59_P16 f59_b call n = f59_L16 call n := by
  rw [f59_l16, f59_e26]; rfl
def f59_T27 (call : CallF) (n : Nat) (x0 : S_api_Event) (x1 : S_ref31_Got) : OR :=
  some (.agg x1.cells, [])
theorem f59_o27 (call : CallF) (n : Nat) (B : Code) (hB : B = f59_b) : f59_P27 B call n = f59_T27 call n := by
  subst hB; funext x0 x1; kernel_rfl
theorem f59_l27 (call : CallF) (n : Nat) : f59_P27 f59_b call n = f59_T27 call n :=
  f59_o27 call n _ (by kernel_rfl)
def f59_L27 (call : CallF) (n : Nat) : S_api_Event → S_ref31_Got → OR :=
  f59_T27 call n
theorem f59_e27 (call : CallF) (n : Nat) : f59_P27 f59_b call n = f59_L27 call n := by
  rw [f59_l27]; rfl
def f59_T21 (call : CallF) (n : Nat) (j27 : S_api_Event → S_ref31_Got → OR) (x0 : LC) (x1 : Bool) (x2 : S_api_Event) (x3 : S_ref31_Got) : OR :=
  bif x1 then (
    callK call 60 [] fun v1 =>
    castAgg v1 fun r2 =>
    takeS_ref31_Got r2 fun w3 r4 =>
    nilK r4 (
      j27 x2 w3)) else (
    itemK x0 (0 : Int) fun c5 =>
    castS c5 fun s6 =>
    callK call 83 [.one (.str s6)] fun v7 =>
    oI .i64 v7 fun n8 =>
    some (.agg (⟨({ x2 with fSlot := n8 } : S_api_Event), (0 : Int)⟩ : S_ref31_Got).cells, []))
theorem f59_o21 (X0 : Code) (call : CallF) (n : Nat) (B : Code) (hB : B = (hole f59_b [1, 1, 1, 1, 0, 1, 0, 1] X0)) : f59_P21 B call n = f59_T21 call n (f59_P27 B call n) := by
  subst hB; funext x0 x1 x2 x3; cases x1 <;> kernel_rfl
theorem f59_l21 (call : CallF) (n : Nat) : f59_P21 f59_b call n = f59_T21 call n (f59_P27 f59_b call n) :=
  f59_o21 (piece [1, 1, 1, 1, 0, 1, 0, 1] f59_b) call n _ (by kernel_rfl)
def f59_L21 (call : CallF) (n : Nat) : LC → Bool → S_api_Event → S_ref31_Got → OR :=
  f59_T21 call n (f59_L27 call n)
theorem f59_e21 (call : CallF) (n : Nat) : f59_P21 f59_b call n = f59_L21 call n := by
  rw [f59_l21, f59_e27]; rfl
/-- pigeonhole/pigeonholeref31.session -/
def f59_T (call : CallF) (n : Nat) (j7 : LB → LC → Int → Bool → S_api_Event → S_ref31_Got → OR) (j16 : LC → Bool → S_api_Event → S_ref31_Got → OR) (j21 : LC → Bool → S_api_Event → S_ref31_Got → OR) (a0 : S_api_Event) (a1 : LB) (a2 : LC) : OR :=
  bif (a0.fKind == (2 : Int)) then (
    bif (decide ((((a2).length / 1 : Nat) : Int) < (2 : Int))) then (
      j7 a1 a2 (6 : Int) true a0 (⟨(⟨(0 : Int), (0 : Int), (0 : Int), (0 : Int), false, ([] : List UInt8), (0 : Int), (0 : Int), ([] : List Cell), ([] : List Cell), (0 : Int), ([] : List Cell)⟩ : S_api_Event), (0 : Int)⟩ : S_ref31_Got)) else (
      itemK a2 (0 : Int) fun c55 =>
      castS c55 fun s56 =>
      callK call 83 [.one (.str s56)] fun v57 =>
      oI .i64 v57 fun n58 =>
      j7 a1 a2 (6 : Int) (decide (n58 < (0 : Int))) a0 (⟨(⟨(0 : Int), (0 : Int), (0 : Int), (0 : Int), false, ([] : List UInt8), (0 : Int), (0 : Int), ([] : List Cell), ([] : List Cell), (0 : Int), ([] : List Cell)⟩ : S_api_Event), (0 : Int)⟩ : S_ref31_Got))) else (
    bif (a0.fKind == (1 : Int)) then (
      bif ((((a2).length / 1 : Nat) : Int) != (2 : Int)) then (
        j16 a2 true a0 (⟨(⟨(0 : Int), (0 : Int), (0 : Int), (0 : Int), false, ([] : List UInt8), (0 : Int), (0 : Int), ([] : List Cell), ([] : List Cell), (0 : Int), ([] : List Cell)⟩ : S_api_Event), (0 : Int)⟩ : S_ref31_Got)) else (
        itemK a2 (0 : Int) fun c59 =>
        castS c59 fun s60 =>
        callK call 83 [.one (.str s60)] fun v61 =>
        oI .i64 v61 fun n62 =>
        bif (decide (n62 < (0 : Int))) then (
          j16 a2 true a0 (⟨(⟨(0 : Int), (0 : Int), (0 : Int), (0 : Int), false, ([] : List UInt8), (0 : Int), (0 : Int), ([] : List Cell), ([] : List Cell), (0 : Int), ([] : List Cell)⟩ : S_api_Event), (0 : Int)⟩ : S_ref31_Got)) else (
          itemK a2 (1 : Int) fun c63 =>
          castS c63 fun s64 =>
          bif (!(s64 == ([115, 109, 116, 112] : List UInt8))) then (
            itemK a2 (1 : Int) fun c65 =>
            castS c65 fun s66 =>
            j16 a2 (!(s66 == ([108, 109, 116, 112] : List UInt8))) a0 (⟨(⟨(0 : Int), (0 : Int), (0 : Int), (0 : Int), false, ([] : List UInt8), (0 : Int), (0 : Int), ([] : List Cell), ([] : List Cell), (0 : Int), ([] : List Cell)⟩ : S_api_Event), (0 : Int)⟩ : S_ref31_Got)) else (
            j16 a2 false a0 (⟨(⟨(0 : Int), (0 : Int), (0 : Int), (0 : Int), false, ([] : List UInt8), (0 : Int), (0 : Int), ([] : List Cell), ([] : List Cell), (0 : Int), ([] : List Cell)⟩ : S_api_Event), (0 : Int)⟩ : S_ref31_Got))))) else (
      bif ((((a2).length / 1 : Nat) : Int) != (1 : Int)) then (
        j21 a2 true a0 (⟨(⟨(0 : Int), (0 : Int), (0 : Int), (0 : Int), false, ([] : List UInt8), (0 : Int), (0 : Int), ([] : List Cell), ([] : List Cell), (0 : Int), ([] : List Cell)⟩ : S_api_Event), (0 : Int)⟩ : S_ref31_Got)) else (
        itemK a2 (0 : Int) fun c67 =>
        castS c67 fun s68 =>
        callK call 83 [.one (.str s68)] fun v69 =>
        oI .i64 v69 fun n70 =>
        j21 a2 (decide (n70 < (0 : Int))) a0 (⟨(⟨(0 : Int), (0 : Int), (0 : Int), (0 : Int), false, ([] : List UInt8), (0 : Int), (0 : Int), ([] : List Cell), ([] : List Cell), (0 : Int), ([] : List Cell)⟩ : S_api_Event), (0 : Int)⟩ : S_ref31_Got))))
def f59_L (call : CallF) (n : Nat) (a0 : S_api_Event) (a1 : LB) (a2 : LC) : OR :=
  f59_T call n (f59_L7 call n) (f59_L16 call n) (f59_L21 call n) a0 a1 a2
theorem f59_o (X0 X1 X2 : Code) (call : CallF) (n : Nat) (B : Code) (hB : B = (hole (hole (hole f59_b [1, 1, 0, 1, 0, 1, 0, 1] X0) [1, 1, 1, 0, 1, 0, 0, 1] X1) [1, 1, 1, 1, 0, 1] X2)) : f59_P B call n = f59_T call n (f59_P7 B call n) (f59_P16 B call n) (f59_P21 B call n) := by
  subst hB; funext a0 a1 a2; kernel_rfl
theorem f59_l (call : CallF) (n : Nat) : f59_P f59_b call n = f59_T call n (f59_P7 f59_b call n) (f59_P16 f59_b call n) (f59_P21 f59_b call n) :=
  f59_o (piece [1, 1, 0, 1, 0, 1, 0, 1] f59_b) (piece [1, 1, 1, 0, 1, 0, 0, 1] f59_b) (piece [1, 1, 1, 1, 0, 1] f59_b) call n _ (by kernel_rfl)
theorem f59_e (call : CallF) (n : Nat) : f59_P f59_b call n = f59_L call n := by
  rw [f59_l, f59_e7, f59_e16, f59_e21]; rfl
theorem f59_eq (n : Nat) (a0 : S_api_Event) (a1 : LB) (a2 : LC) : acall AXE AXF (n + 1) 59 [.agg a0.cells, .one (.str a1), .one (.sl none 1 a2)] [] = f59_L (acall AXE AXF n) (n + 1) a0 a1 a2 :=
  (show _ = f59_P f59_b (acall AXE AXF n) (n + 1) a0 a1 a2 by kernel_rfl).trans (by rw [f59_e])
def f60_P (B : Code) (call : CallF) (n : Nat) : OR :=
  f60_x B call n [] (kEnd AXE 0 f60_r) ⟨[], []⟩
/-- pigeonhole/pigeonholeref31.bad -/
def f60_T (call : CallF) (n : Nat) : OR :=
  some (.agg [.int .i64 (0 : Int), .int .i64 (0 : Int), .int .i64 (0 : Int), .int .i64 (0 : Int), .bool false, .str ([] : List UInt8), .int .i64 (0 : Int), .int .i64 (0 : Int), .sl (some ⟨1000000, 8, 9⟩) 1 ([] : List Cell), .sl (some ⟨1000000, 9, 5⟩) 1 ([] : List Cell), .int .i64 (0 : Int), .sl (some ⟨1000000, 11, 3⟩) 1 ([] : List Cell), .int .i64 (3 : Int)], [])
def f60_L (call : CallF) (n : Nat) : OR :=
  f60_T call n
theorem f60_o (call : CallF) (n : Nat) (B : Code) (hB : B = f60_b) : f60_P B call n = f60_T call n := by
  subst hB; kernel_rfl
theorem f60_l (call : CallF) (n : Nat) : f60_P f60_b call n = f60_T call n :=
  f60_o call n _ (by kernel_rfl)
theorem f60_e (call : CallF) (n : Nat) : f60_P f60_b call n = f60_L call n := by
  rw [f60_l]; rfl
theorem f60_eq (n : Nat) : acall AXE AXF (n + 1) 60 [] [] = f60_L (acall AXE AXF n) (n + 1) :=
  (show _ = f60_P f60_b (acall AXE AXF n) (n + 1) by kernel_rfl).trans (by rw [f60_e])
end
end AX
end Go.Proofs.YtfbicbgdfcbhpaaGreatDoor
