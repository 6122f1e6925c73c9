/-
  PgMain, Row, Row2, RowCard.
-/
import Derived.Test.YtnkppakkeobegaaGreatDoorZP26
import Derived.Test.YtnkppakkeobegaaGreatDoorRows
import Derived.Test.YtnkppakkeobegaaGreatDoorZP00
import Derived.HandedShaped
import Derived.Shelf.Vars
import Derived.Test.YtnkppakkeobegaaGreatDoorCards
import Derived.Test.YtnkppakkeobegaaGreatDoorTie
import Derived.SevenTiedAt
import Derived.JoinedCond
import Derived.Deep.DeepHandedRow
import Derived.LaidLaws
import Derived.Lib.LaidU8
set_option maxRecDepth 20000
set_option linter.unusedVariables false
set_option linter.unusedSimpArgs false
set_option linter.unusedSectionVars false
namespace Go.Proofs.YtnkppakkeobegaaGreatDoor
namespace AX
def pgGA : Heap := [[(.bool .false), (.str [120, 46, 111, 114, 103]), (.own 5 1 []), (.bool .true), (.gptr 1 0), (.own 28 2 [(.str [97]), (.str [120])]), .nilp, (.int .i64 2), (.str []), (.str []), (.str []), (.str []), (.int .i64 (-1)), (.sl .none 2 [(.str [97]), (.str [120])]), (.sl .none 1 [(.int .u8 104), (.int .u8 105), (.int .u8 13), (.int .u8 10)]), (.int .i64 0), (.bool .false)], [(.str []), (.str []), (.int .i64 (-1))], [(.int .i64 32768), (.int .i64 5), (.int .i64 0), (.own 5 1 [(.int .u8 104), (.int .u8 105), (.int .u8 13), (.int .u8 10)]), (.bool .false), (.bool .false), (.bool .false)]]
theorem pg_awake : acall AXE AXF 1001000 7 [] [] = some (.one (.bool true), pgGA) := by kernel_rfl
theorem dom_host : acall AXE AXF 1000999 26 [.one (.str hostL)] [] = some (.one (.bool true), []) := by kernel_rfl
def V0 (b : Bool) : V := ⟨b, [], false, none, [], none, 0, [], [], [], [], 0, [], [], 0, false⟩
def V0cells (b : Bool) : LC := (V0 b).cells .nilp .nilp (.own 28 2 []) (.own 5 1 [])
theorem new_at (b : Bool) (G : Heap) : acall AXE AXF 1001000 8 [.one (.bool b), .one (.str hostL)] G = some (.one (.gptr G.length 0), G ++ [V0cells b]) := by
 rw [f8_eq 1000999, f8_L, callK_some dom_host, oB_one]; rfl
theorem run_nil (n : Nat) (a0 : Nat) (a1 : LC) (a3 : Int) (G : Heap) : acall AXE AXF (n + 1) 13 [.one (.gptr a0 0), .one (.sl none 1 a1), .one (.sl none 0 []), .one (.int .i64 a3)] G = f13_L (acall AXE AXF n) (n + 1) a0 a1 [] a3 G := by kernel_rfl
theorem V0_at {G : Heap} {p N : Nat} (b : Bool) (h1 : p < N) (h2 : N ≤ G.length) (h3 : G[p]? = some (V0cells b)) : Rep G p N (V0 b) :=
 ⟨.nilp, .nilp, .own 28 2 [], .own 5 1 [], h1, h2, h3, rfl, rfl, .inl ⟨_, rfl⟩, .inl ⟨_, rfl⟩⟩
theorem V0_ok (b : Bool) : VV 0 (V0 b) := ⟨Nat.le_refl _, fun d e => (by cases e), ⟨show 0 / 2 ≤ 20 by decide, fun h => absurd (show (0 : Int) = 1 from h) (by decide)⟩, .inl rfl, ⟨Nat.zero_le _, Nat.zero_le _⟩, ⟨Nat.zero_le _, Nat.zero_le _⟩, show (0 : Int) ≤ 0 ∧ (0 : Int) ≤ 10 ∧ (false = false → (0 : Int) ≤ 9) by decide⟩
theorem pf_ok : PfOk (pv 1000995) := fun l hl => (pv_at (n := 1000995) (by omega) l hl).2
theorem run_gets (lm : Bool) (b : LB) (hb : b.length ≤ 1000) (cuts : List Int) (hc : cuts.length ≤ 60) (code : Int) (hcode : code = 250 ∨ code = 550) {G : Heap} {p N : Nat} (h : Rep G p N (V0 lm)) :
 RunGets p N (pv 1000995) code G ((V0 lm).add b) (f13_L (acall AXE AXF 1000999) 1001000 p (byteCells b) (cuts.map (.int .i64)) code G) := by
 rw [f13_L]
 have hD : Dr (pv 1000995) rb code ((V0 lm).add (b.take 0)) [] [] (V0 lm) := by
  rw [List.take_zero, V.add_nil]
  exact .stuck rfl rfl (stepV_idle _ rfl (show at2 [] < 0 by decide))
 exact pieces_loop (k := 1000995) (by omega) pf_ok code hcode 1001000 (by omega) (V0 lm) b hb cuts hc 1001000 0 0 G (V0 lm) [] [] (by omega) (by omega) (by omega) (fun e => by omega) h (V0_ok lm) hD rfl (Nat.le_refl 0) (Nat.le_refl 0)
def Yes (r : OR) : Prop := ∃ G, r = some (.one (.bool true), G)
theorem none_ne {a : LB} (h : a = [] ∨ a.getLast? = some 59) : (a == ([110, 111, 110, 101] : LB)) = false := by
 rw [beq_eq_false_iff_ne]
 rintro rfl
 rcases h with h | h
 · cases h
 · simp at h
theorem closed_at (k : Nat) {G : Heap} {p : Nat} {v : V} {fc dc x y : Cell} (h : G[p]? = some (v.cells fc dc x y)) : acall AXE AXF (k + 1) 14 [.one (.gptr p 0)] G = some (.one (.bool v.cl), G) := by
 rw [f14_eq, f14_L, rd_cl h]
theorem pieces (lm : Bool) (b : LB) (cuts : List Int) (yes : Bool) : ∃ G, acall AXE AXF 1001001 4 [.one (.bool lm), .one (.sl none 1 (byteCells b)), .one (.sl none 1 (cuts.map (.int .i64))), .one (.bool yes)] [] = some (.one (.bool true), G) := by
 rw [f4_eq 1001000, f4_L, callGK_some pg_awake, oB_one, Bool.not_true, cond_false, byteCells_len, List.length_map, Nat.div_one, Nat.div_one]
 have hG1 : pgGA.length = 3 := rfl
 refine join_prop (fun j => ∀ big : Bool, (big = false → b.length ≤ 1000 ∧ cuts.length ≤ 60) → Yes (j lm (byteCells b) (cuts.map (.int .i64)) yes big pgGA)) (Q := Yes) ?_ ?_
 · intro big hbig
   cases big with
   | true => exact ⟨_, rfl⟩
   | false =>
    obtain ⟨hb, hc⟩ := hbig rfl
    dsimp only
    rw [cond_false]
    refine join_prop (fun j => Yes (j (byteCells b) (cuts.map (.int .i64)) yes (.gptr 3 0) (.gptr 4 0) ((pgGA ++ [V0cells lm]) ++ [V0cells lm]))) (Q := Yes) ?_ ?_
    · dsimp only
      rw [castP_ptr, castP_ptr]
      refine join_prop (fun j => ∀ code : Int, code = 250 ∨ code = 550 → Yes (j (byteCells b) (cuts.map (.int .i64)) 3 0 4 0 code ((pgGA ++ [V0cells lm]) ++ [V0cells lm]))) (Q := Yes) ?_ ?_
      · intro code hcode
        dsimp only
        generalize hG0 : (pgGA ++ [V0cells lm]) ++ [V0cells lm] = G0
        have hl0 : G0.length = 5 := by rw [← hG0]; rfl
        have e3 : G0[3]? = some (V0cells lm) := by rw [← hG0]; rfl
        have e4 : G0[4]? = some (V0cells lm) := by rw [← hG0]; rfl
        obtain ⟨o, a, v, G1, q1, q2, q3, q4⟩ := run_gets lm b hb [] (by decide) code hcode (V0_at (N := 5) lm (by decide) (by omega) e3)
        rw [callGK_some ((run_nil 1000999 3 (byteCells b) code G0).trans q1), castTup_tup, zS_cons, zS_cons, nilK_nil]
        obtain ⟨fc, dc, x, y, q3⟩ := q3
        have e4' : G1[4]? = some (V0cells lm) := by rw [q4 4 (by decide) (by decide)]; exact e4
        obtain ⟨o', a', v', G2, r1, r2, r3, r4⟩ := run_gets lm b hb cuts hc code hcode (V0_at (N := 5) lm (by decide) q3.len e4')
        rw [callGK_some ((f13_eq 1000999 4 (byteCells b) (cuts.map (.int .i64)) code G1).trans r1), castTup_tup, zS_cons, zS_cons, nilK_nil]
        obtain ⟨d1, d2, d3⟩ := q2.det r2
        subst d1 d2 d3
        obtain ⟨fc', dc', x', y', r3⟩ := r3
        have e5 : G2[3]? = some (v'.cells fc dc x y) := by rw [r4 3 (by decide) (by decide)]; exact q3.cells
        rw [beq_self_eq_true, cond_true, beq_self_eq_true, cond_true, none_ne q2.asks, Bool.not_false, cond_true, callGK_some (closed_at 1000999 e5), oB_one, callGK_some (closed_at 1000999 r3.cells), oB_one]
        exact ⟨_, by rw [beq_self_eq_true]⟩
      · intro j hj
        cases yes with
        | true => exact hj 250 (.inl rfl)
        | false => exact hj 550 (.inr rfl)
    · intro j hj
      have n1 := new_at lm pgGA
      have n2 := new_at lm (pgGA ++ [V0cells lm])
      rw [callGK_some (show acall AXE AXF 1001000 8 [.one (.bool lm), .one (.str [120, 46, 111, 114, 103])] pgGA = _ from n1), oP_gptr, callGK_some (show acall AXE AXF 1001000 8 [.one (.bool lm), .one (.str [120, 46, 111, 114, 103])] (pgGA ++ [V0cells lm]) = _ from n2), oP_gptr]
      exact hj
 · intro j hj
   by_cases h1 : 1000 < b.length
   · rw [cut_ok (by omega)]; exact hj true fun h => by cases h
   · rw [cut_no (by omega)]
     refine hj _ fun h => ?_
     have h := of_decide_eq_false h
     omega
end AX
end Go.Proofs.YtnkppakkeobegaaGreatDoor
set_option maxRecDepth 20000
set_option linter.unusedVariables false
set_option linter.unusedSimpArgs false
set_option linter.unusedSectionVars false
namespace Go.Proofs.YtnkppakkeobegaaGreatDoor
open Go.ChangeShapes Go.WideShapes Go.ChangeAt Go.RowKit
theorem own : ownKnob Tryz.prog.godebug = none := by kernel_rfl
theorem laid : laidOutB Tryz.prog = true := by kernel_rfl
theorem boolT : Tryz.prog.underlying 4 = some .bool := by kernel_rfl
section
variable {H : Type} {enc : TypeId × Value → H} {P : Program} {W W' : World}
theorem trodAll_below (hl : laidOutB P = true) (hb : Below W.heap.size W W') {sp : Nat → Bool} : ∀ {ts : List TypeId} {vs : List Value} {ds : List (DataW H)} {ps : List MemPlace},
 (ts.all fun t => P.readableRec t && decide (t < P.types.size)) = true → DataW.TrodAll enc P W 0 (fun _ => true) true ts vs ds ps → (∀ x ∈ ps, x.block < W.heap.size) → (∀ x ∈ ps, sp x.block = true) →
 DataW.TrodAll enc P W' 0 sp true ts vs ds ps
 | [], [], [], _, _, h, _, _ => h
 | t :: ts, v :: vs, d :: ds, ps, hr, h, hlt, hsp => by
  obtain ⟨p, q, h1, h2, rfl⟩ := h
  simp only [List.all_cons, Bool.and_eq_true, decide_eq_true_eq] at hr
  exact ⟨p, q, WideElems.Trod_stays hl hr.1.1 hr.1.2 h1 (fun x hx => hb.same (hlt x (by simp [hx]))) (fun x hx => hsp x (by simp [hx])),
   trodAll_below hl hb hr.2 h2 (fun x hx => hlt x (by simp [hx])) (fun x hx => hsp x (by simp [hx])), rfl⟩
 | [], _ :: _, _, _, _, h, _, _ => h.elim
 | [], [], _ :: _, _, _, h, _, _ => h.elim
 | _ :: _, [], _, _, _, h, _, _ => h.elim
 | _ :: _, _ :: _, [], _, _, h, _, _ => h.elim
theorem trodAll_length {base : Nat} {spare : Nat → Bool} {held : Bool} : ∀ {ts : List TypeId} {vs : List Value} {ds : List (DataW H)} {ps : List MemPlace},
 DataW.TrodAll enc P W base spare held ts vs ds ps → ds.length = ts.length
 | [], [], [], _, _ => rfl
 | t :: ts, v :: vs, d :: ds, ps, h => by
  obtain ⟨p, q, h1, h2, rfl⟩ := h
  simp [trodAll_length h2]
 | [], _ :: _, _, _, h => h.elim
 | [], [], _ :: _, _, h => h.elim
 | _ :: _, [], _, _, h => h.elim
 | _ :: _, _ :: _, [], _, h => h.elim
end
end Go.Proofs.YtnkppakkeobegaaGreatDoor
set_option maxRecDepth 20000
set_option linter.unusedVariables false
set_option linter.unusedSimpArgs false
set_option linter.unusedSectionVars false
namespace Go.Proofs.YtnkppakkeobegaaGreatDoor
open Go.ChangeShapes Go.WideShapes Go.ChangeAt Go.RowKit
def MaxLenAt (w : World) : Prop := ∃ m, w.cell? ⟨0, 0, none⟩ = some (.int .i64 m)
theorem MaxLenAt.of {W : World} (h : W.ShapedOpen Tryz.prog) : MaxLenAt W :=
 cell_of_shapedOpen_int (t := 3) (zero := #[.int .i64 0]) h (of_decide_eq_true (by kernel_rfl)) (by kernel_rfl) rfl (by kernel_rfl) (by kernel_rfl) (by kernel_rfl)
theorem MaxLenAt.below {w w' : World} (h : MaxLenAt w) (hb : Below w.heap.size w w') : MaxLenAt w' := by
 obtain ⟨m, hm⟩ := h
 exact ⟨m, (hb.cell (p := ⟨0, 0, none⟩) (World.block_lt_of_cell? w _ hm)).trans hm⟩
end Go.Proofs.YtnkppakkeobegaaGreatDoor
set_option maxRecDepth 20000
set_option linter.unusedVariables false
set_option linter.unusedSimpArgs false
set_option linter.unusedSectionVars false
namespace Go.Proofs.YtnkppakkeobegaaGreatDoor
open Go.ChangeShapes Go.WideShapes Go.ChangeAt Go.RowKit
theorem wants_none {ts : Array TypeId} (h : (ts.all fun t => !Tryz.prog.wantsStandIn t) = true) : ∀ (j : Nat) (t : TypeId), ts[j]? = some t → Tryz.prog.wantsStandIn t = false := fun j t ht => by
 rw [Array.all_eq_true] at h
 obtain ⟨hj, rfl⟩ := Array.getElem?_eq_some_iff.1 ht
 simpa using h j hj
noncomputable def lowN : Nat := (World.holding Tryz.prog default ⟨#[], #[], []⟩).heap.size
def putCells (h : Array Obj) (g : Nat) (cs : Array Value) : Array Obj := h.modify g fun
 | .cells _ t frozen => .cells cs t frozen
 | o => o
noncomputable def laidWorld (os : Os) : World :=
 let w0 := World.holding Tryz.prog os ⟨#[.cells #[.string ⟨#[118, 97, 108, 117, 101, 32, 111, 117, 116, 32, 111, 102, 32, 114, 97, 110, 103, 101]⟩] 235, .cells #[.string ⟨#[105, 110, 118, 97, 108, 105, 100, 32, 115, 121, 110, 116, 97, 120]⟩] 235, .cells #[.string ⟨#[98, 121, 116, 101, 115, 46, 66, 117, 102, 102, 101, 114, 58, 32, 116, 111, 111, 32, 108, 97, 114, 103, 101]⟩] 235], #[], []⟩
 { w0 with heap := putCells (putCells (putCells (putCells (putCells (putCells (putCells (putCells (w0.heap) 5 #[.int .u8 0, .int .u8 1, .int .u8 28, .int .u8 2, .int .u8 29, .int .u8 14, .int .u8 24, .int .u8 3, .int .u8 30, .int .u8 22, .int .u8 20, .int .u8 15, .int .u8 25, .int .u8 17, .int .u8 4, .int .u8 8, .int .u8 31, .int .u8 27, .int .u8 13, .int .u8 23, .int .u8 21, .int .u8 19, .int .u8 16, .int .u8 7, .int .u8 26, .int .u8 12, .int .u8 18, .int .u8 6, .int .u8 11, .int .u8 5, .int .u8 10, .int .u8 9]) 6 #[.int .u8 0, .int .u8 1, .int .u8 56, .int .u8 2, .int .u8 57, .int .u8 49, .int .u8 28, .int .u8 3, .int .u8 61, .int .u8 58, .int .u8 42, .int .u8 50, .int .u8 38, .int .u8 29, .int .u8 17, .int .u8 4, .int .u8 62, .int .u8 47, .int .u8 59, .int .u8 36, .int .u8 45, .int .u8 43, .int .u8 51, .int .u8 22, .int .u8 53, .int .u8 39, .int .u8 33, .int .u8 30, .int .u8 24, .int .u8 18, .int .u8 12, .int .u8 5, .int .u8 63, .int .u8 55, .int .u8 48, .int .u8 27, .int .u8 60, .int .u8 41, .int .u8 37, .int .u8 16, .int .u8 46, .int .u8 35, .int .u8 44, .int .u8 21, .int .u8 52, .int .u8 32, .int .u8 23, .int .u8 11, .int .u8 54, .int .u8 26, .int .u8 40, .int .u8 15, .int .u8 34, .int .u8 20, .int .u8 31, .int .u8 10, .int .u8 25, .int .u8 14, .int .u8 19, .int .u8 9, .int .u8 13, .int .u8 8, .int .u8 7, .int .u8 6]) 2 #[.int .u64 1, .int .u64 10, .int .u64 100, .int .u64 1000, .int .u64 10000, .int .u64 100000, .int .u64 1000000, .int .u64 10000000, .int .u64 100000000, .int .u64 1000000000, .int .u64 10000000000, .int .u64 100000000000, .int .u64 1000000000000, .int .u64 10000000000000, .int .u64 100000000000000, .int .u64 1000000000000000, .int .u64 10000000000000000, .int .u64 100000000000000000, .int .u64 1000000000000000000, .int .u64 10000000000000000000]) 8 #[.int .u8 128, .int .u8 191, .int .u8 160, .int .u8 191, .int .u8 128, .int .u8 159, .int .u8 144, .int .u8 191, .int .u8 128, .int .u8 143, .int .u8 0, .int .u8 0, .int .u8 0, .int .u8 0, .int .u8 0, .int .u8 0, .int .u8 0, .int .u8 0, .int .u8 0, .int .u8 0, .int .u8 0, .int .u8 0, .int .u8 0, .int .u8 0, .int .u8 0, .int .u8 0, .int .u8 0, .int .u8 0, .int .u8 0, .int .u8 0, .int .u8 0, .int .u8 0]) 4 #[.iface 233 (.pointer (some ⟨lowN + 0, 0, none⟩))]) 3 #[.iface 233 (.pointer (some ⟨lowN + 1, 0, none⟩))]) 1 #[.iface 233 (.pointer (some ⟨lowN + 2, 0, none⟩))]) 7 (Lib.firstTab.map fun z => Value.int .u8 z).toArray }
end Go.Proofs.YtnkppakkeobegaaGreatDoor
