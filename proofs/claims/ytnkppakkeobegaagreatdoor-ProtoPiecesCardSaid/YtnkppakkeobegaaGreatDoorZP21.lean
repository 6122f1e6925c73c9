/-
  PgDot.
-/
import Derived.Test.YtnkppakkeobegaaGreatDoorZP20
set_option maxRecDepth 20000
set_option linter.unusedVariables false
set_option linter.unusedSimpArgs false
set_option linter.unusedSectionVars false
namespace Go.Proofs.YtnkppakkeobegaaGreatDoor
namespace AX
section
variable {G : Heap} {q : Nat} {d : Dec} {R : Type} (h : G[q]? = some (Dec.cells d))
include h
theorem dr_max (k : Int → Option R) : gI .i64 G q 0 k = k 32768 := (gcell_at (c := .int .i64 32768) h rfl fun c => castI .i64 c k).trans (castI_one _ _ _)
theorem dr_st (k : Int → Option R) : gI .i64 G q 1 k = k d.st := (gcell_at (c := .int .i64 d.st) h rfl fun c => castI .i64 c k).trans (castI_one _ _ _)
theorem dr_line (k : Int → Option R) : gI .i64 G q 2 k = k d.line := (gcell_at (c := .int .i64 d.line) h rfl fun c => castI .i64 c k).trans (castI_one _ _ _)
theorem dr_all (k : LC → Option R) : gL 1 G q 3 k = k (byteCells d.all) := (gcell_at (c := .own 5 1 (byteCells d.all)) h rfl fun c => castGL 1 c k).trans (castGL_own _ _ _ _)
theorem dw_st (s : Nat) (k : Heap → Option R) : gset G q 1 (.int .i64 s) k = k (G.set q (Dec.cells { d with st := s })) := gset_at h (by show 1 < 7; decide) k
theorem dw_line (s : Nat) (k : Heap → Option R) : gset G q 2 (.int .i64 s) k = k (G.set q (Dec.cells { d with line := s })) := gset_at h (by show 2 < 7; decide) k
theorem dw_long (b : Bool) (k : Heap → Option R) : gset G q 4 (.bool b) k = k (G.set q (Dec.cells { d with long := b })) := gset_at h (by show 4 < 7; decide) k
theorem dw_bare (b : Bool) (k : Heap → Option R) : gset G q 5 (.bool b) k = k (G.set q (Dec.cells { d with bare := b })) := gset_at h (by show 5 < 7; decide) k
theorem dt_all (k : LC → Heap → Option R) : gtake 5 1 G q 3 k = k (byteCells d.all) (G.set q ((Dec.cells d).set 3 (.sl none 1 (byteCells d.all)))) := gtake_at h rfl k
theorem dp_all (l : LB) (k : Heap → Option R) : gset (G.set q ((Dec.cells d).set 3 (.sl none 1 (byteCells d.all)))) q 3 (.own 5 1 (byteCells l)) k = k (G.set q (Dec.cells { d with all := l })) := by
 rw [gset_at (g_self h) (by show 3 < 7; decide), List.set_set]; rfl
end
theorem byteCells_app (a b : LB) : byteCells (a ++ b) = byteCells a ++ byteCells b := by simp [byteCells]
theorem keep_at (k : Nat) {G : Heap} {q : Nat} {d : Dec} (h : G[q]? = some (Dec.cells d)) (h1 : d.all.length ≤ 30000) (h2 : d.line ≤ 30000) (c : UInt8) :
 acall AXE AXF (k + 2) 122 [.one (.gptr q 0), .one (.sl none 1 [.int .u8 (c.toNat : Int)])] G = some (.tup [], G.set q (Dec.cells (d.keep c))) := by
 rw [f122_eq, f122_L, loopJ_succ, f122_B0, cut_ok (by show (0 : Int) < ((1 / 1 : Nat) : Int); decide), joinK_eq, item_some (i := (0 : Int)) (j := 0) (a := Cell.int .u8 (c.toNat : Int)) rfl rfl, castI_one, joinK_eq]
 dsimp only
 have e : IntKind.wrap .i64 ((d.line : Int) + 1) = ((d.line + 1 : Nat) : Int) := by rw [wrap_ok (by omega) (by omega)]; omega
 rw [dr_line h, e, dw_line h, dr_line (g_self h)]
 have fin : ∀ d' : Dec, d'.all = d.all → { d' with all := d'.all ++ [c] } = d.keep c → ∀ {X : Heap}, X = G.set q (Dec.cells d') →
  (gL 1 X q 3 fun l21 => gI .i64 X q 0 fun n22 => bif ((((l21).length / 1 : Nat) : Int) == n22) then (gset X q 6 (.bool true) fun G23 => loopJ (fun _ _ _ _ _ => none) (f122_B0 (acall AXE AXF (k + 1)) (k + 1 + 1)) (k + 1) q [.int .u8 (c.toNat : Int)] ((([.int .u8 (c.toNat : Int)] : LC).length / 1 : Nat) : Int) (IntKind.wrap .i64 (0 + 1)) G23) else
   (gtake 5 1 X q 3 fun l24 G25 => guardB (decide (((l24).length + (([.int .u8 (c.toNat : Int)] : List Cell)).length) * 1000 ≤ rowLim)) (gset G25 q 3 (.own 5 1 (l24 ++ ([.int .u8 (c.toNat : Int)] : List Cell))) fun G26 => loopJ (fun _ _ _ _ _ => none) (f122_B0 (acall AXE AXF (k + 1)) (k + 1 + 1)) (k + 1) q [.int .u8 (c.toNat : Int)] ((([.int .u8 (c.toNat : Int)] : LC).length / 1 : Nat) : Int) (IntKind.wrap .i64 (0 + 1)) G26))) = some (.tup [], G.set q (Dec.cells (d.keep c))) := by
  rintro d' ha hk X rfl
  have hq := g_self (c := Dec.cells d') h
  have hl : (byteCells d'.all).length = d.all.length := by rw [byteCells_len, ha]
  rw [dr_all hq, dr_max hq, show ((((byteCells d'.all).length / 1 : Nat) : Int) == 32768) = false by rw [hl, beq_eq_false_iff_ne]; omega, cond_false, dt_all hq, guard_ok (decide_eq_true (by rw [hl]; show (d.all.length + 1) * 1000 ≤ 1099511627776; omega))]
  rw [show byteCells d'.all ++ [.int .u8 (c.toNat : Int)] = byteCells (d'.all ++ [c]) by rw [byteCells_app]; rfl, dp_all hq, loopJ_succ, f122_B0, cut_no (by show ¬ IntKind.wrap .i64 (0 + 1) < ((1 / 1 : Nat) : Int); decide), hk, List.set_set]
 by_cases h3 : 1000 < d.line + 1
 · rw [cut_ok (by show ((d.line + 1 : Nat) : Int) > 1000; omega), dw_long (g_self h), List.set_set]
   exact fin { d with line := d.line + 1, long := true } rfl (by simp [Dec.keep, h3]) rfl
 · rw [cut_no (by show ¬ ((d.line + 1 : Nat) : Int) > 1000; omega)]
   exact fin { d with line := d.line + 1 } rfl (by simp [Dec.keep, h3]) rfl
theorem plain_at (k : Nat) {G : Heap} {q : Nat} {d : Dec} (h : G[q]? = some (Dec.cells d)) (h1 : d.all.length ≤ 30000) (h2 : d.line ≤ 30000) (c : UInt8) :
 acall AXE AXF (k + 3) 121 [.one (.gptr q 0), .one (.int .u8 (c.toNat : Int))] G = some (.tup [], G.set q (Dec.cells (d.plain c))) := by
 rw [f121_eq, f121_L, callGK_some (keep_at k h h1 h2 c), castTup_tup, nilK_nil]
 have hk := g_self (c := Dec.cells (d.keep c)) h
 rw [show (3 : Int) = ((3 : Nat) : Int) from rfl, dw_st hk, List.set_set]
 have hk2 := g_self (c := Dec.cells { d.keep c with st := 3 }) h
 have hc : ∀ m : UInt8, ((c.toNat : Int) == (m.toNat : Int)) = decide (c = m) := fun m => by
  by_cases e : c = m
  · subst e; simp
  · have : c.toNat ≠ m.toNat := fun e2 => e (UInt8.toNat_inj.1 e2)
    rw [decide_eq_false e, beq_eq_false_iff_ne]; omega
 rw [show (13 : Int) = ((13 : UInt8).toNat : Int) from rfl, show (10 : Int) = ((10 : UInt8).toNat : Int) from rfl, hc, hc]
 unfold Dec.plain
 by_cases h13 : c = 13
 · rw [decide_eq_true h13, cond_true, show (4 : Int) = ((4 : Nat) : Int) from rfl, dw_st hk2, List.set_set]
   subst h13
   simp [Dec.keep]
 · rw [decide_eq_false h13, cond_false]
   by_cases h10 : c = 10
   · rw [decide_eq_true h10, cond_true, dw_bare hk2, List.set_set]
     subst h10
     simp [Dec.keep]
   · rw [decide_eq_false h10, cond_false]
     simp [Dec.keep, h13, h10]
theorem set_same {G : Heap} {q : Nat} {c : LC} (h : G[q]? = some c) : G.set q c = G := by
 have hlt := g_lt h
 rw [List.getElem?_eq_getElem hlt, Option.some.injEq] at h
 rw [← h, List.set_getElem_self]
theorem byte_eq (c m : UInt8) : ((c.toNat : Int) == (m.toNat : Int)) = decide (c = m) := by
 by_cases e : c = m
 · subst e; simp
 · have : c.toNat ≠ m.toNat := fun e2 => e (UInt8.toNat_inj.1 e2)
   rw [decide_eq_false e, beq_eq_false_iff_ne]; omega
theorem dstep_at (k : Nat) {G : Heap} {q : Nat} {d : Dec} (h : G[q]? = some (Dec.cells d)) (h1 : d.all.length ≤ 20000) (h2 : d.line ≤ 20000) (c : UInt8) :
 acall AXE AXF (k + 4) 96 [.one (.gptr q 0), .one (.int .u8 (c.toNat : Int))] G = some (.tup [], G.set q (Dec.cells (d.step c))) := by
 rw [f96_eq, f96_L, dr_st h, joinK_eq]
 dsimp only
 have e13 : ((c.toNat : Int) == 13) = decide (c = 13) := byte_eq c 13
 have e10 : ((c.toNat : Int) == 10) = decide (c = 10) := byte_eq c 10
 have e46 : ((c.toNat : Int) == 46) = decide (c = 46) := byte_eq c 46
 rw [e13, e10, e46]
 have ne : ∀ m : Int, (d.st : Int) ≠ m → ((d.st : Int) == m) = false := fun m hm => by rw [beq_eq_false_iff_ne]; exact hm
 have pl : ∀ d' : Dec, d'.all.length ≤ 30000 → d'.line ≤ 30000 → ∀ {X : Heap}, X = G.set q (Dec.cells d') → ∀ K : Heap → OR,
  (callGK (acall AXE AXF (k + 3)) 121 [.one (.gptr q 0), .one (.int .u8 (c.toNat : Int))] X fun v G2 => castTup v fun z => nilK z (K G2)) = K (G.set q (Dec.cells (d'.plain c))) := by
  rintro d' a1 a2 X rfl K
  rw [callGK_some (plain_at k (g_self h) a1 a2 c), castTup_tup, nilK_nil, List.set_set]
 have plG : ∀ K : Heap → OR, (callGK (acall AXE AXF (k + 3)) 121 [.one (.gptr q 0), .one (.int .u8 (c.toNat : Int))] G fun v G2 => castTup v fun z => nilK z (K G2)) = K (G.set q (Dec.cells (d.plain c))) :=
  pl d (by omega) (by omega) (set_same h).symm
 have ke : ∀ d' : Dec, d'.all.length ≤ 30000 → d'.line ≤ 30000 → ∀ m : UInt8, ∀ {X : Heap}, X = G.set q (Dec.cells d') → ∀ K : Heap → OR,
  (callGK (acall AXE AXF (k + 3)) 122 [.one (.gptr q 0), .one (.sl none 1 [.int .u8 (m.toNat : Int)])] X fun v G2 => castTup v fun z => nilK z (K G2)) = K (G.set q (Dec.cells (d'.keep m))) := by
  rintro d' a1 a2 m X rfl K
  rw [callGK_some (keep_at (k + 1) (g_self h) a1 a2 m), castTup_tup, nilK_nil, List.set_set]
 unfold Dec.step
 by_cases s0 : d.st = 0
 · rw [if_pos s0, s0, show (((0 : Nat) : Int) == 0) = true from rfl, cond_true, show (0 : Int) = ((0 : Nat) : Int) from rfl, dw_line h]
   by_cases hc : c = 46
   · rw [if_pos hc, decide_eq_true hc, cond_true, show (1 : Int) = ((1 : Nat) : Int) from rfl, dw_st (g_self h), List.set_set]
   · rw [if_neg hc, decide_eq_false hc, cond_false, pl { d with line := 0 } (by show d.all.length ≤ _; omega) (by show 0 ≤ 30000; omega) rfl]
     simp only [s0]
 · rw [if_neg s0, ne 0 (by omega), cond_false]
   by_cases s1 : d.st = 1
   · rw [if_pos s1, s1, show (((1 : Nat) : Int) == 1) = true from rfl, cond_true]
     by_cases hc : c = 13
     · rw [if_pos hc, decide_eq_true hc, cond_true, show (2 : Int) = ((2 : Nat) : Int) from rfl, dw_st h]
     · rw [if_neg hc, decide_eq_false hc, cond_false, plG]
   · rw [if_neg s1, ne 1 (by omega), cond_false]
     by_cases s2 : d.st = 2
     · rw [if_pos s2, s2, show (((2 : Nat) : Int) == 3) = false from rfl, cond_false, show (((2 : Nat) : Int) == 2) = true from rfl, cond_true]
       by_cases hc : c = 10
       · rw [if_pos hc, decide_eq_true hc, cond_true, show (5 : Int) = ((5 : Nat) : Int) from rfl, dw_st h]
       · rw [if_neg hc, decide_eq_false hc, cond_false, dw_bare h]
         have := ke { d with bare := true } (by show d.all.length ≤ _; omega) (by show d.line ≤ _; omega) 13 rfl
         rw [show (13 : Int) = ((13 : UInt8).toNat : Int) from rfl, this]
         have kl := keep_len { d with bare := true } 13
         simp only at kl
         rw [pl _ (by omega) (by omega) rfl]
         simp only [s2]
     · rw [if_neg s2]
       by_cases s3 : d.st = 3
       · rw [if_pos s3, s3, show (((3 : Nat) : Int) == 3) = true from rfl, cond_true, plG]
       · rw [if_neg s3, ne 3 (by omega), cond_false, ne 2 (by omega), cond_false]
         by_cases s4 : d.st = 4
         · rw [if_pos s4, s4, show (((4 : Nat) : Int) == 4) = true from rfl, cond_true]
           by_cases hc : c = 10
           · rw [if_pos hc, decide_eq_true hc, cond_true]
             have := ke d (by omega) (by omega) 10 (set_same h).symm
             rw [show (10 : Int) = ((10 : UInt8).toNat : Int) from rfl, this, show (0 : Int) = ((0 : Nat) : Int) from rfl, dw_st (g_self h), List.set_set]
           · rw [if_neg hc, decide_eq_false hc, cond_false, dw_bare h, pl { d with bare := true } (by show d.all.length ≤ _; omega) (by show d.line ≤ _; omega) rfl]
             simp only [s4]
         · rw [if_neg s4, ne 4 (by omega), cond_false, set_same h]
end AX
end Go.Proofs.YtnkppakkeobegaaGreatDoor
