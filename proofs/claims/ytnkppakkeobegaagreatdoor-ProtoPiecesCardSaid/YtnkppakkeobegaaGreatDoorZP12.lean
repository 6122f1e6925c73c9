/-
  ReplyEnh, BytesOf, ReplyLine.
-/
import Derived.Test.YtnkppakkeobegaaGreatDoorZP11
import Derived.Test.YtnkppakkeobegaaGreatDoorProg
import Derived.Test.YtnkppakkeobegaaGreatDoorZP00
import Derived.Lib.ConvBytes
import Derived.Laws.IdiomStrings
import Derived.OwnWalk
set_option maxRecDepth 20000
set_option linter.unusedVariables false
set_option linter.unusedSimpArgs false
set_option linter.unusedSectionVars false
namespace Go.Proofs.YtnkppakkeobegaaGreatDoor
theorem index_pt (r : List UInt8) : ∀ n : List UInt8, (∀ c ∈ n, c ≠ 46) → Lib.index (n ++ 46 :: r) [46] = n.length
 | [], _ => by rw [List.nil_append, Lib.index, if_pos (by simp [List.isPrefixOf])]; first | done | rfl | simp
 | c :: n, h => by
  have ih := index_pt r n fun d hd => h d (List.mem_cons_of_mem _ hd)
  have hc := h c (List.mem_cons_self ..)
  rw [List.cons_append, Lib.index, if_neg (by simp [List.isPrefixOf]; exact fun e => hc e.symm), ih, if_neg (by first | (simp; done) | (simp; omega))]
  simp
theorem splitK_le : ∀ (k : Nat) (t x : List UInt8), x ∈ Lib.splitK [46] 0 k t → x.length ≤ t.length
 | 0, t, x, h => by
  rw [Lib.splitK, List.mem_singleton] at h; subst h; exact Nat.le_refl _
 | k + 1, t, x, h => by
  rw [Lib.splitK] at h
  split at h
  · rw [List.mem_singleton] at h; subst h; exact Nat.le_refl _
  · rcases List.mem_cons.1 h with rfl | h2
    · rw [List.length_take]; omega
    · have := splitK_le k _ x h2
      rw [List.length_drop] at this; omega
theorem split_le (t x : List UInt8) (h : x ∈ Lib.split t [46]) : x.length ≤ t.length := splitK_le _ _ _ h
def enhQ (l : List UInt8) : Option (Nat × Nat × Nat) := match Lib.split l [46] with
 | [p, q, r] => if (canonB p && (canonB q && (canonB r && decide (valN 0 p = 2 ∨ valN 0 p = 4 ∨ valN 0 p = 5)))) = true then some (valN 0 p, valN 0 q, valN 0 r) else none
 | _ => none
def digs (l : List UInt8) : List UInt8 := l.takeWhile digC
def stepQ (l : List UInt8) : Option (Nat × List UInt8) := if canonB (digs l) = true ∧ (l.drop (digs l).length).head? = some 46 then some (valN 0 (digs l), l.drop ((digs l).length + 1)) else none
theorem drop_digs (l : List UInt8) : l.drop (digs l).length = l.dropWhile digC := by
 unfold digs
 induction l with
 | nil => rfl
 | cons c r ih =>
  rw [List.takeWhile_cons, List.dropWhile_cons]
  split
  · rw [List.length_cons, List.drop_succ_cons, ih]
  · rfl
theorem digs_split (l : List UInt8) : l = digs l ++ l.drop (digs l).length := by
 rw [drop_digs]
 exact (List.takeWhile_append_dropWhile).symm
theorem digs_all (l : List UInt8) : (digs l).all digC = true := by
 unfold digs
 induction l with
 | nil => rfl
 | cons c r ih =>
  rw [List.takeWhile_cons]
  split
  · rw [List.all_cons]; simp_all
  · rfl
theorem digs_of {p r : List UInt8} (h : p.all digC = true) (hr : ∀ c t, r = c :: t → digC c = false) : digs (p ++ r) = p := by
 unfold digs
 induction p with
 | nil =>
  cases r with
  | nil => rfl
  | cons c t => rw [List.nil_append, List.takeWhile_cons, if_neg (by rw [hr c t rfl]; simp)]
 | cons c p ih =>
  rw [List.all_cons, Bool.and_eq_true] at h
  rw [List.cons_append, List.takeWhile_cons, if_pos h.1, ih h.2]
theorem dig_pt {c : UInt8} (h : digC c = true) : c ≠ 46 := by
 intro e; subst e; cases h
theorem all_pt {p : List UInt8} (h : p.all digC = true) : ∀ c ∈ p, c ≠ 46 := fun c hc => dig_pt (List.all_eq_true.1 h c hc)
theorem canon_all {p : List UInt8} (h : canonB p = true) : p.all digC = true := (canon_parts h).1
theorem step_at {a : List UInt8} (b : List UInt8) (h : ∀ c ∈ a, c ≠ 46) : stepQ (a ++ 46 :: b) = if canonB a = true then some (valN 0 a, b) else none := by
 by_cases hc : canonB a = true
 · have hd : digs (a ++ 46 :: b) = a := digs_of (canon_all hc) (fun c t e => by cases e; rfl)
   unfold stepQ
   rw [hd, if_pos hc, if_pos ⟨hc, by simp⟩]
   simp [List.drop_append]
 · rw [if_neg hc]
   unfold stepQ
   rw [if_neg]
   rintro ⟨h1, h2⟩
   apply hc
   have hs := digs_split (a ++ 46 :: b)
   have hnp := all_pt (digs_all (a ++ 46 :: b))
   generalize digs (a ++ 46 :: b) = d at *
   obtain ⟨t, ht⟩ : ∃ t, (a ++ 46 :: b).drop d.length = 46 :: t := by
    cases hx : (a ++ 46 :: b).drop d.length with
    | nil => rw [hx] at h2; cases h2
    | cons c t => rw [hx] at h2; cases h2; exact ⟨t, rfl⟩
   rw [ht] at hs
   have e1 := index_pt b a h
   have e2 := index_pt t d hnp
   rw [hs] at e1
   have hl : d.length = a.length := by omega
   have := List.append_inj_left hs hl.symm
   rw [this]; exact h1
theorem enhQ_three {l p q r : List UInt8} (h : Lib.split l [46] = [p, q, r]) : enhQ l = if (canonB p && (canonB q && (canonB r && decide (valN 0 p = 2 ∨ valN 0 p = 4 ∨ valN 0 p = 5)))) = true then some (valN 0 p, valN 0 q, valN 0 r) else none := by
 unfold enhQ; rw [h]
theorem enhQ_other {l : List UInt8} (h : (Lib.split l [46]).length ≠ 3) : enhQ l = none := by
 unfold enhQ
 split
 · next p q r e => rw [e] at h; simp at h
 · rfl
end Go.Proofs.YtnkppakkeobegaaGreatDoor
set_option maxRecDepth 20000
set_option linter.unusedVariables false
set_option linter.unusedSimpArgs false
set_option linter.unusedSectionVars false
namespace Go.Proofs.YtnkppakkeobegaaGreatDoor
open Go.ChangeShapes Go.WideShapes Go.ChangeAt Go.RowKit
theorem bytes_of (w : World) (s : ByteArray) : ∃ W cap, (convert 9 26 (.string s)).run Tryz.prog w = .ok (.slice (some ⟨w.heap.size, 0, none⟩) s.size cap) W ∧
 (∀ j (h : j < s.size), W.cell? ⟨w.heap.size, j, none⟩ = some (.int .u8 (s[j].toNat : Int))) ∧ Below w.heap.size w W := by
 refine ⟨_, _, run_bytes_of_string (P := Tryz.prog) w 9 26 5 s rfl rfl rfl, fun j h => ?_, by (repeat' (first | (with_reducible exact Below.refl _ _) | (with_reducible refine Below.app ?_ ?_ _ _) | (with_reducible refine Below.alloc ?_ ?_ _) | (with_reducible refine Below.drew ?_) | (with_reducible refine Below.setCell ?_ ?_ _) | (with_reducible assumption) | omega | (simp; omega) | (simp; done)))⟩
 exact (World.cell?_alloc_mark w.drew _ _ _ j).trans (bytesRow_at s _ j h)
theorem all_drop {f : UInt8 → Bool} {l : List UInt8} {k : Nat} (h : k < l.length) : (l.drop k).all f = (f l[k] && (l.drop (k + 1)).all f) := by
 rw [List.drop_eq_getElem_cons h, List.all_cons]
end Go.Proofs.YtnkppakkeobegaaGreatDoor
set_option maxRecDepth 20000
set_option linter.unusedVariables false
set_option linter.unusedSimpArgs false
set_option linter.unusedSectionVars false
namespace Go.Proofs.YtnkppakkeobegaaGreatDoor
open Go.ChangeShapes Go.WideShapes Go.ChangeAt Go.RowKit
def lineC (c : UInt8) : Bool := decide (32 ≤ c.toNat ∧ c.toNat ≤ 126)
def lineB (l : List UInt8) : Bool := l.all lineC && decide (l.length ≤ 400)
def LineAt (s : ByteArray) (R : Bool) (k : Nat) : Prop := R = ((s.data.toList.drop k).all lineC && decide (s.size ≤ 400))
theorem LineAt.go {s : ByteArray} {R : Bool} {k : Nat} (h : LineAt s R k) (hk : k < s.size) (hc : lineC s[k] = true) : LineAt s R (k + 1) := by
 unfold LineAt at h ⊢
 have := @all_drop lineC s.data.toList k (by simpa using hk)
 rw [h, this, show s.data.toList[k]'(by simpa using hk) = s[k] from rfl, hc, Bool.true_and]
theorem LineAt.no {s : ByteArray} {R : Bool} {k : Nat} (h : LineAt s R k) (hk : k < s.size) (hc : lineC s[k] = false) : R = false := by
 unfold LineAt at h
 have := @all_drop lineC s.data.toList k (by simpa using hk)
 rw [h, this, show s.data.toList[k]'(by simpa using hk) = s[k] from rfl, hc]; rfl
theorem LineAt.done {s : ByteArray} {R : Bool} (h : LineAt s R s.size) : R = decide ((s.size : Int) ≤ 400) := by
 unfold LineAt at h
 rw [h, List.drop_of_length_le (by simp), List.all_nil, Bool.true_and, decide_eq_decide]; omega
theorem LineAt.zero (s : ByteArray) : LineAt s (lineB s.data.toList) 0 := by unfold LineAt lineB; simp
set_option maxHeartbeats 4000000 in
theorem isLine_calls (s : ByteArray) (hs : s.size ≤ 100000000) (w : World) : Calls Tryz.prog 56 #[.string s] w fun r w' => r = .returned (.bool (lineB s.data.toList)) ∧ Below w.heap.size w w' := by
 obtain ⟨W, cap, hconv, hcell, hbel⟩ := bytes_of w s
 have hz : w.heap.size ≤ W.heap.size := hbel.size
 have hlt0 : 0 < s.size → w.heap.size < W.heap.size := fun h => World.block_lt_of_cell? W _ (hcell 0 h)
 have h0 := LineAt.zero s
 generalize lineB s.data.toList = R at *
 replace h0 := Lib.hid h0
 go_enter Tryz.func56, Tryz.ntmps56
 go_wp2
 go_loop [8] (fun i => ∃ k : Nat, k ≤ s.size ∧ i = .int .i64 k ∧ Hid (LineAt s R k)) (fun i => s.size - (intOf i).toNat)
 case atStart => exact ⟨0, by omega, rfl, h0⟩
 case round =>
  obtain ⟨k, hk, rfl, hr⟩ := hrel
  clear h0
  by_cases hlt : k < s.size
  · have hce := hcell k hlt
    have hb := hlt0 (by omega)
    have hgo := hr.out.go hlt
    have hno := hr.out.no hlt
    unfold lineC at hgo hno
    clear hcell hr
    by_cases h1 : (s[k].toNat : Int) < 32
    · have hR := Lib.hid (hno (decide_eq_false (by omega)))
      clear hgo hno
      go_wp2
      go_returns
      exact ⟨rb hR.out.symm, hbel⟩
    · by_cases h2 : 126 < (s[k].toNat : Int)
      · have hR := Lib.hid (hno (decide_eq_false (by omega)))
        clear hgo hno
        go_wp2
        go_returns
        exact ⟨rb hR.out.symm, hbel⟩
      · have hR := Lib.hid (hgo (decide_eq_true (by omega)))
        clear hgo hno
        go_wp2
        go_round
        case rel => exact ⟨k + 1, by omega, by go_num, hR⟩
        case measure => first | (simp [intOf]; done) | (simp [intOf]; omega)
  · have hke : k = s.size := by omega
    subst hke
    have hR := Lib.hid hr.out.done
    clear hr hcell
    go_wp2
    go_returns
    exact ⟨rb hR.out.symm, hbel⟩
def codeB (n : Int) : Bool := decide (200 ≤ n ∧ n ≤ 599)
theorem isCode_calls (n : Int) (w : World) : Calls Tryz.prog 54 #[.int .i64 n] w fun r w' => r = .returned (.bool (codeB n)) ∧ w = w' := by
 have hv : Hid (codeB n = decide (200 ≤ n ∧ n ≤ 599)) := rfl
 generalize codeB n = R at *
 by_cases h1 : 200 ≤ n
 · by_cases h2 : n ≤ 599
   · have hR : Hid (R = true) := by rw [hv.out]; exact decide_eq_true ⟨h1, h2⟩
     clear hv
     go_enter Tryz.func54, Tryz.ntmps54
     go_wp2
     go_returns
     exact ⟨rb hR.out.symm, rfl⟩
   · have hR : Hid (R = false) := by rw [hv.out]; exact decide_eq_false (fun h => h2 h.2)
     clear hv
     go_enter Tryz.func54, Tryz.ntmps54
     go_wp2
     go_returns
     exact ⟨rb hR.out.symm, rfl⟩
 · have hR : Hid (R = false) := by rw [hv.out]; exact decide_eq_false (fun h => h1 h.1)
   clear hv
   go_enter Tryz.func54, Tryz.ntmps54
   go_wp2
   go_returns
   exact ⟨rb hR.out.symm, rfl⟩
end Go.Proofs.YtnkppakkeobegaaGreatDoor
