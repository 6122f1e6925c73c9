/-
  HeadPlain, HeadLines, HeadAscii, HeadLines2, EnvS, EnvP.
-/
import Derived.Test.YteahkgbnfbjkhaaGreatDoorRe40
import Derived.Test.YteahkgbnfbjkhaaGreatDoorRe34
import Derived.Test.YteahkgbnfbjkhaaGreatDoorRe02
import Derived.Test.YteahkgbnfbjkhaaGreatDoorRe08
import Derived.Test.YteahkgbnfbjkhaaGreatDoorRe25
set_option maxRecDepth 20000
set_option linter.unusedVariables false
set_option linter.unusedSimpArgs false
set_option linter.unusedSectionVars false
namespace Go.Proofs.YteahkgbnfbjkhaaGreatDoor
open Go.ChangeShapes Go.WideShapes Go.ChangeAt Go.RowKit
theorem index_colon (r : List UInt8) : ∀ n : List UInt8, (∀ c ∈ n, c ≠ 58) → Lib.index (n ++ 58 :: r) [58] = n.length
 | [], _ => by show Lib.index (58 :: r) [58] = _; rw [Lib.index]; simp [List.isPrefixOf]
 | c :: n, h => by
  have ih := index_colon r n (fun x hx => h x (List.mem_cons_of_mem _ hx))
  have hc : c ≠ 58 := h c (by simp)
  show Lib.index (c :: (n ++ 58 :: r)) [58] = _
  rw [Lib.index, ih]
  have hp : ([58] : List UInt8).isPrefixOf (c :: (n ++ 58 :: r)) = false := by
   simp only [List.isPrefixOf, Bool.and_true, beq_eq_false_iff_ne]; exact fun e => hc e.symm
  rw [hp, if_neg (by simp), if_neg (by rw [beq_iff_eq]; omega)]
  simp
theorem cut_colon (n r : List UInt8) (h : ∀ c ∈ n, c ≠ 58) : Lib.cut (n ++ 58 :: r) [58] = (n, r, true) := by
 unfold Lib.cut
 rw [index_colon r n h, if_pos (by omega)]
 simp [List.drop_append]
end Go.Proofs.YteahkgbnfbjkhaaGreatDoor
set_option maxRecDepth 20000
set_option linter.unusedVariables false
set_option linter.unusedSimpArgs false
set_option linter.unusedSectionVars false
namespace Go.Proofs.YteahkgbnfbjkhaaGreatDoor
open Go.ChangeShapes Go.WideShapes Go.ChangeAt Go.RowKit
theorem clone_at {w : World} {q : Option Addr} {cap : Nat} {l : List UInt8} (hb : BytesAt w q cap l) (hl : l.length ≤ 100000000000) :
 Calls Tryz.prog 44 #[.slice q l.length cap] w fun e w' => ∃ p c, e = .returned (.slice p l.length c) ∧ BytesAt w' p c l ∧ Below w.heap.size w w' := by
 cases q with
 | none =>
  obtain ⟨rfl, rfl⟩ := hb.nil rfl
  exact (Tryz.bytes_Clone_nil 0 0 w).mono fun e w' ⟨h1, h2⟩ => ⟨none, 0, h1, by rw [h2]; exact hb, by rw [h2]; exact Below.refl _ _⟩
 | some a =>
  refine (Tryz.bytes_Clone_at a l.length cap (l.map fun c => (c.toNat : Int)) w (by simp) (by omega) (fun i hi => ?_)).mono fun e w' ⟨v', h1, h2, _, h4⟩ => ?_
  · have h0 : l ≠ [] := by intro e; subst e; simp at hi
    obtain ⟨bb, off, e1, e2, e3⟩ := hb.cell h0
    injection e1 with e1
    subst e1
    rw [show (⟨bb, off, none⟩ : Addr).add i = ⟨bb, off + i, none⟩ by unfold Addr.add; split <;> simp_all, e3 i hi]
    simp [List.getD, hi]
  · obtain ⟨p, c, rfl⟩ := own_lenN h2
    exact ⟨p, c, h1, own_bytesAt' h2 rfl (by simp [Lib.byteCells]), h4⟩
theorem loopQ_len : ∀ (m : Nat) (acc : List LFld) (l : List UInt8) (fs : List LFld) (b : List UInt8), l.length ≤ m → loopQ acc l = some (fs, b) → b.length + 2 ≤ l.length
 | 0, acc, l, fs, b, hm, h => by
  have : l = [] := List.eq_nil_of_length_eq_zero (by omega)
  subst this
  rw [loopQ_none (by decide) (by unfold nextQ; simp [endQ])] at h; cases h
 | m + 1, acc, l, fs, b, hm, h => by
  cases hp : Lib.hasPrefix l [13, 10]
  · cases hn : nextQ l with
    | none => rw [loopQ_none hp hn] at h; cases h
    | some y =>
     obtain ⟨f, r⟩ := y
     have hr := nextQ_len hn
     rw [loopQ_go hp hn] at h
     have := loopQ_len m _ _ _ _ (by omega) h
     omega
  · rw [loopQ_done hp] at h
    have hl : 2 ≤ l.length := by
     have := (List.isPrefixOf_iff_prefix.1 hp).length_le
     simpa using this
    cases h
    simp; omega
theorem splitQ_len {l : List UInt8} {fs : List LFld} {b : List UInt8} (h : splitQ l = some (fs, b)) (h0 : l ≠ []) : b.length + 2 ≤ l.length := by
 unfold splitQ at h
 rw [if_neg h0] at h
 exact loopQ_len _ _ _ _ _ (Nat.le_refl _) h
def linesQ (l : List UInt8) : List UInt8 := match splitQ l with | some (_, b) => l.take (l.length - b.length - 2) | none => []
end Go.Proofs.YteahkgbnfbjkhaaGreatDoor
set_option maxRecDepth 20000
set_option linter.unusedVariables false
set_option linter.unusedSimpArgs false
set_option linter.unusedSectionVars false
namespace Go.Proofs.YteahkgbnfbjkhaaGreatDoor
open Go.ChangeShapes Go.WideShapes Go.ChangeAt Go.RowKit
theorem endQ_parts : ∀ (l : List UInt8) (n : Nat), endQ false l = some n → l = l.take (n - 2) ++ 13 :: 10 :: l.drop n
 | [], n, h => by rw [endQ] at h; cases h
 | [c], n, h => by simp [endQ] at h
 | c :: d :: r, n, h => by
  rw [crlf_two] at h
  split at h
  · rename_i hc
    obtain ⟨rfl, rfl⟩ := hc
    cases h; rfl
  · cases hx : endQ false (d :: r) with
    | none => rw [hx] at h; cases h
    | some k =>
     rw [hx] at h
     have h2 := endQ_two_le (d :: r) k hx
     have ih := endQ_parts (d :: r) k hx
     cases h
     show c :: d :: r = (c :: d :: r).take (1 + k - 2) ++ 13 :: 10 :: (c :: d :: r).drop (1 + k)
     rw [show 1 + k - 2 = (k - 2) + 1 by omega, show 1 + k = k + 1 by omega, List.take_succ_cons, List.drop_succ_cons, List.cons_append, ← ih]
theorem index_free : ∀ {t : List UInt8}, (∀ c ∈ t, c ≠ 58) → Lib.index t [58] = -1
 | [], _ => by simp [Lib.index]
 | c :: r, h => by
  have ih := index_free (t := r) fun d hd => h d (List.mem_cons_of_mem _ hd)
  have hc := h c (List.mem_cons_self ..)
  rw [Lib.index, if_neg (by simp [List.isPrefixOf]; exact fun e => hc e.symm), ih]
  rfl
theorem cut_parts58 (l : List UInt8) (h : (Lib.cut l [58]).2.2 = true) : l = (Lib.cut l [58]).1 ++ 58 :: (Lib.cut l [58]).2.1 := by
 by_cases h1 : (58 : UInt8) ∈ l
 · obtain ⟨a, b, rfl, ha⟩ := List.eq_append_cons_of_mem h1
   rw [cut_colon a b (fun c hc e => ha (e ▸ hc))]
 · exfalso
   unfold Lib.cut at h
   rw [index_free (fun c hc e => h1 (e ▸ hc))] at h
   simp at h
theorem contQ_parts : ∀ (m : Nat) (v r v' r' : List UInt8), r.length ≤ m → contQ v r = some (v', r') → (∀ c ∈ v, c ∈ v') ∧ ∃ t, r = t ++ r' ∧ ∀ c ∈ t, c ∈ v' ∨ c = 13 ∨ c = 10
 | m, v, r, v', r', hm, h => by
  cases hb : headBlank r
  · rw [contQ_stop hb] at h
    cases h
    exact ⟨fun c hc => hc, [], rfl, fun c hc => absurd hc (by simp)⟩
  · cases he : endQ false r with
    | none => rw [contQ_none hb he] at h; cases h
    | some n =>
     rw [contQ_go hb he] at h
     have hle := endQ_le _ _ _ he
     match m, hm with
     | 0, hm => omega
     | m + 1, hm =>
      obtain ⟨h1, t, h2, h3⟩ := contQ_parts m _ _ _ _ (by simp; omega) h
      refine ⟨fun c hc => h1 c (List.mem_append_left _ hc), r.take (n - 2) ++ 13 :: 10 :: t, ?_, fun c hc => ?_⟩
      · have := endQ_parts r n he
        rw [h2] at this
        rw [List.append_assoc]; exact this
      · rcases List.mem_append.1 hc with hc | hc
        · exact .inl (h1 c (List.mem_append_right _ hc))
        · rcases List.mem_cons.1 hc with hc | hc
          · exact .inr (.inl hc)
          · rcases List.mem_cons.1 hc with hc | hc
            · exact .inr (.inr hc)
            · exact h3 c hc
theorem trim_mem (v : List UInt8) : ∀ c ∈ v, c ∈ Lib.trimLeftS v [32, 9] ∨ c = 32 ∨ c = 9 := by
 unfold Lib.trimLeftS
 induction v with
 | nil => intro c hc; cases hc
 | cons a v ih =>
  intro c hc
  by_cases ha : ([32, 9] : List UInt8).contains a = true
  · rw [List.dropWhile_cons_of_pos ha]
    rcases List.mem_cons.1 hc with rfl | hc
    · right; simpa using ha
    · exact ih c hc
  · rw [List.dropWhile_cons_of_neg ha]
    exact .inl hc
theorem nameB_lt {n : List UInt8} (h : nameB n = true) : ∀ c ∈ n, c.toNat < 128 := by
 unfold nameB at h
 simp only [Bool.and_eq_true, List.all_eq_true] at h
 intro c hc
 have := h.1 c hc
 unfold nameC at this
 have := of_decide_eq_true this
 omega
theorem valueB_lt {n : List UInt8} (h : valueB n = true) : ∀ c ∈ n, c.toNat < 128 := by
 unfold valueB at h
 simp only [Bool.and_eq_true, List.all_eq_true] at h
 intro c hc
 have := h.1 c hc
 unfold valC at this
 have := of_decide_eq_true this
 omega
theorem nextQ_parts {l : List UInt8} {f : LFld} {r : List UInt8} (h : nextQ l = some (f, r)) : ∃ t, l = t ++ r ∧ ∀ c ∈ t, c.toNat < 128 := by
 unfold nextQ at h
 cases he : endQ false l with
 | none => rw [he] at h; cases h
 | some n =>
  rw [he] at h
  simp only at h
  have hp := endQ_parts l n he
  have hc := cut_parts58 (l.take (n - 2))
  generalize Lib.cut (l.take (n - 2)) [58] = C at h hc
  obtain ⟨nm, V0, fd⟩ := C
  cases hq : contQ V0 (l.drop n) with
  | none => rw [nextIn_none hq] at h; cases h
  | some y =>
   obtain ⟨v, r'⟩ := y
   rw [nextIn_some hq] at h
   split at h
   · rename_i hg
     simp only [Bool.and_eq_true] at hg
     obtain ⟨h1, h2, h3⟩ := hg
     cases h
     obtain ⟨g1, t, g2, g3⟩ := contQ_parts _ _ _ _ _ (Nat.le_refl _) hq
     have hv : ∀ c ∈ v, c.toNat < 128 := fun c hc => by
      rcases trim_mem v c hc with h | rfl | rfl
      · exact valueB_lt h3 c h
      · decide
      · decide
     replace hc : l.take (n - 2) = nm ++ 58 :: V0 := hc h1
     refine ⟨l.take (n - 2) ++ 13 :: 10 :: t, by rw [g2] at hp; rw [List.append_assoc]; exact hp, fun c hm => ?_⟩
     rcases List.mem_append.1 hm with hm | hm
     · rw [hc] at hm
       rcases List.mem_append.1 hm with hm | hm
       · exact nameB_lt h2 c hm
       · rcases List.mem_cons.1 hm with rfl | hm
         · decide
         · exact hv c (g1 c hm)
     · rcases List.mem_cons.1 hm with rfl | hm
       · decide
       · rcases List.mem_cons.1 hm with rfl | hm
         · decide
         · rcases g3 c hm with h | rfl | rfl
           · exact hv c h
           · decide
           · decide
   · cases h
theorem loopQ_parts : ∀ (m : Nat) (acc : List LFld) (l : List UInt8) (fs : List LFld) (b : List UInt8), l.length ≤ m → loopQ acc l = some (fs, b) → ∃ t, l = t ++ 13 :: 10 :: b ∧ ∀ c ∈ t, c.toNat < 128
 | m, acc, l, fs, b, hm, h => by
  cases hp : Lib.hasPrefix l [13, 10]
  · cases hn : nextQ l with
    | none => rw [loopQ_none hp hn] at h; cases h
    | some y =>
     obtain ⟨f, r⟩ := y
     have hr := nextQ_len hn
     rw [loopQ_go hp hn] at h
     obtain ⟨t, h1, h2⟩ := nextQ_parts hn
     match m, hm with
     | 0, hm => omega
     | m + 1, hm =>
      obtain ⟨u, h3, h4⟩ := loopQ_parts m _ _ _ _ (by omega) h
      refine ⟨t ++ u, by rw [List.append_assoc, ← h3, ← h1], fun c hc => ?_⟩
      rcases List.mem_append.1 hc with hc | hc
      · exact h2 c hc
      · exact h4 c hc
  · rw [loopQ_done hp] at h
    cases h
    refine ⟨[], ?_, fun c hc => absurd hc (by simp)⟩
    obtain ⟨t, ht⟩ := List.isPrefixOf_iff_prefix.1 hp
    rw [← ht]; rfl
theorem linesQ_ascii (l : List UInt8) : ∀ c ∈ linesQ l, c.toNat < 128 := by
 unfold linesQ
 cases hs : splitQ l with
 | none => intro c hc; cases hc
 | some y =>
  obtain ⟨fs, b⟩ := y
  simp only
  unfold splitQ at hs
  split at hs
  · rename_i h0
    subst h0
    intro c hc; simp at hc
  · obtain ⟨t, rfl, h2⟩ := loopQ_parts _ _ _ _ _ (Nat.le_refl _) hs
    intro c hc
    have e : (t ++ 13 :: 10 :: b).length - b.length - 2 = t.length := by simp; omega
    rw [e, List.take_left] at hc
    exact h2 c hc
theorem linesQ_len (l : List UInt8) : (linesQ l).length ≤ l.length := by
 unfold linesQ
 cases splitQ l with
 | none => simp
 | some y => simp [List.length_take]; omega
end Go.Proofs.YteahkgbnfbjkhaaGreatDoor
set_option maxRecDepth 20000
set_option linter.unusedVariables false
set_option linter.unusedSimpArgs false
set_option linter.unusedSectionVars false
namespace Go.Proofs.YteahkgbnfbjkhaaGreatDoor
open Go.ChangeShapes Go.WideShapes Go.ChangeAt Go.RowKit
def LinesAt (R : List UInt8) (w : World) (r : Ending) (w' : World) : Prop := ∃ p c, r = .returned (.slice p R.length c) ∧ BytesAt w' p c R ∧ Below w.heap.size w w'
theorem nil_at (w : World) : BytesAt w none 0 [] := ⟨fun _ => ⟨rfl, rfl⟩, Nat.le_refl _, fun h => absurd rfl h⟩
set_option maxRecDepth 20000 in
set_option maxHeartbeats 8000000 in
theorem hlines_at {w : World} {q : Option Addr} {cap : Nat} {l : List UInt8} (hb : BytesAt w q cap l) (hs : l.length ≤ 10000000) (hm : MaxLenAt w) : Calls Tryz.prog 91 #[.slice q l.length cap] w (LinesAt (linesQ l) w) := by
 have hsp := split_calls hb hs hm
 have hcap := hb.cap
 cases hQ : splitQ l with
 | none =>
  have hR : linesQ l = [] := by unfold linesQ; rw [hQ]
  rw [hQ] at hsp
  have hsp := hsp.mono (R' := fun r w' => r = .returned (.tuple #[.slice none 0 0, .slice none 0 0, .bool false]) ∧ Below w.heap.size w w') fun r w' h => by
   obtain ⟨⟨_, h1⟩ | ⟨_, _, _, _, _, _, h1, _⟩, h2⟩ := h
   · exact ⟨h1, h2⟩
   · cases h1
  have hpost : ∀ w', Below w.heap.size w w' → LinesAt (linesQ l) w (.returned (.slice none 0 0)) w' := fun w' hw => ⟨none, 0, by rw [hR]; rfl, by rw [hR]; exact nil_at _, hw⟩
  replace hsp := Lib.hid hsp
  replace hpost := Lib.hid hpost
  clear hb hQ hm hR
  go_enter Tryz.func91, Tryz.ntmps91
  go_wp2_with (go_at_call 40; ((refine (hsp.out).mono ?_); rintro r w1 ⟨rfl, hb⟩; obtain ⟨b1, b1d, rfl⟩ := of_below hb; clear hb))
  go_returns
  exact hpost.out _ (by (repeat' (first | (with_reducible exact Below.refl _ _) | (with_reducible refine Below.app ?_ ?_ _ _) | (with_reducible refine Below.alloc ?_ ?_ _) | (with_reducible refine Below.drew ?_) | (with_reducible refine Below.setCell ?_ ?_ _) | (with_reducible assumption) | omega | (simp; omega) | (simp; done))))
 | some y =>
  obtain ⟨fs, body⟩ := y
  rw [hQ] at hsp
  have hsp := hsp.mono (R' := fun r w' => ∃ p c q k, r = .returned (.tuple #[.slice p fs.length c, .slice q body.length k, .bool true]) ∧ Below w.heap.size w w') fun r w' h => by
   obtain ⟨⟨h1, _⟩ | ⟨_, _, p, c, q, k, h1, h3, _⟩, h2⟩ := h
   · cases h1
   · cases h1; exact ⟨p, c, q, k, h3, h2⟩
  replace hsp := Lib.hid hsp
  by_cases h0 : l = []
  · have hR : linesQ l = [] := by unfold linesQ; rw [hQ, h0]; simp
    have hpost : ∀ w', Below w.heap.size w w' → LinesAt (linesQ l) w (.returned (.slice none 0 0)) w' := fun w' hw => ⟨none, 0, by rw [hR]; rfl, by rw [hR]; exact nil_at _, hw⟩
    replace hpost := Lib.hid hpost
    have hl0 : ((l.length : Int) == 0) = true := by rw [h0]; rfl
    clear hb hQ hm hR h0
    go_enter Tryz.func91, Tryz.ntmps91
    go_wp2_with (go_at_call 40; ((refine hsp.out.mono ?_); rintro r w1 ⟨p, c, q, k, rfl, hb1⟩; obtain ⟨b1, d1, rfl⟩ := of_below hb1; clear hb1))
    go_returns
    exact hpost.out _ (by (repeat' (first | (with_reducible exact Below.refl _ _) | (with_reducible refine Below.app ?_ ?_ _ _) | (with_reducible refine Below.alloc ?_ ?_ _) | (with_reducible refine Below.drew ?_) | (with_reducible refine Below.setCell ?_ ?_ _) | (with_reducible assumption) | omega | (simp; omega) | (simp; done))))
  · have hlen := splitQ_len hQ h0
    obtain ⟨t, ht⟩ : ∃ t, l.length = t + body.length + 2 := ⟨l.length - body.length - 2, by omega⟩
    have hR : linesQ l = l.take t := by unfold linesQ; rw [hQ]; simp only; rw [show l.length - body.length - 2 = t by omega]
    have hti : (l.length : Int) - body.length - 2 = t := by omega
    have hl0 : ((l.length : Int) == 0) = false := by simp; omega
    have hcl := fun (W : World) (hW : Below w.heap.size w W) => clone_at ((hb.below hW).pre (t := t) (by omega)) (by rw [List.length_take]; omega)
    have hpost : ∀ W w' p c, Below w.heap.size w W → BytesAt w' p c (l.take t) → Below W.heap.size W w' → LinesAt (linesQ l) w (.returned (.slice p t c)) w' := fun W w' p c hW hB hw => ⟨p, c, by rw [hR, show (l.take t).length = t by rw [List.length_take]; omega], by rw [hR]; exact hB, hW.trans (hw.mono hW.size)⟩
    rw [show (l.take t).length = t by rw [List.length_take]; omega] at hcl
    replace hpost := Lib.hid hpost
    replace hcl := Lib.hid hcl
    clear hb hQ hm hR h0 ht
    go_enter Tryz.func91, Tryz.ntmps91
    go_wp2_with first
     | (go_at_call 40; ((refine hsp.out.mono ?_); rintro r w1 ⟨p, c, q, k, rfl, hb1⟩; obtain ⟨b1, d1, rfl⟩ := of_below hb1; clear hb1))
     | (go_at_call 44; ((refine (hcl.out _ (by (repeat' (first | (with_reducible exact Below.refl _ _) | (with_reducible refine Below.app ?_ ?_ _ _) | (with_reducible refine Below.alloc ?_ ?_ _) | (with_reducible refine Below.drew ?_) | (with_reducible refine Below.setCell ?_ ?_ _) | (with_reducible assumption) | omega | (simp; omega) | (simp; done))))).mono ?_); rintro r w2 ⟨p2, c2, rfl, hB2, hb2⟩; have hfin := Lib.hid (hpost.out _ _ _ _ (by (repeat' (first | (with_reducible exact Below.refl _ _) | (with_reducible refine Below.app ?_ ?_ _ _) | (with_reducible refine Below.alloc ?_ ?_ _) | (with_reducible refine Below.drew ?_) | (with_reducible refine Below.setCell ?_ ?_ _) | (with_reducible assumption) | omega | (simp; omega) | (simp; done)))) hB2 hb2); clear hB2 hb2))
    go_returns
    exact hfin.out
end Go.Proofs.YteahkgbnfbjkhaaGreatDoor
set_option maxRecDepth 20000
set_option linter.unusedVariables false
set_option linter.unusedSimpArgs false
set_option linter.unusedSectionVars false
namespace Go.Proofs.YteahkgbnfbjkhaaGreatDoor
open Go.ChangeShapes Go.WideShapes Go.ChangeAt Go.RowKit
structure SV where
 st : Int
 tr : Int
 du : Int
 co : Int
def SV.cells (s : SV) : Array Value := #[.int .i64 s.st, .int .i64 s.tr, .int .i64 s.du, .int .i64 s.co]
def IsState (_ : World) (cs : List Value) (s : SV) : Prop := cs = [.int .i64 s.st, .int .i64 s.tr, .int .i64 s.du, .int .i64 s.co] ∧ -9223372036854775808 ≤ s.tr
theorem stays_state : Stays IsState := fun _ h => h
def inB (n lo hi : Int) : Bool := decide (lo ≤ n ∧ n ≤ hi)
def stateB (s : SV) : Bool := inB s.st 0 3 && (inB s.tr 0 65535 && (inB s.du 0 4503599627370496 && (decide (s.co = 0) || inB s.co 200 599)))
end Go.Proofs.YteahkgbnfbjkhaaGreatDoor
set_option maxRecDepth 20000
set_option linter.unusedVariables false
set_option linter.unusedSimpArgs false
set_option linter.unusedSectionVars false
namespace Go.Proofs.YteahkgbnfbjkhaaGreatDoor
open Go.ChangeShapes Go.WideShapes Go.ChangeAt Go.RowKit
structure TV where
 user : Int
 L : ByteArray
 D : ByteArray
structure JV where
 id : Int
 arr : Int
 fL : ByteArray
 fD : ByteArray
 tos : List TV
 sts : List SV
 body : List UInt8
def IsTgt (_ : World) (cs : List Value) (t : TV) : Prop := cs = [.int .i64 t.user, .string t.L, .string t.D] ∧ (t.L.size ≤ maxLen ∧ t.D.size ≤ maxLen) ∧ (-9223372036854775808 ≤ t.user ∧ t.user ≤ 9223372036854775807)
theorem stays_tgt : Stays IsTgt := fun _ h => h
structure JP where
 p4 : Option Addr
 c4 : Nat
 p5 : Option Addr
 c5 : Nat
 p6 : Option Addr
 c6 : Nat
def JV.cells (j : JV) (q : JP) : Array Value := #[.int .i64 j.id, .int .i64 j.arr, .string j.fL, .string j.fD, .slice q.p4 j.tos.length q.c4, .slice q.p5 j.sts.length q.c5, .slice q.p6 j.body.length q.c6]
structure JobAt (w : World) (j : JV) (q : JP) : Prop where
 tos : Shows w 3 IsTgt q.p4 j.tos
 sts : Shows w 4 IsState q.p5 j.sts
 body : BytesAt w q.p6 q.c6 j.body
 nt : j.tos.length ≤ maxLen
 ns : j.sts.length ≤ maxLen
 nb : j.body.length ≤ maxLen
 nL : j.fL.size ≤ maxLen
 nD : j.fD.size ≤ maxLen
theorem JobAt.below {w w' : World} {j : JV} {q : JP} (h : JobAt w j q) (hb : Below w.heap.size w w') : JobAt w' j q :=
 ⟨h.tos.below stays_tgt hb, h.sts.below stays_state hb, h.body.below hb, h.nt, h.ns, h.nb, h.nL, h.nD⟩
def tgtB (t : TV) : Bool := inB t.user 1 999 && goodB t.L t.D
def tosB : List Int → List TV → Bool
 | _, [] => true
 | seen, t :: r => tgtB t && (!seen.contains t.user && tosB (seen ++ [t.user]) r)
def null27B (x y : ByteArray) : Bool := x.toList.isEmpty && y.toList.isEmpty
def fromB (x y : ByteArray) : Bool := null27B x y || goodB x y
def envB (j : JV) : Bool := inB j.id 1 1099511627776 && (inB j.arr 0 4503599627370496 && (inB j.tos.length 1 20 && (fromB j.fL j.fD && tosB [] j.tos)))
def midB (a b c : Nat) : Bool := decide (a = b ∧ c ≤ 32768)
theorem midB_no {a b c : Nat} (h : ¬ (a = b ∧ c ≤ 32768)) : midB a b c = false := decide_eq_false h
theorem midB_yes {a b c : Nat} (h : a = b ∧ c ≤ 32768) : midB a b c = true := decide_eq_true h
def jobB (j : JV) : Bool := envB j && (midB j.sts.length j.tos.length j.body.length && j.sts.all stateB)
def smallT (t : TV) : Bool := decide (t.L.size ≤ 100 ∧ t.D.size ≤ 100)
def lightN (a b c d e : Nat) : Bool := decide (a ≤ 30 ∧ b ≤ 30 ∧ c ≤ 1000 ∧ d ≤ 100 ∧ e ≤ 100)
theorem lightN_no {a b c d e : Nat} (h : ¬ (a ≤ 30 ∧ b ≤ 30 ∧ c ≤ 1000 ∧ d ≤ 100 ∧ e ≤ 100)) : lightN a b c d e = false := decide_eq_false h
theorem lightN_yes {a b c d e : Nat} (h : a ≤ 30 ∧ b ≤ 30 ∧ c ≤ 1000 ∧ d ≤ 100 ∧ e ≤ 100) : lightN a b c d e = true := decide_eq_true h
def lightB (j : JV) : Bool := lightN j.tos.length j.sts.length j.body.length j.fL.size j.fD.size && j.tos.all smallT
theorem light_parts {j : JV} (h : lightB j = true) : (j.tos.length ≤ 30 ∧ j.sts.length ≤ 30 ∧ j.body.length ≤ 1000 ∧ j.fL.size ≤ 100 ∧ j.fD.size ≤ 100) ∧ ∀ i (hi : i < j.tos.length), j.tos[i].L.size ≤ 100 ∧ j.tos[i].D.size ≤ 100 := by
 unfold lightB lightN at h
 rw [Bool.and_eq_true, decide_eq_true_eq, List.all_eq_true] at h
 refine ⟨h.1, fun i hi => ?_⟩
 have := h.2 j.tos[i] (List.getElem_mem hi)
 exact of_decide_eq_true this
theorem cellsJob : Tryz.prog.cellsOf 31 = 7 := by kernel_rfl
theorem cellsTgt : Tryz.prog.cellsOf 60 = 3 := by kernel_rfl
theorem cellsSta : Tryz.prog.cellsOf 37 = 4 := by kernel_rfl
theorem cellsAddr27 : Tryz.prog.cellsOf 26 = 2 := by kernel_rfl
theorem cellsStr27 : Tryz.prog.cellsOf 9 = 1 := by kernel_rfl
theorem cellsInt27 : Tryz.prog.cellsOf 3 = 1 := by kernel_rfl
theorem cellsTs27 : Tryz.prog.cellsOf 27 = 1 := by kernel_rfl
theorem cellsSs27 : Tryz.prog.cellsOf 28 = 1 := by kernel_rfl
theorem cellsBs27 : Tryz.prog.cellsOf 29 = 1 := by kernel_rfl
theorem cellsIs27 : Tryz.prog.cellsOf 22 = 1 := by kernel_rfl
theorem cellsRe27 : Tryz.prog.cellsOf 24 = 2 := by kernel_rfl
section
variable {H : Type} {enc : TypeId × Value → H} {w : World} {spare : Nat → Bool} {base : Nat} {held : Bool}
theorem isState_of {n : Nat} {cs : List Value} {y : DataW H × List MemPlace} (h : DataW.trod enc Tryz.prog w base spare held n 37 cs = some y) : ∃ s, IsState w cs s := by
 obtain ⟨hl, hf⟩ := field_of Tryz.underlying37 h
 rw [cellsSta] at hl
 match cs, hl with
 | [c0, c1, c2, c3], _ =>
  obtain ⟨m0, y0, h0⟩ := hf 0 _ rfl 1 cellsInt27
  obtain ⟨m1, y1, h1⟩ := hf 1 _ rfl 1 cellsInt27
  obtain ⟨m2, y2, h2⟩ := hf 2 _ rfl 1 cellsInt27
  obtain ⟨m3, y3, h3⟩ := hf 3 _ rfl 1 cellsInt27
  obtain ⟨z0, e0, _⟩ := isInt_of (w := w) Tryz.underlying3 h0
  obtain ⟨z1, e1, b1, _⟩ := isInt_of (w := w) Tryz.underlying3 h1
  obtain ⟨z2, e2, _⟩ := isInt_of (w := w) Tryz.underlying3 h2
  obtain ⟨z3, e3, _⟩ := isInt_of (w := w) Tryz.underlying3 h3
  simp at e0 e1 e2 e3
  subst e0; subst e1; subst e2; subst e3
  exact ⟨⟨z0, z1, z2, z3⟩, rfl, b1⟩
theorem isTgt_of {n : Nat} {cs : List Value} {y : DataW H × List MemPlace} (h : DataW.trod enc Tryz.prog w base spare held n 60 cs = some y) : ∃ s, IsTgt w cs s := by
 obtain ⟨hl, hf⟩ := field_of Tryz.underlying60 h
 rw [cellsTgt] at hl
 match cs, hl with
 | [c0, c1, c2], _ =>
  obtain ⟨m0, y0, h0⟩ := hf 0 _ rfl 1 cellsInt27
  obtain ⟨m1, y1, h1⟩ := hf 1 _ rfl 2 cellsAddr27
  obtain ⟨_, ha⟩ := field_of Tryz.underlying26 h1
  obtain ⟨ma, ya, h6⟩ := ha 0 _ rfl 1 cellsStr27
  obtain ⟨mb, yb, h7⟩ := ha 1 _ rfl 1 cellsStr27
  obtain ⟨z0, e0, b0⟩ := isInt_of (w := w) Tryz.underlying3 h0
  obtain ⟨s2, e2, b2⟩ := isStr_of (w := w) Tryz.underlying9 h6
  obtain ⟨s3, e3, b3⟩ := isStr_of (w := w) Tryz.underlying9 h7
  simp at e0 e2 e3
  subst e0; subst e2; subst e3
  exact ⟨⟨z0, s2, s3⟩, rfl, ⟨b2, b3⟩, b0⟩
theorem open_job {r : Reach} {b0 : Nat} {v : Value} {d : DataW H} {ps : List MemPlace} (hv : Value.okWide Tryz.prog w r b0 31 v) (h : DataW.Trod enc Tryz.prog w base spare held 31 v d ps) :
 ∃ j q, v = .agg (j.cells q) ∧ JobAt w j q := by
 obtain ⟨cs, rfl, hl, hf⟩ := open_agg Tryz.underlying31 hv h
 rw [cellsJob] at hl
 match cs, hl with
 | [c0, c1, c2, c3, c4, c5, c6], _ =>
  obtain ⟨m0, y0, h0⟩ := hf 0 _ rfl 1 cellsInt27
  obtain ⟨m1, y1, h1⟩ := hf 1 _ rfl 1 cellsInt27
  obtain ⟨m2, y2, h2⟩ := hf 2 _ rfl 2 cellsAddr27
  obtain ⟨m3, y3, h3⟩ := hf 3 _ rfl 1 cellsTs27
  obtain ⟨m4, y4, h4⟩ := hf 4 _ rfl 1 cellsSs27
  obtain ⟨m5, y5, h5⟩ := hf 5 _ rfl 1 cellsBs27
  obtain ⟨_, ha⟩ := field_of Tryz.underlying26 h2
  obtain ⟨ma, ya, h6⟩ := ha 0 _ rfl 1 cellsStr27
  obtain ⟨mb, yb, h7⟩ := ha 1 _ rfl 1 cellsStr27
  obtain ⟨z0, e0, _⟩ := isInt_of (w := w) Tryz.underlying3 h0
  obtain ⟨z1, e1, _⟩ := isInt_of (w := w) Tryz.underlying3 h1
  obtain ⟨s2, e2, b2⟩ := isStr_of (w := w) Tryz.underlying9 h6
  obtain ⟨s3, e3, b3⟩ := isStr_of (w := w) Tryz.underlying9 h7
  obtain ⟨p4, xt, k4, e4, l4, l4', ht⟩ := open_shows Tryz.underlying27 cellsTgt (by omega) isTgt_of h3
  obtain ⟨p5, xs, k5, e5, l5, l5', hs⟩ := open_shows Tryz.underlying28 cellsSta (by omega) isState_of h4
  obtain ⟨p6, bs, k6, e6, hb, l6⟩ := bytes_of_cells h5
  simp at e0 e1 e2 e3 e4 e5 e6
  subst e0; subst e1; subst e2; subst e3; subst e4; subst e5; subst e6
  exact ⟨⟨z0, z1, s2, s3, xt, xs, bs⟩, ⟨p4, k4, p5, k5, p6, k6⟩, rfl, ht, hs, hb, Nat.le_trans l4 l4', Nat.le_trans l5 l5', Nat.le_trans hb.cap l6, b2, b3⟩
theorem open_retry27 {r : Reach} {b0 : Nat} {v : Value} {d : DataW H} {ps : List MemPlace} (hv : Value.okWide Tryz.prog w r b0 24 v) (h : DataW.Trod enc Tryz.prog w base spare held 24 v d ps) :
 ∃ p zs cap e, v = .agg #[.slice p zs.length cap, .int .i64 e] ∧ IntsAt w p zs ∧ zs.length ≤ maxLen := by
 obtain ⟨cs, rfl, hl, hf⟩ := open_agg Tryz.underlying24 hv h
 rw [cellsRe27] at hl
 match cs, hl with
 | [c0, c1], _ =>
  obtain ⟨m0, y0, h0⟩ := hf 0 _ rfl 1 cellsIs27
  obtain ⟨m1, y1, h1⟩ := hf 1 _ rfl 1 cellsInt27
  obtain ⟨p, zs, cap, e0, e1, e2, e3⟩ := open_shows Tryz.underlying22 cellsInt27 (by omega) (isInt_of Tryz.underlying3) h0
  obtain ⟨z, e4, _⟩ := isInt_of (w := w) Tryz.underlying3 h1
  simp at e0 e4
  subst e0; subst e4
  exact ⟨p, zs, cap, z, rfl, ints_of_shows e3, by omega⟩
end
end Go.Proofs.YteahkgbnfbjkhaaGreatDoor
