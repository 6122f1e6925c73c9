/-
  For dot.DotPieces: parts of a slice; a decoder fed with a row of the caller's own; the row turned behind it; how much is used.
-/
import Derived.Test.YtnoiaeajpjhldaaDotDecodes
import Derived.Test.YtnoiaeajpjhldaaAppendB
namespace Go.Proofs.Ytnoiaeajpjhldaa
open Go.ChangeShapes Go.WideShapes Go.ChangeAt Go.RowKit

theorem BytesAt.cut {w : World} {q : Option Addr} {cap : Nat} {l : List UInt8} (h : BytesAt w q cap l) {a t : Nat} (ha : a ≤ t) (ht : t ≤ l.length) :
    BytesAt w (if cap = a then q else q.map (·.add a)) (cap - a) ((l.drop a).take (t - a)) := by
  have hlen : ((l.drop a).take (t - a)).length = t - a := by rw [List.length_take, List.length_drop]; omega
  refine ⟨fun hn => ?_, by rw [hlen]; have := h.cap; omega, fun h0 => ?_⟩
  · have hq : q = none := by
      split at hn
      · exact hn
      · simpa using hn
    obtain ⟨rfl, rfl⟩ := h.nil hq
    simp
  · have hne : l ≠ [] := by intro e; subst e; simp at h0
    have hpos : 0 < t - a := by rw [← hlen]; exact List.length_pos_iff.2 h0
    have hcap := h.cap
    obtain ⟨bb, off, rfl, h2, h3⟩ := h.cell hne
    refine ⟨bb, off + a, ?_, h2, fun i hi => ?_⟩
    · rw [if_neg (by omega)]
      simp [Addr.add]
    · rw [hlen] at hi
      rw [show off + a + i = off + (a + i) by omega, h3 (a + i) (by omega)]
      simp
theorem BytesAt.pre {w : World} {q : Option Addr} {cap : Nat} {l : List UInt8} (h : BytesAt w q cap l) {t : Nat} (ht : t ≤ l.length) : BytesAt w q cap (l.take t) := by
  refine ⟨fun hn => ?_, by rw [List.length_take]; have := h.cap; omega, fun h0 => ?_⟩
  · obtain ⟨rfl, rfl⟩ := h.nil hn; simp
  · obtain ⟨bb, off, h1, h2, h3⟩ := h.cell (by intro e; subst e; simp at h0)
    refine ⟨bb, off, h1, h2, fun i hi => ?_⟩
    rw [List.length_take] at hi
    rw [h3 i (by omega)]
    simp
theorem fed_all : ∀ (l : List UInt8) (D : Dec), (D.feed l).1.st ≠ 5 → (D.feed l).2 = l.length
  | [], _, _ => rfl
  | c :: l, D, h => by
    by_cases h5 : D.st = 5
    · rw [feed_done h5] at h; exact absurd h5 h
    · rw [Dec.feed, if_neg h5] at h ⊢
      simp only [List.length_cons]
      rw [fed_all l _ h]
theorem line_bounds : ∀ (l : List UInt8) (D : Dec), D.st ≤ 5 → (D.feed l).1.line ≤ D.line + 2 * l.length ∧ (D.feed l).1.st ≤ 5
  | [], _, h => ⟨by simp [Dec.feed], h⟩
  | c :: l, D, h => by
    obtain ⟨a1, a2, a3⟩ := step_bounds D c h
    obtain ⟨b1, b2⟩ := line_bounds l (D.step c) a1
    by_cases h5 : D.st = 5
    · rw [feed_done h5]; exact ⟨by simp, h⟩
    · rw [Dec.feed, if_neg h5]
      simp only [List.length_cons]
      exact ⟨by omega, b2⟩
/-- A piece more: what it makes, and how much of it is used. -/
theorem piece {l : List UInt8} {a t : Nat} (ha : a ≤ t) (ht : t ≤ l.length) :
    ((Dec.zero.feed (l.take a)).1.feed ((l.drop a).take (t - a))).1 = (Dec.zero.feed (l.take t)).1 ∧
    (((Dec.zero.feed (l.take a)).1.feed ((l.drop a).take (t - a))).2 : Int) = min (t : Int) (decR (l.take t) Rdg.zero).used - min (a : Int) (decR (l.take t) Rdg.zero).used := by
  have e : l.take t = l.take a ++ (l.drop a).take (t - a) := by
    have := List.take_add (l := l) (i := a) (j := t - a)
    rwa [show a + (t - a) = t by omega] at this
  have hf := feed_append (l.take a) ((l.drop a).take (t - a)) Dec.zero
  rw [← e] at hf
  obtain ⟨_, _, _, f4, _⟩ := feed_ref (l.take t)
  rw [← f4, hf]
  refine ⟨rfl, ?_⟩
  have hla : (l.take a).length = a := by rw [List.length_take]; omega
  have hlt : ((l.drop a).take (t - a)).length = t - a := by rw [List.length_take, List.length_drop]; omega
  have h1 := feed_le (l.take a) Dec.zero
  have h2 := feed_le ((l.drop a).take (t - a)) (Dec.zero.feed (l.take a)).1
  by_cases h5 : (Dec.zero.feed (l.take a)).1.st = 5
  · rw [feed_done h5]
    simp only [Nat.add_zero]
    omega
  · have := fed_all (l.take a) Dec.zero h5
    simp only []
    omega
theorem feed_own {most b B b0 : Nat} {D : Dec} {v : Value} {w : World} {p : Option Addr} {c n : Nat} {L : List UInt8} (h : DecIs most b B D v w) (hown : w.ownsRow b0 5 1 (.slice p n c) n (Lib.byteCells L)) (hn : n = L.length)
    (hb : b < b0) (hv : ∀ k, v.ownBlock = some k → k < b0) (hB : B ≤ w.heap.size) (hst : D.st ≤ 5) (hline : D.line ≤ 100000000) (hall : D.all.length ≤ 100000000) (hlen : L.length ≤ 100000000) (hmost : most ≤ 9223372036854775807) :
    Calls Try.prog 17 #[.pointer (some ⟨b, 0, none⟩), .slice p n c] w fun r w' => r = .returned (.tuple #[.int .i64 ((D.feed L).2 : Int), .bool (decide ((D.feed L).1.st = 5))]) ∧ DecPost most b B (D.feed L).1 v w w' := by
  subst hn
  by_cases h0 : L = []
  · subst h0
    refine (feed_none p c h).mono fun e w' ⟨h1, h2⟩ => ⟨h1, ?_⟩
    subst h2
    exact ⟨_, h, Moves.refl _ _ _⟩
  · have hBy := own_bytesAt hown
    obtain ⟨bb, off, rfl, h2, h3⟩ := hBy.cell h0
    have hg : b0 ≤ bb := (hown.lt bb rfl).1
    exact feed_calls L _ c bb off h ⟨rfl, h2, by omega, fun e => by have := hv bb e; omega, h3⟩ hB hst hline hall hlen hmost
/-- A row of bytes, whatever they are now. -/
def RowOf (w : World) (g n : Nat) : Prop := ∃ (cur : Array Value) (T : TypeId), w.heap[g]? = some (.cells cur T (0, 0)) ∧ ∀ j, j < n → ∃ x : Int, 0 ≤ x ∧ x ≤ 255 ∧ cur[j]? = some (.int .u8 x)
theorem own_rowOf {w : World} {b0 n c g : Nat} {L : List UInt8} (h : w.ownsRow b0 5 1 (.slice (some ⟨g, 0, none⟩) n c) n (Lib.byteCells L)) (hn : n = L.length) : RowOf w g n := by
  subst hn
  rcases h.2 with ⟨hv, _⟩ | ⟨g', cap, cur, hv, _, hg, _, _, _, ht⟩
  · cases hv
  · simp at hv
    obtain ⟨rfl, rfl⟩ := hv
    refine ⟨cur, _, hg, fun j hj => ⟨(L[j].toNat : Int), by omega, by have := L[j].toNat_lt; omega, ?_⟩⟩
    have h1 : (cur.toList.take (L.length * 1))[j]? = cur[j]? := by rw [List.getElem?_take, if_pos (by omega)]; simp
    rw [← h1, ht]
    simp [Lib.byteCells, hj]
theorem RowOf.cell {w : World} {g n j : Nat} (h : RowOf w g n) (hj : j < n) : ∃ x : Int, 0 ≤ x ∧ x ≤ 255 ∧ w.cell? ⟨g, j, none⟩ = some (.int .u8 x) ∧ w.frozen? ⟨g, j, none⟩ = false ∧ g < w.heap.size := by
  obtain ⟨cur, T, hg, hc⟩ := h
  obtain ⟨x, h1, h2, h3⟩ := hc j hj
  exact ⟨x, h1, h2, by simp [World.cell?, hg, h3], by simp [World.frozen?, hg], (Array.getElem?_eq_some_iff.1 hg).1⟩
theorem RowOf.set {w : World} {g n j : Nat} {y : Int} (h : RowOf w g n) (hy : 0 ≤ y ∧ y ≤ 255) : RowOf (w.setCell ⟨g, j, none⟩ (.int .u8 y)) g n := by
  obtain ⟨cur, T, hg, hc⟩ := h
  refine ⟨cur.setIfInBounds j (.int .u8 y), T, by simp [World.setCell, Array.getElem?_modify, hg], fun i hi => ?_⟩
  obtain ⟨x, h1, h2, h3⟩ := hc i hi
  by_cases e : j = i
  · subst e
    have : j < cur.size := (Array.getElem?_eq_some_iff.1 h3).1
    exact ⟨y, hy.1, hy.2, by simp [this]⟩
  · exact ⟨x, h1, h2, by rw [Array.getElem?_setIfInBounds_ne e]; exact h3⟩
/-- Only block g is turned. -/
structure But (g : Nat) (w w' : World) : Prop where
  os : w'.os = w.os
  tape : w'.tape = w.tape
  output : w'.output = w.output
  size : w'.heap.size = w.heap.size
  block : ∀ k, k ≠ g → w'.heap[k]? = w.heap[k]?
theorem But.refl (g : Nat) (w : World) : But g w w := ⟨rfl, rfl, rfl, rfl, fun _ _ => rfl⟩
theorem But.set {g : Nat} {w w' : World} (h : But g w w') (j : Nat) (v : Value) : But g w (w'.setCell ⟨g, j, none⟩ v) :=
  ⟨h.os, h.tape, h.output, by simp [World.setCell, h.size], fun k hk => by rw [← h.block k hk]; simp [World.setCell, Array.getElem?_modify, Ne.symm hk]⟩
theorem But.below {g B : Nat} {w w' : World} (h : But g w w') (hg : B ≤ g) : Below B w w' := ⟨h.os, h.tape, h.output, by rw [h.size]; exact Nat.le_refl _, fun k hk => h.block k (by omega)⟩
theorem DecIs.but {most b B g : Nat} {D : Dec} {v : Value} {w w' : World} (h : DecIs most b B D v w) (hb : But g w w') (h1 : b ≠ g) (h2 : v.ownBlock ≠ some g) : DecIs most b B D v w' := by
  obtain ⟨⟨T, hr⟩, ho, hn⟩ := h
  refine ⟨⟨T, (hb.block b h1).trans hr⟩, ?_, hn⟩
  exact ho.kept (row := some g) ⟨hb.os, hb.tape, hb.output, by rw [hb.size]; exact Nat.le_refl _, fun k _ hk => hb.block k (fun e => hk (by rw [e]))⟩ (.inr h2)
theorem DecIs.below {most b B : Nat} {D : Dec} {v : Value} {w w' : World} (h : DecIs most b B D v w) (hb : Below w.heap.size w w') : DecIs most b B D v w' := by
  obtain ⟨⟨T, hr⟩, ho, hn⟩ := h
  exact ⟨⟨T, (hb.block b (Array.getElem?_eq_some_iff.1 hr).1).trans hr⟩, own_below ho hb, hn⟩
theorem RowOf.moves {w w' : World} {b g n : Nat} {v v' : Value} (h : RowOf w g n) (hm : Moves b v v' w w') (h1 : g ≠ b) (h2 : v.ownBlock ≠ some g) : RowOf w' g n := by
  obtain ⟨cur, T, hg, hc⟩ := h
  exact ⟨cur, T, (hm.block g (Array.getElem?_eq_some_iff.1 hg).1 h1 h2).trans hg, hc⟩
/-- The law's state behind a piece: the decoder, and the piece's own row. -/
def PieceAt (M b0 : Nat) (D : Dec) (w : World) (p : Option Addr) (n : Nat) (v : Value) (wk : World) : Prop :=
  DecIs M b0 b0 D v wk ∧ Below w.heap.size w wk ∧ (0 < n → ∃ g, p = some ⟨g, 0, none⟩ ∧ w.heap.size ≤ g ∧ g ≠ b0 ∧ v.ownBlock ≠ some g ∧ RowOf wk g n)
theorem PieceAt.made {M b0 : Nat} {D D' : Dec} {w w3 w4 wr : World} {p : Option Addr} {n c : Nat} {v v4 : Value} {L : List UInt8} (hd : DecIs M b0 b0 D v wr) (h3 : Below wr.heap.size wr w3) (hown : w3.ownsRow wr.heap.size 5 1 (.slice p n c) n (Lib.byteCells L)) (hn : n = L.length)
    (hd4 : DecIs M b0 b0 D' v4 w4) (hm : Moves b0 v v4 w3 w4) (hbw : Below w.heap.size w wr) (hb0 : w.heap.size ≤ b0) : PieceAt M b0 D' w p n v4 w4 := by
  have hb0r : b0 < wr.heap.size := hd.row.lt
  have hvb : ∀ k, v.ownBlock = some k → b0 ≤ k ∧ k < wr.heap.size := fun k hk => hd.own.lt k hk
  refine ⟨hd4, ?_, fun h0 => ?_⟩
  · exact (hbw.trans (h3.mono hbw.size)).trans (hm.below hb0 (fun k hk => by have := hvb k hk; omega) (by have := hbw.size; have := h3.size; omega))
  · rcases hown.2 with ⟨_, hn0⟩ | ⟨g, cap, cur, hv, hg, hh, _⟩
    · omega
    · simp at hv
      obtain ⟨rfl, rfl⟩ := hv
      refine ⟨g, rfl, by have := hbw.size; omega, by omega, fun e => ?_, (own_rowOf hown hn).moves hm (by omega) (fun e => by have := hvb g e; omega)⟩
      rcases hm.moved g e with h1 | h1
      · have := hvb g h1; omega
      · have := (Array.getElem?_eq_some_iff.1 hh).1; omega
theorem PieceAt.set {M b0 : Nat} {D : Dec} {w wk : World} {n g j : Nat} {v : Value} {y : Int} (h : PieceAt M b0 D w (some ⟨g, 0, none⟩) n v wk) (h0 : 0 < n) (hy : 0 ≤ y ∧ y ≤ 255) : PieceAt M b0 D w (some ⟨g, 0, none⟩) n v (wk.setCell ⟨g, j, none⟩ (.int .u8 y)) := by
  obtain ⟨h1, h2, h3⟩ := h
  obtain ⟨g', e, h4, h5, h6, h7⟩ := h3 h0
  simp at e
  subst e
  refine ⟨h1.but ((But.refl _ _).set j _) h5.symm h6, h2.trans (((But.refl g wk).set j _).below h4), fun _ => ⟨g, rfl, h4, h5, h6, h7.set hy⟩⟩
theorem text_text {most b B : Nat} {D : Dec} {v : Value} {w : World} (h : DecIs most b B D v w) (hall : D.all.length ≤ 1000000000) :
    Calls Try.prog 18 #[.pointer (some ⟨b, 0, none⟩)] w fun r w' => ∃ x, r = .returned x ∧ (∃ p c, x = .agg #[.slice p (D.all.take most).length c, .bool D.long, .bool D.bare, .bool (decide (most < D.all.length))] ∧ TextOf w' (.slice p (D.all.take most).length c) (D.all.take most)) ∧ Below w.heap.size w w' :=
  (text_calls h hall).mono fun _ _ ⟨p, c, h1, h2, h3⟩ => ⟨_, h1, ⟨p, c, rfl, own_textOf h2⟩, h3⟩
end Go.Proofs.Ytnoiaeajpjhldaa
