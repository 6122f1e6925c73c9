/-
  dot.NewDecoder, Text, Decode: what they do.
-/
import Derived.Test.YtnoiaeajpjhldaaDotFeed
namespace Go.Proofs.Ytnoiaeajpjhldaa
open Go.ChangeShapes Go.WideShapes Go.ChangeAt Go.RowKit

/-- nothing comes -/
theorem feed_none {most b B : Nat} {D : Dec} {v : Value} {w : World} (q : Option Addr) (cap : Nat) (h : DecIs most b B D v w) :
    Calls Try.prog 17 #[.pointer (some ⟨b, 0, none⟩), .slice q 0 cap] w fun r w' => r = .returned (.tuple #[.int .i64 0, .bool (decide (D.st = 5))]) ∧ w = w' := by
  have hdn := Lib.hid (done_calls h)
  go_enter Try.func17, Try.ntmps17
  go_wp2
  go_loop [4] (fun u => u = .int .i64 0) (fun _ => 0)
  case atStart => exact rfl
  case round =>
    subst hrel
    go_wp2_with (go_at_call 19; ((refine (hdn.out).mono ?_); rintro _ _ ⟨rfl, rfl⟩))
    go_returns
    exact ⟨rfl, rfl⟩
theorem new_calls (most : Int) (w : World) : Calls Try.prog 16 #[.int .i64 most] w fun r w' => r = .returned (.pointer (some ⟨w.heap.size, 0, none⟩)) ∧ w' = w.alloc (.cells #[.int .i64 (max most 0), .int .i64 0, .int .i64 0, .slice none 0 0, .bool false, .bool false, .bool false] 49) := by
  by_cases h : 0 ≤ most
  · have h2 : max most 0 = most := Int.max_eq_left h
    rw [h2]
    go_enter Try.func16, Try.ntmps16
    go_wp2
    go_returns
    exact ⟨rfl, rfl⟩
  · have h2 : max most 0 = 0 := Int.max_eq_right (by omega)
    rw [h2]
    go_enter Try.func16, Try.ntmps16
    go_wp2
    go_returns
    exact ⟨rfl, rfl⟩
theorem clone_calls {B n : Nat} {v : Value} {l : List UInt8} {w : World} (h : w.ownsRow B 5 1 v n (Lib.byteCells l)) (hn : l.length = n) (hbig : n ≤ 140737488355328) :
    Calls Try.prog 26 #[v] w fun e w' => ∃ p cap, e = .returned (.slice p n cap) ∧ w'.ownsRow w.heap.size 5 1 (.slice p n cap) n (Lib.byteCells l) ∧ Below w.heap.size w w' := by
  rcases h.2 with ⟨rfl, rfl⟩ | ⟨g, cap, cur, rfl, _, hg, _, _, _, ht⟩
  · have hl : l = [] := List.eq_nil_of_length_eq_zero hn
    subst hl
    exact (Try.bytes_Clone_nil 0 0 w).mono fun e w' ⟨h1, h2⟩ => ⟨none, 0, h1, by rw [h2]; exact World.ownsRow_nil _ _ _ _, by rw [h2]; exact Below.refl _ _⟩
  · have hc : ∀ i, i < n → w.cell? ((⟨g, 0, none⟩ : Addr).add i) = some (.int .u8 ((l.map fun c => (c.toNat : Int)).getD i 0)) := fun i hi => by
      have := h.cells (g := g) rfl i (.int .u8 ((l.map fun c => (c.toNat : Int)).getD i 0)) (by
        have hil : i < l.length := by omega
        simp [Lib.byteCells, hil])
      exact this
    refine (Try.bytes_Clone_at ⟨g, 0, none⟩ n cap (l.map fun c => (c.toNat : Int)) w (by simpa using hn) hbig hc).mono fun e w' ⟨v', h1, h2, _, h4⟩ => ?_
    obtain ⟨p, c2, rfl⟩ := own_len h2
    refine ⟨p, c2, h1, ?_, h4⟩
    have e : (l.map fun c => (c.toNat : Int)).map (Value.int .u8) = Lib.byteCells l := by simp [Lib.byteCells]
    rwa [e] at h2
theorem own_new {X Y : World} {bs : Array Obj} {d e' : Nat} {B : Nat} {e : TypeId} {v : Value} {n : Nat} {xs : List Value} (h : (app X bs d).ownsRow B e 1 v n xs) (hs : X.heap.size = Y.heap.size) (hB : X.heap.size ≤ B) : (app Y bs e').ownsRow B e 1 v n xs := by
  refine ⟨h.1, ?_⟩
  rcases h.2 with h1 | ⟨g, cap, cur, h1, h2, h3, h4⟩
  · exact .inl h1
  · refine .inr ⟨g, cap, cur, h1, h2, ?_, h4⟩
    rw [← h3]
    show (Y.heap ++ bs)[g]? = (X.heap ++ bs)[g]?
    rw [Array.getElem?_append_right (by omega), Array.getElem?_append_right (by omega), hs]
theorem own_base {w : World} {B B' : Nat} {e : TypeId} {v : Value} {n : Nat} {xs : List Value} (h : w.ownsRow B e 1 v n xs) (hB : B' ≤ B) : w.ownsRow B' e 1 v n xs := by
  refine ⟨h.1, ?_⟩
  rcases h.2 with h1 | ⟨g, cap, cur, h1, h2, h3⟩
  · exact .inl h1
  · exact .inr ⟨g, cap, cur, h1, by omega, h3⟩
def TextPost (most : Nat) (D : Dec) (w : World) (r : Ending) (w' : World) : Prop := ∃ p cap, r = .returned (.agg #[.slice p (D.all.take most).length cap, .bool D.long, .bool D.bare, .bool (decide (most < D.all.length))]) ∧
  w'.ownsRow w.heap.size 5 1 (.slice p (D.all.take most).length cap) (D.all.take most).length (Lib.byteCells (D.all.take most)) ∧ Below w.heap.size w w'
set_option maxHeartbeats 4000000 in
theorem text_calls {most b B : Nat} {D : Dec} {v : Value} {w : World} (h : DecIs most b B D v w) (hall : D.all.length ≤ 1000000000) : Calls Try.prog 18 #[.pointer (some ⟨b, 0, none⟩)] w (TextPost most D w) := by
  have hlen : (D.all.take most).length ≤ 140737488355328 := by rw [List.length_take]; omega
  have hown := h.own
  obtain ⟨p, cap, rfl⟩ := own_len h.own
  obtain ⟨T, hT⟩ := h.row
  have c3 := cell_of_row w b 3 _ T (0, 0) hT
  have c4 := cell_of_row w b 4 _ T (0, 0) hT
  have c5 := cell_of_row w b 5 _ T (0, 0) hT
  have c6 := cell_of_row w b 6 _ T (0, 0) hT
  have hb : b < w.heap.size := h.row.lt
  unfold decCells at c3 c4 c5 c6
  clear hT h
  have hpost : ∀ r w', (∃ p cap, r = Ending.returned (.agg #[.slice p (D.all.take most).length cap, .bool D.long, .bool D.bare, .bool (decide (most < D.all.length))]) ∧
    w'.ownsRow w.heap.size 5 1 (.slice p (D.all.take most).length cap) (D.all.take most).length (Lib.byteCells (D.all.take most)) ∧ Below w.heap.size w w') → TextPost most D w r w' := fun r w' h => h
  have hcl := fun (o1 o2 : Obj) => clone_calls ((hown.alloc o1).alloc o2) rfl hlen
  generalize hn : (D.all.take most).length = n at *
  generalize Lib.byteCells (D.all.take most) = cs at *
  generalize decide (most < D.all.length) = la at *
  replace hcl := Lib.hid hcl
  replace hpost := Lib.hid hpost
  clear hn hown
  go_enter Try.func18, Try.ntmps18
  go_wp2_with (go_at_call 26; ((refine (hcl.out _ _).mono ?_); rintro r w1 ⟨p2, cap2, rfl, ho, hbw⟩; obtain ⟨bs, e, rfl⟩ := of_below hbw; clear hbw))
  go_returns
  refine hpost.out _ _ ⟨p2, cap2, rfl, ?_, by (repeat' (first | (with_reducible exact Below.refl _ _) | (with_reducible refine Below.app ?_ ?_ _ _) | (with_reducible refine Below.alloc ?_ ?_ _) | (with_reducible refine Below.drew ?_) | (with_reducible refine Below.setCell ?_ ?_ _) | (with_reducible assumption) | omega | (simp; omega) | (simp; done)))⟩
  refine own_base (own_new ho ?_ ?_) ?_
  · simp
  · simp
  · simp; omega
def DecodePost (most : Nat) (l : List UInt8) (w : World) (r : Ending) (w' : World) : Prop := ∃ p cap, r = .returned (.tuple #[.agg #[.slice p ((Dec.zero.feed l).1.all.take most).length cap, .bool (Dec.zero.feed l).1.long, .bool (Dec.zero.feed l).1.bare, .bool (decide (most < (Dec.zero.feed l).1.all.length))], .int .i64 ((Dec.zero.feed l).2 : Int), .bool (decide ((Dec.zero.feed l).1.st = 5))]) ∧
  w'.ownsRow w.heap.size 5 1 (.slice p ((Dec.zero.feed l).1.all.take most).length cap) ((Dec.zero.feed l).1.all.take most).length (Lib.byteCells ((Dec.zero.feed l).1.all.take most)) ∧ Below w.heap.size w w'
theorem feed_bounds : ∀ (l : List UInt8) (D : Dec), D.st ≤ 5 → (D.feed l).1.all.length ≤ D.all.length + 2 * l.length
  | [], D, _ => by simp [Dec.feed]
  | c :: l, D, h => by
    obtain ⟨a1, a2, a3⟩ := step_bounds D c h
    have := feed_bounds l (D.step c) a1
    by_cases h5 : D.st = 5
    · rw [feed_done h5]; simp
    · rw [Dec.feed, if_neg h5]
      simp only [List.length_cons]
      omega
theorem new_dec (M : Nat) (w : World) : DecIs M w.heap.size w.heap.size Dec.zero (.slice none 0 0) (w.alloc (.cells #[.int .i64 (M : Int), .int .i64 0, .int .i64 0, .slice none 0 0, .bool false, .bool false, .bool false] 49)) := by
  refine ⟨?_, ?_, by simp [Value.ownBlock]⟩
  · have e : decCells M Dec.zero (.slice none 0 0) = #[.int .i64 (M : Int), .int .i64 0, .int .i64 0, .slice none 0 0, .bool false, .bool false, .bool false] := by
      unfold decCells Dec.zero
      simp
    rw [e]
    exact RowIs.new_at _ _ _ _ rfl
  · have : (Dec.zero.all.take M) = [] := by unfold Dec.zero; simp
    rw [this]
    exact World.ownsRow_nil _ _ _ _
theorem old_row {X w1 w2 : World} {k b : Nat} {v v1 : Value} {C : Array Value} (h : RowIs X k C) (hm : Moves b v v1 X w1) (hk : k ≠ b) (hv : v.ownBlock ≠ some k) (hb : Below w1.heap.size w1 w2) : RowIs w2 k C := by
  obtain ⟨T, hT⟩ := h
  have hlt : k < X.heap.size := (Array.getElem?_eq_some_iff.1 hT).1
  exact ⟨T, (hb.block k (Nat.lt_of_lt_of_le hlt hm.size)).trans ((hm.block k hlt hk hv).trans hT)⟩
set_option maxHeartbeats 4000000 in
theorem decode_calls (l : List UInt8) (q : Option Addr) (cap : Nat) (most : Int) (M : Nat) (hM : max most 0 = (M : Int)) (hm2 : most ≤ 9223372036854775807) (hlen : l.length ≤ 100000000) (w : World)
    (hl : l ≠ [] → ∃ bb off, q = some ⟨bb, off, none⟩ ∧ bb < w.heap.size ∧ ∀ i (h : i < l.length), w.cell? ⟨bb, off + i, none⟩ = some (.int .u8 (l[i].toNat : Int))) :
    Calls Try.prog 13 #[.slice q l.length cap, .int .i64 most] w (DecodePost M l w) := by
  have hn := fun o => new_calls most (w.alloc o)
  rw [hM] at hn
  have hd := fun o => new_dec M (w.alloc o)
  have hMb : M ≤ 9223372036854775807 := by omega
  have hfb := feed_bounds l Dec.zero (by decide)
  have hz : Dec.zero.all.length = 0 := rfl
  rw [hz] at hfb
  -- what Feed leaves, in both cases
  have hf : ∀ o, Calls Try.prog 17 #[.pointer (some ⟨w.heap.size + 1, 0, none⟩), .slice q l.length cap] ((w.alloc o).alloc (.cells #[.int .i64 (M : Int), .int .i64 0, .int .i64 0, .slice none 0 0, .bool false, .bool false, .bool false] 49))
      fun r w' => r = .returned (.tuple #[.int .i64 ((Dec.zero.feed l).2 : Int), .bool (decide ((Dec.zero.feed l).1.st = 5))]) ∧ DecPost M (w.heap.size + 1) (w.heap.size + 1) (Dec.zero.feed l).1 (.slice none 0 0) ((w.alloc o).alloc (.cells #[.int .i64 (M : Int), .int .i64 0, .int .i64 0, .slice none 0 0, .bool false, .bool false, .bool false] 49)) w' := by
    intro o
    have hdo := hd o
    rw [show (w.alloc o).heap.size = w.heap.size + 1 by simp] at hdo
    by_cases h0 : l = []
    · subst h0
      refine (feed_none q cap hdo).mono fun e w' ⟨h1, h2⟩ => ⟨h1, ?_⟩
      subst h2
      exact ⟨_, hdo, Moves.refl _ _ _⟩
    · obtain ⟨bb, off, h1, h2, h3⟩ := hl h0
      refine feed_calls l q cap bb off hdo ⟨h1, by simp; omega, by omega, by simp [Value.ownBlock], fun i hi => ?_⟩ (by simp) (by decide) (by decide) (by decide) hlen hMb
      have := h3 i hi
      simpa [go_sem, h2] using this
  have hpost : ∀ r w', (∃ p cap, r = Ending.returned (.tuple #[.agg #[.slice p ((Dec.zero.feed l).1.all.take M).length cap, .bool (Dec.zero.feed l).1.long, .bool (Dec.zero.feed l).1.bare, .bool (decide (M < (Dec.zero.feed l).1.all.length))], .int .i64 ((Dec.zero.feed l).2 : Int), .bool (decide ((Dec.zero.feed l).1.st = 5))]) ∧
    w'.ownsRow w.heap.size 5 1 (.slice p ((Dec.zero.feed l).1.all.take M).length cap) ((Dec.zero.feed l).1.all.take M).length (Lib.byteCells ((Dec.zero.feed l).1.all.take M)) ∧ Below w.heap.size w w') → DecodePost M l w r w' := fun r w' h => h
  replace hf := Lib.hid hf
  replace hn := Lib.hid hn
  replace hpost := Lib.hid hpost
  replace hfb : (Dec.zero.feed l).1.all.length ≤ 1000000000 := by omega
  generalize Dec.zero.feed l = R at *
  obtain ⟨D, used⟩ := R
  have htx := fun (v1 : Value) (w1 : World) (hd1 : DecIs M (w.heap.size + 1) (w.heap.size + 1) D v1 w1) => text_calls hd1 hfb
  unfold TextPost at htx
  have hor := fun (v1 : Value) (w1 w2 : World) (o : Obj) (C : Array Value) hm hb => @old_row ((w.alloc (.cells C 28)).alloc o) w1 w2 w.heap.size (w.heap.size + 1) (.slice none 0 0) v1 C ((RowIs.new_at _ _ _ _ rfl).alloc _) hm (by omega) (by simp [Value.ownBlock]) hb
  simp only at hpost hf htx
  generalize (D.all.take M).length = n at *
  generalize Lib.byteCells (D.all.take M) = cs at *
  replace htx := Lib.hid htx
  replace hor := Lib.hid hor
  clear hd hM hl hz
  go_enter Try.func13, Try.ntmps13
  go_wp2_with first
    | (go_at_call 16; ((refine (hn.out _).mono ?_); rintro r w1 ⟨rfl, rfl⟩))
    | (go_at_call 17; ((refine (hf.out _).mono ?_); rintro r w1 ⟨rfl, v1, hd1, hm1⟩; have ht := Lib.hid (htx.out v1 w1 hd1)))
    | (go_at_call 18; ((refine ht.out.mono ?_); rintro r w2 ⟨p2, c2, rfl, ho2, hb2⟩; obtain ⟨w3, rfl, hI3⟩ := row_rd (hor.out v1 w1 w2 _ _ hm1 hb2)))
  refine bodyPost_ret (v := .tuple #[.agg #[.slice p2 n c2, .bool D.long, .bool D.bare, .bool (decide (M < D.all.length))], .int .i64 (used : Int), .bool (decide (D.st = 5))]) (by simp [results, Try.results13, go_sem, hI3]) rfl ?_
  have hs1 := hm1.size
  simp at hs1
  refine hpost.out _ _ ⟨p2, c2, rfl, ?_, ?_⟩
  · have hne : (Value.slice p2 n c2).ownBlock ≠ some w.heap.size := fun e => by
      have := (ho2.lt _ e).1; omega
    have := own_rd ho2 hne #[.slice p2 n c2, .bool D.long, .bool D.bare, .bool (decide (M < D.all.length))]
    rw [rd_rd] at this
    exact own_base this (by omega)
  · have h1 : Below w.heap.size w w1 := by
      have := hm1.below (B := w.heap.size) (by omega) (fun k h => by simp [Value.ownBlock] at h) (by simp; omega)
      refine Below.trans ?_ this
      (repeat' (first | (with_reducible exact Below.refl _ _) | (with_reducible refine Below.app ?_ ?_ _ _) | (with_reducible refine Below.alloc ?_ ?_ _) | (with_reducible refine Below.drew ?_) | (with_reducible refine Below.setCell ?_ ?_ _) | (with_reducible assumption) | omega | (simp; omega) | (simp; done)))
    have h2 := h1.trans (hb2.mono (by omega))
    have := Below.rd_of h2 (Nat.le_refl _) #[.slice p2 n c2, .bool D.long, .bool D.bare, .bool (decide (M < D.all.length))]
    rwa [rd_rd] at this
end Go.Proofs.Ytnoiaeajpjhldaa
