/-
  dot.Decoder in memory; keep, plain: what they do.
-/
import Derived.Test.YtnoiaeajpjhldaaShelf
import Derived.Test.YtnoiaeajpjhldaaDotPlain
import Derived.Test.YtnoiaeajpjhldaaAppend
import Derived.Test.YtnoiaeajpjhldaaStable
import Derived.Laws.IdiomStrings
namespace Go.Proofs.Ytnoiaeajpjhldaa
open Go.ChangeShapes Go.WideShapes Go.ChangeAt Go.RowKit

/-- What turns, at a step, of what was there: block b, and the block of v; v' lies there still or in a new one. -/
structure Moves (b : Nat) (v v' : Value) (w w' : World) : Prop where
  os : w'.os = w.os
  tape : w'.tape = w.tape
  output : w'.output = w.output
  size : w.heap.size ≤ w'.heap.size
  block : ∀ k, k < w.heap.size → k ≠ b → v.ownBlock ≠ some k → w'.heap[k]? = w.heap[k]?
  moved : Moved w v v'
theorem Moved.refl (w : World) (v : Value) : Moved w v v := fun _ h => .inl h
theorem Moves.refl (b : Nat) (v : Value) (w : World) : Moves b v v w w := ⟨rfl, rfl, rfl, Nat.le_refl _, fun _ _ _ _ => rfl, Moved.refl _ _⟩
theorem Moves.trans {b : Nat} {v v1 v2 : Value} {w w1 w2 : World} (h : Moves b v v1 w w1) (g : Moves b v1 v2 w1 w2) : Moves b v v2 w w2 := by
  refine ⟨g.os.trans h.os, g.tape.trans h.tape, g.output.trans h.output, Nat.le_trans h.size g.size, fun k hk hb hv => ?_, fun k hk => ?_⟩
  · refine (g.block k (Nat.lt_of_lt_of_le hk h.size) hb fun e => ?_).trans (h.block k hk hb hv)
    rcases h.moved k e with h1 | h1
    · exact hv h1
    · omega
  · rcases g.moved k hk with h1 | h1
    · exact h.moved k h1
    · have := h.size; exact .inr (by omega)
theorem Moves.rd (b : Nat) (v : Value) (w : World) (c : Array Value) : Moves b v v w (rd w b c) :=
  ⟨rfl, rfl, rfl, by rw [rd_size]; exact Nat.le_refl _, fun k _ hb _ => rd_block_ne w b k c hb, Moved.refl _ _⟩
theorem Moves.alloc (b : Nat) (v : Value) (w : World) (o : Obj) : Moves b v v w (w.alloc o) :=
  ⟨rfl, rfl, rfl, by simp, fun k hk _ _ => (by show (w.heap.push o)[k]? = _; rw [Array.getElem?_push, if_neg (by omega)]), Moved.refl _ _⟩
theorem Moves.drew (b : Nat) (v : Value) (w : World) : Moves b v v w w.drew := ⟨rfl, rfl, rfl, Nat.le_refl _, fun _ _ _ _ => rfl, Moved.refl _ _⟩
theorem Moves.grown {b : Nat} {v v' : Value} {w w' : World} (h : w.grownBy w' v.ownBlock) (hm : Moved w v v') : Moves b v v' w w' :=
  ⟨h.os, h.tape, h.output, h.size, fun k hk _ hv => h.block k hk (fun e => hv e.symm), hm⟩
theorem Moves.below {b : Nat} {v v' : Value} {w w' : World} (h : Moves b v v' w w') {B : Nat} (hb : B ≤ b) (hv : ∀ k, v.ownBlock = some k → B ≤ k) (hB : B ≤ w.heap.size) : Below B w w' :=
  ⟨h.os, h.tape, h.output, h.size, fun k hk => h.block k (by omega) (by omega) (fun e => by have := hv k e; omega)⟩

def decCells (most : Nat) (d : Dec) (v : Value) : Array Value := #[.int .i64 most, .int .i64 d.st, .int .i64 d.line, v, .bool d.long, .bool d.bare, .bool (decide (most < d.all.length))]
/-- A decoder in block b; its bytes lie in the row v. -/
structure DecIs (most b B : Nat) (d : Dec) (v : Value) (w : World) : Prop where
  row : RowIs w b (decCells most d v)
  own : w.ownsRow B 5 1 v (d.all.take most).length (Lib.byteCells (d.all.take most))
  ne : v.ownBlock ≠ some b
theorem row_rd {w : World} {b : Nat} {c : Array Value} (h : RowIs w b c) : ∃ w0, w = rd w0 b c ∧ IsRow w0 b := ⟨w, (rd_self h).symm, h.isRow⟩
def DecPost (most b B : Nat) (d : Dec) (v : Value) (w w' : World) : Prop := ∃ v', DecIs most b B d v' w' ∧ Moves b v v' w w'
theorem own_app {w : World} {B : Nat} {e : TypeId} {v : Value} {n : Nat} {xs : List Value} (h : w.ownsRow B e 1 v n xs) (bs : Array Obj) (d : Nat) : (app w bs d).ownsRow B e 1 v n xs :=
  h.kept (row := none) ⟨rfl, rfl, rfl, by rw [app_size]; omega, fun k hk _ => app_heap _ _ _ _ hk⟩ (by cases v.ownBlock <;> simp)
theorem Moves.app (b : Nat) (v : Value) (w : World) (bs : Array Obj) (d : Nat) : Moves b v v w (app w bs d) :=
  ⟨rfl, rfl, rfl, by rw [app_size]; omega, fun k hk _ _ => app_heap _ _ _ _ hk, Moved.refl _ _⟩
theorem DecPost.app {most b B : Nat} {d : Dec} {v : Value} {w w' : World} (h : DecPost most b B d v w w') (bs : Array Obj) (e : Nat) : DecPost most b B d v w (app w' bs e) := by
  obtain ⟨v', ⟨h1, h2, h3⟩, h4⟩ := h
  exact ⟨v', ⟨h1.app _ _, own_app h2 _ _, h3⟩, h4.trans (Moves.app _ _ _ _ _)⟩
theorem infoByte : (Try.prog.info? 5).map (fun i => (i.zero, i.size, i.bytes)) = some (some (.int .u8 0), 1, 1) := by kernel_rfl
theorem one_new (W : World) (b : Nat) (hb : b = W.heap.size) (v : Value) (T : TypeId) : ∀ j u, [v][j]? = some u → (W.alloc (.cells #[v] T)).cell? ((⟨b, 0, none⟩ : Addr).add j) = some u := fun j u h => by
  subst hb
  rw [show (⟨W.heap.size, 0, none⟩ : Addr).add j = ⟨W.heap.size, j, none⟩ by simp [Addr.add]; exact fun h => h.symm, World.cell?_alloc_mark]
  simpa using h

theorem keep_full {most b B : Nat} {d : Dec} {v : Value} {w0 : World} {c : UInt8} {L : Bool} (hI : IsRow w0 b) (hown : (rd w0 b (decCells most d v)).ownsRow B 5 1 v (d.all.take most).length (Lib.byteCells (d.all.take most))) (hne : v.ownBlock ≠ some b)
    (hL : L = (d.long || decide (1000 < d.line + 1))) (hm : most ≤ d.all.length) :
    DecPost most b B (d.keep c) v (rd w0 b (decCells most d v)) (rd w0 b #[.int .i64 most, .int .i64 d.st, .int .i64 ((d.line : Int) + 1), v, .bool L, .bool d.bare, .bool true]) := by
  have e : decCells most (d.keep c) v = #[.int .i64 most, .int .i64 d.st, .int .i64 ((d.line : Int) + 1), v, .bool L, .bool d.bare, .bool true] := by
    unfold decCells Dec.keep
    rw [hL]
    have : decide (most < (d.all ++ [c]).length) = true := by simp; omega
    rw [this]
    rfl
  have et : (d.keep c).all.take most = d.all.take most := by
    show (d.all ++ [c]).take most = _
    rw [List.take_append_of_le_length hm]
  rw [← e]
  refine ⟨v, ⟨rd_row hI _, ?_, hne⟩, ?_⟩
  · rw [et]
    have := own_rd hown hne (decCells most (d.keep c) v)
    rwa [rd_rd] at this
  · have := Moves.rd b v (rd w0 b (decCells most d v)) (decCells most (d.keep c) v)
    rwa [rd_rd] at this
theorem keep_room {most b B : Nat} {d : Dec} {v v' : Value} {w0 w2 : World} {c : UInt8} {L : Bool} {C : Array Value} (hI2 : IsRow w2 b)
    (hown : (rd w2 b C).ownsRow B 5 1 v' (d.all.length + 1) (Lib.byteCells d.all ++ [.int .u8 (c.toNat : Int)])) (hne : v'.ownBlock ≠ some b)
    (hL : L = (d.long || decide (1000 < d.line + 1))) (hm : ¬ most ≤ d.all.length) (hmv : Moves b v v' (rd w0 b (decCells most d v)) (rd w2 b C)) :
    DecPost most b B (d.keep c) v (rd w0 b (decCells most d v)) (rd w2 b #[.int .i64 most, .int .i64 d.st, .int .i64 ((d.line : Int) + 1), v', .bool L, .bool d.bare, .bool false]) := by
  have e : decCells most (d.keep c) v' = #[.int .i64 most, .int .i64 d.st, .int .i64 ((d.line : Int) + 1), v', .bool L, .bool d.bare, .bool false] := by
    unfold decCells Dec.keep
    rw [hL]
    have : decide (most < (d.all ++ [c]).length) = false := by simp; omega
    rw [this]
    rfl
  have et : (d.keep c).all.take most = d.all ++ [c] := by
    show (d.all ++ [c]).take most = _
    rw [List.take_of_length_le (by simp; omega)]
  rw [← e]
  refine ⟨v', ⟨rd_row hI2 _, ?_, hne⟩, ?_⟩
  · rw [et]
    have := own_rd hown hne (decCells most (d.keep c) v')
    rw [rd_rd] at this
    have e1 : (d.all ++ [c]).length = d.all.length + 1 := by simp
    have e2 : Lib.byteCells (d.all ++ [c]) = Lib.byteCells d.all ++ [.int .u8 (c.toNat : Int)] := by simp [Lib.byteCells]
    rw [e1, e2]
    exact this
  · refine hmv.trans ?_
    have := Moves.rd b v' (rd w2 b C) (decCells most (d.keep c) v')
    rwa [rd_rd] at this

theorem own_len {w : World} {B : Nat} {e : TypeId} {v : Value} {n : Nat} {xs : List Value} (h : w.ownsRow B e 1 v n xs) : ∃ p cap, v = .slice p n cap := by
  rcases h.2 with ⟨h1, h2⟩ | ⟨g, cap, cur, h1, _⟩
  · exact ⟨none, 0, by rw [h1, h2]⟩
  · exact ⟨_, _, h1⟩
theorem appended {w0 w1 S : World} {b : Nat} {C : Array Value} {v v1 : Value} {bs : Array Obj} {e : Nat} {O : Obj} (hI : IsRow w0 b) (hne : v.ownBlock ≠ some b) (hmv : Moves b v v S (rd w0 b C))
    (hg : ((app (rd w0 b C) bs e).alloc O).grownBy w1 v.ownBlock) (hm : Moved ((app (rd w0 b C) bs e).alloc O) v v1) : ∃ w2, w1 = rd w2 b C ∧ IsRow w2 b ∧ v1.ownBlock ≠ some b ∧ Moves b v v1 S w1 := by
  have hlt : b < ((app (rd w0 b C) bs e).alloc O).heap.size := by have := hI.lt; simp; omega
  have hrow : RowIs w1 b C := by
    obtain ⟨T, hT⟩ := ((rd_row hI C).app bs e).alloc O
    exact ⟨T, (hg.block b hlt (fun e => hne e.symm)).trans hT⟩
  obtain ⟨w2, h1, h2⟩ := row_rd hrow
  refine ⟨w2, h1, h2, fun e => ?_, ((hmv.trans (Moves.app b v _ bs e)).trans (Moves.alloc b v _ O)).trans (Moves.grown hg hm)⟩
  rcases hm b e with h | h
  · exact hne h
  · omega
theorem own_cast {w : World} {B : Nat} {e : TypeId} {v : Value} {n n' : Nat} {xs xs' : List Value} (h : w.ownsRow B e 1 v n xs) (hn : n = n') (hx : xs = xs') : w.ownsRow B e 1 v n' xs' := by subst hn; subst hx; exact h
def RelKe (S : World) (Q : World → Prop) (i : Value) (wr : World) : Prop := (i = .int .i64 0 ∧ wr = S) ∨ (i = .int .i64 1 ∧ Q wr)
set_option maxHeartbeats 4000000 in
theorem keep_calls {most b B g : Nat} {D : Dec} {v : Value} {w : World} (c : UInt8) (h : DecIs most b B D v w) (hc : w.cell? ⟨g, 0, none⟩ = some (.int .u8 (c.toNat : Int))) (hg : g ≠ b) (hB : B ≤ w.heap.size)
    (hline : D.line ≤ 1000000000) (hall : D.all.length ≤ 1000000000) (hmost : most ≤ 9223372036854775807) :
    Calls Try.prog 31 #[.pointer (some ⟨b, 0, none⟩), .slice (some ⟨g, 0, none⟩) 1 1] w fun r w' => r = .returned (.tuple #[]) ∧ DecPost most b B (D.keep c) v w w' := by
  obtain ⟨hrow, hown, hne⟩ := h
  obtain ⟨w0, rfl, hI⟩ := row_rd hrow
  rw [rd_cell_ne _ _ _ _ _ hg] at hc
  rw [rd_size] at hB
  have hb := hI.lt
  obtain ⟨i0, hi, hz0, hz1, hz2⟩ := info_parts infoByte
  have hfull := fun L hL hm => @keep_full most b B D v w0 c L hI hown hne hL hm
  have hroom := fun v' w2 L C => @keep_room most b B D v v' w0 w2 c L C
  have hmv0 := fun L => Moves.rd b v (rd w0 b (decCells most D v)) #[.int .i64 most, .int .i64 D.st, .int .i64 ((D.line : Int) + 1), v, .bool L, .bool D.bare, .bool (decide (most < D.all.length))]
  simp only [rd_rd] at hmv0
  have happ := fun w' bs e (h : DecPost most b B (D.keep c) v (rd w0 b (decCells most D v)) w') => h.app bs e
  generalize hQ : DecPost most b B (D.keep c) v (rd w0 b (decCells most D v)) = Q at hfull hroom happ ⊢
  replace happ := Lib.hid happ
  replace hQ := Lib.hid hQ
  have hown' := fun L => own_rd hown hne #[.int .i64 most, .int .i64 D.st, .int .i64 ((D.line : Int) + 1), v, .bool L, .bool D.bare, .bool (decide (most < D.all.length))]
  simp only [rd_rd] at hown'
  obtain ⟨p, cap, rfl⟩ := own_len hown
  replace hfull := Lib.hid hfull
  replace hroom := Lib.hid hroom
  replace hmv0 := Lib.hid hmv0
  clear hown hrow
  unfold decCells at hmv0 hroom ⊢
  obtain ⟨n, hn⟩ : ∃ n, n = (D.all.take most).length := ⟨_, rfl⟩
  rw [← hn] at hfull hown' hne ⊢
  try rw [← hn] at hmv0
  try rw [← hn] at hroom
  try rw [← hn] at happ
  try rw [← hn] at hQ
  replace hn := Lib.hid hn
  go_enter Try.func31, Try.ntmps31
  go_wp2
  go_loopw [8] (fun i wr => RelKe (rd w0 b #[.int .i64 most, .int .i64 D.st, .int .i64 D.line, .slice p n cap, .bool D.long, .bool D.bare, .bool (decide (most < D.all.length))]) Q i wr) (fun i _ => 1 - (intOf i).toNat)
  case atStart => exact .inl ⟨rfl, rfl⟩
  case round =>
    rcases hrel with ⟨rfl, rfl⟩ | ⟨rfl, hq⟩
    · have h1 : ∃ L, Hid (L = (D.long || decide (1000 < D.line + 1))) := ⟨_, rfl⟩
      by_cases hm : most ≤ D.all.length
      · have hnl : n = most := by rw [hn.out]; simp; omega
        subst hnl
        by_cases hbig : 1000 < D.line + 1
        · have hbig2 : 1000 < (D.line : Int) + 1 := by omega
          have hf := Lib.hid (hfull.out true (by simp [hbig]) hm)
          clear hbig hm h1 hfull hroom hmv0 hown'
          go_wp2
          (apply wp_region_text 10; kernel_rfl; kernel_rfl; intro Fin hFin; (repeat (first | (apply text_run; exact rfl; (focus (intro bs d hF K hK; (repeat rw [app_app] at hK); (repeat rw [app_app]); (repeat rw [Array.append_assoc] at hK); (repeat rw [Array.append_assoc]); go_step; first  | fail  | (refine hK _ ?_; (repeat' (first | (with_reducible exact Below.refl _ _) | (with_reducible refine Below.app ?_ ?_ _ _) | (with_reducible refine Below.alloc ?_ ?_ _) | (with_reducible refine Below.drew ?_) | (with_reducible refine Below.setCell ?_ ?_ _) | (with_reducible assumption) | omega | (simp; omega) | (simp; done)))))); (try simp only [Act.put, List.setIfInBounds_toArray, List.set_cons_zero, List.set_cons_succ])) | (apply text_skip; exact rfl; (try simp only [Act.put, List.setIfInBounds_toArray, List.set_cons_zero, List.set_cons_succ])))); apply text_end; apply hFin; clear hFin Fin; intro bs d hfa)
          go_wp2
          go_roundw
          case rel => (repeat apply Exists.intro); first | exact .inr ⟨rfl, happ.out _ _ _ hf.out⟩ | (refine ⟨?rl, ?fr⟩; case fr => ((repeat' apply And.intro) <;> exact rfl); case rl => exact .inr ⟨rfl, happ.out _ _ _ hf.out⟩)
          case measure => first | (simp [intOf]; done) | (simp [intOf]; omega)
        · have hbig2 : ¬ 1000 < (D.line : Int) + 1 := by omega
          have hf := Lib.hid (hfull.out D.long (by simp [hbig]) hm)
          clear hbig hm h1 hfull hroom hmv0 hown'
          go_wp2
          (apply wp_region_text 10; kernel_rfl; kernel_rfl; intro Fin hFin; (repeat (first | (apply text_run; exact rfl; (focus (intro bs d hF K hK; (repeat rw [app_app] at hK); (repeat rw [app_app]); (repeat rw [Array.append_assoc] at hK); (repeat rw [Array.append_assoc]); go_step; first  | fail  | (refine hK _ ?_; (repeat' (first | (with_reducible exact Below.refl _ _) | (with_reducible refine Below.app ?_ ?_ _ _) | (with_reducible refine Below.alloc ?_ ?_ _) | (with_reducible refine Below.drew ?_) | (with_reducible refine Below.setCell ?_ ?_ _) | (with_reducible assumption) | omega | (simp; omega) | (simp; done)))))); (try simp only [Act.put, List.setIfInBounds_toArray, List.set_cons_zero, List.set_cons_succ])) | (apply text_skip; exact rfl; (try simp only [Act.put, List.setIfInBounds_toArray, List.set_cons_zero, List.set_cons_succ])))); apply text_end; apply hFin; clear hFin Fin; intro bs d hfa)
          go_wp2
          go_roundw
          case rel => (repeat apply Exists.intro); first | exact .inr ⟨rfl, happ.out _ _ _ hf.out⟩ | (refine ⟨?rl, ?fr⟩; case fr => ((repeat' apply And.intro) <;> exact rfl); case rl => exact .inr ⟨rfl, happ.out _ _ _ hf.out⟩)
          case measure => first | (simp [intOf]; done) | (simp [intOf]; omega)
      · have htk : D.all.take most = D.all := List.take_of_length_le (by omega)
        have hnl : n = D.all.length := by rw [hn.out, htk]
        have hdm : decide (most < D.all.length) = false := by simp; omega
        have hnm : ((n : Int) == (most : Int)) = false := by simp; omega
        rw [htk] at hown'
        rw [hdm] at hown' hmv0 hroom ⊢
        rw [← hnl] at hroom
        have hall2 : n ≤ 1000000000 := by omega
        have hm2 : Hid (¬ most ≤ n) := by unfold Hid; omega
        clear hdm htk hnl hm
        replace hown' := Lib.hid hown'
        by_cases hbig : 1000 < D.line + 1
        · have hbig2 : 1000 < (D.line : Int) + 1 := by omega
          have hLL : Hid (true = (D.long || decide (1000 < D.line + 1))) := by unfold Hid; simp [hbig]
          clear hbig h1 hfull
          go_wp2
          (apply wp_region_text 10; kernel_rfl; kernel_rfl; intro Fin hFin; (repeat (first | (apply text_run; exact rfl; (focus (intro bs d hF K hK; (repeat rw [app_app] at hK); (repeat rw [app_app]); (repeat rw [Array.append_assoc] at hK); (repeat rw [Array.append_assoc]); go_step; first  | fail  | (refine hK _ ?_; (repeat' (first | (with_reducible exact Below.refl _ _) | (with_reducible refine Below.app ?_ ?_ _ _) | (with_reducible refine Below.alloc ?_ ?_ _) | (with_reducible refine Below.drew ?_) | (with_reducible refine Below.setCell ?_ ?_ _) | (with_reducible assumption) | omega | (simp; omega) | (simp; done)))))); (try simp only [Act.put, List.setIfInBounds_toArray, List.set_cons_zero, List.set_cons_succ])) | (apply text_skip; exact rfl; (try simp only [Act.put, List.setIfInBounds_toArray, List.set_cons_zero, List.set_cons_succ])))); apply text_end; apply hFin; clear hFin Fin; intro bs d hfa)
          go_wp2_with (at_builtin; refine wpList_append_moved _ rfl _ _ 22 rfl B 5 i0 (.int .u8 0) 1 1 Try.underlying22 hi hz0 hz1 hz2 rfl (by decide) (.slice p n cap) _ _ rfl ((own_app (hown'.out true) _ _).alloc _) _ 1 1 [.int .u8 (c.toNat : Int)] rfl rfl ?c1 ?c2 ?c3 ?c4 ?c5 ?_; (case c1 => exact one_new _ _ (by first | rfl | (simp; done)) _ _); (case c2 => (intro u hu; simp at hu; subst hu; rfl)); (case c3 => (unfold maxLen; omega)); (case c4 => omega); (case c5 => (simp; omega)); intro v1 w1 hown1 hg0 hm0; obtain ⟨p1, cap1, rfl⟩ := own_len hown1; obtain ⟨w2, rfl, hI2, hne1, hmv1⟩ := appended hI hne (hmv0.out true) hg0 hm0; have hf := Lib.hid (hroom.out _ w2 true _ hI2 hown1 hne1 hLL.out hm2.out hmv1); clear hg0 hm0 hown1 hmv1)
          go_roundw
          case rel => (repeat apply Exists.intro); first | exact .inr ⟨rfl, hf.out⟩ | (refine ⟨?rl, ?fr⟩; case fr => ((repeat' apply And.intro) <;> exact rfl); case rl => exact .inr ⟨rfl, hf.out⟩)
          case measure => first | (simp [intOf]; done) | (simp [intOf]; omega)
        · have hbig2 : ¬ 1000 < (D.line : Int) + 1 := by omega
          have hLL : Hid (D.long = (D.long || decide (1000 < D.line + 1))) := by unfold Hid; simp [hbig]
          clear hbig h1 hfull
          go_wp2
          (apply wp_region_text 10; kernel_rfl; kernel_rfl; intro Fin hFin; (repeat (first | (apply text_run; exact rfl; (focus (intro bs d hF K hK; (repeat rw [app_app] at hK); (repeat rw [app_app]); (repeat rw [Array.append_assoc] at hK); (repeat rw [Array.append_assoc]); go_step; first  | fail  | (refine hK _ ?_; (repeat' (first | (with_reducible exact Below.refl _ _) | (with_reducible refine Below.app ?_ ?_ _ _) | (with_reducible refine Below.alloc ?_ ?_ _) | (with_reducible refine Below.drew ?_) | (with_reducible refine Below.setCell ?_ ?_ _) | (with_reducible assumption) | omega | (simp; omega) | (simp; done)))))); (try simp only [Act.put, List.setIfInBounds_toArray, List.set_cons_zero, List.set_cons_succ])) | (apply text_skip; exact rfl; (try simp only [Act.put, List.setIfInBounds_toArray, List.set_cons_zero, List.set_cons_succ])))); apply text_end; apply hFin; clear hFin Fin; intro bs d hfa)
          go_wp2_with (at_builtin; refine wpList_append_moved _ rfl _ _ 22 rfl B 5 i0 (.int .u8 0) 1 1 Try.underlying22 hi hz0 hz1 hz2 rfl (by decide) (.slice p n cap) _ _ rfl ((own_app (hown'.out D.long) _ _).alloc _) _ 1 1 [.int .u8 (c.toNat : Int)] rfl rfl ?c1 ?c2 ?c3 ?c4 ?c5 ?_; (case c1 => exact one_new _ _ (by first | rfl | (simp; done)) _ _); (case c2 => (intro u hu; simp at hu; subst hu; rfl)); (case c3 => (unfold maxLen; omega)); (case c4 => omega); (case c5 => (simp; omega)); intro v1 w1 hown1 hg0 hm0; obtain ⟨p1, cap1, rfl⟩ := own_len hown1; obtain ⟨w2, rfl, hI2, hne1, hmv1⟩ := appended hI hne (hmv0.out D.long) hg0 hm0; have hf := Lib.hid (hroom.out _ w2 D.long _ hI2 hown1 hne1 hLL.out hm2.out hmv1); clear hg0 hm0 hown1 hmv1)
          go_roundw
          case rel => (repeat apply Exists.intro); first | exact .inr ⟨rfl, hf.out⟩ | (refine ⟨?rl, ?fr⟩; case fr => ((repeat' apply And.intro) <;> exact rfl); case rl => exact .inr ⟨rfl, hf.out⟩)
          case measure => first | (simp [intOf]; done) | (simp [intOf]; omega)
    · go_wp2
      go_returns
      exact ⟨rfl, hq⟩
end Go.Proofs.Ytnoiaeajpjhldaa
