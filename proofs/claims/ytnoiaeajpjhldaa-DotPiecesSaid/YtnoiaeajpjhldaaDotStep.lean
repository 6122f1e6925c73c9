/-
  dot.Decoder: plain, step: what they do.
-/
import Derived.Test.YtnoiaeajpjhldaaDotKeep
namespace Go.Proofs.Ytnoiaeajpjhldaa
open Go.ChangeShapes Go.WideShapes Go.ChangeAt Go.RowKit

def cells7 (most st line : Int) (v : Value) (lo ba la : Bool) : Array Value := #[.int .i64 most, .int .i64 st, .int .i64 line, v, .bool lo, .bool ba, .bool la]
theorem DecPost.open {most b B : Nat} {D : Dec} {v : Value} {w w' : World} (h : DecPost most b B D v w w') : ∃ p cap w2, w' = rd w2 b #[.int .i64 most, .int .i64 D.st, .int .i64 D.line, .slice p (D.all.take most).length cap, .bool D.long, .bool D.bare, .bool (decide (most < D.all.length))] ∧ IsRow w2 b ∧
    w'.ownsRow B 5 1 (.slice p (D.all.take most).length cap) (D.all.take most).length (Lib.byteCells (D.all.take most)) ∧ (Value.slice p (D.all.take most).length cap).ownBlock ≠ some b ∧ Moves b v (.slice p (D.all.take most).length cap) w w' := by
  obtain ⟨v', ⟨h1, h2, h3⟩, h4⟩ := h
  obtain ⟨p, cap, rfl⟩ := own_len h2
  obtain ⟨w2, hw, hI⟩ := row_rd h1
  exact ⟨p, cap, w2, hw, hI, h2, h3, h4⟩
theorem DecPost.close {most b B : Nat} {E D' : Dec} {v v' : Value} {w w2 : World} {C C' : Array Value} (hI : IsRow w2 b) (hown : (rd w2 b C).ownsRow B 5 1 v' (E.all.take most).length (Lib.byteCells (E.all.take most))) (hne : v'.ownBlock ≠ some b)
    (hmv : Moves b v v' w (rd w2 b C)) (hall : D'.all = E.all) (hc : C' = decCells most D' v') : DecPost most b B D' v w (rd w2 b C') := by
  subst hc
  refine ⟨v', ⟨rd_row hI _, ?_, hne⟩, hmv.trans ?_⟩
  · rw [hall]
    have := own_rd hown hne (decCells most D' v')
    rwa [rd_rd] at this
  · have := Moves.rd b v' (rd w2 b C) (decCells most D' v')
    rwa [rd_rd] at this
theorem DecIs.alloc {most b B : Nat} {D : Dec} {v : Value} {w : World} (h : DecIs most b B D v w) (o : Obj) : DecIs most b B D v (w.alloc o) := ⟨h.row.alloc o, h.own.alloc o, h.ne⟩
/-- keep, called with one byte in a new block. -/
theorem keep_one {most b B : Nat} {D : Dec} {v : Value} {w : World} (c : UInt8) (h : DecIs most b B D v w) (hB : B ≤ w.heap.size) (hline : D.line ≤ 1000000000) (hall : D.all.length ≤ 1000000000) (hmost : most ≤ 9223372036854775807) :
    Calls Try.prog 31 #[.pointer (some ⟨b, 0, none⟩), .slice (some ⟨w.heap.size, 0, none⟩) 1 1] (w.alloc (.cells #[.int .u8 (c.toNat : Int)] 5)) fun r w' => r = .returned (.tuple #[]) ∧ DecPost most b B (D.keep c) v w w' := by
  have hlt := h.row.lt
  refine (keep_calls c (h.alloc _) (by simp [World.cell?_alloc_mark]) (by omega) (by simp; omega) hline hall hmost).mono fun e w' ⟨h1, v', h2, h3⟩ => ⟨h1, v', h2, (Moves.alloc b v w _).trans h3⟩
set_option maxHeartbeats 4000000 in
theorem plain_calls {most b B : Nat} {D : Dec} {v : Value} {w : World} (c : UInt8) (h : DecIs most b B D v w) (hB : B ≤ w.heap.size) (hline : D.line ≤ 1000000000) (hall : D.all.length ≤ 1000000000) (hmost : most ≤ 9223372036854775807) :
    Calls Try.prog 30 #[.pointer (some ⟨b, 0, none⟩), .int .u8 (c.toNat : Int)] w fun r w' => r = .returned (.tuple #[]) ∧ DecPost most b B (D.plain c) v w w' := by
  have hk := keep_one c h hB hline hall hmost
  have hcl := fun (v' : Value) (w2 : World) (C C' : Array Value) (D' : Dec) => @DecPost.close most b B (D.keep c) D' v v' w w2 C C'
  have hpl : D.plain c = ⟨if c = 13 then 4 else 3, (D.keep c).line, (D.keep c).all, (D.keep c).long, (D.keep c).bare || decide (c = 10)⟩ := rfl
  generalize D.keep c = E at hk hcl hpl
  rw [hpl]
  have hb := h.row.lt
  replace hk := Lib.hid hk
  replace hcl := Lib.hid hcl
  clear hpl h
  by_cases h13 : c = 13
  · subst h13
    go_enter Try.func30, Try.ntmps30
    go_wp2_with (go_at_call 31; ((refine hk.out.mono ?_); rintro r w1 ⟨rfl, hp⟩; obtain ⟨p, cap, w2, rfl, hI2, ho, hne, hmv⟩ := hp.open; clear hp))
    go_returns
    exact ⟨rfl, hcl.out _ _ _ _ _ hI2 ho hne hmv rfl (by simp [decCells])⟩
  · have h13' : ((c.toNat : Int) == 13) = false := by
      have : ¬ c.toNat = 13 := fun e => h13 (by rw [← UInt8.toNat_inj]; exact e)
      simp; omega
    rw [if_neg h13]
    by_cases h10 : c = 10
    · subst h10
      clear h13
      go_enter Try.func30, Try.ntmps30
      go_wp2_with (go_at_call 31; ((refine hk.out.mono ?_); rintro r w1 ⟨rfl, hp⟩; obtain ⟨p, cap, w2, rfl, hI2, ho, hne, hmv⟩ := hp.open; clear hp))
      go_returns
      exact ⟨rfl, hcl.out _ _ _ _ _ hI2 ho hne hmv rfl (by simp [decCells])⟩
    · have h10' : ((c.toNat : Int) == 10) = false := by
        have : ¬ c.toNat = 10 := fun e => h10 (by rw [← UInt8.toNat_inj]; exact e)
        simp; omega
      rw [decide_eq_false h10]
      clear h13 h10
      go_enter Try.func30, Try.ntmps30
      go_wp2_with (go_at_call 31; ((refine hk.out.mono ?_); rintro r w1 ⟨rfl, hp⟩; obtain ⟨p, cap, w2, rfl, hI2, ho, hne, hmv⟩ := hp.open; clear hp))
      go_returns
      exact ⟨rfl, hcl.out _ _ _ _ _ hI2 ho hne hmv rfl (by simp [decCells])⟩
theorem DecIs.set {most b B : Nat} {D D' : Dec} {v : Value} {w0 : World} (h : DecIs most b B D v (rd w0 b (decCells most D v))) (hI : IsRow w0 b) (hall : D'.all = D.all) : DecIs most b B D' v (rd w0 b (decCells most D' v)) := by
  refine ⟨rd_row hI _, ?_, h.ne⟩
  rw [hall]
  have := own_rd h.own h.ne (decCells most D' v)
  rwa [rd_rd] at this
theorem DecPost.pre {most b B : Nat} {D : Dec} {v v1 : Value} {w w1 w' : World} (h : DecPost most b B D v1 w1 w') (hm : Moves b v v1 w w1) : DecPost most b B D v w w' := by
  obtain ⟨v', h1, h2⟩ := h
  exact ⟨v', h1, hm.trans h2⟩
theorem moves_cells {b : Nat} {v : Value} {w0 : World} (C C' : Array Value) : Moves b v v (rd w0 b C) (rd w0 b C') := by
  have := Moves.rd b v (rd w0 b C) C'
  rwa [rd_rd] at this
theorem byte_ne {c : UInt8} {n : Nat} (hn : n < 256) (h : ¬ c = UInt8.ofNat n) : ((c.toNat : Int) == (n : Int)) = false := by
  have : ¬ c.toNat = n := fun e => h (by rw [← UInt8.toNat_inj, e]; simp; omega)
  simp; omega
def StepOk (most b B : Nat) (D' : Dec) (v : Value) (w : World) (r : Ending) (w' : World) : Prop := r = .returned (.tuple #[]) ∧ DecPost most b B D' v w w'
set_option maxHeartbeats 8000000 in
theorem step_calls {most b B : Nat} {D : Dec} {v : Value} {w : World} (c : UInt8) (h : DecIs most b B D v w) (hB : B ≤ w.heap.size) (hst : D.st ≤ 5) (hline : D.line ≤ 900000000) (hall : D.all.length ≤ 900000000) (hmost : most ≤ 9223372036854775807) :
    Calls Try.prog 25 #[.pointer (some ⟨b, 0, none⟩), .int .u8 (c.toNat : Int)] w (StepOk most b B (D.step c) v w) := by
  obtain ⟨p, cap, rfl⟩ := own_len h.own
  obtain ⟨w0, rfl, hI⟩ := row_rd h.row
  rw [rd_size] at hB
  have hb := hI.lt
  have hset := fun D' hD => h.set (D' := D') hI hD
  have hmv := fun C C' => @moves_cells b (.slice p (D.all.take most).length cap) w0 C C'
  have hown := h.own
  have hne := h.ne
  have hBs : ∀ C, B ≤ (rd w0 b C).heap.size := fun C => by rw [rd_size]; exact hB
  generalize hn : (D.all.take most).length = n at *
  -- what is left where no call is made, and behind one call on changed cells
  have hquiet : ∀ D' : Dec, D'.all = D.all → DecPost most b B D' (.slice p n cap) (rd w0 b (decCells most D (.slice p n cap))) (rd w0 b (decCells most D' (.slice p n cap))) := fun D' hD => ⟨_, hset D' hD, hmv _ _⟩
  have hplain : ∀ D' : Dec, D'.all = D.all → D'.line ≤ 1000000000 → Calls Try.prog 30 #[.pointer (some ⟨b, 0, none⟩), .int .u8 (c.toNat : Int)] (rd w0 b (decCells most D' (.slice p n cap))) fun r w' => r = .returned (.tuple #[]) ∧ DecPost most b B (D'.plain c) (.slice p n cap) (rd w0 b (decCells most D (.slice p n cap))) w' := fun D' hD hl =>
    (plain_calls c (hset D' hD) (hBs _) hl (by rw [hD]; omega) hmost).mono fun e w' ⟨h1, h2⟩ => ⟨h1, h2.pre (hmv _ _)⟩
  have hkeep : ∀ (D' : Dec) (x : UInt8), D'.all = D.all → D'.line ≤ 1000000000 → Calls Try.prog 31 #[.pointer (some ⟨b, 0, none⟩), .slice (some ⟨w0.heap.size, 0, none⟩) 1 1] ((rd w0 b (decCells most D' (.slice p n cap))).alloc (.cells #[.int .u8 (x.toNat : Int)] 5)) fun r w' => r = .returned (.tuple #[]) ∧ DecPost most b B (D'.keep x) (.slice p n cap) (rd w0 b (decCells most D (.slice p n cap))) w' := fun D' x hD hl => by
    have := keep_one x (hset D' hD) (hBs _) hl (by rw [hD]; omega) hmost
    rw [rd_size] at this
    exact this.mono fun e w' ⟨h1, h2⟩ => ⟨h1, h2.pre (hmv _ _)⟩
  have hthen : ∀ (D' : Dec) (v1 : Value) (w1 : World), DecIs most b B D' v1 w1 → Moves b (.slice p n cap) v1 (rd w0 b (decCells most D (.slice p n cap))) w1 → D'.line ≤ 1000000000 → D'.all.length ≤ 1000000000 →
      Calls Try.prog 30 #[.pointer (some ⟨b, 0, none⟩), .int .u8 (c.toNat : Int)] w1 fun r w' => r = .returned (.tuple #[]) ∧ DecPost most b B (D'.plain c) (.slice p n cap) (rd w0 b (decCells most D (.slice p n cap))) w' := fun D' v1 w1 h1 h2 h3 h4 =>
    (plain_calls c h1 (by have := h2.size; have := hBs (decCells most D (.slice p n cap)); omega) h3 h4 hmost).mono fun e w' ⟨a1, a2⟩ => ⟨a1, a2.pre h2⟩
  have hclose := fun (E D' : Dec) (v' : Value) (w2 : World) (C C' : Array Value) => @DecPost.close most b B E D' (.slice p n cap) v' (rd w0 b (decCells most D (.slice p n cap))) w2 C C'
  clear h hset hmv hown hne hBs hn
  obtain ⟨Q, hQ⟩ : ∃ Q : Dec → World → Prop, Q = fun D' => DecPost most b B D' (.slice p n cap) (rd w0 b (decCells most D (.slice p n cap))) := ⟨_, rfl⟩
  have hgoal : StepOk most b B (D.step c) (.slice p n cap) (rd w0 b (decCells most D (.slice p n cap))) = fun r w' => r = .returned (.tuple #[]) ∧ Q (D.step c) w' := by rw [hQ]; rfl
  rw [hgoal]
  replace hquiet : ∀ D' : Dec, D'.all = D.all → Q D' (rd w0 b (decCells most D' (.slice p n cap))) := by rw [hQ]; exact hquiet
  replace hplain : ∀ D' : Dec, D'.all = D.all → D'.line ≤ 1000000000 → Calls Try.prog 30 #[.pointer (some ⟨b, 0, none⟩), .int .u8 (c.toNat : Int)] (rd w0 b (decCells most D' (.slice p n cap))) fun r w' => r = .returned (.tuple #[]) ∧ Q (D'.plain c) w' := by rw [hQ]; exact hplain
  clear hgoal
  obtain ⟨st, line, all, long, bare⟩ := D
  simp only at hst hline hall hquiet hplain hkeep hthen hclose hQ
  unfold decCells
  simp only
  replace hquiet := Lib.hid hquiet
  have hcs : st = 0 ∨ st = 1 ∨ st = 2 ∨ st = 3 ∨ st = 4 ∨ st = 5 := by omega
  replace hQ := Lib.hid hQ
  rcases hcs with rfl | rfl | rfl | rfl | rfl | rfl
  · -- begin
    by_cases hc : c = 46
    · have hs : Dec.step ⟨0, line, all, long, bare⟩ c = ⟨1, 0, all, long, bare⟩ := by unfold Dec.step; simp [hc]
      rw [hs]
      have hq := Lib.hid (hquiet.out ⟨1, 0, all, long, bare⟩ rfl)
      subst hc
      clear hs hplain hkeep hthen hclose hquiet
      go_enter Try.func25, Try.ntmps25
      go_wp2
      go_returns
      exact ⟨rfl, hq.out⟩
    · have hs : Dec.step ⟨0, line, all, long, bare⟩ c = Dec.plain ⟨0, 0, all, long, bare⟩ c := by unfold Dec.step; simp [hc]
      rw [hs]
      have hp : Calls Try.prog 30 #[.pointer (some ⟨b, 0, none⟩), .int .u8 (c.toNat : Int)] (rd w0 b #[.int .i64 most, .int .i64 0, .int .i64 0, .slice p n cap, .bool long, .bool bare, .bool (decide (most < all.length))]) (fun r w' => r = .returned (.tuple #[]) ∧ Q (Dec.plain ⟨0, 0, all, long, bare⟩ c) w') := hplain ⟨0, 0, all, long, bare⟩ rfl (by show (0 : Nat) ≤ _; omega)
      have hcb := byte_ne (n := 46) (by decide) hc
      replace hp := Lib.hid hp
      clear hs hplain hkeep hthen hclose hquiet hc
      go_enter Try.func25, Try.ntmps25
      go_wp2_with (go_at_call 30; ((refine hp.out.mono ?_); rintro r w1 ⟨rfl, hq⟩))
      go_returns
      exact ⟨rfl, hq⟩
  · -- point
    by_cases hc : c = 13
    · have hs : Dec.step ⟨1, line, all, long, bare⟩ c = ⟨2, line, all, long, bare⟩ := by unfold Dec.step; simp [hc]
      rw [hs]
      have hq := Lib.hid (hquiet.out ⟨2, line, all, long, bare⟩ rfl)
      subst hc
      clear hs hplain hkeep hthen hclose hquiet
      go_enter Try.func25, Try.ntmps25
      go_wp2
      go_returns
      exact ⟨rfl, hq.out⟩
    · have hs : Dec.step ⟨1, line, all, long, bare⟩ c = Dec.plain ⟨1, line, all, long, bare⟩ c := by unfold Dec.step; simp [hc]
      rw [hs]
      have hp : Calls Try.prog 30 #[.pointer (some ⟨b, 0, none⟩), .int .u8 (c.toNat : Int)] (rd w0 b #[.int .i64 most, .int .i64 1, .int .i64 line, .slice p n cap, .bool long, .bool bare, .bool (decide (most < all.length))]) (fun r w' => r = .returned (.tuple #[]) ∧ Q (Dec.plain ⟨1, line, all, long, bare⟩ c) w') := hplain ⟨1, line, all, long, bare⟩ rfl (by show line ≤ _; omega)
      have hcb := byte_ne (n := 13) (by decide) hc
      replace hp := Lib.hid hp
      clear hs hplain hkeep hthen hclose hquiet hc
      go_enter Try.func25, Try.ntmps25
      go_wp2_with (go_at_call 30; ((refine hp.out.mono ?_); rintro r w1 ⟨rfl, hq⟩))
      go_returns
      exact ⟨rfl, hq⟩
  · -- behind a point and a CR
    by_cases hc : c = 10
    · have hs : Dec.step ⟨2, line, all, long, bare⟩ c = ⟨5, line, all, long, bare⟩ := by unfold Dec.step; simp [hc]
      rw [hs]
      have hq := Lib.hid (hquiet.out ⟨5, line, all, long, bare⟩ rfl)
      subst hc
      clear hs hplain hkeep hthen hclose hquiet
      go_enter Try.func25, Try.ntmps25
      go_wp2
      go_returns
      exact ⟨rfl, hq.out⟩
    · have hs : Dec.step ⟨2, line, all, long, bare⟩ c = (Dec.keep ⟨2, line, all, long, true⟩ 13).plain c := by unfold Dec.step; simp [hc]
      rw [hs]
      have hk : Calls Try.prog 31 #[.pointer (some ⟨b, 0, none⟩), .slice (some ⟨w0.heap.size, 0, none⟩) 1 1] ((rd w0 b #[.int .i64 most, .int .i64 2, .int .i64 line, .slice p n cap, .bool long, .bool true, .bool (decide (most < all.length))]).alloc (.cells #[.int .u8 13] 5)) _ := hkeep ⟨2, line, all, long, true⟩ 13 rfl (by show line ≤ _; omega)
      have hth := fun v1 w1 h1 h2 => hthen (Dec.keep ⟨2, line, all, long, true⟩ 13) v1 w1 h1 h2 (by show line + 1 ≤ _; omega) (by show (all ++ [13]).length ≤ _; simp; omega)
      have hcb := byte_ne (n := 10) (by decide) hc
      replace hk := Lib.hid hk
      replace hth := Lib.hid hth
      clear hs hplain hkeep hthen hclose hquiet hc
      go_enter Try.func25, Try.ntmps25
      go_wp2_with first
        | (go_at_call 31; ((refine hk.out.mono ?_); rintro r w1 ⟨rfl, v1, hd1, hm1⟩; have hp := Lib.hid (hth.out v1 w1 hd1 hm1); clear hd1 hm1))
        | (go_at_call 30; ((refine hp.out.mono ?_); rintro r w2 ⟨rfl, hq⟩))
      go_returns
      exact ⟨rfl, by rw [hQ.out]; exact hq⟩
  · -- within
    have hs : Dec.step ⟨3, line, all, long, bare⟩ c = Dec.plain ⟨3, line, all, long, bare⟩ c := by unfold Dec.step; simp
    rw [hs]
    have hp : Calls Try.prog 30 #[.pointer (some ⟨b, 0, none⟩), .int .u8 (c.toNat : Int)] (rd w0 b #[.int .i64 most, .int .i64 3, .int .i64 line, .slice p n cap, .bool long, .bool bare, .bool (decide (most < all.length))]) (fun r w' => r = .returned (.tuple #[]) ∧ Q (Dec.plain ⟨3, line, all, long, bare⟩ c) w') := hplain ⟨3, line, all, long, bare⟩ rfl (by show line ≤ _; omega)
    replace hp := Lib.hid hp
    clear hs hplain hkeep hthen hclose hquiet
    go_enter Try.func25, Try.ntmps25
    go_wp2_with (go_at_call 30; ((refine hp.out.mono ?_); rintro r w1 ⟨rfl, hq⟩))
    go_returns
    exact ⟨rfl, hq⟩
  · -- within, behind a CR
    by_cases hc : c = 10
    · have hs : Dec.step ⟨4, line, all, long, bare⟩ c = ⟨0, (Dec.keep ⟨4, line, all, long, bare⟩ 10).line, (Dec.keep ⟨4, line, all, long, bare⟩ 10).all, (Dec.keep ⟨4, line, all, long, bare⟩ 10).long, (Dec.keep ⟨4, line, all, long, bare⟩ 10).bare⟩ := by unfold Dec.step; simp [hc]
      rw [hs]
      have hk : Calls Try.prog 31 #[.pointer (some ⟨b, 0, none⟩), .slice (some ⟨w0.heap.size, 0, none⟩) 1 1] ((rd w0 b #[.int .i64 most, .int .i64 4, .int .i64 line, .slice p n cap, .bool long, .bool bare, .bool (decide (most < all.length))]).alloc (.cells #[.int .u8 10] 5)) _ := hkeep ⟨4, line, all, long, bare⟩ 10 rfl (by show line ≤ _; omega)
      have hcl := fun (D' : Dec) => hclose (Dec.keep ⟨4, line, all, long, bare⟩ 10) D'
      generalize Dec.keep ⟨4, line, all, long, bare⟩ 10 = E at hk hcl ⊢
      subst hc
      replace hk := Lib.hid hk
      replace hcl := Lib.hid hcl
      clear hs hplain hkeep hthen hclose hquiet
      go_enter Try.func25, Try.ntmps25
      go_wp2_with (go_at_call 31; ((refine hk.out.mono ?_); rintro r w1 ⟨rfl, hp⟩; obtain ⟨p, cap, w2, rfl, hI2, ho, hne, hmv⟩ := hp.open; clear hp))
      go_returns
      exact ⟨rfl, by rw [hQ.out]; exact hcl.out _ _ _ _ _ hI2 ho hne hmv rfl (by simp [decCells])⟩
    · have hs : Dec.step ⟨4, line, all, long, bare⟩ c = Dec.plain ⟨4, line, all, long, true⟩ c := by unfold Dec.step; simp [hc]
      rw [hs]
      have hp : Calls Try.prog 30 #[.pointer (some ⟨b, 0, none⟩), .int .u8 (c.toNat : Int)] (rd w0 b #[.int .i64 most, .int .i64 4, .int .i64 line, .slice p n cap, .bool long, .bool true, .bool (decide (most < all.length))]) (fun r w' => r = .returned (.tuple #[]) ∧ Q (Dec.plain ⟨4, line, all, long, true⟩ c) w') := hplain ⟨4, line, all, long, true⟩ rfl (by show line ≤ _; omega)
      have hcb := byte_ne (n := 10) (by decide) hc
      replace hp := Lib.hid hp
      clear hs hplain hkeep hthen hclose hquiet hc
      go_enter Try.func25, Try.ntmps25
      go_wp2_with (go_at_call 30; ((refine hp.out.mono ?_); rintro r w1 ⟨rfl, hq⟩))
      go_returns
      exact ⟨rfl, hq⟩
  · -- ended
    have hs : Dec.step ⟨5, line, all, long, bare⟩ c = ⟨5, line, all, long, bare⟩ := by unfold Dec.step; simp
    rw [hs]
    have hq := Lib.hid (hquiet.out ⟨5, line, all, long, bare⟩ rfl)
    clear hs hplain hkeep hthen hclose hquiet
    go_enter Try.func25, Try.ntmps25
    go_wp2
    go_returns
    exact ⟨rfl, hq.out⟩
end Go.Proofs.Ytnoiaeajpjhldaa
