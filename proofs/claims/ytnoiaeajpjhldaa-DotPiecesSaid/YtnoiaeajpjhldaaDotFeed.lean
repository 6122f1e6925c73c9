/-
  dot.Decoder: Done, Feed: what they do.
-/
import Derived.Test.YtnoiaeajpjhldaaDotStep
namespace Go.Proofs.Ytnoiaeajpjhldaa
open Go.ChangeShapes Go.WideShapes Go.ChangeAt Go.RowKit

theorem step_bounds (D : Dec) (c : UInt8) (h : D.st ≤ 5) : (D.step c).st ≤ 5 ∧ (D.step c).line ≤ D.line + 2 ∧ (D.step c).all.length ≤ D.all.length + 2 := by
  have hk : ∀ (E : Dec) (x : UInt8), (E.plain x).st ≤ 5 ∧ (E.plain x).line = E.line + 1 ∧ (E.plain x).all.length = E.all.length + 1 := fun E x =>
    ⟨by unfold Dec.plain; show (if x = 13 then 4 else 3) ≤ 5; split <;> omega, rfl, by unfold Dec.plain Dec.keep; simp⟩
  unfold Dec.step
  split
  · split
    · exact ⟨by show (1 : Nat) ≤ 5; omega, Nat.zero_le _, Nat.le_add_right _ _⟩
    · obtain ⟨a1, a2, a3⟩ := hk { D with line := 0 } c
      exact ⟨a1, by rw [a2]; show 0 + 1 ≤ _; omega, by rw [a3]; show D.all.length + 1 ≤ _; omega⟩
  · split
    · split
      · exact ⟨by show (2 : Nat) ≤ 5; omega, Nat.le_add_right _ _, Nat.le_add_right _ _⟩
      · obtain ⟨a1, a2, a3⟩ := hk D c
        exact ⟨a1, by omega, by omega⟩
    · split
      · split
        · exact ⟨by show (5 : Nat) ≤ 5; omega, Nat.le_add_right _ _, Nat.le_add_right _ _⟩
        · obtain ⟨a1, a2, a3⟩ := hk ({ D with bare := true }.keep 13) c
          exact ⟨a1, by rw [a2]; show D.line + 1 + 1 ≤ _; omega, by rw [a3]; show (D.all ++ [13]).length + 1 ≤ _; simp⟩
      · split
        · obtain ⟨a1, a2, a3⟩ := hk D c
          exact ⟨a1, by omega, by omega⟩
        · split
          · split
            · exact ⟨by show (0 : Nat) ≤ 5; omega, by show D.line + 1 ≤ _; omega, by show (D.all ++ [10]).length ≤ _; simp⟩
            · obtain ⟨a1, a2, a3⟩ := hk { D with bare := true } c
              exact ⟨a1, by rw [a2]; show D.line + 1 ≤ _; omega, by rw [a3]; show D.all.length + 1 ≤ _; omega⟩
          · exact ⟨h, Nat.le_add_right _ _, Nat.le_add_right _ _⟩
theorem done_calls {most b B : Nat} {D : Dec} {v : Value} {w : World} (h : DecIs most b B D v w) : Calls Try.prog 19 #[.pointer (some ⟨b, 0, none⟩)] w fun r w' => r = .returned (.bool (decide (D.st = 5))) ∧ w = w' := by
  obtain ⟨w0, rfl, hI⟩ := row_rd h.row
  have hb := hI.lt
  have e : decide (D.st = 5) = ((D.st : Int) == 5) := by rw [Bool.eq_iff_iff]; simp; omega
  rw [e]
  generalize hS : rd w0 b (decCells most D v) = S
  have hc : S.cell? ⟨b, 1, none⟩ = some (.int .i64 D.st) := by rw [← hS, rd_cell hI]; rfl
  clear hS e h
  go_enter Try.func19, Try.ntmps19
  go_wp2
  go_returns
  exact ⟨rfl, rfl⟩
/-- A slice's bytes, at a place that no decoder's step turns. -/
structure BytesFar (w : World) (q : Option Addr) (l : List UInt8) (b : Nat) (v : Value) (bb off : Nat) : Prop where
  ptr : q = some ⟨bb, off, none⟩
  lt : bb < w.heap.size
  ne : bb ≠ b
  far : v.ownBlock ≠ some bb
  cell : ∀ i (h : i < l.length), w.cell? ⟨bb, off + i, none⟩ = some (.int .u8 (l[i].toNat : Int))
def RelFd (most b B : Nat) (D : Dec) (v : Value) (w : World) (l : List UInt8) (u : Value) (wr : World) : Prop :=
  ∃ (k : Nat) (D' : Dec) (v' : Value), k ≤ l.length ∧ u = .int .i64 k ∧ DecIs most b B D' v' wr ∧ Moves b v v' w wr ∧ D'.st ≤ 5 ∧ D'.line ≤ D.line + 2 * k ∧ D'.all.length ≤ D.all.length + 2 * k ∧ Hid (D.feed l = ((D'.feed (l.drop k)).1, k + (D'.feed (l.drop k)).2))
set_option maxHeartbeats 4000000 in
theorem feed_calls {most b B : Nat} {D : Dec} {v : Value} {w : World} (l : List UInt8) (q : Option Addr) (cap bb off : Nat) (h : DecIs most b B D v w) (hl : BytesFar w q l b v bb off) (hB : B ≤ w.heap.size) (hst : D.st ≤ 5) (hline : D.line ≤ 100000000) (hall : D.all.length ≤ 100000000) (hlen : l.length ≤ 100000000) (hmost : most ≤ 9223372036854775807) :
    Calls Try.prog 17 #[.pointer (some ⟨b, 0, none⟩), .slice q l.length cap] w fun r w' => r = .returned (.tuple #[.int .i64 ((D.feed l).2 : Int), .bool (decide ((D.feed l).1.st = 5))]) ∧ DecPost most b B (D.feed l).1 v w w' := by
  obtain ⟨rfl, hbb, hnb, hfar, hcell⟩ := hl
  go_enter Try.func17, Try.ntmps17
  go_wp2
  go_loopw [4] (fun u wr => RelFd most b B D v w l u wr) (fun u _ => l.length - (intOf u).toNat)
  case atStart => exact ⟨0, D, v, by omega, rfl, h, Moves.refl _ _ _, hst, by omega, by omega, by unfold Hid; simp⟩
  case round =>
    obtain ⟨k, D', v', hk, rfl, hd, hm, hst', hli', hal', hr⟩ := hrel
    clear h hst
    have hdn := done_calls hd
    obtain ⟨w2, rfl, hI⟩ := row_rd hd.row
    have hb := hI.lt
    have hcst : (rd w2 b (decCells most D' v')).cell? ⟨b, 1, none⟩ = some (.int .i64 D'.st) := by rw [rd_cell hI]; rfl
    generalize hS : rd w2 b (decCells most D' v') = S at *
    have hbS : b < S.heap.size := by rw [← hS, rd_size]; exact hb
    clear hS hI hb
    by_cases hlt : k < l.length
    · by_cases h5 : D'.st = 5
      · have hv : Hid (D.feed l = (D', k)) := by unfold Hid; rw [hr.out, feed_done h5]; simp
        have h5' : ((D'.st : Int) != 5) = false := by simp; omega
        rw [decide_eq_true h5] at hdn
        have hdec : Hid (decide (D'.st = 5) = true) := decide_eq_true h5
        replace hdn := Lib.hid hdn
        clear hr h5 hcell
        go_wp2_with (go_at_call 19; ((refine (hdn.out).mono ?_); rintro _ _ ⟨rfl, rfl⟩))
        go_returns
        exact ⟨by rw [hv.out]; simp only [hdec.out]; rfl, by rw [hv.out]; exact ⟨v', hd, hm⟩⟩
      · have h5' : ((D'.st : Int) != 5) = true := by simp; omega
        have hck : S.cell? ⟨bb, off + k, none⟩ = some (.int .u8 (l[k].toNat : Int)) :=
          (World.cell?_of_block (a := ⟨bb, off + k, none⟩) (hm.block bb hbb hnb hfar)).trans (hcell k hlt)
        have hbb2 : bb < S.heap.size := Nat.lt_of_lt_of_le hbb hm.size
        have hsc := step_calls l[k] hd (by have := hm.size; omega) hst' (by omega) (by omega) hmost
        obtain ⟨b1, b2, b3⟩ := step_bounds D' l[k] hst'
        have hR : Hid (D.feed l = (((D'.step l[k]).feed (l.drop (k + 1))).1, (k + 1) + ((D'.step l[k]).feed (l.drop (k + 1))).2)) := by
          unfold Hid
          rw [hr.out, List.drop_eq_getElem_cons hlt, Dec.feed, if_neg h5]
          refine Prod.ext_iff.2 ⟨rfl, ?_⟩
          simp only []
          omega
        unfold StepOk at hsc
        replace hsc := Lib.hid hsc
        clear hr h5 hcell hdn
        go_wp2_with (go_at_call 25; ((refine hsc.out.mono ?_); rintro r w1 ⟨rfl, v1, hd1, hm1⟩))
        go_roundw
        case rel => first | exact ⟨k + 1, _, v1, by omega, by go_num, hd1, hm.trans hm1, b1, by omega, by omega, hR⟩ | ((repeat apply Exists.intro); refine ⟨?rl, ?fr⟩; case fr => ((repeat' apply And.intro) <;> exact rfl); case rl => exact ⟨k + 1, _, v1, by omega, by go_num, hd1, hm.trans hm1, b1, by omega, by omega, hR⟩)
        case measure => first | (simp [intOf]; done) | (simp [intOf]; omega)
    · have hke : k = l.length := by omega
      subst hke
      have hv : Hid (D.feed l = (D', l.length)) := by unfold Hid; rw [hr.out, List.drop_of_length_le (Nat.le_refl _)]; rfl
      replace hdn := Lib.hid hdn
      clear hr hcell
      go_wp2_with (go_at_call 19; ((refine (hdn.out).mono ?_); rintro _ _ ⟨rfl, rfl⟩))
      go_returns
      exact ⟨by rw [hv.out]; rfl, by rw [hv.out]; exact ⟨v', hd, hm⟩⟩
end Go.Proofs.Ytnoiaeajpjhldaa
