/-
  PQuoted.
-/
import Derived.Test.YtnkppakkeobegaaGreatDoorZP39
import Derived.Test.YtnkppakkeobegaaGreatDoorZP28
set_option maxRecDepth 20000
set_option linter.unusedVariables false
set_option linter.unusedSimpArgs false
set_option linter.unusedSectionVars false
namespace Go.Proofs.YtnkppakkeobegaaGreatDoor
open Go.ChangeShapes Go.WideShapes Go.ChangeAt Go.RowKit
namespace AX
theorem map_strike0 (cs : List Cell) : cs.map (Cell.strike fun _ => false) = cs := by
 have : Cell.strike (fun _ => false) = id := by funext c; exact strike_none c
 rw [this, List.map_id]
theorem av_strike0 (v : AV) : v.map (Cell.strike fun _ => false) = v := by
 cases v with
 | one c => show AV.one (c.strike _) = _; rw [strike_none]
 | agg cs => show AV.agg (cs.map _) = _; rw [map_strike0]
 | tup vs =>
  show AV.tup (vs.map _) = _
  have : V1.map (Cell.strike fun _ => false) = id := by
   funext x
   cases x with
   | one c => show V1.one (c.strike _) = _; rw [strike_none]; rfl
   | agg cs => show V1.agg (cs.map _) = _; rw [map_strike0]; rfl
  rw [this, List.map_id]
 | undef => rfl
theorem strikeH0 : ∀ H : Heap, strikeH (fun _ => false) H = H
 | [] => rfl
 | b :: r => by show b.map _ :: strikeH _ r = _; rw [map_strike0, strikeH0 r]
theorem lk_strike0 (fr : List (Nat × AV)) (s : Nat) : lk (strikeFr (fun _ => false) fr) s = lk fr s := by
 rw [lk_strike]
 cases lk fr s with
 | none => rfl
 | some v => show some (v.map _) = _; rw [av_strike0]
theorem pQuoted_ok : PrimHOk Tryz.prog 195 pQuoted where
 ok := fun b args old v new h B g st a w vals blk S hold hbx hA => by
  unfold pQuoted at h
  split at h
  · rename_i b' s at_ lg hargs
    cases hargs
    cases hA
    cases hc : (decide (0 ≤ at_) && (decide (at_.toNat ≤ s.length) && decide (s.length ≤ 1000000))) with
    | false => rw [hc] at h; cases h
    | true =>
     rw [hc] at h
     simp only [cond_true] at h
     simp only [Bool.and_eq_true, decide_eq_true_eq] at hc
     obtain ⟨h0, h1, h2⟩ := hc
     obtain ⟨blk', e1, hb⟩ := S.bx.box b _ hold
     rw [hbx] at e1; cases e1
     have hrow : ∃ vs e, w.heap[blk]? = some (.cells vs e (0, 0)) ∧ RvA g w vs [.str s, .int .i64 at_, .bool lg] := by
      cases hb with
      | cells vs e _ k1 k2 => exact ⟨vs, e, k1, k2⟩
     obtain ⟨vs, e, k1, k2⟩ := hrow
     obtain ⟨x, y, z, rfl, r1, r2, r3⟩ := agg3 (g := g) (w := w) (v := .agg vs) ⟨vs, rfl, k2⟩ |> fun ⟨x, y, z, hxyz, r1, r2, r3⟩ => (⟨x, y, z, by cases hxyz; rfl, r1, r2, r3⟩ : ∃ x y z, vs = #[x, y, z] ∧ Rc g w x (.str s) ∧ Rc g w y (.int .i64 at_) ∧ Rc g w z (.bool lg))
     obtain rfl := Rc.str_inv r1
     obtain rfl := Rc.int_inv r2
     obtain rfl := Rc.bool_inv r3
     obtain ⟨m, rfl⟩ : ∃ m : Nat, at_ = (m : Int) := ⟨at_.toNat, by omega⟩
     have hsz : (⟨s.toArray⟩ : ByteArray).size = s.length := by show s.toArray.size = _; simp
     have hbl : (⟨s.toArray⟩ : ByteArray).data.toList = s := by simp
     have key := quoted_any (s := ⟨s.toArray⟩) (lg := lg) (b := blk) (w := w) m _ _ rfl rfl rfl (by rw [hsz]; simpa using h1) (by rw [hsz]; omega) ⟨e, k1⟩
     rw [hbl] at key
     rw [Int.toNat_natCast] at h
     have fin : ∀ (K : Int) (u : Value) (x : AV) (e' : Ending) (w' : World), After blk #[.string ⟨s.toArray⟩, .int .i64 K, .bool lg] (.returned u) w e' w' → (∀ g' w', Rv g' w' u x) →
      ∃ u g', e' = .returned u ∧ Rv g' w' u x ∧ Sim Tryz.prog B g' ⟨strikeFr (namesIn [.str s, .int .i64 (m : Int), .bool lg]) st.fr, (strikeH (namesIn [.str s, .int .i64 (m : Int), .bool lg]) st.H).set b [.str s, .int .i64 K, .bool lg], st.G⟩ a w' := by
      rintro K u x e' w' ⟨rfl, bs, d, rfl⟩ hu
      refine ⟨u, g, rfl, hu _ _, ?_⟩
      have hn : namesIn [.str s, .int .i64 (m : Int), .bool lg] = fun _ => false := by funext q; simp [namesIn]
      rw [hn]
      suffices hS : Sim Tryz.prog B g ⟨st.fr, st.H.set b [.str s, .int .i64 K, .bool lg], st.G⟩ a (app (rd w blk #[.string ⟨s.toArray⟩, .int .i64 K, .bool lg]) bs d) from hS.eqv ⟨fun s => lk_strike0 _ s, by rw [strikeH0], rfl⟩
      have hlt : blk < w.heap.size := (Array.getElem?_eq_some_iff.1 k1).1
      refine S.turnBox hbx rfl rfl rfl (by simp [app, rd_size]) (fun k hk hne => ?_) fun hc' => ?_
      · exact (app_heap _ _ _ _ (by rw [rd_size]; exact hk)).trans (rd_block_ne w blk k _ hne)
      · refine .cells #[.string ⟨s.toArray⟩, .int .i64 K, .bool lg] e _ ((app_heap _ _ _ _ (by rw [rd_size]; exact hlt)).trans (setRow_heap w blk _ _ e _ k1)) ⟨rfl, fun i v c hv hc => ?_⟩
        match i, hv, hc with
        | 0, hv, hc => cases hv; cases hc; exact .data (.str _)
        | 1, hv, hc => cases hv; cases hc; exact .data (.int _ _)
        | 2, hv, hc => cases hv; cases hc; exact .data (.bool _)
        | n + 3, hv, _ => simp at hv
     cases hq : quotedP (s.drop m) with
     | some tk =>
      obtain ⟨t, k⟩ := tk
      rw [hq] at h key
      cases h
      refine key.mono fun e' w' hk => ?_
      have := fin _ _ (.tup [.one (.str t), .one (.bool true)]) e' w' hk (fun g' w' => two_rv (.data (.str t)) (.data (.bool true)))
      simpa using this
     | none =>
      rw [hq] at h key
      cases h
      refine key.mono fun e' w' hk => ?_
      have := fin _ _ (.tup [.one (.str []), .one (.bool false)]) e' w' hk (fun g' w' => two_rv (.data (.str [])) (.data (.bool false)))
      simpa using this
  · cases h
 fn := ⟨Tryz.f195, by kernel_rfl, by kernel_rfl, of_decide_eq_true (by kernel_rfl)⟩
end AX
end Go.Proofs.YtnkppakkeobegaaGreatDoor
