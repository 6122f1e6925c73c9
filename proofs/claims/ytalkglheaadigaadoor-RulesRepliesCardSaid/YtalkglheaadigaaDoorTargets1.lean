/-
  rules.Targets at one recipient with one user told twice: one target.
-/
import Derived.Test.YtalkglheaadigaaDoorProg
import Derived.Test.YtalkglheaadigaaDoorBase
import Derived.Maps.OwnOps
import Derived.Maps.Views
import Derived.OwnWalk
namespace Go.Proofs.YtalkglheaadigaaDoor
set_option maxRecDepth 20000
open Go.ChangeShapes Go.WideShapes Go.ChangeAt Go.RowKit Go.Maps

theorem keyInt : Keyed Tryd.prog 3 := int_keyed Tryd.underlying3
theorem zeroInt (w : World) : (zeroValue 3).run Tryd.prog w = .ok (.int .i64 0) w := by kernel_rfl
theorem infoTarget : (Tryd.prog.info? 91).map (fun i => (i.zero, i.size, i.bytes)) = some (some (.agg #[.int .i64 0, .string ⟨#[]⟩, .string ⟨#[]⟩]), 3, 40) := by kernel_rfl
theorem key3 : keyOf Tryd.prog 3 (.int .i64 3) = some (.int .i64 3) := keyOf_int_mk Tryd.underlying3 (by decide)
theorem at0 {c : Int} (h : (DataW.map (H := Unit) []).atKey (.int .i64 3) (.lit (.int .i64 0)) = .lit (.int .i64 c)) : c = 0 := by
  have : (DataW.map (H := Unit) []).atKey (.int .i64 3) (.lit (.int .i64 0)) = .lit (.int .i64 0) := rfl
  rw [this] at h; cases h; rfl
def D1 : DataW Unit := (DataW.map []).put (.int .i64 3) (.lit (.int .i64 1))
def D2 : DataW Unit := D1.put (.int .i64 3) (.lit (.int .i64 2))
theorem at1 {c : Int} (h : D1.atKey (.int .i64 3) (.lit (.int .i64 0)) = .lit (.int .i64 c)) : c = 1 := by
  have : D1.atKey (.int .i64 3) (.lit (.int .i64 0)) = .lit (.int .i64 1) := rfl
  rw [this] at h; cases h; rfl
theorem at2 {c : Int} (h : D2.atKey (.int .i64 3) (.lit (.int .i64 0)) = .lit (.int .i64 c)) : c = 2 := by
  have : D2.atKey (.int .i64 3) (.lit (.int .i64 0)) = .lit (.int .i64 2) := rfl
  rw [this] at h; cases h; rfl

theorem cells_new (W : World) (b : Nat) (hb : b = W.heap.size) (cs : Array Value) (T : TypeId) : ∀ j u, cs.toList[j]? = some u → (W.alloc (.cells cs T)).cell? ((⟨b, 0, none⟩ : Addr).add j) = some u := fun j u h => by
  subst hb
  rw [show (⟨W.heap.size, 0, none⟩ : Addr).add j = ⟨W.heap.size, j, none⟩ by simp [Addr.add]; exact fun h => h.symm, World.cell?_alloc_mark]
  simpa using h
theorem row_one {W : World} {base : Nat} {e : TypeId} {size : Nat} {v : Value} {xs : List Value} (h : W.ownsRow base e size v (0 + 1) xs) : ∃ p c, v = .slice p 1 c := by
  obtain ⟨_, ⟨_, h0⟩ | ⟨g, cap, cur, rfl, _⟩⟩ := h
  · omega
  · exact ⟨_, _, rfl⟩
set_option maxHeartbeats 1000000 in
theorem targets_one (ta ua uu : Nat) (s t : ByteArray) (w : World) (h1 : ta < w.heap.size) (h2 : ua < w.heap.size) (h3 : uu < w.heap.size)
    (c1 : w.cell? ⟨ta, 0, none⟩ = some (.string s)) (c2 : w.cell? ⟨ta, 1, none⟩ = some (.string t)) (c3 : w.cell? ⟨ua, 0, none⟩ = some (.slice (some ⟨uu, 0, none⟩) 2 2))
    (c4 : w.cell? ⟨uu, 0, none⟩ = some (.int .i64 3)) (c5 : w.cell? ⟨uu, 1, none⟩ = some (.int .i64 3)) :
    Calls Tryd.prog 32 #[.slice (some ⟨ta, 0, none⟩) 1 1, .slice (some ⟨ua, 0, none⟩) 1 1] w fun r w' => (∃ p c, r = .returned (.slice p 1 c)) ∧ Below w.heap.size w w' := by
  have hmm := @run_makeMap Tryd.prog
  obtain ⟨i0, hi, hz0, hz1, hz2⟩ := info_parts infoTarget
  have hown := World.ownsMap_made w Tryd.prog 3 (plainElem (H := Unit) Tryd.prog 3)
  have hbel : Below w.heap.size w (w.alloc (.map #[] 0)) := by (repeat' (first | (with_reducible exact Below.refl _ _) | (with_reducible refine Below.app ?_ ?_ _ _) | (with_reducible refine Below.alloc ?_ ?_ _) | (with_reducible refine Below.drew ?_) | (with_reducible refine Below.setCell ?_ ?_ _) | (with_reducible assumption) | omega | (simp; omega) | (simp; done)))
  go_enter Tryd.func32, Tryd.ntmps32
  go_wp2
  refine wp_loop_rounds 2 ?_
  rw [rounds_succ]
  go_wp2
  refine wp_loop_rounds 3 ?_
  rw [rounds_succ]
  go_wp2_with first
    | (at_lookup; refine wpList_lookup_own_int _ rfl _ _ 89 rfl 3 3 .i64 keyInt Tryd.underlying89 Tryd.underlying3 (zeroInt _) w.heap.size (0 + 1) _ rfl hown1 _ _ rfl key3 ?_; intro c hat _; obtain rfl := at1 hat; clear hat)
    | (at_lookup; refine wpList_lookup_own_int _ rfl _ _ 89 rfl 3 3 .i64 keyInt Tryd.underlying89 Tryd.underlying3 (zeroInt _) w.heap.size 0 _ rfl hown _ _ rfl key3 ?_; intro c hat _; obtain rfl := at0 hat; clear hat)
    | (at_mapUpdate; refine wpList_mapUpdate_own _ rfl _ _ _ 89 rfl 3 3 keyInt Tryd.underlying89 _ w.heap.size 0 _ rfl hown (by unfold maxLen; omega) _ _ _ rfl rfl key3 _ [] (plainElem_int Tryd.underlying3 (by decide)) ?_; intro w1 hown1 hg; have hbel2 := hbel.grown hg hbel.size (fun j hj => by cases hj; exact Nat.le_refl _); clear hbel hown hg; obtain ⟨bs1, bs1d, rfl⟩ := of_below hbel2)
    | (at_builtin; refine wpList_append_own _ rfl _ _ 59 rfl w.heap.size 91 i0 _ 3 40 Tryd.underlying59 hi hz0 hz1 hz2 rfl (by decide) _ 0 [] rfl (World.ownsRow_nil _ _ _ _) _ 1 1 [.int .i64 3, .string s, .string t] rfl rfl (cells_new _ _ (by simp) #[.int .i64 3, .string s, .string t] _) (by simp [Value.oneCell']) (by unfold maxLen; omega) (by omega) (by simp; omega) ?_; intro v1 w2 hrow hg0 _; have hg : World.grownBy _ w2 none := hg0; clear hg0; have hown2 := (hown1.alloc _).kept hg (by simp); have hbel3 := (hbel2.alloc (by simp) _).grown hg (by simp; omega) (fun j hj => by cases hj); clear hbel2 hown1 hg; obtain ⟨bs2, bs2d, rfl⟩ := of_below hbel3; obtain ⟨p1, c1', rfl⟩ := row_one hrow; clear hrow)
  rw [rounds_succ]
  go_wp2_with first
    | (at_lookup; refine wpList_lookup_own_int _ rfl _ _ 89 rfl 3 3 .i64 keyInt Tryd.underlying89 Tryd.underlying3 (zeroInt _) w.heap.size (0 + 1 + 1) _ rfl hown3 _ _ rfl key3 ?_; intro c hat _; obtain rfl := at2 hat; clear hat)
    | (at_lookup; refine wpList_lookup_own_int _ rfl _ _ 89 rfl 3 3 .i64 keyInt Tryd.underlying89 Tryd.underlying3 (zeroInt _) w.heap.size (0 + 1) _ rfl hown2 _ _ rfl key3 ?_; intro c hat _; obtain rfl := at1 hat; clear hat)
    | (at_mapUpdate; refine wpList_mapUpdate_own _ rfl _ _ _ 89 rfl 3 3 keyInt Tryd.underlying89 _ w.heap.size (0 + 1) _ rfl hown2 (by unfold maxLen; omega) _ _ _ rfl rfl key3 _ [] (plainElem_int Tryd.underlying3 (by decide)) ?_; intro w1 hown3 hg; have hbel4 := hbel3.grown hg hbel3.size (fun j hj => by cases hj; exact Nat.le_refl _); clear hbel3 hown2 hg; obtain ⟨bs3, bs3d, rfl⟩ := of_below hbel4)
  rw [rounds_succ]
  go_wp2
  rw [rounds_succ]
  go_wp2
  go_returns
  exact ⟨⟨_, _, rfl⟩, hbel4⟩
end Go.Proofs.YtalkglheaadigaaDoor
