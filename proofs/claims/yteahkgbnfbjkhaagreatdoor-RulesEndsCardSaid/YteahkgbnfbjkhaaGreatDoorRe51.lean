/-
  Targets1, Awake27, RulesEndsW, RulesEndsL.
-/
import Derived.Test.YteahkgbnfbjkhaaGreatDoorProg
import Derived.Test.YteahkgbnfbjkhaaGreatDoorRe00
import Derived.Maps.OwnOps
import Derived.Maps.Views
import Derived.OwnWalk
import Derived.Test.YteahkgbnfbjkhaaGreatDoorRe50
import Derived.Test.YteahkgbnfbjkhaaGreatDoorRe49
set_option maxRecDepth 20000
set_option linter.unusedVariables false
set_option linter.unusedSimpArgs false
set_option linter.unusedSectionVars false
namespace Go.Proofs.YteahkgbnfbjkhaaGreatDoor
open Go.ChangeShapes Go.WideShapes Go.ChangeAt Go.RowKit Go.Maps
theorem keyInt : Keyed Tryz.prog 3 := int_keyed Tryz.underlying3
theorem zeroInt (w : World) : (zeroValue 3).run Tryz.prog w = .ok (.int .i64 0) w := by kernel_rfl
theorem infoTarget : (Tryz.prog.info? 60).map (fun i => (i.zero, i.size, i.bytes)) = some (some (.agg #[.int .i64 0, .string ⟨#[]⟩, .string ⟨#[]⟩]), 3, 40) := by kernel_rfl
theorem key3 : keyOf Tryz.prog 3 (.int .i64 3) = some (.int .i64 3) := keyOf_int_mk Tryz.underlying3 (by decide)
theorem at0 {c : Int} (h : (DataW.map (H := Unit) []).atKey (.int .i64 3) (.lit (.int .i64 0)) = .lit (.int .i64 c)) : c = 0 := by
 have : (DataW.map (H := Unit) []).atKey (.int .i64 3) (.lit (.int .i64 0)) = .lit (.int .i64 0) := rfl
 rw [this] at h; cases h; rfl
def D1 : DataW Unit := (DataW.map []).put (.int .i64 3) (.lit (.int .i64 1))
def D2 : DataW Unit := D1.put (.int .i64 3) (.lit (.int .i64 2))
theorem at1 {c : Int} (h : D1.atKey (.int .i64 3) (.lit (.int .i64 0)) = .lit (.int .i64 c)) : c = 1 := by
 have : D1.atKey (.int .i64 3) (.lit (.int .i64 0)) = .lit (.int .i64 1) := rfl
 rw [this] at h; cases h; rfl
theorem at2 {c : Int} (h : D2.atKey (.int .i64 3) (.lit (.int .i64 0)) = .lit (.int .i64 c)) : c = 2 := by
 have : D2.atKey (.int .i64 3) (.lit (.int .i64 0)) = .lit (.int .i64 2) := rfl
 rw [this] at h; cases h; rfl
theorem cells_new (W : World) (b : Nat) (hb : b = W.heap.size) (cs : Array Value) (T : TypeId) : ∀ j u, cs.toList[j]? = some u → (W.alloc (.cells cs T)).cell? ((⟨b, 0, none⟩ : Addr).add j) = some u := fun j u h => by
 subst hb
 rw [show (⟨W.heap.size, 0, none⟩ : Addr).add j = ⟨W.heap.size, j, none⟩ by simp [Addr.add]; exact fun h => h.symm, World.cell?_alloc_mark]
 simpa using h
theorem row_one {W : World} {base : Nat} {e : TypeId} {size : Nat} {v : Value} {xs : List Value} (h : W.ownsRow base e size v (0 + 1) xs) : ∃ p c, v = .slice p 1 c := by
 obtain ⟨_, ⟨_, h0⟩ | ⟨g, cap, cur, rfl, _⟩⟩ := h
 · omega
 · exact ⟨_, _, rfl⟩
set_option maxHeartbeats 1000000 in
theorem targets_one (ta ua uu : Nat) (s t : ByteArray) (w : World) (h1 : ta < w.heap.size) (h2 : ua < w.heap.size) (h3 : uu < w.heap.size)
 (c1 : w.cell? ⟨ta, 0, none⟩ = some (.string s)) (c2 : w.cell? ⟨ta, 1, none⟩ = some (.string t)) (c3 : w.cell? ⟨ua, 0, none⟩ = some (.slice (some ⟨uu, 0, none⟩) 2 2))
 (c4 : w.cell? ⟨uu, 0, none⟩ = some (.int .i64 3)) (c5 : w.cell? ⟨uu, 1, none⟩ = some (.int .i64 3)) :
 Calls Tryz.prog 28 #[.slice (some ⟨ta, 0, none⟩) 1 1, .slice (some ⟨ua, 0, none⟩) 1 1] w fun r w' => (∃ p c, r = .returned (.slice p 1 c)) ∧ Below w.heap.size w w' := by
 have hmm := @run_makeMap Tryz.prog
 obtain ⟨i0, hi, hz0, hz1, hz2⟩ := info_parts infoTarget
 have hown := World.ownsMap_made w Tryz.prog 3 (plainElem (H := Unit) Tryz.prog 3)
 have hbel : Below w.heap.size w (w.alloc (.map #[] 0)) := by (repeat' (first | (with_reducible exact Below.refl _ _) | (with_reducible refine Below.app ?_ ?_ _ _) | (with_reducible refine Below.alloc ?_ ?_ _) | (with_reducible refine Below.drew ?_) | (with_reducible refine Below.setCell ?_ ?_ _) | (with_reducible assumption) | omega | (simp; omega) | (simp; done)))
 go_enter Tryz.func28, Tryz.ntmps28
 go_wp2
 refine wp_loop_rounds 2 ?_
 rw [rounds_succ]
 go_wp2
 refine wp_loop_rounds 3 ?_
 rw [rounds_succ]
 go_wp2_with first
  | (at_lookup; refine wpList_lookup_own_int _ rfl _ _ 125 rfl 3 3 .i64 keyInt Tryz.underlying125 Tryz.underlying3 (zeroInt _) w.heap.size (0 + 1) _ rfl hown1 _ _ rfl key3 ?_; intro c hat _; obtain rfl := at1 hat; clear hat)
  | (at_lookup; refine wpList_lookup_own_int _ rfl _ _ 125 rfl 3 3 .i64 keyInt Tryz.underlying125 Tryz.underlying3 (zeroInt _) w.heap.size 0 _ rfl hown _ _ rfl key3 ?_; intro c hat _; obtain rfl := at0 hat; clear hat)
  | (at_mapUpdate; refine wpList_mapUpdate_own _ rfl _ _ _ 125 rfl 3 3 keyInt Tryz.underlying125 _ w.heap.size 0 _ rfl hown (by unfold maxLen; omega) _ _ _ rfl rfl key3 _ [] (plainElem_int Tryz.underlying3 (by decide)) ?_; intro w1 hown1 hg; have hbel2 := hbel.grown hg hbel.size (fun j hj => by cases hj; exact Nat.le_refl _); clear hbel hown hg; obtain ⟨bs1, bs1d, rfl⟩ := of_below hbel2)
  | (at_builtin; refine wpList_append_own _ rfl _ _ 27 rfl w.heap.size 60 i0 _ 3 40 Tryz.underlying27 hi hz0 hz1 hz2 rfl (by decide) _ 0 [] rfl (World.ownsRow_nil _ _ _ _) _ 1 1 [.int .i64 3, .string s, .string t] rfl rfl (cells_new _ _ (by simp) #[.int .i64 3, .string s, .string t] _) (by simp [Value.oneCell']) (by unfold maxLen; omega) (by omega) (by simp; omega) ?_; intro v1 w2 hrow hg0 _; have hg : World.grownBy _ w2 none := hg0; clear hg0; have hown2 := (hown1.alloc _).kept hg (by simp); have hbel3 := (hbel2.alloc (by simp) _).grown hg (by simp; omega) (fun j hj => by cases hj); clear hbel2 hown1 hg; obtain ⟨bs2, bs2d, rfl⟩ := of_below hbel3; obtain ⟨p1, c1', rfl⟩ := row_one hrow; clear hrow)
 rw [rounds_succ]
 go_wp2_with first
  | (at_lookup; refine wpList_lookup_own_int _ rfl _ _ 125 rfl 3 3 .i64 keyInt Tryz.underlying125 Tryz.underlying3 (zeroInt _) w.heap.size (0 + 1 + 1) _ rfl hown3 _ _ rfl key3 ?_; intro c hat _; obtain rfl := at2 hat; clear hat)
  | (at_lookup; refine wpList_lookup_own_int _ rfl _ _ 125 rfl 3 3 .i64 keyInt Tryz.underlying125 Tryz.underlying3 (zeroInt _) w.heap.size (0 + 1) _ rfl hown2 _ _ rfl key3 ?_; intro c hat _; obtain rfl := at1 hat; clear hat)
  | (at_mapUpdate; refine wpList_mapUpdate_own _ rfl _ _ _ 125 rfl 3 3 keyInt Tryz.underlying125 _ w.heap.size (0 + 1) _ rfl hown2 (by unfold maxLen; omega) _ _ _ rfl rfl key3 _ [] (plainElem_int Tryz.underlying3 (by decide)) ?_; intro w1 hown3 hg; have hbel4 := hbel3.grown hg hbel3.size (fun j hj => by cases hj; exact Nat.le_refl _); clear hbel3 hown2 hg; obtain ⟨bs3, bs3d, rfl⟩ := of_below hbel4)
 rw [rounds_succ]
 go_wp2
 rw [rounds_succ]
 go_wp2
 go_returns
 exact ⟨⟨_, _, rfl⟩, hbel4⟩
end Go.Proofs.YteahkgbnfbjkhaaGreatDoor
set_option maxRecDepth 20000
set_option linter.unusedVariables false
set_option linter.unusedSimpArgs false
set_option linter.unusedSectionVars false
namespace Go.Proofs.YteahkgbnfbjkhaaGreatDoor
open Go.ChangeShapes Go.WideShapes Go.ChangeAt Go.RowKit
theorem ints_new27 (w : World) (xs : List Int) (T : TypeId) : IntsAt (w.alloc (.cells (xs.map (Value.int .i64)).toArray T)) (some ⟨w.heap.size, 0, none⟩) xs := fun i hi =>
 ⟨w.heap.size, 0, rfl, by simp, by
  simp [go_sem, List.getD, hi]⟩
theorem ints_two27 (w : World) (a b : Int) (T : TypeId) : IntsAt (w.alloc (.cells #[.int .i64 a, .int .i64 b] T)) (some ⟨w.heap.size, 0, none⟩) [a, b] := ints_new27 w [a, b] T
theorem ints_at27 (w : World) (b : Nat) (hb : b = w.heap.size) (x y : Int) (T : TypeId) : IntsAt (w.alloc (.cells #[.int .i64 x, .int .i64 y] T)) (some ⟨b, 0, none⟩) [x, y] := by subst hb; exact ints_two27 w x y T
theorem rcpt_ex (w : World) : Calls Tryz.prog 23 #[.int .i64 1, .int .i64 0, .bool false] w (OneLine 452 ⟨#[52, 46, 50, 46, 50]⟩ ⟨#[111, 118, 101, 114, 32, 113, 117, 111, 116, 97]⟩ w) := rcpt_calls 1 0 false w
theorem queued_ex (w : World) : Calls Tryz.prog 26 #[.int .i64 0] w (OneLine 250 (queuedEnh 0) (queuedLine 0) w) := queued_calls 0 w
theorem given_ex (p : Option Addr) (w : World) (hz : Hid (IntsAt w p [0, 7])) : Calls Tryz.prog 27 #[.slice p 2 2] w (OneLine 550 (givenEnh 7) (givenLine 7) w) := given_calls p [0, 7] 2 w hz (by decide)
theorem least_ex (w : World) : Calls Tryz.prog 25 #[.int .i64 64] w fun r w' => r = .returned (.int .i64 2) ∧ w = w' := least_calls 64 (by omega) (by omega) w
theorem origin_ex (w : World) : Calls Tryz.prog 24 #[.int .i64 1, .int .i64 0, .bool false] w fun r w' => r = .returned (.int .i64 64) ∧ w = w' := origin_calls 1 0 false w
set_option maxHeartbeats 2000000 in
theorem awake27 (w : World) : Calls Tryz.prog 8 #[] w fun r w' => r = .returned (.bool true) ∧ Below w.heap.size w w' := by
 have hf : ∀ (n : Int) (b c : Value) (w : World), (Instr.field 63 (.agg #[.int .i64 n, b, c]) 0).run Tryz.prog w = .ok (.int .i64 n) w := fun _ _ _ _ => by kernel_rfl
 go_enter Tryz.func8, Tryz.ntmps8
 go_wp2_with first
  | (go_at_call 23; ((with_reducible refine (rcpt_ex _).mono ?_); rintro r w1 ⟨p1, rfl, -, -, -, hb⟩; obtain ⟨b1, b1d, rfl⟩ := of_below hb; clear hb))
  | (go_at_call 26; ((with_reducible refine (queued_ex _).mono ?_); rintro r w1 ⟨p2, rfl, -, -, -, hb⟩; obtain ⟨b2, b2d, rfl⟩ := of_below hb; clear hb))
  | (go_at_call 24; ((with_reducible refine (origin_ex _).mono ?_); rintro r w1 ⟨rfl, rfl⟩))
  | (go_at_call 25; ((with_reducible refine (least_ex _).mono ?_); rintro r w1 ⟨rfl, rfl⟩))
  | (go_at_call 27; ((refine (given_ex _ _ ?hg).mono ?_); (case hg => exact Lib.hid (ints_at27 _ _ (by first | (simp; done) | (simp; omega)) 0 7 _)); rintro r w1 ⟨p3, rfl, -, -, -, hb⟩; obtain ⟨b3, b3d, rfl⟩ := of_below hb; clear hb))
  | (go_at_call 28; go_loud ((refine (targets_one _ _ (w.heap.size + b1.size + 1 + b2.size + 1 + b3.size + 1) ⟨#[97]⟩ ⟨#[120]⟩ _ ?h1 ?h2 ?h3 ?c1 ?c2 ?c3 ?c4 ?c5).mono ?_); (case h1 => first | (simp; done) | (simp; omega)); (case h2 => first | (simp; done) | (simp; omega)); (case h3 => first | (simp; done) | (simp; omega)); (case c1 => go_simp); (case c2 => go_simp); (case c3 => go_simp); (case c4 => go_simp); (case c5 => go_simp); rintro r w1 ⟨⟨p4, c4, rfl⟩, hb⟩; obtain ⟨b4, b4d, rfl⟩ := of_below hb; clear hb))
 go_returns; exact ⟨rfl, by (repeat' (first | (with_reducible exact Below.refl _ _) | (with_reducible refine Below.app ?_ ?_ _ _) | (with_reducible refine Below.alloc ?_ ?_ _) | (with_reducible refine Below.drew ?_) | (with_reducible refine Below.setCell ?_ ?_ _) | (with_reducible assumption) | omega | (simp; omega) | (simp; done)))⟩
end Go.Proofs.YteahkgbnfbjkhaaGreatDoor
set_option maxRecDepth 20000
set_option linter.unusedVariables false
set_option linter.unusedSimpArgs false
set_option linter.unusedSectionVars false
namespace Go.Proofs.YteahkgbnfbjkhaaGreatDoor
open Go.ChangeShapes Go.WideShapes Go.ChangeAt Go.RowKit
def Asked27 (host : ByteArray) (j : JV) (zs : List Int) (ex tg e : Int) : Prop := jobB j = true ∧ good zs ex = true ∧ 0 ≤ tg ∧ tg < j.tos.length ∧ j.arr ≤ 1099511627776 ∧ e ≠ 0 ∧ host.size ≤ 100
set_option maxRecDepth 20000 in
set_option maxHeartbeats 8000000 in
theorem ends_dark {w : World} {host : ByteArray} {j : JV} {q : JP} {pz : Option Addr} {zs : List Int} {cz : Nat} {ex tg e : Int} (hj : JobAt w j q) (hl : lightB j = false) :
 Calls Tryz.prog 3 #[.string host, .agg #[.slice pz zs.length cz, .int .i64 ex], .agg (j.cells q), .int .i64 tg, .int .i64 e] w fun r w' => r = .returned (.bool true) ∧ Below w.heap.size w w' := by
 have kl := fun W (hW : Below w.heap.size w W) => light_calls j q (hj.below hW)
 rw [hl] at kl
 clear hj hl
 obtain ⟨id, arr, fL, fD, tos, sts, body⟩ := j
 obtain ⟨p4, c4, p5, c5, p6, c6⟩ := q
 unfold JV.cells at *
 dsimp only at *
 replace kl := Lib.hid kl
 go_enter Tryz.func3, Tryz.ntmps3
 go_wp2_with first
  | (go_at_call 8; ((refine (awake27 _).mono ?_); rintro r w1 ⟨rfl, hb⟩; obtain ⟨b1, b1d, rfl⟩ := of_below hb; clear hb))
  | (go_at_call 9; ((with_reducible refine (kl.out _ (by (repeat' (first | (with_reducible exact Below.refl _ _) | (with_reducible refine Below.app ?_ ?_ _ _) | (with_reducible refine Below.alloc ?_ ?_ _) | (with_reducible refine Below.drew ?_) | (with_reducible refine Below.setCell ?_ ?_ _) | (with_reducible assumption) | omega | (simp; omega) | (simp; done))))).mono ?_); rintro r w1 ⟨rfl, hb1⟩; obtain ⟨b2, d2, rfl⟩ := of_below hb1; clear hb1))
 go_returns
 exact ⟨rfl, by (repeat' (first | (with_reducible exact Below.refl _ _) | (with_reducible refine Below.app ?_ ?_ _ _) | (with_reducible refine Below.alloc ?_ ?_ _) | (with_reducible refine Below.drew ?_) | (with_reducible refine Below.setCell ?_ ?_ _) | (with_reducible assumption) | omega | (simp; omega) | (simp; done)))⟩
set_option maxRecDepth 20000 in
set_option maxHeartbeats 8000000 in
theorem ends_not {w : World} {host : ByteArray} {j : JV} {q : JP} {pz : Option Addr} {zs : List Int} {cz : Nat} {ex tg e : Int} (hj : JobAt w j q) (hl : lightB j = true) (hz : IntsAt w pz zs) (hzl : zs.length ≤ 9223372036854775807) (hno : ¬ Asked27 host j zs ex tg e) :
 Calls Tryz.prog 3 #[.string host, .agg #[.slice pz zs.length cz, .int .i64 ex], .agg (j.cells q), .int .i64 tg, .int .i64 e] w fun r w' => r = .returned (.bool true) ∧ Below w.heap.size w w' := by
 have kl := fun W (hW : Below w.heap.size w W) => light_calls j q (hj.below hW)
 rw [hl] at kl
 have kg := fun W (hW : Below w.heap.size w W) => rgoodJob_calls j q (hj.below hW) hl
 have ks := fun W (hW : Below w.heap.size w W) => srgood_calls pz zs cz ex W (Lib.hid (hz.below hW (Nat.le_refl _))) hzl
 unfold Asked27 at hno
 generalize jobB j = G at *
 generalize good zs ex = S at *
 obtain ⟨⟨nt, _⟩, _⟩ := light_parts hl
 clear hj hl hz
 obtain ⟨id, arr, fL, fD, tos, sts, body⟩ := j
 obtain ⟨p4, c4, p5, c5, p6, c6⟩ := q
 unfold JV.cells at *
 dsimp only at *
 replace kl := Lib.hid kl
 replace kg := Lib.hid kg
 replace ks := Lib.hid ks
 replace hno := Lib.hid hno
 go_enter Tryz.func3, Tryz.ntmps3
 go_wp2_with first
  | (go_at_call 8; ((refine (awake27 _).mono ?_); rintro r w1 ⟨rfl, hb⟩; obtain ⟨b1, b1d, rfl⟩ := of_below hb; clear hb))
  | (go_at_call 9; ((with_reducible refine (kl.out _ (by (repeat' (first | (with_reducible exact Below.refl _ _) | (with_reducible refine Below.app ?_ ?_ _ _) | (with_reducible refine Below.alloc ?_ ?_ _) | (with_reducible refine Below.drew ?_) | (with_reducible refine Below.setCell ?_ ?_ _) | (with_reducible assumption) | omega | (simp; omega) | (simp; done))))).mono ?_); rintro r w1 ⟨rfl, hb1⟩; obtain ⟨b2, d2, rfl⟩ := of_below hb1; clear hb1))
  | (go_at_call 10; ((with_reducible refine (kg.out _ (by (repeat' (first | (with_reducible exact Below.refl _ _) | (with_reducible refine Below.app ?_ ?_ _ _) | (with_reducible refine Below.alloc ?_ ?_ _) | (with_reducible refine Below.drew ?_) | (with_reducible refine Below.setCell ?_ ?_ _) | (with_reducible assumption) | omega | (simp; omega) | (simp; done))))).mono ?_); rintro r w1 ⟨rfl, hb1⟩; obtain ⟨b3, d3, rfl⟩ := of_below hb1; clear hb1))
  | (go_at_call 11; ((with_reducible refine (ks.out _ (by (repeat' (first | (with_reducible exact Below.refl _ _) | (with_reducible refine Below.app ?_ ?_ _ _) | (with_reducible refine Below.alloc ?_ ?_ _) | (with_reducible refine Below.drew ?_) | (with_reducible refine Below.setCell ?_ ?_ _) | (with_reducible assumption) | omega | (simp; omega) | (simp; done))))).mono ?_); rintro r w1 ⟨rfl, hb1⟩; obtain ⟨b4, d4, rfl⟩ := of_below hb1; clear hb1))
 all_goals first
  | (go_returns; exact ⟨rfl, by (repeat' (first | (with_reducible exact Below.refl _ _) | (with_reducible refine Below.app ?_ ?_ _ _) | (with_reducible refine Below.alloc ?_ ?_ _) | (with_reducible refine Below.drew ?_) | (with_reducible refine Below.setCell ?_ ?_ _) | (with_reducible assumption) | omega | (simp; omega) | (simp; done)))⟩)
  | (exfalso; refine hno.out ⟨?_, ?_, ?_, ?_, ?_, ?_, ?_⟩ <;> first | omega | (simp_all; done) | (go_light; simp_all; omega))
end Go.Proofs.YteahkgbnfbjkhaaGreatDoor
set_option maxRecDepth 20000
set_option linter.unusedVariables false
set_option linter.unusedSimpArgs false
set_option linter.unusedSectionVars false
namespace Go.Proofs.YteahkgbnfbjkhaaGreatDoor
open Go.ChangeShapes Go.WideShapes Go.ChangeAt Go.RowKit
theorem TryPost.slim {st tr du co : Int} {b : Bool} {R : Option (List UInt8)} {w w' : World} {r : Ending} (h : TryPost st tr du co b R w r w') : ∃ p n c, r = .returned (.agg #[.int .i64 st, .int .i64 tr, .int .i64 du, .int .i64 co, .bool b, .slice p n c]) ∧ Below w.heap.size w w' := by
 obtain ⟨v, rfl, h2⟩ := h
 rcases h2 with ⟨_, h3, h4⟩ | ⟨O, p, c, _, h3, _, h4⟩
 · cases h3; exact ⟨_, _, _, rfl, h4⟩
 · cases h3; exact ⟨_, _, _, rfl, h4⟩
def withS (j : JV) (k : Nat) (s : SV) : JV := { j with sts := j.sts.set k s }
def atRow (q : JP) (g cap : Nat) : JP := { q with p5 := some ⟨g, 0, none⟩, c5 := cap }
theorem withS_light {j : JV} {k : Nat} {s : SV} : lightB (withS j k s) = lightB j := by
 unfold lightB withS; simp
theorem withS_good {j : JV} {k : Nat} {s : SV} (h : jobB j = true) (hs : stateB s = true) : jobB (withS j k s) = true := by
 unfold jobB at h ⊢
 simp only [Bool.and_eq_true] at h ⊢
 obtain ⟨h1, h2, h3⟩ := h
 refine ⟨h1, by unfold withS; simpa using h2, ?_⟩
 rw [List.all_eq_true] at h3 ⊢
 intro x hx
 rcases List.mem_or_eq_of_mem_set hx with h | rfl
 · exact h3 x h
 · exact hs
theorem withS_cells {j : JV} {q : JP} {k g cap : Nat} {s : SV} : (withS j k s).cells (atRow q g cap) = #[.int .i64 j.id, .int .i64 j.arr, .string j.fL, .string j.fD, .slice q.p4 j.tos.length q.c4, .slice (some ⟨g, 0, none⟩) j.sts.length cap, .slice q.p6 j.body.length q.c6] := by
 unfold JV.cells withS atRow; simp
theorem withS_at {j : JV} {k : Nat} {s : SV} (h : k < (withS j k s).sts.length) : (withS j k s).sts[k]'h = s := by
 unfold withS
 exact List.getElem_set_self _
structure Ring (j : JV) (k g : Nat) (ex : Int) (X : World) (i : Nat) (du co : Int) (W : World) : Prop where
 kept : X.grownBy W (some g)
 row : StsAt W g (j.sts.set k ⟨0, i, du, co⟩)
 track : Track ex j.arr i du
 few : i ≤ 215
 code : co = 0 ∨ 200 ≤ co ∧ co ≤ 599
def goodT (zs : List Int) (e : Int) : Prop := good zs e = true
structure Ringed (w : World) (host : ByteArray) (j : JV) (q : JP) (k g : Nat) (pz : Option Addr) (zs : List Int) (ex : Int) (X : World) : Prop where
 at_ : JobAt w j q
 light : lightB j = true
 good : jobB j = true
 hk : k < j.tos.length
 host : host.size ≤ 100
 lib : LibAt w
 ints : IntsAt w pz zs
 few : zs.length ≤ 9223372036854775807
 tab : goodT zs ex
 last : ex / 100 ≤ zs.getD (zs.length - 1) 0
 arr : j.arr ≤ 1099511627776
 hX : Below w.heap.size w X
 hg : w.heap.size ≤ g
 hgX : g < X.heap.size
theorem Ring.waits {w : World} {host : ByteArray} {j : JV} {q : JP} {k g cap : Nat} {pz : Option Addr} {zs : List Int} {ex : Int} {X : World} (h : Ringed w host j q k g pz zs ex X) {i : Nat} {du co : Int} {W : World} (r : Ring j k g ex X i du co W) :
 Waits27 W host (withS j k ⟨0, i, du, co⟩) (atRow q g cap) k pz zs := by
 have hb : Below w.heap.size w W := below_grown h.hX r.kept h.hg
 have hj := h.at_.below hb
 obtain ⟨i1, i2, i3, i4⟩ := jobB_id h.good
 obtain ⟨t1, t2, t3⟩ := r.track
 have hz := good_parts h.tab
 have hs : stateB ⟨0, i, du, co⟩ = true := by
  have h1 := r.few
  have h2 := r.code
  have h3 := h.arr
  unfold stateB inB
  simp only [Bool.and_eq_true, Bool.or_eq_true, decide_eq_true_eq]
  omega
 have hks : k < j.sts.length := by have := h.hk; omega
 refine ⟨⟨hj.tos, ?_, hj.body, hj.nt, ?_, hj.nb, hj.nL, hj.nD⟩, by rw [withS_light]; exact h.light, withS_good h.good hs, h.hk, by show k < (j.sts.set k _).length; simpa using hks, ?_, h.host, h.lib.below hb, h.ints.below hb (Nat.le_refl _), h.few⟩
 · refine StsAt.shows r.row (Nat.lt_of_lt_of_le h.hgX r.kept.size) (fun s hs => ?_)
   rcases List.mem_or_eq_of_mem_set hs with h' | rfl
   · obtain ⟨n, hn, rfl⟩ := List.mem_iff_getElem.1 h'
     obtain ⟨_, _, _, _, _, _, _, _, h2⟩ := hj.sts n hn
     exact h2
   · show -9223372036854775808 ≤ (i : Int); omega
 · show (j.sts.set k _).length ≤ maxLen; simpa using hj.ns
 · show ((j.sts.set k _)[k]'(by simpa using hks)).st = 0
   rw [List.getElem_set_self]
theorem Ring.next {j : JV} {k g : Nat} {ex : Int} {X : World} {i : Nat} {du co : Int} {W W' : World} (r : Ring j k g ex X i du co W) (hks : k < j.sts.length) (hgX : g < X.heap.size) (hb : Below W.heap.size W W') {du' co' : Int} (ht : Track ex j.arr (i + 1) du') (hi : i < 215) (hc : co' = 0 ∨ 200 ≤ co' ∧ co' ≤ 599) :
 Ring j k g ex X (i + 1) du' co' (W'.setCells g (k * 4) [.int .i64 0, .int .i64 ((i : Int) + 1), .int .i64 du', .int .i64 co']) := by
 have hrow : StsAt W' g (j.sts.set k ⟨0, i, du, co⟩) := r.row.kept (hb.block g (Nat.lt_of_lt_of_le hgX r.kept.size))
 have h2 := hrow.set (k := k) (by simpa using hks) ⟨0, ((i + 1 : Nat) : Int), du', co'⟩
 rw [List.set_set] at h2
 exact ⟨r.kept.trans ((grown_below hb).trans (setCells_grown g _ _ _)), h2, ht, hi, hc⟩
theorem whyC_code {e : Int} (h : e ≠ 0) : whyC e = 452 ∨ whyC e = 550 ∨ whyC e = 451 := by
 unfold whyC
 rw [if_neg h]
 split
 · exact .inl rfl
 · split
   · exact .inr (.inl rfl)
   · exact .inr (.inr rfl)
theorem Ring.fail {w : World} {host : ByteArray} {j : JV} {q : JP} {k g cap : Nat} {pz : Option Addr} {zs : List Int} {cz : Nat} {ex e : Int} {X : World} (h : Ringed w host j q k g pz zs ex X) {i : Nat} {du co : Int} {W : World} (r : Ring j k g ex X i du co W) (he : e ≠ 0) (h7 : e ≠ 7) (hx : expired zs ex j.arr du = false) :
 Calls Tryz.prog 12 #[.string host, .agg #[.slice pz zs.length cz, .int .i64 ex], .agg #[.int .i64 j.id, .int .i64 j.arr, .string j.fL, .string j.fD, .slice q.p4 j.tos.length q.c4, .slice (some ⟨g, 0, none⟩) j.sts.length cap, .slice q.p6 j.body.length q.c6], .int .i64 k, .int .i64 du, .int .i64 e] W
  fun r w' => ∃ p n c, r = .returned (.agg #[.int .i64 0, .int .i64 ((i : Int) + 1), .int .i64 (dueOf du (delay zs ex ((i : Int) + 1))), .int .i64 (whyC e), .bool false, .slice p n c]) ∧ Below W.heap.size W w' := by
 have hw := Ring.waits (cap := cap) h r
 have hf := try27_fail (cz := cz) (ex := ex) (now := du) (e := e) hw he h7 hx (by have := r.track.lo; have := jobB_id h.good; omega)
 rw [withS_cells] at hf
 have e1 : ((withS j k ⟨0, i, du, co⟩).sts[k]'hw.hks).tr = i := by
  rw [withS_at]
 rw [e1, tr1_lo (by have := r.few; omega)] at hf
 exact hf.mono fun _ _ h => h.slim
theorem Ring.null {w : World} {host : ByteArray} {j : JV} {q : JP} {k g cap : Nat} {pz : Option Addr} {zs : List Int} {cz : Nat} {ex e : Int} {X : World} (h : Ringed w host j q k g pz zs ex X) {i : Nat} {du co : Int} {W : World} (r : Ring j k g ex X i du co W) (he : e ≠ 0) (hx : e = 7 ∨ expired zs ex j.arr du = true) (hL : j.fL = ⟨#[]⟩) (hD : j.fD = ⟨#[]⟩) :
 Calls Tryz.prog 12 #[.string host, .agg #[.slice pz zs.length cz, .int .i64 ex], .agg #[.int .i64 j.id, .int .i64 j.arr, .string j.fL, .string j.fD, .slice q.p4 j.tos.length q.c4, .slice (some ⟨g, 0, none⟩) j.sts.length cap, .slice q.p6 j.body.length q.c6], .int .i64 k, .int .i64 du, .int .i64 e] W
  fun r w' => ∃ p n c, r = .returned (.agg #[.int .i64 3, .int .i64 ((i : Int) + 1), .int .i64 du, .int .i64 (whyC e), .bool false, .slice p n c]) ∧ Below W.heap.size W w' := by
 have hw := Ring.waits (cap := cap) h r
 have hf := try27_null (cz := cz) (ex := ex) (now := du) (e := e) hw he hx hL hD
 rw [withS_cells] at hf
 have e1 : ((withS j k ⟨0, i, du, co⟩).sts[k]'hw.hks) = ⟨0, i, du, co⟩ := by
  exact withS_at _
 rw [e1] at hf
 dsimp only at hf
 rw [tr1_lo (by have := r.few; omega)] at hf
 exact hf.mono fun _ _ h => h.slim
theorem Ring.bounce {w : World} {host : ByteArray} {j : JV} {q : JP} {k g cap : Nat} {pz : Option Addr} {zs : List Int} {cz : Nat} {ex e : Int} {X : World} (h : Ringed w host j q k g pz zs ex X) {i : Nat} {du co : Int} {W : World} (r : Ring j k g ex X i du co W) (he : e ≠ 0) (hx : e = 7 ∨ expired zs ex j.arr du = true) (hfrom : ¬ (j.fL.toList = [] ∧ j.fD.toList = [])) :
 Calls Tryz.prog 12 #[.string host, .agg #[.slice pz zs.length cz, .int .i64 ex], .agg #[.int .i64 j.id, .int .i64 j.arr, .string j.fL, .string j.fD, .slice q.p4 j.tos.length q.c4, .slice (some ⟨g, 0, none⟩) j.sts.length cap, .slice q.p6 j.body.length q.c6], .int .i64 k, .int .i64 du, .int .i64 e] W
  fun r w' => ∃ p n c, r = .returned (.agg #[.int .i64 2, .int .i64 ((i : Int) + 1), .int .i64 du, .int .i64 (whyC e), .bool true, .slice p n c]) ∧ Below W.heap.size W w' := by
 have hw := Ring.waits (cap := cap) h r
 have hf := try27_bounce (cz := cz) (ex := ex) (now := du) (e := e) hw he hx hfrom
 rw [withS_cells] at hf
 have e1 : ((withS j k ⟨0, i, du, co⟩).sts[k]'hw.hks) = ⟨0, i, du, co⟩ := by
  exact withS_at _
 rw [e1] at hf
 dsimp only at hf
 rw [tr1_lo (by have := r.few; omega)] at hf
 exact hf.mono fun _ _ h => h.slim
end Go.Proofs.YteahkgbnfbjkhaaGreatDoor
