/-
  EnvGood, RulesPlain, RulesTryC, EndsRow.
-/
import Derived.Test.YteahkgbnfbjkhaaGreatDoorRe47
import Derived.Test.YteahkgbnfbjkhaaGreatDoorRe48
import Derived.Test.YteahkgbnfbjkhaaGreatDoorRe09
import Derived.Test.YteahkgbnfbjkhaaGreatDoorRe12
import Derived.Test.YteahkgbnfbjkhaaGreatDoorRe44
import Derived.Test.YteahkgbnfbjkhaaGreatDoorRe41
import Derived.Test.YteahkgbnfbjkhaaGreatDoorProg
import Derived.Deep.MidRow
import Derived.OwnWalk
set_option maxRecDepth 20000
set_option linter.unusedVariables false
set_option linter.unusedSimpArgs false
set_option linter.unusedSectionVars false
namespace Go.Proofs.YteahkgbnfbjkhaaGreatDoor
open Go.ChangeShapes Go.WideShapes Go.ChangeAt Go.RowKit
set_option maxHeartbeats 2000000 in
theorem goodJob_calls {w : World} (j : JV) (q : JP) (h : JobAt w j q) (hl : lightB j = true) : Calls Tryz.prog 31 #[.agg (j.cells q)] w fun r w' => r = .returned (.bool (jobB j)) ∧ Below w.heap.size w w' := by
 have ke := fun (W : World) (hW : Below w.heap.size w W) => goodEnv_calls j q (h.below hW) hl
 obtain ⟨⟨nt, ns, nb, -, -⟩, -⟩ := light_parts hl
 have kc := fun (W : World) (hW : Below w.heap.size w W) => containsState_calls q.p5 j.sts q.c5 W (Lib.hid (Shows.below (R := IsState) stays_state h.sts hW)) (by omega)
 unfold jobB
 generalize envB j = E at ke ⊢
 clear hl h
 obtain ⟨id, arr, fL, fD, tos, sts, body⟩ := j
 obtain ⟨p4, c4, p5, c5, p6, c6⟩ := q
 unfold JV.cells at *
 dsimp only at *
 generalize sts.all stateB = R at *
 have hm1 : (sts.length : Int) = tos.length → midB sts.length tos.length body.length = true := fun h => midB_yes (by omega)
 have hm2 : ¬ (sts.length : Int) = tos.length → midB sts.length tos.length body.length = false := fun h => midB_no (by omega)
 generalize midB sts.length tos.length body.length = M at *
 replace ke := Lib.hid ke
 replace kc := Lib.hid kc
 replace hm1 := Lib.hid hm1
 replace hm2 := Lib.hid hm2
 cases E <;> cases R
 all_goals
  go_enter Tryz.func31, Tryz.ntmps31
  go_wp2_with first
   | (go_at_call 82; ((with_reducible refine (ke.out _ (by (repeat' (first | (with_reducible exact Below.refl _ _) | (with_reducible refine Below.app ?_ ?_ _ _) | (with_reducible refine Below.alloc ?_ ?_ _) | (with_reducible refine Below.drew ?_) | (with_reducible refine Below.setCell ?_ ?_ _) | (with_reducible assumption) | omega | (simp; omega) | (simp; done))))).mono ?_); rintro r w1 ⟨rfl, hb1⟩; obtain ⟨b1, d1, rfl⟩ := of_below hb1; clear hb1))
   | (go_at_call 83; ((with_reducible refine (kc.out _ (by (repeat' (first | (with_reducible exact Below.refl _ _) | (with_reducible refine Below.app ?_ ?_ _ _) | (with_reducible refine Below.alloc ?_ ?_ _) | (with_reducible refine Below.drew ?_) | (with_reducible refine Below.setCell ?_ ?_ _) | (with_reducible assumption) | omega | (simp; omega) | (simp; done))))).mono ?_); rintro r w1 ⟨rfl, hb1⟩; obtain ⟨b2, d2, rfl⟩ := of_below hb1; clear hb1))
  all_goals
   go_returns
   refine ⟨rb ?_, by (repeat' (first | (with_reducible exact Below.refl _ _) | (with_reducible refine Below.app ?_ ?_ _ _) | (with_reducible refine Below.alloc ?_ ?_ _) | (with_reducible refine Below.drew ?_) | (with_reducible refine Below.setCell ?_ ?_ _) | (with_reducible assumption) | omega | (simp; omega) | (simp; done)))⟩
   have hm1 := hm1.out
   have hm2 := hm2.out
   first
    | (simp; done)
    | (simp_all; done)
    | (go_light; simp_all; done)
    | (go_light; grind)
end Go.Proofs.YteahkgbnfbjkhaaGreatDoor
set_option maxRecDepth 20000
set_option linter.unusedVariables false
set_option linter.unusedSimpArgs false
set_option linter.unusedSectionVars false
namespace Go.Proofs.YteahkgbnfbjkhaaGreatDoor
open Go.ChangeShapes Go.WideShapes Go.ChangeAt Go.RowKit
structure Track (e a : Int) (i : Nat) (d : Int) : Prop where
 lo : a + i ≤ d
 hi : d ≤ a + e + 2147483648
 mul : ((i : Int) - 15) * max 1 (e / 100) ≤ d - a
theorem good_parts {zs : List Int} {e : Int} (h : good zs e = true) : zs.all okd = true ∧ 1 ≤ zs.length ∧ zs.length ≤ 16 ∧ 1 ≤ e ∧ e ≤ 1099511627776 := by
 unfold good at h
 rw [Bool.and_eq_true, decide_eq_true_eq] at h
 exact ⟨h.1, by omega, by omega, h.2.2.2.1, h.2.2.2.2⟩
theorem delay_pos {zs : List Int} {e n : Int} (h : good zs e = true) (hn : 1 ≤ n) : 1 ≤ delay zs e n := by
 obtain ⟨h1, h2, _⟩ := good_parts h
 unfold delay
 rw [if_pos ⟨h, hn⟩]
 exact (getD_all h1 _ (by omega)).1
theorem delay_late {zs : List Int} {e n : Int} (h : good zs e = true) (hn : 16 ≤ n) : delay zs e n = zs.getD (zs.length - 1) 0 := by
 obtain ⟨_, h2, h3, _⟩ := good_parts h
 unfold delay
 rw [if_pos ⟨h, by omega⟩]
 congr 1
 omega
theorem Track.start {e a : Int} (he : 1 ≤ e) : Track e a 0 a := by
 refine ⟨by simp, by omega, ?_⟩
 have : 1 ≤ max 1 (e / 100) := by omega
 generalize max 1 (e / 100) = m at *
 simp only [Int.natCast_zero, Int.zero_sub, Int.sub_self]
 omega
theorem expired_at {zs : List Int} {e a d : Int} (h : good zs e = true) (ha0 : 0 ≤ a) (ha : a ≤ 1099511627776) (hd0 : a ≤ d) (hd : d ≤ a + e + 2147483648) : expired zs e a d = decide (e ≤ d - a) := by
 obtain ⟨_, _, _, _, he⟩ := good_parts h
 unfold expired timeB
 rw [h, decide_eq_true (show 0 ≤ a ∧ a ≤ 4503599627370496 by omega), decide_eq_true (show 0 ≤ d ∧ d ≤ 4503599627370496 by omega)]
 rfl
theorem Track.step {zs : List Int} {e a d : Int} {i : Nat} (h : Track e a i d) (hg : good zs e = true) (hl : e / 100 ≤ zs.getD (zs.length - 1) 0) (ha0 : 0 ≤ a) (ha : a ≤ 1099511627776) (hx : expired zs e a d = false) :
 Track e a (i + 1) (dueOf d (delay zs e ((i : Int) + 1))) ∧ d < dueOf d (delay zs e ((i : Int) + 1)) ∧ dueOf d (delay zs e ((i : Int) + 1)) ≤ 4503599627370496 := by
 obtain ⟨h1, h2, h3⟩ := h
 obtain ⟨_, _, _, he1, he2⟩ := good_parts hg
 rw [expired_at hg ha0 ha (by omega) h2] at hx
 have hx := of_decide_eq_false hx
 have hb := delay_bd zs e ((i : Int) + 1)
 have hp := delay_pos hg (n := (i : Int) + 1) (by omega)
 have hlate : 15 ≤ i → max 1 (e / 100) ≤ delay zs e ((i : Int) + 1) := fun hi => by
  rw [delay_late hg (by omega)] at hp ⊢
  omega
 generalize delay zs e ((i : Int) + 1) = D at *
 rw [dueOf_lo (by omega)]
 refine ⟨⟨by omega, by omega, ?_⟩, by omega, by omega⟩
 have hm : 1 ≤ max 1 (e / 100) := by omega
 generalize max 1 (e / 100) = m at *
 have e1 : (((i + 1 : Nat) : Int) - 15) * m = ((i : Int) - 15) * m + m := by
  rw [show ((i + 1 : Nat) : Int) - 15 = ((i : Int) - 15) + 1 by omega, Int.add_mul, Int.one_mul]
 rw [e1]
 by_cases hi : 15 ≤ i
 · have := hlate hi
   omega
 · have : ((i : Int) - 15) * m ≤ -1 * m := Int.mul_le_mul_of_nonneg_right (by omega) (by omega)
   omega
theorem Track.expired {zs : List Int} {e a d : Int} {i : Nat} (h : Track e a i d) (hg : good zs e = true) (ha0 : 0 ≤ a) (ha : a ≤ 1099511627776) (hi : 215 ≤ i) : expired zs e a d = true := by
 obtain ⟨h1, h2, h3⟩ := h
 obtain ⟨_, _, _, he1, he2⟩ := good_parts hg
 rw [expired_at hg ha0 ha (by omega) h2]
 refine decide_eq_true ?_
 have : (200 : Int) * max 1 (e / 100) ≤ ((i : Int) - 15) * max 1 (e / 100) := Int.mul_le_mul_of_nonneg_right (by omega) (by omega)
 omega
theorem Track.few {zs : List Int} {e a d : Int} {i : Nat} (h : Track e a i d) (hg : good zs e = true) (ha0 : 0 ≤ a) (ha : a ≤ 1099511627776) (hx : Go.Proofs.YteahkgbnfbjkhaaGreatDoor.expired zs e a d = false) : i < 215 := by
 rcases Nat.lt_or_ge i 215 with hi | hi
 · exact hi
 · rw [h.expired hg ha0 ha hi] at hx; cases hx
end Go.Proofs.YteahkgbnfbjkhaaGreatDoor
set_option maxRecDepth 20000
set_option linter.unusedVariables false
set_option linter.unusedSimpArgs false
set_option linter.unusedSectionVars false
namespace Go.Proofs.YteahkgbnfbjkhaaGreatDoor
open Go.ChangeShapes Go.WideShapes Go.ChangeAt Go.RowKit
structure Waits27 (w : World) (host : ByteArray) (j : JV) (q : JP) (k : Nat) (pz : Option Addr) (zs : List Int) : Prop where
 at_ : JobAt w j q
 light : lightB j = true
 good : jobB j = true
 hk : k < j.tos.length
 hks : k < j.sts.length
 st : (j.sts[k]'hks).st = 0
 host : host.size ≤ 100
 lib : LibAt w
 ints : IntsAt w pz zs
 few : zs.length ≤ 9223372036854775807
theorem jobB_id {j : JV} (h : jobB j = true) : 1 ≤ j.id ∧ j.id ≤ 1099511627776 ∧ 0 ≤ j.arr ∧ j.sts.length = j.tos.length := by
 unfold jobB envB inB midB at h
 simp only [Bool.and_eq_true, decide_eq_true_eq] at h
 omega
theorem Waits27.tryAt {w : World} {host : ByteArray} {j : JV} {q : JP} {k : Nat} {pz : Option Addr} {zs : List Int} (h : Waits27 w host j q k pz zs) :
 ∃ b off, TryAt w j.id j.arr j.fL j.fD j.tos.length j.sts.length j.body.length q.p4 q.p5 q.p6 q.c4 q.c5 q.c6 k b off (j.sts[k]'h.hks).tr (j.sts[k]'h.hks).du (j.sts[k]'h.hks).co := by
 obtain ⟨b, off, cs, hp5, hb, hcl, hc, rfl, h1⟩ := h.at_.sts k h.hks
 have e0 := hc 0 (by omega)
 have e1 := hc 1 (by omega)
 have e2 := hc 2 (by omega)
 have e3 := hc 3 (by omega)
 clear hc
 rw [h.st] at e0
 simp at e0 e1 e2 e3
 obtain ⟨⟨nt, _⟩, _⟩ := light_parts h.light
 refine ⟨b, off, hp5, hb, h.hk, h.hks, by omega, e0, e1, e2, e3, h1, fun W hW => ?_⟩
 have := goodJob_calls j q (h.at_.below hW) h.light
 rw [h.good] at this
 exact this
theorem Waits27.fits {w : World} {host : ByteArray} {j : JV} {q : JP} {k : Nat} {pz : Option Addr} {zs : List Int} (h : Waits27 w host j q k pz zs) : Fits27 host j (j.tos[k]'h.hk) := by
 obtain ⟨⟨nt, ns, nb, nL, nD⟩, ht⟩ := light_parts h.light
 obtain ⟨i1, i2, _⟩ := jobB_id h.good
 exact ⟨h.host, nL, nD, (ht k h.hk).1, (ht k h.hk).2, ⟨by omega, by omega⟩, nb⟩
theorem try27_fail {w : World} {host : ByteArray} {j : JV} {q : JP} {k : Nat} {pz : Option Addr} {zs : List Int} {cz : Nat} {ex now e : Int} (h : Waits27 w host j q k pz zs) (he : e ≠ 0) (h7 : e ≠ 7) (hx : expired zs ex j.arr now = false) (hn : -9223372036854775808 ≤ now) :
 Calls Tryz.prog 12 #[.string host, .agg #[.slice pz zs.length cz, .int .i64 ex], .agg (j.cells q), .int .i64 k, .int .i64 now, .int .i64 e] w (TryPost 0 (tr1 (j.sts[k]'h.hks).tr) (dueOf now (delay zs ex (tr1 (j.sts[k]'h.hks).tr))) (whyC e) false none w) := by
 obtain ⟨b, off, ht⟩ := h.tryAt
 exact try_fail ht he h7 h.ints h.few hx hn
theorem try27_null {w : World} {host : ByteArray} {j : JV} {q : JP} {k : Nat} {pz : Option Addr} {zs : List Int} {cz : Nat} {ex now e : Int} (h : Waits27 w host j q k pz zs) (he : e ≠ 0) (hx : e = 7 ∨ expired zs ex j.arr now = true) (hL : j.fL = ⟨#[]⟩) (hD : j.fD = ⟨#[]⟩) :
 Calls Tryz.prog 12 #[.string host, .agg #[.slice pz zs.length cz, .int .i64 ex], .agg (j.cells q), .int .i64 k, .int .i64 now, .int .i64 e] w (TryPost 3 (tr1 (j.sts[k]'h.hks).tr) (j.sts[k]'h.hks).du (whyC e) false none w) := by
 obtain ⟨b, off, ht⟩ := h.tryAt
 exact try_null ht he h.ints h.few hL hD hx
theorem try27_bounce {w : World} {host : ByteArray} {j : JV} {q : JP} {k : Nat} {pz : Option Addr} {zs : List Int} {cz : Nat} {ex now e : Int} (h : Waits27 w host j q k pz zs) (he : e ≠ 0) (hx : e = 7 ∨ expired zs ex j.arr now = true) (hfrom : ¬ (j.fL.toList = [] ∧ j.fD.toList = [])) :
 Calls Tryz.prog 12 #[.string host, .agg #[.slice pz zs.length cz, .int .i64 ex], .agg (j.cells q), .int .i64 k, .int .i64 now, .int .i64 e] w (TryPost 2 (tr1 (j.sts[k]'h.hks).tr) (j.sts[k]'h.hks).du (whyC e) true (repQ host j (j.tos[k]'h.hk) now e) w) := by
 obtain ⟨b, off, ht⟩ := h.tryAt
 obtain ⟨⟨nt, _⟩, _⟩ := light_parts h.light
 have kr := fun (e : Int) (W : World) (hW : Below w.heap.size w W) => report_calls host j q k now e h.hk (by omega) (h.at_.below hW) h.fits (h.lib.below hW)
 by_cases h7 : e = 7
 · subst h7
   exact try_bounce7 ht h.ints h.few hfrom (kr 7)
 · exact try_bounce ht he h.ints h.few h7 (hx.resolve_left h7) hfrom (kr e)
end Go.Proofs.YteahkgbnfbjkhaaGreatDoor
set_option maxRecDepth 20000
set_option linter.unusedVariables false
set_option linter.unusedSimpArgs false
set_option linter.unusedSectionVars false
namespace Go.Proofs.YteahkgbnfbjkhaaGreatDoor
open Go.ChangeShapes Go.WideShapes Go.ChangeAt Go.RowKit
def StsAt (W : World) (g : Nat) (ss : List SV) : Prop := ∀ i (h : i < ss.length) (j : Nat), j < 4 → W.cell? ⟨g, i * 4 + j, none⟩ = (ss[i].cells)[j]? ∧ W.frozen? ⟨g, i * 4 + j, none⟩ = false
theorem SV.cells_some (s : SV) {j : Nat} (h : j < 4) : ∃ v, (s.cells)[j]? = some v := ⟨(s.cells)[j]'h, Array.getElem?_eq_getElem h⟩
theorem StsAt.shows {W : World} {g : Nat} {ss : List SV} (h : StsAt W g ss) (hg : g < W.heap.size) (hb : ∀ s ∈ ss, -9223372036854775808 ≤ s.tr) : Shows W 4 IsState (some ⟨g, 0, none⟩) ss := fun i hi =>
 ⟨g, 0, ss[i].cells.toList, rfl, hg, rfl, fun j hj => by
  rw [Nat.zero_add, (h i hi j hj).1]
  simp, rfl, hb _ (List.getElem_mem hi)⟩
theorem StsAt.there {W : World} {g : Nat} {ss : List SV} (h : StsAt W g ss) {k : Nat} (hk : k < ss.length) : W.there g (k * 4) 4 := fun j hj => by
 obtain ⟨v, hv⟩ := SV.cells_some (ss[k]) hj
 exact ⟨by rw [(h k hk j hj).1, hv]; rfl, (h k hk j hj).2⟩
theorem StsAt.kept {W W' : World} {g : Nat} {ss : List SV} (h : StsAt W g ss) (hb : W'.heap[g]? = W.heap[g]?) : StsAt W' g ss := fun i hi j hj =>
 ⟨(World.cell?_of_block (a := ⟨g, i * 4 + j, none⟩) hb).trans (h i hi j hj).1, (World.frozen?_of_block (a := ⟨g, i * 4 + j, none⟩) hb).trans (h i hi j hj).2⟩
theorem StsAt.set {W : World} {g : Nat} {ss : List SV} (h : StsAt W g ss) {k : Nat} (hk : k < ss.length) (s : SV) : StsAt (W.setCells g (k * 4) s.cells.toList) g (ss.set k s) := fun i hi j hj => by
 have hi' : i < ss.length := by simpa using hi
 rw [World.frozen?_setCells]
 refine ⟨?_, (h i hi' j hj).2⟩
 have hl : s.cells.toList.length = 4 := rfl
 by_cases e : i = k
 · subst e
   have hj' : j < s.cells.toList.length := by rw [hl]; exact hj
   rw [World.cell?_setCells_in g s.cells.toList (i * 4) W (fun j hj => (h.there hk j hj).1) j hj', List.getElem_set_self, ← List.getElem?_eq_getElem hj']
   simp
 · rw [World.cell?_setCells_out g _ _ W _ (fun _ _ => by show i * 4 + j < k * 4 ∨ k * 4 + s.cells.toList.length ≤ i * 4 + j; rw [hl]; omega)]
   rw [List.getElem_set_ne (fun h => e h.symm)]
   exact (h i hi' j hj).1
theorem setCells_grown (g : Nat) : ∀ (vs : List Value) (o : Nat) (W : World), W.grownBy (W.setCells g o vs) (some g)
 | [], _, W => ⟨rfl, rfl, rfl, Nat.le_refl _, fun _ _ _ => rfl⟩
 | v :: r, o, W => by
  have h1 : W.grownBy (W.setCell ⟨g, o, none⟩ v) (some g) := ⟨rfl, rfl, rfl, by simp [World.setCell], fun k _ hk => Below.heap_setCell _ _ _ k (fun e => hk (by rw [e]))⟩
  exact h1.trans (setCells_grown g r (o + 1) _)
theorem grown_below {W W' : World} {g : Nat} (hb : Below W.heap.size W W') : W.grownBy W' (some g) := ⟨hb.os, hb.tape, hb.output, hb.size, fun k hk _ => hb.block k hk⟩
theorem below_grown {w W W' : World} {g : Nat} (hb : Below w.heap.size w W) (h : W.grownBy W' (some g)) (hg : w.heap.size ≤ g) : Below w.heap.size w W' :=
 ⟨h.os.trans hb.os, h.tape.trans hb.tape, h.output.trans hb.output, Nat.le_trans hb.size h.size, fun k hk => (h.block k (Nat.lt_of_lt_of_le hk hb.size) (fun e => by cases e; omega)).trans (hb.block k hk)⟩
def stsCells (ss : List SV) : List Value := ss.flatMap fun s => s.cells.toList
theorem stsCells_len (ss : List SV) : (stsCells ss).length = ss.length * 4 := by
 unfold stsCells
 induction ss with
 | nil => rfl
 | cons s r ih => rw [List.flatMap_cons, List.length_append, ih, List.length_cons]; show 4 + _ = _; omega
theorem stsCells_at : ∀ (ss : List SV) (i : Nat) (h : i < ss.length) (j : Nat), j < 4 → (stsCells ss)[i * 4 + j]? = (ss[i].cells)[j]?
 | s :: r, 0, _, j, hj => by
  show (s.cells.toList ++ stsCells r)[0 * 4 + j]? = _
  rw [List.getElem?_append_left (by show 0 * 4 + j < 4; omega)]
  simp
 | s :: r, i + 1, h, j, hj => by
  have ih := stsCells_at r i (by simpa using h) j hj
  show (s.cells.toList ++ stsCells r)[(i + 1) * 4 + j]? = _
  rw [List.getElem?_append_right (by show 4 ≤ _; omega), show (i + 1) * 4 + j - s.cells.toList.length = i * 4 + j by show _ - 4 = _; omega, ih]
  rfl
theorem shows_cells {W : World} {b off : Nat} {ss : List SV} (h : Shows W 4 IsState (some ⟨b, off, none⟩) ss) : ∀ j u, (stsCells ss)[j]? = some u → W.cell? ((⟨b, off, none⟩ : Addr).add j) = some u := fun j u hu => by
 have hj : j < ss.length * 4 := by
  have := (List.getElem?_eq_some_iff.1 hu).1
  rwa [stsCells_len] at this
 have hi : j / 4 < ss.length := by omega
 obtain ⟨b', off', cs, e, _, _, hc, rfl, _⟩ := h (j / 4) hi
 cases e
 have h1 := hc (j % 4) (by omega)
 have h2 := stsCells_at ss (j / 4) hi (j % 4) (by omega)
 rw [show j / 4 * 4 + j % 4 = j by omega, hu] at h2
 rw [Addr.add_mid]
 rw [show off + j / 4 * 4 + j % 4 = off + j by omega] at h1
 rw [h1, h2]
 simp [SV.cells]
theorem own_sts {W : World} {B : Nat} {v : Value} {ss : List SV} (h : W.ownsRow B 37 4 v ss.length (stsCells ss)) (h0 : 0 < ss.length) : ∃ g cap, v = .slice (some ⟨g, 0, none⟩) ss.length cap ∧ B ≤ g ∧ g < W.heap.size ∧ StsAt W g ss := by
 rcases h.2 with ⟨_, hn⟩ | ⟨g, cap, cur, hv, hB, hg, h1, h2, h3, h4⟩
 · omega
 · refine ⟨g, cap, hv, hB, (Array.getElem?_eq_some_iff.1 hg).1, fun i hi j hj => ⟨?_, by simp [World.frozen?, hg]⟩⟩
   have hc : W.cell? ⟨g, i * 4 + j, none⟩ = cur[i * 4 + j]? := by simp [World.cell?, hg]
   rw [hc, ← stsCells_at ss i hi j hj, ← h4, List.getElem?_take, if_pos (by omega)]
   simp
theorem sts_one : ∀ (ss : List SV), ∀ u ∈ stsCells ss, u.oneCell' = true := fun ss u hu => by
 obtain ⟨s, _, hs⟩ := List.mem_flatMap.1 hu
 simp [SV.cells] at hs
 rcases hs with rfl | rfl | rfl | rfl <;> rfl
end Go.Proofs.YteahkgbnfbjkhaaGreatDoor
