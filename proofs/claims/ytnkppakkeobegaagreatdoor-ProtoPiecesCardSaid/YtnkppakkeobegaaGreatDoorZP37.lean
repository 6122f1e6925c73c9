/-
  PsClone.
-/
import Derived.Test.YtnkppakkeobegaaGreatDoorZP36
import Derived.Lib.SliceRun
set_option maxRecDepth 20000
set_option linter.unusedVariables false
set_option linter.unusedSimpArgs false
set_option linter.unusedSectionVars false
namespace Go.Proofs.YtnkppakkeobegaaGreatDoor
open Go.ChangeShapes Go.WideShapes Go.ChangeAt Go.RowKit
namespace AX
theorem sclone_nil (w : World) : Calls Tryz.prog 51 #[.slice none 0 0] w fun e w' => e = .returned (.slice none 0 0) ∧ w' = w := by
 go_enter Tryz.func51, Tryz.ntmps51
 go_wp2
 rw [Go.Lib.run_eql_slice_nil w 29 28 none 0 0 0 0 Tryz.underlying29]
 go_wp2
 go_returns
 exact ⟨rfl, rfl⟩
theorem sclone_some (a : Addr) (n c : Nat) (w : World) (vs : List Value) (hl : vs.length = n * 2) (hv : ∀ j v, vs[j]? = some v → w.cell? (a.add j) = some v) (hn : n ≤ 1000000) :
 Calls Tryz.prog 51 #[.slice (some a) n c] w fun e w' => ∃ g cap zs, e = .returned (.slice (some ⟨g, 0, none⟩) n cap) ∧ n ≤ cap ∧ w.heap.size ≤ g ∧ w'.heap[g]? = some (.cells (vs.toArray ++ zs) 28 (0, 0)) ∧ Below w.heap.size w w' := by
 have hby : (Tryz.t28).bytes = 32 := by kernel_rfl
 have hcap : Builtin.nextslicecap n 0 * 32 ≤ 281474976710656 := by
  by_cases h : n = 0
  · subst h; decide
  · exact growslice_fits (need := n) (old := 0) (bytes := 32) (by omega) (by omega)
 have hld : ∀ X : World, (∀ j v, vs[j]? = some v → X.cell? (a.add j) = some v) → (loadCellsFrom a 0 (n * 2) #[]).run Tryz.prog X = .ok vs.toArray X := fun X hX => by
  have := run_loadCells_list (P := Tryz.prog) (w := X) a vs hX
  rw [hl] at this
  exact this
 go_enter Tryz.func51, Tryz.ntmps51
 go_wp2
 rw [Go.Lib.run_eql_slice_nil w 29 28 (some a) n c 0 0 Tryz.underlying29]
 go_wp2
 case isTrue h0 =>
  subst h0
  have hv0 : vs = [] := List.eq_nil_of_length_eq_zero (by simpa using hl)
  subst hv0
  simp only [loadCellsFrom, storeCells, Sem.run_pure, Result.andThen_ok]
  go_wp2
  go_returns
  refine ⟨w.heap.size, 0, #[], rfl, Nat.le_refl _, Nat.le_refl _, ?_, (Below.refl _ _).alloc (Nat.le_refl _) _⟩
  show (w.heap.push _)[w.heap.size]? = _
  simp
 case isFalse h0 =>
  have hbel : Below w.heap.size w (w.alloc (Obj.cells #[] 28)).drew := ((Below.refl _ _).alloc (Nat.le_refl _) _).drew
  rw [hld _ (fun j v hj => (hbel.cell (World.block_lt_of_cell? w _ (hv j v hj))).trans (hv j v hj))]
  simp only [Result.andThen_ok]
  go_wp2
  go_returns
  refine ⟨w.heap.size + 1, (Question.appendCap n 0 28).cut (w.tape w.drawn (Question.appendCap n 0 28)), Builtin.zeroCells #[Value.string ⟨#[]⟩, Value.string ⟨#[]⟩] ((Question.appendCap n 0 28).cut (w.tape w.drawn (Question.appendCap n 0 28)) - n), rfl, Nat.le_add_right _ _, Nat.le_succ _, ?_, hbel.alloc hbel.size _⟩
  show ((w.heap.push _).push _)[w.heap.size + 1]? = _
  rw [Array.getElem?_push]
  simp
theorem pSClone_ok : PrimOk Tryz.prog 51 pSClone := by
 refine ⟨fun args v h M w vals hI hl hA => ?_, ⟨Tryz.f51, by kernel_rfl, by kernel_rfl, of_decide_eq_true (by kernel_rfl)⟩⟩
 have key : ∀ (cs : List Cell) (x : Value), cs.length ≤ 1000000 → Rd M w x (.sl none 2 cs) → Calls Tryz.prog 51 #[x] w fun e w' => ∃ u M', e = .returned u ∧ Grow ⟨M, [], fun _ => none⟩ w M' w' ∧ Rv ⟨M', [], fun _ => none⟩ w' u (.one (.sl none 2 cs)) := fun cs x hle hx => by
  have emp : ∀ a cap, Calls Tryz.prog 51 #[.slice (some a) 0 cap] w fun e w' => ∃ u M', e = .returned u ∧ Grow ⟨M, [], fun _ => none⟩ w M' w' ∧ Rv ⟨M', [], fun _ => none⟩ w' u (.one (.sl none 2 [])) := fun a cap =>
   (sclone_some a 0 cap w [] rfl (fun j v h => by simp at h) (by omega)).mono fun e w' ⟨g, c2, zs, h1, _, _, _, h5⟩ => ⟨_, M, h1, same_grow hl h5, .data (.sl0 _ c2 2 (by decide))⟩
  cases hx with
  | slN => exact (sclone_nil w).mono fun e w' ⟨h1, h2⟩ => ⟨_, M, h1, by rw [h2]; exact same_grow hl (Below.refl _ _), .data (.slN 2)⟩
  | sl0 a cap => exact emp a cap
  | sl b off len cap sz f cs h1 h2 h3 h4 h5 =>
   have hadd : ∀ j, (⟨b, off, none⟩ : Addr).add j = ⟨b, off + j, none⟩ := fun j => by unfold Addr.add; split <;> simp_all
   refine (sclone_some ⟨b, off, none⟩ len cap w ((List.range cs.length).map f) (by simp [h2]) (fun j v hj => ?_) (by omega)).mono fun e w' ⟨g, c2, zs, k1, k2, k3, k4, k5⟩ => ?_
   · rw [List.getElem?_map] at hj
     cases hr : (List.range cs.length)[j]? with
     | none => rw [hr] at hj; cases hj
     | some q =>
      rw [hr] at hj
      simp only [Option.map_some, Option.some.injEq] at hj
      have hq : j < cs.length ∧ q = j := by
       have := List.getElem?_range (n := cs.length) (i := j)
       rw [List.getElem?_eq_some_iff] at hr
       obtain ⟨hlt, he⟩ := hr
       simp at hlt he
       exact ⟨hlt, he.symm⟩
      obtain ⟨hlt, rfl⟩ := hq
      rw [hadd, ← hj]
      exact (h4 q hlt).2
   · refine ⟨_, ⟨fun k j => M k j ∨ (k = g ∧ j < cs.length), M.gx, M.gw⟩, k1, ⟨k5, fun _ _ h => .inl h, fun k j hk h => h.elim id fun h => by omega, fun k j h => h.elim (fun h => Nat.lt_of_lt_of_le (hl k j h) k5.size) fun h => by rw [h.1]; exact (Array.getElem?_eq_some_iff.1 k4).1, rfl, rfl⟩, .data ?_⟩
     have hkp : Kp M w ⟨fun k j => M k j ∨ (k = g ∧ j < cs.length), M.gx, M.gw⟩ w' := ⟨fun b j hb => ⟨.inl hb, k5.cell (p := ⟨b, j, none⟩) (hl b j hb)⟩, List.prefix_refl _⟩
     refine .sl g 0 len c2 2 f cs (by decide) h2 k2 (fun i hi => ⟨.inr ⟨rfl, by omega⟩, ?_⟩) fun i c hc => (h5 i c hc).kept hkp
     rw [Nat.zero_add, cell_of_row w' g i _ _ _ k4]
     rw [Array.getElem?_append_left (by simpa using hi)]
     simp [hi]
 unfold pSClone at h
 split at h
 · rename_i s cs
   obtain ⟨x, rfl, hx⟩ := hA.one
   have hx : Rc _ _ _ _ := hx
   cases hc : Nat.beq s 2 && decide (cs.length ≤ 1000000) with
   | true =>
    rw [hc, cond_true] at h
    cases h
    rw [Bool.and_eq_true] at hc
    have hs := Nat.eq_of_beq_eq_true hc.1
    subst hs
    exact key cs x (of_decide_eq_true hc.2) hx.dataSl
   | false =>
    rw [hc, cond_false] at h
    obtain ⟨h0, rfl⟩ := bif_some h
    have h0 : cs = [] := List.eq_nil_of_length_eq_zero (Nat.eq_of_beq_eq_true h0)
    subst h0
    have hd : Rd M w x (.sl none s []) := hx.dataSl
    refine key [] x (by simp) ?_
    cases hd with
    | slN => exact .slN 2
    | sl0 a cap => exact .sl0 a cap 2 (by decide)
    | sl b off len cap sz f cs h1 h2 h3 h4 h5 =>
     have : len = 0 := by
      have h2 : 0 = len * s := by simpa using h2
      rcases Nat.mul_eq_zero.1 h2.symm with h | h <;> omega
     subst this
     exact .sl0 _ cap 2 (by decide)
 · cases h
end AX
end Go.Proofs.YtnkppakkeobegaaGreatDoor
