/-
  head.HeadBack answers true at every input: fields and a body that are put together come back as they were.
-/
import Derived.Test.YtpoaegcaaflogaaDoorHeadBuilds
import Derived.Test.YtpoaegcaaflogaaDoorHeadPlain
import Derived.Test.YtpoaegcaaflogaaDoorRefSame10
namespace Go.Proofs.YtpoaegcaaflogaaDoor
open Go.ChangeMaps Go.ChangeShapes Go.WideShapes Go.ChangeAt Go.RowKit

theorem bp_none {fs : List Fld} {body : List UInt8} {w w' : World} {r : Ending} (h : BuildPost fs body w r w') (hq : buildQ fs body = none) : r = .returned (.tuple #[.slice none 0 0, .int .i64 3]) ∧ Below w.heap.size w w' := by
  rcases h with ⟨_, h⟩ | ⟨O, p, c, e, _⟩
  · exact h
  · rw [hq] at e; cases e
theorem bp_some {fs : List Fld} {body O : List UInt8} {w w' : World} {r : Ending} (h : BuildPost fs body w r w') (hq : buildQ fs body = some O) : ∃ p c, r = .returned (.tuple #[.slice p O.length c, .int .i64 0]) ∧ w'.ownsRow w.heap.size 5 1 (.slice p O.length c) O.length (Lib.byteCells O) ∧ Below w.heap.size w w' := by
  rcases h with ⟨e, _⟩ | ⟨O2, p, c, e, h1, h2, h3⟩
  · rw [hq] at e; cases e
  · rw [hq] at e; cases e; exact ⟨p, c, h1, h2, h3⟩
/-- A row of fields that is owned shows them. -/
theorem fieldCells_get : ∀ (fs : List Fld) (i : Nat) (hi : i < fs.length) (j : Nat) (_ : j < 2), (fieldCells (fs.map fldL))[i * 2 + j]? = [Value.string fs[i].1, Value.string fs[i].2][j]?
  | f :: r, 0, _, j, hj => by
    match j, hj with
    | 0, _ => simp [fieldCells, fldL]
    | 1, _ => simp [fieldCells, fldL]
  | f :: r, i + 1, hi, j, hj => by
    have := fieldCells_get r i (by simpa using hi) j hj
    rw [show (i + 1) * 2 + j = (i * 2 + j) + 2 by omega]
    simpa [fieldCells] using this
theorem own_fields {w : World} {B n : Nat} {p : Option Addr} {c : Nat} {fs : List Fld} (h : w.ownsRow B 28 2 (.slice p n c) n (fieldCells (fs.map fldL))) (hn : n = fs.length) : FieldsAt w p fs := by
  subst hn
  rcases h.2 with ⟨hv, hn⟩ | ⟨g, cap, cur, hv, _, hg, hc, _, _, _⟩
  · intro i hi; omega
  · simp at hv
    obtain ⟨rfl, rfl⟩ := hv
    intro i hi
    have hc0 : ∀ j, j < 2 → (fieldCells (fs.map fldL))[i * 2 + j]? = [Value.string fs[i].1, Value.string fs[i].2][j]? := fun j hj => fieldCells_get fs i hi j hj
    refine ⟨g, 0, [.string fs[i].1, .string fs[i].2], rfl, (Array.getElem?_eq_some_iff.1 hg).1, rfl, fun j hj => ?_, rfl⟩
    have hj2 : [Value.string fs[i].1, Value.string fs[i].2][j]? = some [Value.string fs[i].1, Value.string fs[i].2][j] := List.getElem?_eq_getElem hj
    have := h.cells (g := g) rfl (i * 2 + j) _ ((hc0 j hj).trans hj2)
    rw [hj2, ← this]
    congr 1
    simp [Addr.add]
theorem fieldsL_len : ∀ {fs : List Fld} {O : List UInt8}, (∀ f ∈ fs, f.1.size ≤ 1000 ∧ f.2.size ≤ 1000) → fieldsL fs = some O → O.length ≤ 4006 * fs.length
  | [], O, _, h => by cases h; simp
  | f :: r, O, hz, h => by
    rw [fieldsL] at h
    split at h
    · obtain ⟨O2, h2, rfl⟩ := Option.map_eq_some_iff.1 h
      have := fieldsL_len (fun g hg => hz g (List.mem_cons_of_mem _ hg)) h2
      have h3 := fieldL_len f
      have h4 := hz f (List.mem_cons_self ..)
      simp; omega
    · cases h
theorem buildQ_len {fs : List Fld} {body O : List UInt8} (hz : ∀ f ∈ fs, f.1.size ≤ 1000 ∧ f.2.size ≤ 1000) (h : buildQ fs body = some O) : O.length ≤ 4006 * fs.length + 2 + body.length := by
  unfold buildQ at h
  obtain ⟨O2, h2, rfl⟩ := Option.map_eq_some_iff.1 h
  have := fieldsL_len hz h2
  simp; omega
/-- The row that is built comes back. -/
theorem back_calls {w : World} {p : Option Addr} {B c : Nat} {fs : List Fld} {body O : List UInt8} (h : w.ownsRow B 5 1 (.slice p O.length c) O.length (Lib.byteCells O)) (hl : O.length ≤ 10000000) (hm : MaxLenAt w) (hq : buildQ fs body = some O) :
    Calls Tryd.prog 13 #[.slice p O.length c] w fun r w' => ∃ p c q k, r = .returned (.tuple #[.slice p fs.length c, .slice q body.length k, .bool true]) ∧ FieldsAt w' p fs ∧ BytesAt w' q k body ∧ Below w.heap.size w w' := by
  refine (split_calls (own_bytesAt h) hl hm).mono fun r w' hp => ?_
  rw [split_build hq] at hp
  rcases hp with ⟨⟨h1, _⟩ | ⟨f2, b2, p, c, q, k, h1, h2, h3, h4⟩, hb⟩
  · cases h1
  · injection h1 with h1
    injection h1 with h5 h6
    subst h5 h6
    rw [List.length_map] at h2 h3
    exact ⟨p, c, q, k, h2, own_fields h3 rfl, h4, hb⟩
set_option maxRecDepth 20000 in
set_option maxHeartbeats 8000000 in
theorem headBack_walk (q q2 : Option Addr) (fs : List Fld) (body : List UInt8) (cap cap2 : Nat) (w : World) (hf : FieldsAt w q fs) (hz : ∀ f ∈ fs, f.1.size ≤ maxLen ∧ f.2.size ≤ maxLen) (hn : fs.length ≤ maxLen) (hb : BytesAt w q2 cap2 body) (_ : cap2 ≤ maxLen) (hmx : MaxLenAt w) :
    Calls Tryd.prog 4 #[.slice q fs.length cap, .slice q2 body.length cap2] w fun r w' => r = .returned (.bool true) ∧ Below w.heap.size w w' := by
  have haw := Lib.hid (awake10 hmx)
  have hbc := hb.cap
  have hfw := fun (W : World) (hW : Below w.heap.size w W) => few_calls (cap := cap) (hf.below stays_field hW) hz hn
  have hn0 := hn
  unfold maxLen at hn0
  cases hfew : fewB fs
  · rw [hfew] at hfw
    replace hfw := Lib.hid hfw
    clear hf hz hn hb hmx hfew
    go_enter Tryd.func4, Tryd.ntmps4
    go_wp2_with first
      | (go_at_call 7; ((refine (haw.out).mono ?_); rintro r w1 ⟨rfl, hb⟩; obtain ⟨b1, b1d, rfl⟩ := of_below hb; clear hb))
      | (go_at_call 8; ((refine (hfw.out _ (by (repeat' (first | (with_reducible exact Below.refl _ _) | (with_reducible refine Below.app ?_ ?_ _ _) | (with_reducible refine Below.alloc ?_ ?_ _) | (with_reducible refine Below.drew ?_) | (with_reducible refine Below.setCell ?_ ?_ _) | (with_reducible assumption) | omega | (simp; omega) | (simp; done))))).mono ?_); rintro _ _ ⟨rfl, rfl⟩))
    all_goals (go_returns; exact ⟨rfl, by (repeat' (first | (with_reducible exact Below.refl _ _) | (with_reducible refine Below.app ?_ ?_ _ _) | (with_reducible refine Below.alloc ?_ ?_ _) | (with_reducible refine Below.drew ?_) | (with_reducible refine Below.setCell ?_ ?_ _) | (with_reducible assumption) | omega | (simp; omega) | (simp; done)))⟩)
  · rw [hfew] at hfw
    replace hfw := Lib.hid hfw
    obtain ⟨h20, hsz⟩ := few_bd hfew
    by_cases h300 : 300 < (body.length : Int)
    · clear hf hz hn hb hmx hfew hsz
      go_enter Tryd.func4, Tryd.ntmps4
      go_wp2_with first
        | (go_at_call 7; ((refine (haw.out).mono ?_); rintro r w1 ⟨rfl, hb⟩; obtain ⟨b1, b1d, rfl⟩ := of_below hb; clear hb))
        | (go_at_call 8; ((refine (hfw.out _ (by (repeat' (first | (with_reducible exact Below.refl _ _) | (with_reducible refine Below.app ?_ ?_ _ _) | (with_reducible refine Below.alloc ?_ ?_ _) | (with_reducible refine Below.drew ?_) | (with_reducible refine Below.setCell ?_ ?_ _) | (with_reducible assumption) | omega | (simp; omega) | (simp; done))))).mono ?_); rintro _ _ ⟨rfl, rfl⟩))
      all_goals (go_returns; exact ⟨rfl, by (repeat' (first | (with_reducible exact Below.refl _ _) | (with_reducible refine Below.app ?_ ?_ _ _) | (with_reducible refine Below.alloc ?_ ?_ _) | (with_reducible refine Below.drew ?_) | (with_reducible refine Below.setCell ?_ ?_ _) | (with_reducible assumption) | omega | (simp; omega) | (simp; done)))⟩)
    · have cb := fun (W : World) (hW : Below w.heap.size w W) => (build_calls (cap := cap) (hf.below stays_field hW) (hb.below hW) (fun f hf => ⟨by have := (hsz f hf).1; omega, by have := (hsz f hf).2; omega⟩) (by omega) (by omega))
      have cb1 := fun hq W hW => (cb W hW).mono fun _ _ h => bp_none h hq
      have cb2 := fun O hq W hW => (cb W hW).mono fun _ _ h => bp_some (O := O) h hq
      replace cb1 := Lib.hid cb1
      replace cb2 := Lib.hid cb2
      clear cb
      cases hQ : buildQ fs body with
      | none =>
        replace cb1 := Lib.hid (cb1.out hQ)
        clear cb2 hQ hf hz hn hb hmx hfew hsz
        go_enter Tryd.func4, Tryd.ntmps4
        go_wp2_with first
          | (go_at_call 7; ((refine (haw.out).mono ?_); rintro r w1 ⟨rfl, hb⟩; obtain ⟨b1, b1d, rfl⟩ := of_below hb; clear hb))
          | (go_at_call 8; ((refine (hfw.out _ (by (repeat' (first | (with_reducible exact Below.refl _ _) | (with_reducible refine Below.app ?_ ?_ _ _) | (with_reducible refine Below.alloc ?_ ?_ _) | (with_reducible refine Below.drew ?_) | (with_reducible refine Below.setCell ?_ ?_ _) | (with_reducible assumption) | omega | (simp; omega) | (simp; done))))).mono ?_); rintro _ _ ⟨rfl, rfl⟩))
          | (go_at_call 11; ((refine (cb1.out _ (by (repeat' (first | (with_reducible exact Below.refl _ _) | (with_reducible refine Below.app ?_ ?_ _ _) | (with_reducible refine Below.alloc ?_ ?_ _) | (with_reducible refine Below.drew ?_) | (with_reducible refine Below.setCell ?_ ?_ _) | (with_reducible assumption) | omega | (simp; omega) | (simp; done))))).mono ?_); rintro r w1 ⟨rfl, hb⟩; obtain ⟨b2, b2d, rfl⟩ := of_below hb; clear hb))
        go_returns; exact ⟨rfl, by (repeat' (first | (with_reducible exact Below.refl _ _) | (with_reducible refine Below.app ?_ ?_ _ _) | (with_reducible refine Below.alloc ?_ ?_ _) | (with_reducible refine Below.drew ?_) | (with_reducible refine Below.setCell ?_ ?_ _) | (with_reducible assumption) | omega | (simp; omega) | (simp; done)))⟩
      | some O =>
        have hOl := buildQ_len hsz hQ
        have hO2 : O.length ≤ 10000000 := by omega
        have cs := fun (W : World) (p : Option Addr) (B c : Nat) (h : W.ownsRow B 5 1 (.slice p O.length c) O.length (Lib.byteCells O)) (hW : Below w.heap.size w W) => back_calls h hO2 (hmx.below hW) hQ
        have ce := fun (W : World) (p : Option Addr) (c : Nat) (h : FieldsAt W p fs) (hW : Below w.heap.size w W) => same10_calls (c1 := c) (c2 := cap) h (hf.below stays_field hW) (by omega) (by omega)
        simp only [decide_true] at ce
        replace cb2 := Lib.hid (cb2.out O hQ)
        replace cs := Lib.hid cs
        replace ce := Lib.hid ce
        replace hb := Lib.hid hb
        clear cb1 hQ hf hz hn hmx hfew hsz
        go_enter Tryd.func4, Tryd.ntmps4
        go_wp2_with first
          | (go_at_call 7; ((refine (haw.out).mono ?_); rintro r w1 ⟨rfl, hb⟩; obtain ⟨b1, b1d, rfl⟩ := of_below hb; clear hb))
          | (go_at_call 8; ((refine (hfw.out _ (by (repeat' (first | (with_reducible exact Below.refl _ _) | (with_reducible refine Below.app ?_ ?_ _ _) | (with_reducible refine Below.alloc ?_ ?_ _) | (with_reducible refine Below.drew ?_) | (with_reducible refine Below.setCell ?_ ?_ _) | (with_reducible assumption) | omega | (simp; omega) | (simp; done))))).mono ?_); rintro _ _ ⟨rfl, rfl⟩))
          | (go_at_call 11; ((refine (cb2.out _ (by (repeat' (first | (with_reducible exact Below.refl _ _) | (with_reducible refine Below.app ?_ ?_ _ _) | (with_reducible refine Below.alloc ?_ ?_ _) | (with_reducible refine Below.drew ?_) | (with_reducible refine Below.setCell ?_ ?_ _) | (with_reducible assumption) | omega | (simp; omega) | (simp; done))))).mono ?_); rintro r w1 ⟨p1, c1, rfl, hv1, hb1⟩; obtain ⟨b2, d2, rfl⟩ := of_below hb1; (try simp only [app_app] at hv1); replace hv1 := Lib.hid hv1; clear hb1))
          | (go_at_call 13; ((refine (cs.out _ _ _ _ hv1.out (by (repeat' (first | (with_reducible exact Below.refl _ _) | (with_reducible refine Below.app ?_ ?_ _ _) | (with_reducible refine Below.alloc ?_ ?_ _) | (with_reducible refine Below.drew ?_) | (with_reducible refine Below.setCell ?_ ?_ _) | (with_reducible assumption) | omega | (simp; omega) | (simp; done))))).mono ?_); rintro r w2 ⟨p2, c2, q3, k3, rfl, hf2, hr2, hb2⟩; obtain ⟨b3, d3, rfl⟩ := of_below hb2; (try simp only [app_app, Array.append_assoc] at hf2 hr2); replace hf2 := Lib.hid hf2; replace hr2 := Lib.hid hr2; clear hb2 hv1))
          | (go_at_call 14; ((refine (ce.out _ _ _ hf2.out (by (repeat' (first | (with_reducible exact Below.refl _ _) | (with_reducible refine Below.app ?_ ?_ _ _) | (with_reducible refine Below.alloc ?_ ?_ _) | (with_reducible refine Below.drew ?_) | (with_reducible refine Below.setCell ?_ ?_ _) | (with_reducible assumption) | omega | (simp; omega) | (simp; done))))).mono ?_); rintro r w3 ⟨rfl, hb3⟩; have e1 := (hr2.out.below hb3).textOf _ (Below.refl _ _); have hfin := Lib.hid (Below.trans (by (repeat' (first | (with_reducible exact Below.refl _ _) | (with_reducible refine Below.app ?_ ?_ _ _) | (with_reducible refine Below.alloc ?_ ?_ _) | (with_reducible refine Below.drew ?_) | (with_reducible refine Below.setCell ?_ ?_ _) | (with_reducible assumption) | omega | (simp; omega) | (simp; done)))) (hb3.mono (by (first | rfl | omega | (simp; done) | (simp; omega)))) : Below w.heap.size w w3); have e2 := (hb.out.below hfin.out).textOf _ (Below.refl _ _); clear hb3 hr2 hf2))
        go_returns; exact ⟨rfl, hfin.out⟩

theorem headBack_law : LawWalk2 4 Tryd.f4 := by
  intro H enc W base args ds ps hA hval hsh
  rw [Tryd.params4] at hA hval
  obtain ⟨v0, vs0, d0, ds0, p0, q0, hargs, rfl, rfl, h0, r0⟩ := trodAll_cons hA
  obtain ⟨v1, vs1, d1, ds1, p1, q1, rfl, rfl, rfl, h1, r1⟩ := trodAll_cons r0
  obtain ⟨rfl, rfl, rfl⟩ := trodAll_nil r1
  obtain rfl : args = #[v0, v1] := by cases args; simp_all
  obtain ⟨q, fs, cap, rfl, hf, hz, hn⟩ := open_fields (hval 0 _ _ rfl rfl) h0
  obtain ⟨q2, body, cap2, rfl, hb, hc2⟩ := open_bytes (hval 1 _ _ rfl rfl) h1
  exact headBack_walk q q2 fs body cap cap2 W hf hz hn hb hc2 (MaxLenAt.of hsh)

set_option maxRecDepth 1000000 in
theorem headBack_laid (os : Os) (args : Array Value) : laidMet Tryd.prog Rows.headBackRow.laid ((laidWorld os).forCall (fun _ _ => 0) ⟨#[], args, []⟩).memory :=
  laidMet_of_run' 8 (by kernel_rfl) (by kernel_rfl)
set_option maxRecDepth 100000 in
theorem headBack_row : Rows.HeadBackSaid :=
  OpenClaim.holds_of_cond 4 Tryd.f4 rfl rfl rfl rfl rfl rfl rfl ⟨rfl, rfl, rfl, rfl, rfl⟩ rfl rfl rfl rfl rfl (by kernel_rfl) Tryd.func4 (by kernel_rfl)
    (of_decide_eq_true (by kernel_rfl)) (by unfold Func.isWrapper; first | (rw [if_pos (by decide +kernel)]; kernel_rfl) | (rw [if_neg (by decide +kernel)]; exact ⟨rfl, rfl⟩))
    (fun os started H enc _ F0 => by
      rw [OpenClaim.pre_eq_preRow]
      exact law_lift3 (s := Rows.headBackSpec) Tryd.func4 (by kernel_rfl) (by kernel_rfl) rfl (fun H ds hd => by match ds, hd with | [_, _], _ => rfl) (by kernel_rfl) os started H enc F0
        (witness_row_at (enc := enc) (C := Tryd.checked) false (laidWorld os) #[.slice none 0 0, .slice none 0 0] rfl (by kernel_rfl) (by kernel_rfl) (by kernel_rfl)
          (OpenSpec.preRow_of_B rfl 8 (by kernel_rfl) (by kernel_rfl) (headBack_laid os _))) headBack_law)
set_option maxRecDepth 100000 in
theorem headBack_holds : Rows.HeadBackCardSaid :=
  Claim7.holds_tied_plain_at .later [] [.data, .sentinel, .pinned] true (true, "f0c79958befb71f7b1d04de155fbfc057129605939aca39700e0132fe2e50244") false
    headBack_row (fun _ h => by cases h) (by kernel_rfl) (fun _ h => by cases h) headBack_row_tie rfl ⟨rfl, rfl⟩ (by kernel_rfl) rfl
    (fun f fn hf hfn => by
      obtain rfl : f = 4 := Option.some.inj ((show Tryd.prog.funcNamed Rows.headBackRow.func = some 4 by kernel_rfl).symm.trans hf) |>.symm
      obtain rfl : fn = Tryd.f4 := (Option.some.inj (Tryd.func4.symm.trans hfn)).symm
      exact ⟨by kernel_rfl, fun j t ht => (wants_none (by kernel_rfl)) j t ht⟩)
    (by kernel_rfl)
#print axioms headBack_holds
end Go.Proofs.YtpoaegcaaflogaaDoor
