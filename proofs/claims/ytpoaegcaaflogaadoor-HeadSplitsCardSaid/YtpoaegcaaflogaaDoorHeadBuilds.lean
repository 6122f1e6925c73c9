/-
  head.HeadBuilds answers true at every input: which fields are right, and the message of any fields and body, is as the document says, or refused as it says.
-/
import Derived.Test.YtpoaegcaaflogaaDoorAwake10
import Derived.Test.YtpoaegcaaflogaaDoorRowCard
namespace Go.Proofs.YtpoaegcaaflogaaDoor
open Go.ChangeMaps Go.ChangeShapes Go.WideShapes Go.ChangeAt Go.RowKit

def IsFieldZ (_ : World) (cs : List Value) (f : Fld) : Prop := cs = [.string f.1, .string f.2] ∧ f.1.size ≤ maxLen ∧ f.2.size ≤ maxLen
theorem cellsField : Tryd.prog.cellsOf 28 = 2 := by kernel_rfl
theorem cellsStr10 : Tryd.prog.cellsOf 9 = 1 := by kernel_rfl
section
variable {H : Type} {enc : TypeId × Value → H} {w : World} {spare : Nat → Bool} {base : Nat} {held : Bool}
theorem isField_of {n : Nat} {cs : List Value} {y : DataW H × List MemPlace} (h : DataW.trod enc Tryd.prog w base spare held n 28 cs = some y) : ∃ f, IsFieldZ w cs f := by
  obtain ⟨hl, hf⟩ := field_of Tryd.underlying28 h
  rw [cellsField] at hl
  match cs, hl with
  | [a, b], _ =>
    obtain ⟨m, y0, h0⟩ := hf 0 _ rfl 1 cellsStr10
    obtain ⟨m1, y1, h1⟩ := hf 1 _ rfl 1 cellsStr10
    obtain ⟨x, hx, hxs⟩ := isStr_of (w := w) Tryd.underlying9 h0
    obtain ⟨z, hz, hzs⟩ := isStr_of (w := w) Tryd.underlying9 h1
    simp at hx hz
    subst hx hz
    exact ⟨(x, z), rfl, hxs, hzs⟩
theorem open_fields {r : Reach} {b0 : Nat} {v : Value} {d : DataW H} {ps : List MemPlace} (hv : Value.okWide Tryd.prog w r b0 22 v) (h : DataW.Trod enc Tryd.prog w base spare held 22 v d ps) :
    ∃ q fs cap, v = .slice q fs.length cap ∧ FieldsAt w q fs ∧ (∀ f ∈ fs, f.1.size ≤ maxLen ∧ f.2.size ≤ maxLen) ∧ fs.length ≤ maxLen := by
  obtain ⟨fuel, hf⟩ := h
  obtain ⟨p', n', c', rfl⟩ := okWide_slice Tryd.underlying22 hv
  obtain ⟨q, fs, cap, e, hl, hm, hz⟩ := open_shows (R := IsFieldZ) Tryd.underlying22 cellsField (by omega) isField_of hf
  simp [Value.cells] at e
  obtain ⟨rfl, rfl, rfl⟩ := e
  refine ⟨p', fs, c', rfl, fun i hi => ?_, fun f hf2 => ?_, by omega⟩
  · obtain ⟨b, off, cs, h1, h2, h3, h4, h5⟩ := hz i hi
    exact ⟨b, off, cs, h1, h2, h3, h4, h5.1⟩
  · obtain ⟨i, hi, rfl⟩ := List.mem_iff_getElem.1 hf2
    obtain ⟨b, off, cs, h1, h2, h3, h4, h5⟩ := hz i hi
    exact h5.2
end
theorem few_bd {fs : List Fld} (h : fewB fs = true) : fs.length ≤ 20 ∧ ∀ f ∈ fs, f.1.size ≤ 1000 ∧ f.2.size ≤ 1000 := by
  unfold fewB at h
  rw [Bool.and_eq_true, decide_eq_true_eq, List.all_eq_true] at h
  exact ⟨h.1, fun f hf => by simpa using h.2 f hf⟩
theorem tb_none {fs : List Fld} {body : List UInt8} {w w' : World} {r : Ending} (h : TBuildPost fs body w r w') (hq : buildQ fs body = none) : r = .returned (.tuple #[.slice none 0 0, .int .i64 3]) ∧ Below w.heap.size w w' := by
  rcases h with ⟨_, h⟩ | ⟨O, p, c, e, _⟩
  · exact h
  · rw [hq] at e; cases e
theorem tb_some {fs : List Fld} {body O : List UInt8} {w w' : World} {r : Ending} (h : TBuildPost fs body w r w') (hq : buildQ fs body = some O) : ∃ p c, r = .returned (.tuple #[.slice p O.length c, .int .i64 0]) ∧ TextOf w' (.slice p O.length c) O ∧ Below w.heap.size w w' := by
  rcases h with ⟨e, _⟩ | ⟨O2, p, c, e, h1, h2, h3⟩
  · rw [hq] at e; cases e
  · rw [hq] at e; cases e; exact ⟨p, c, h1, h2, h3⟩
set_option maxRecDepth 20000 in
set_option maxHeartbeats 8000000 in
theorem headBuilds_walk (q q2 : Option Addr) (fs : List Fld) (body : List UInt8) (cap cap2 : Nat) (w : World) (hf : FieldsAt w q fs) (hz : ∀ f ∈ fs, f.1.size ≤ maxLen ∧ f.2.size ≤ maxLen) (hn : fs.length ≤ maxLen) (hb : BytesAt w q2 cap2 body) (_ : cap2 ≤ maxLen) (hmx : MaxLenAt w) :
    Calls Tryd.prog 3 #[.slice q fs.length cap, .slice q2 body.length cap2] w fun r w' => r = .returned (.bool true) ∧ Below w.heap.size w w' := by
  have haw := Lib.hid (awake10 hmx)
  have hbc := hb.cap
  have hfw := fun (W : World) (hW : Below w.heap.size w W) => few_calls (cap := cap) (hf.below stays_field hW) hz hn
  have hn0 := hn
  unfold maxLen at hn0
  cases hfew : fewB fs
  · rw [hfew] at hfw
    replace hfw := Lib.hid hfw
    clear hf hz hn hb hmx hfew
    go_enter Tryd.func3, Tryd.ntmps3
    go_wp2_with first
      | (go_at_call 7; ((refine (haw.out).mono ?_); rintro r w1 ⟨rfl, hb⟩; obtain ⟨b1, b1d, rfl⟩ := of_below hb; clear hb))
      | (go_at_call 8; ((refine (hfw.out _ (by (repeat' (first | (with_reducible exact Below.refl _ _) | (with_reducible refine Below.app ?_ ?_ _ _) | (with_reducible refine Below.alloc ?_ ?_ _) | (with_reducible refine Below.drew ?_) | (with_reducible refine Below.setCell ?_ ?_ _) | (with_reducible assumption) | omega | (simp; omega) | (simp; done))))).mono ?_); rintro _ _ ⟨rfl, rfl⟩))
    all_goals (go_returns; exact ⟨rfl, by (repeat' (first | (with_reducible exact Below.refl _ _) | (with_reducible refine Below.app ?_ ?_ _ _) | (with_reducible refine Below.alloc ?_ ?_ _) | (with_reducible refine Below.drew ?_) | (with_reducible refine Below.setCell ?_ ?_ _) | (with_reducible assumption) | omega | (simp; omega) | (simp; done)))⟩)
  · rw [hfew] at hfw
    replace hfw := Lib.hid hfw
    obtain ⟨h20, hsz⟩ := few_bd hfew
    by_cases h300 : 300 < (body.length : Int)
    · clear hf hz hn hb hmx hfew hsz
      go_enter Tryd.func3, Tryd.ntmps3
      go_wp2_with first
        | (go_at_call 7; ((refine (haw.out).mono ?_); rintro r w1 ⟨rfl, hb⟩; obtain ⟨b1, b1d, rfl⟩ := of_below hb; clear hb))
        | (go_at_call 8; ((refine (hfw.out _ (by (repeat' (first | (with_reducible exact Below.refl _ _) | (with_reducible refine Below.app ?_ ?_ _ _) | (with_reducible refine Below.alloc ?_ ?_ _) | (with_reducible refine Below.drew ?_) | (with_reducible refine Below.setCell ?_ ?_ _) | (with_reducible assumption) | omega | (simp; omega) | (simp; done))))).mono ?_); rintro _ _ ⟨rfl, rfl⟩))
      all_goals (go_returns; exact ⟨rfl, by (repeat' (first | (with_reducible exact Below.refl _ _) | (with_reducible refine Below.app ?_ ?_ _ _) | (with_reducible refine Below.alloc ?_ ?_ _) | (with_reducible refine Below.drew ?_) | (with_reducible refine Below.setCell ?_ ?_ _) | (with_reducible assumption) | omega | (simp; omega) | (simp; done)))⟩)
    · have cb := fun (W : World) (hW : Below w.heap.size w W) => (build_calls (cap := cap) (hf.below stays_field hW) (hb.below hW) (fun f hf => ⟨by have := (hsz f hf).1; omega, by have := (hsz f hf).2; omega⟩) (by omega) (by omega)).mono fun _ _ h => h.text
      have cr := fun (W : World) (hW : Below w.heap.size w W) => rbuild_calls (cap := cap) (hf.below stays_field hW) (hb.below hW) (fun f hf => ⟨by have := (hsz f hf).1; omega, by have := (hsz f hf).2; omega⟩) (by omega) (by omega)
      have hcell := fun i (hi : i < fs.length) => hf.cell hi
      have cb1 := fun hq W hW => (cb W hW).mono fun _ _ h => tb_none h hq
      have cb2 := fun O hq W hW => (cb W hW).mono fun _ _ h => tb_some (O := O) h hq
      have cr1 := fun hq W hW => (cr W hW).mono fun _ _ h => tb_none h hq
      have cr2 := fun O hq W hW => (cr W hW).mono fun _ _ h => tb_some (O := O) h hq
      replace cb1 := Lib.hid cb1
      replace cb2 := Lib.hid cb2
      replace cr1 := Lib.hid cr1
      replace cr2 := Lib.hid cr2
      clear cb cr
      have kn := fun w => run_convert_bytes_nil (P := Tryd.prog) w 23 5 rfl rfl 0 0 9 rfl
      replace hcell := Lib.hid hcell
      clear hf hz hn hb hmx hfew
      go_enter Tryd.func3, Tryd.ntmps3
      go_wp2_with first
        | (go_at_call 7; ((refine (haw.out).mono ?_); rintro r w1 ⟨rfl, hb⟩; obtain ⟨b1, b1d, rfl⟩ := of_below hb; clear hb))
        | (go_at_call 8; ((refine (hfw.out _ (by (repeat' (first | (with_reducible exact Below.refl _ _) | (with_reducible refine Below.app ?_ ?_ _ _) | (with_reducible refine Below.alloc ?_ ?_ _) | (with_reducible refine Below.drew ?_) | (with_reducible refine Below.setCell ?_ ?_ _) | (with_reducible assumption) | omega | (simp; omega) | (simp; done))))).mono ?_); rintro _ _ ⟨rfl, rfl⟩))
      go_loopw [5] (fun i wr => ∃ k : Nat, k ≤ fs.length ∧ i = .int .i64 k ∧ ∃ bs d, wr = app w bs d) (fun i _ => fs.length - (intOf i).toNat)
      case atStart => exact ⟨0, by omega, rfl, _, _, rfl⟩
      case round =>
        obtain ⟨k, hk, rfl, bs, d, rfl⟩ := hrel
        by_cases hlt : k < fs.length
        · have hlti : (k : Int) < fs.length := by omega
          obtain ⟨cb2, co, rfl, hcb, hc1, hc2'⟩ := hcell.out k hlt
          have hss := hsz _ (List.getElem_mem hlt)
          have hg1 := fun w => good_calls fs[k].1 fs[k].2 (by omega) (by omega) w
          have hg2 := fun w => rgood_calls fs[k].1 fs[k].2 (by omega) (by omega) w
          generalize goodF fs[k].1.data.toList fs[k].2.data.toList = G at *
          generalize fs[k].1 = f1 at *
          generalize fs[k].2 = f2 at *
          replace hg1 := Lib.hid hg1
          replace hg2 := Lib.hid hg2
          clear hsz
          go_wp2
          (apply wp_region_text 11; kernel_rfl; kernel_rfl; intro Fin hFin; (repeat (first | (apply text_run; exact rfl; (focus (intro bs d hF K hK; (repeat rw [app_app] at hK); (repeat rw [app_app]); (repeat rw [Array.append_assoc] at hK); (repeat rw [Array.append_assoc]); go_step; first  | (go_at_call 9; ((with_reducible refine (hg1.out _).mono ?_); rintro r w1 ⟨rfl, hb⟩; simp only []; exact hK _ hb)) | (go_at_call 10; ((with_reducible refine (hg2.out _).mono ?_); rintro r w1 ⟨rfl, hb⟩; simp only []; exact hK _ hb))  | (refine hK _ ?_; (repeat' (first | (with_reducible exact Below.refl _ _) | (with_reducible refine Below.app ?_ ?_ _ _) | (with_reducible refine Below.alloc ?_ ?_ _) | (with_reducible refine Below.drew ?_) | (with_reducible refine Below.setCell ?_ ?_ _) | (with_reducible assumption) | omega | (simp; omega) | (simp; done)))))); (try simp only [Act.put, List.setIfInBounds_toArray, List.set_cons_zero, List.set_cons_succ])) | (apply text_skip; exact rfl; (try simp only [Act.put, List.setIfInBounds_toArray, List.set_cons_zero, List.set_cons_succ])))); apply text_end; apply hFin; clear hFin Fin; intro bs d hfa)
          go_wp2
          go_roundw
          case rel => exact ⟨k + 1, by omega, by go_num, _, _, rfl⟩
          case measure => first | (simp [intOf]; done) | (simp [intOf]; omega)
        · have hlti : ¬ (k : Int) < fs.length := by omega
          clear hsz hcell
          cases hQ : buildQ fs body with
          | none =>
            replace cb1 := Lib.hid (cb1.out hQ)
            replace cr1 := Lib.hid (cr1.out hQ)
            clear cb2 cr2 hQ
            go_wp2_with first
              | (go_at_call 11; ((refine (cb1.out _ (by (repeat' (first | (with_reducible exact Below.refl _ _) | (with_reducible refine Below.app ?_ ?_ _ _) | (with_reducible refine Below.alloc ?_ ?_ _) | (with_reducible refine Below.drew ?_) | (with_reducible refine Below.setCell ?_ ?_ _) | (with_reducible assumption) | omega | (simp; omega) | (simp; done))))).mono ?_); rintro r w1 ⟨rfl, hb⟩; obtain ⟨b2, b2d, rfl⟩ := of_below hb; clear hb))
              | (go_at_call 12; ((refine (cr1.out _ (by (repeat' (first | (with_reducible exact Below.refl _ _) | (with_reducible refine Below.app ?_ ?_ _ _) | (with_reducible refine Below.alloc ?_ ?_ _) | (with_reducible refine Below.drew ?_) | (with_reducible refine Below.setCell ?_ ?_ _) | (with_reducible assumption) | omega | (simp; omega) | (simp; done))))).mono ?_); rintro r w1 ⟨rfl, hb⟩; obtain ⟨b3, b3d, rfl⟩ := of_below hb; clear hb))
            go_returns; exact ⟨rfl, by (repeat' (first | (with_reducible exact Below.refl _ _) | (with_reducible refine Below.app ?_ ?_ _ _) | (with_reducible refine Below.alloc ?_ ?_ _) | (with_reducible refine Below.drew ?_) | (with_reducible refine Below.setCell ?_ ?_ _) | (with_reducible assumption) | omega | (simp; omega) | (simp; done)))⟩
          | some O =>
            replace cb2 := Lib.hid (cb2.out O hQ)
            replace cr2 := Lib.hid (cr2.out O hQ)
            clear cb1 cr1 hQ
            go_wp2_with first
              | (go_at_call 11; ((refine (cb2.out _ (by (repeat' (first | (with_reducible exact Below.refl _ _) | (with_reducible refine Below.app ?_ ?_ _ _) | (with_reducible refine Below.alloc ?_ ?_ _) | (with_reducible refine Below.drew ?_) | (with_reducible refine Below.setCell ?_ ?_ _) | (with_reducible assumption) | omega | (simp; omega) | (simp; done))))).mono ?_); rintro r w1 ⟨p1, c1, rfl, hv1, hb1⟩; obtain ⟨b2, d2, rfl⟩ := of_below hb1; (try simp only [app_app] at hv1); replace hv1 := Lib.hid hv1; clear hb1))
              | (go_at_call 12; ((refine (cr2.out _ (by (repeat' (first | (with_reducible exact Below.refl _ _) | (with_reducible refine Below.app ?_ ?_ _ _) | (with_reducible refine Below.alloc ?_ ?_ _) | (with_reducible refine Below.drew ?_) | (with_reducible refine Below.setCell ?_ ?_ _) | (with_reducible assumption) | omega | (simp; omega) | (simp; done))))).mono ?_); rintro r w2 ⟨p2, c2, rfl, hv2, hb2⟩; have e2 := hv2 _ (Below.refl _ _); have e1 := hv1.out w2 hb2; have hfin := Lib.hid (Below.trans (by (repeat' (first | (with_reducible exact Below.refl _ _) | (with_reducible refine Below.app ?_ ?_ _ _) | (with_reducible refine Below.alloc ?_ ?_ _) | (with_reducible refine Below.drew ?_) | (with_reducible refine Below.setCell ?_ ?_ _) | (with_reducible assumption) | omega | (simp; omega) | (simp; done)))) (hb2.mono (by (first | rfl | omega | (simp; done) | (simp; omega)))) : Below w.heap.size w w2); clear hb2 hv1 hv2))
            go_returns; exact ⟨rfl, hfin.out⟩

theorem headBuilds_law : LawWalk2 3 Tryd.f3 := by
  intro H enc W base args ds ps hA hval hsh
  rw [Tryd.params3] at hA hval
  obtain ⟨v0, vs0, d0, ds0, p0, q0, hargs, rfl, rfl, h0, r0⟩ := trodAll_cons hA
  obtain ⟨v1, vs1, d1, ds1, p1, q1, rfl, rfl, rfl, h1, r1⟩ := trodAll_cons r0
  obtain ⟨rfl, rfl, rfl⟩ := trodAll_nil r1
  obtain rfl : args = #[v0, v1] := by cases args; simp_all
  obtain ⟨q, fs, cap, rfl, hf, hz, hn⟩ := open_fields (hval 0 _ _ rfl rfl) h0
  obtain ⟨q2, body, cap2, rfl, hb, hc2⟩ := open_bytes (hval 1 _ _ rfl rfl) h1
  exact headBuilds_walk q q2 fs body cap cap2 W hf hz hn hb hc2 (MaxLenAt.of hsh)

set_option maxRecDepth 1000000 in
theorem headBuilds_laid (os : Os) (args : Array Value) : laidMet Tryd.prog Rows.headBuildsRow.laid ((laidWorld os).forCall (fun _ _ => 0) ⟨#[], args, []⟩).memory :=
  laidMet_of_run' 8 (by kernel_rfl) (by kernel_rfl)
set_option maxRecDepth 100000 in
theorem headBuilds_row : Rows.HeadBuildsSaid :=
  OpenClaim.holds_of_cond 3 Tryd.f3 rfl rfl rfl rfl rfl rfl rfl ⟨rfl, rfl, rfl, rfl, rfl⟩ rfl rfl rfl rfl rfl (by kernel_rfl) Tryd.func3 (by kernel_rfl)
    (of_decide_eq_true (by kernel_rfl)) (by unfold Func.isWrapper; first | (rw [if_pos (by decide +kernel)]; kernel_rfl) | (rw [if_neg (by decide +kernel)]; exact ⟨rfl, rfl⟩))
    (fun os started H enc _ F0 => by
      rw [OpenClaim.pre_eq_preRow]
      exact law_lift3 (s := Rows.headBuildsSpec) Tryd.func3 (by kernel_rfl) (by kernel_rfl) rfl (fun H ds hd => by match ds, hd with | [_, _], _ => rfl) (by kernel_rfl) os started H enc F0
        (witness_row_at (enc := enc) (C := Tryd.checked) false (laidWorld os) #[.slice none 0 0, .slice none 0 0] rfl (by kernel_rfl) (by kernel_rfl) (by kernel_rfl)
          (OpenSpec.preRow_of_B rfl 8 (by kernel_rfl) (by kernel_rfl) (headBuilds_laid os _))) headBuilds_law)
set_option maxRecDepth 100000 in
theorem headBuilds_holds : Rows.HeadBuildsCardSaid :=
  Claim7.holds_tied_plain_at .later [] [.data, .sentinel, .pinned] true (true, "f0c79958befb71f7b1d04de155fbfc057129605939aca39700e0132fe2e50244") false
    headBuilds_row (fun _ h => by cases h) (by kernel_rfl) (fun _ h => by cases h) headBuilds_row_tie rfl ⟨rfl, rfl⟩ (by kernel_rfl) rfl
    (fun f fn hf hfn => by
      obtain rfl : f = 3 := Option.some.inj ((show Tryd.prog.funcNamed Rows.headBuildsRow.func = some 3 by kernel_rfl).symm.trans hf) |>.symm
      obtain rfl : fn = Tryd.f3 := (Option.some.inj (Tryd.func3.symm.trans hfn)).symm
      exact ⟨by kernel_rfl, fun j t ht => (wants_none (by kernel_rfl)) j t ht⟩)
    (by kernel_rfl)
#print axioms headBuilds_holds
end Go.Proofs.YtpoaegcaaflogaaDoor
