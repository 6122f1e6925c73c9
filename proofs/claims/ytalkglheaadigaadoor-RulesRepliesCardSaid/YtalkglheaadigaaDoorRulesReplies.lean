/-
  rules.RulesReplies answers true at every input: what is answered to RCPT, and of a message that waits or was delivered, is the document's, and a reply.
-/
import Derived.Test.YtalkglheaadigaaDoorReplyGood
import Derived.Test.YtalkglheaadigaaDoorRefRules
import Derived.Test.YtalkglheaadigaaDoorAwake27
namespace Go.Proofs.YtalkglheaadigaaDoor
set_option maxRecDepth 20000
open Go.ChangeMaps Go.ChangeShapes Go.WideShapes Go.ChangeAt Go.RowKit

/-- A reply of one line, as a value. -/
def OneAt (code : Int) (e x : ByteArray) (v : Value) (w : World) : Prop := ∃ p, v = .agg #[.int .i64 code, .string e, .slice (some ⟨p, 0, none⟩) 1 1] ∧ p < w.heap.size ∧ w.cell? ⟨p, 0, none⟩ = some (.string x)
theorem OneAt.mono {code : Int} {e x : ByteArray} : ∀ v w w', Below w.heap.size w w' → OneAt code e x v w → OneAt code e x v w' := fun _ _ _ hb ⟨p, h1, h2, h3⟩ => ⟨p, h1, Nat.lt_of_lt_of_le h2 hb.size, (hb.cell (p := ⟨p, 0, none⟩) h2).trans h3⟩
theorem same_one {k : Int} {e x : ByteArray} {v1 v2 : Value} {w : World} (h1 : OneAt k e x v1 w) (h2 : OneAt k e x v2 w) : Calls Tryd.prog 11 #[v1, v2] w fun r w' => r = .returned (.bool true) ∧ Below w.heap.size w w' := by
  obtain ⟨p1, rfl, _, c1⟩ := h1
  obtain ⟨p2, rfl, _, c2⟩ := h2
  exact sameReply_calls k e x p1 p2 w c1 c2
def goodT (code : Int) (e x : ByteArray) : Bool := goodR code e.data.toList [x]
theorem good_rcpt (u e : Int) (r : Bool) : goodT (rcptCode u e r) (rcptEnh u e r) (rcptLine u e r) = true := by
  unfold rcptCode rcptEnh rcptLine
  by_cases h1 : e = 3
  · rw [if_pos h1, if_pos h1, if_pos h1]; kernel_rfl
  · rw [if_neg h1, if_neg h1, if_neg h1]
    by_cases h2 : e ≠ 0
    · rw [if_pos h2, if_pos h2, if_pos h2]; kernel_rfl
    · rw [if_neg h2, if_neg h2, if_neg h2]
      by_cases h3 : u = 1 ∧ r = false
      · rw [if_pos h3, if_pos h3, if_pos h3]; kernel_rfl
      · rw [if_neg h3, if_neg h3, if_neg h3]; kernel_rfl
theorem good_queued (e : Int) : goodT (queuedCode e) (queuedEnh e) (queuedLine e) = true := by
  unfold queuedCode queuedEnh queuedLine
  by_cases h1 : e = 0
  · rw [if_pos h1, if_pos h1, if_pos h1]; kernel_rfl
  · rw [if_neg h1, if_neg h1, if_neg h1]
    by_cases h2 : e = 10 ∨ e = 6
    · rw [if_pos h2, if_pos h2, if_pos h2]; kernel_rfl
    · rw [if_neg h2, if_neg h2, if_neg h2]; kernel_rfl
theorem good_given (e : Int) : goodT (givenCode e) (givenEnh e) (givenLine e) = true := by
  unfold givenCode givenEnh givenLine
  by_cases h1 : e = 0
  · rw [if_pos h1, if_pos h1, if_pos h1]; kernel_rfl
  · rw [if_neg h1, if_neg h1, if_neg h1]
    by_cases h2 : e = 14
    · rw [if_pos h2, if_pos h2, if_pos h2]; kernel_rfl
    · rw [if_neg h2, if_neg h2, if_neg h2]
      by_cases h3 : e = 7
      · rw [if_pos h3, if_pos h3, if_pos h3]; kernel_rfl
      · rw [if_neg h3, if_neg h3, if_neg h3]
        by_cases h4 : e = 10 ∨ e = 6
        · rw [if_pos h4, if_pos h4, if_pos h4]; kernel_rfl
        · rw [if_neg h4, if_neg h4, if_neg h4]; kernel_rfl
theorem small_T {c : Int} {e x : ByteArray} (h : goodT c e x = true) : e.data.toList.length ≤ 10000000 → x.size ≤ 100000000 → ∀ (p : Nat) (w : World), LibAt w → w.cell? ⟨p, 0, none⟩ = some (.string x) →
    Calls Tryd.prog 15 #[.agg #[.int .i64 c, .string e, .slice (some ⟨p, 0, none⟩) 1 1]] w fun r w' => r = .returned (.bool true) ∧ Below w.heap.size w w' := fun he hx p w hw hc => by
  have hs : StrsAt w (some ⟨p, 0, none⟩) [x] := fun i hi => by
    obtain rfl : i = 0 := by simp at hi; exact hi
    exact ⟨p, 0, [.string x], rfl, World.block_lt_of_cell? w _ hc, rfl, (fun j hj => match j, hj with | 0, _ => by simpa using hc), rfl⟩
  have := good_calls c e.data.toList [x] 1 hs hw he (by simp) (fun s h => by rw [List.mem_singleton] at h; subst h; exact hx)
  unfold goodT at h
  rw [h] at this
  exact this
theorem rcpt_small (u e : Int) (r : Bool) : (rcptEnh u e r).data.toList.length ≤ 10000000 ∧ (rcptLine u e r).size ≤ 100000000 := by
  unfold rcptEnh rcptLine
  split
  · decide
  · split
    · decide
    · split <;> decide
theorem queued_small (e : Int) : (queuedEnh e).data.toList.length ≤ 10000000 ∧ (queuedLine e).size ≤ 100000000 := by
  unfold queuedEnh queuedLine
  split
  · decide
  · split <;> decide
theorem given_small (e : Int) : (givenEnh e).data.toList.length ≤ 10000000 ∧ (givenLine e).size ≤ 100000000 := by
  unfold givenEnh givenLine
  split
  · decide
  · split
    · decide
    · split
      · decide
      · split <;> decide
theorem one_line {c : Int} {e x : ByteArray} {w w' : World} {r : Ending} (h : OneLine c e x w r w') : ∃ v, r = .returned v ∧ OneAt c e x v w' ∧ Below w.heap.size w w' := by
  obtain ⟨p, h1, h2, h3, h4, h5⟩ := h
  exact ⟨_, h1, ⟨p, rfl, h4, h2⟩, h5⟩
section
variable {H : Type} {enc : TypeId × Value → H} {w : World} {spare : Nat → Bool} {base : Nat} {held : Bool}
theorem open_errnos {r : Reach} {b0 : Nat} {v : Value} {d : DataW H} {ps : List MemPlace} (hv : Value.okWide Tryd.prog w r b0 23 v) (h : DataW.Trod enc Tryd.prog w base spare held 23 v d ps) :
    ∃ q zs cap, v = .slice q zs.length cap ∧ IntsAt w q zs ∧ zs.length ≤ maxLen := by
  obtain ⟨fuel, hf⟩ := h
  obtain ⟨p', n', c', rfl⟩ := okWide_slice Tryd.underlying23 hv
  obtain ⟨q, zs, cap, e, hl, hm, hz⟩ := open_shows Tryd.underlying23 (by kernel_rfl : Tryd.prog.cellsOf 22 = 1) (by omega) (isInt_of Tryd.underlying22) hf
  simp [Value.cells] at e
  obtain ⟨rfl, rfl, rfl⟩ := e
  exact ⟨p', zs, c', rfl, ints_of_shows hz, by omega⟩
end
set_option maxHeartbeats 8000000 in
theorem replies_walk (u e : Int) (room : Bool) (q : Option Addr) (zs : List Int) (cap : Nat) (w : World) (hz : IntsAt w q zs) (hl : zs.length ≤ maxLen) (hw : LibAt w) :
    Calls Tryd.prog 3 #[.int .i64 u, .int .i64 e, .bool room, .slice q zs.length cap] w fun r w' => r = .returned (.bool true) ∧ Below w.heap.size w w' := by
  unfold maxLen at hl
  by_cases h100 : 100 < (zs.length : Int)
  · clear hz hw
    go_enter Tryd.func3, Tryd.ntmps3
    go_wp2_with (go_at_call 7; ((refine (awake27 _).mono ?_); rintro r w1 ⟨rfl, hb⟩; obtain ⟨b1, b1d, rfl⟩ := of_below hb; clear hb))
    all_goals (go_returns; exact ⟨rfl, by (repeat' (first | (with_reducible exact Below.refl _ _) | (with_reducible refine Below.app ?_ ?_ _ _) | (with_reducible refine Below.alloc ?_ ?_ _) | (with_reducible refine Below.drew ?_) | (with_reducible refine Below.setCell ?_ ?_ _) | (with_reducible assumption) | omega | (simp; omega) | (simp; done)))⟩)
  · have hzb := fun (W : World) (hW : Below w.heap.size w W) => hz.below hW (Nat.le_refl _)
    have c1 := fun W => (rcpt_calls u e room W).mono fun _ _ h => one_line h
    have c2 := fun W => (queued_calls e W).mono fun _ _ h => one_line h
    have c3 := fun W hW => (given_calls q zs cap W (Lib.hid (hzb W hW)) (by omega)).mono fun _ _ h => one_line h
    have r1 := fun W => (rrcpt_calls u e room W).mono fun _ _ h => one_line h
    have r2 := fun W => (rqueued_calls e W).mono fun _ _ h => one_line h
    have r3 := fun W hW => (rgiven_calls q zs cap W (Lib.hid (hzb W hW)) (by omega)).mono fun _ _ h => one_line h
    have g1 := small_T (good_rcpt u e room) (rcpt_small u e room).1 (rcpt_small u e room).2
    have g2 := small_T (good_queued e) (queued_small e).1 (queued_small e).2
    have g3 := small_T (good_given (firstBad zs)) (given_small _).1 (given_small _).2
    have hlib := fun (W : World) (hW : Below w.heap.size w W) => hw.below hW
    generalize rcptCode u e room = k1 at *
    generalize rcptEnh u e room = e1 at *
    generalize rcptLine u e room = x1 at *
    generalize queuedCode e = k2 at *
    generalize queuedEnh e = e2 at *
    generalize queuedLine e = x2 at *
    generalize givenCode (firstBad zs) = k3 at *
    generalize givenEnh (firstBad zs) = e3 at *
    generalize givenLine (firstBad zs) = x3 at *
    have s1 := sameReply_calls k1 e1 x1
    have s2 := sameReply_calls k2 e2 x2
    have s3 := sameReply_calls k3 e3 x3
    replace c1 := Lib.hid c1
    replace c2 := Lib.hid c2
    replace c3 := Lib.hid c3
    replace r1 := Lib.hid r1
    replace r2 := Lib.hid r2
    replace r3 := Lib.hid r3
    replace g1 := Lib.hid g1
    replace g2 := Lib.hid g2
    replace g3 := Lib.hid g3
    replace s1 := Lib.hid s1
    replace s2 := Lib.hid s2
    replace s3 := Lib.hid s3
    replace hlib := Lib.hid hlib
    clear hz hw hzb
    go_enter Tryd.func3, Tryd.ntmps3
    go_wp2_with first
      | (go_at_call 7; ((refine (awake27 _).mono ?_); rintro r w1 ⟨rfl, hb⟩; obtain ⟨b1, b1d, rfl⟩ := of_below hb; clear hb))
      | (go_at_call 8; (refine (c1.out _).mono ?_); rintro r w1 ⟨v1, rfl, ⟨p1, rfl, l1, a1⟩, hb⟩; obtain ⟨b2, d2, rfl⟩ := of_below hb; (try simp only [app_app] at a1 l1); replace a1 := Lib.hid a1; clear hb)
      | (go_at_call 9; (refine (c2.out _).mono ?_); rintro r w1 ⟨v2, rfl, ⟨p2, rfl, l2, a2⟩, hb⟩; replace a1 := (hb.cell (p := ⟨p1, 0, none⟩) l1).trans a1.out; replace l1 := Nat.lt_of_lt_of_le l1 hb.size; obtain ⟨b3, d3, rfl⟩ := of_below hb; (try simp only [app_app, Array.append_assoc] at a1 l1 a2 l2); replace a1 := Lib.hid a1; replace a2 := Lib.hid a2; clear hb)
      | (go_at_call 10; (refine (c3.out _ (by (repeat' (first | (with_reducible exact Below.refl _ _) | (with_reducible refine Below.app ?_ ?_ _ _) | (with_reducible refine Below.alloc ?_ ?_ _) | (with_reducible refine Below.drew ?_) | (with_reducible refine Below.setCell ?_ ?_ _) | (with_reducible assumption) | omega | (simp; omega) | (simp; done))))).mono ?_); rintro r w1 ⟨v3, rfl, ⟨p3, rfl, l3, a3⟩, hb⟩; replace a1 := (hb.cell (p := ⟨p1, 0, none⟩) l1).trans a1.out; replace l1 := Nat.lt_of_lt_of_le l1 hb.size; replace a2 := (hb.cell (p := ⟨p2, 0, none⟩) l2).trans a2.out; replace l2 := Nat.lt_of_lt_of_le l2 hb.size; obtain ⟨b4, d4, rfl⟩ := of_below hb; (try simp only [app_app, Array.append_assoc] at a1 l1 a2 l2 a3 l3); replace a1 := Lib.hid a1; replace a2 := Lib.hid a2; replace a3 := Lib.hid a3; clear hb)
    have t1 := Lib.hid (fun (W : World) (hW : Below _ _ W) => (hW.cell (p := ⟨p1, 0, none⟩) l1).trans a1.out)
    have t2 := Lib.hid (fun (W : World) (hW : Below _ _ W) => (hW.cell (p := ⟨p2, 0, none⟩) l2).trans a2.out)
    have t3 := Lib.hid (fun (W : World) (hW : Below _ _ W) => (hW.cell (p := ⟨p3, 0, none⟩) l3).trans a3.out)
    have o1 := Lib.hid (fun (W : World) (hW : Below _ _ W) => (show OneAt k1 e1 x1 _ W from ⟨p1, rfl, Nat.lt_of_lt_of_le l1 hW.size, (hW.cell (p := ⟨p1, 0, none⟩) l1).trans a1.out⟩))
    have o2 := Lib.hid (fun (W : World) (hW : Below _ _ W) => (show OneAt k2 e2 x2 _ W from ⟨p2, rfl, Nat.lt_of_lt_of_le l2 hW.size, (hW.cell (p := ⟨p2, 0, none⟩) l2).trans a2.out⟩))
    have o3 := Lib.hid (fun (W : World) (hW : Below _ _ W) => (show OneAt k3 e3 x3 _ W from ⟨p3, rfl, Nat.lt_of_lt_of_le l3 hW.size, (hW.cell (p := ⟨p3, 0, none⟩) l3).trans a3.out⟩))
    clear a1 a2 a3 c1 c2 c3 s1 s2 s3
    (apply wp_region_text 30; kernel_rfl; kernel_rfl; intro Fin hFin; (repeat (first | (apply text_run; exact rfl; (focus (intro bs d hF K hK; (repeat rw [app_app] at hK); (repeat rw [app_app]); (repeat rw [Array.append_assoc] at hK); (repeat rw [Array.append_assoc]); go_step; first  | (go_at_call 15; (first | (with_reducible refine (g1.out _ _ ?_ ?_).mono ?_; exact hlib.out _ (by (repeat' (first | (with_reducible exact Below.refl _ _) | (with_reducible refine Below.app ?_ ?_ _ _) | (with_reducible refine Below.alloc ?_ ?_ _) | (with_reducible refine Below.drew ?_) | (with_reducible refine Below.setCell ?_ ?_ _) | (with_reducible assumption) | omega | (simp; omega) | (simp; done)))); exact t1.out _ (by (repeat' (first | (with_reducible exact Below.refl _ _) | (with_reducible refine Below.app ?_ ?_ _ _) | (with_reducible refine Below.alloc ?_ ?_ _) | (with_reducible refine Below.drew ?_) | (with_reducible refine Below.setCell ?_ ?_ _) | (with_reducible assumption) | omega | (simp; omega) | (simp; done))))) | (with_reducible refine (g2.out _ _ ?_ ?_).mono ?_; exact hlib.out _ (by (repeat' (first | (with_reducible exact Below.refl _ _) | (with_reducible refine Below.app ?_ ?_ _ _) | (with_reducible refine Below.alloc ?_ ?_ _) | (with_reducible refine Below.drew ?_) | (with_reducible refine Below.setCell ?_ ?_ _) | (with_reducible assumption) | omega | (simp; omega) | (simp; done)))); exact t2.out _ (by (repeat' (first | (with_reducible exact Below.refl _ _) | (with_reducible refine Below.app ?_ ?_ _ _) | (with_reducible refine Below.alloc ?_ ?_ _) | (with_reducible refine Below.drew ?_) | (with_reducible refine Below.setCell ?_ ?_ _) | (with_reducible assumption) | omega | (simp; omega) | (simp; done))))) | (with_reducible refine (g3.out _ _ ?_ ?_).mono ?_; exact hlib.out _ (by (repeat' (first | (with_reducible exact Below.refl _ _) | (with_reducible refine Below.app ?_ ?_ _ _) | (with_reducible refine Below.alloc ?_ ?_ _) | (with_reducible refine Below.drew ?_) | (with_reducible refine Below.setCell ?_ ?_ _) | (with_reducible assumption) | omega | (simp; omega) | (simp; done)))); exact t3.out _ (by (repeat' (first | (with_reducible exact Below.refl _ _) | (with_reducible refine Below.app ?_ ?_ _ _) | (with_reducible refine Below.alloc ?_ ?_ _) | (with_reducible refine Below.drew ?_) | (with_reducible refine Below.setCell ?_ ?_ _) | (with_reducible assumption) | omega | (simp; omega) | (simp; done)))))); rintro r w1 ⟨rfl, hb⟩; simp only []; exact hK _ hb)  | (refine hK _ ?_; (repeat' (first | (with_reducible exact Below.refl _ _) | (with_reducible refine Below.app ?_ ?_ _ _) | (with_reducible refine Below.alloc ?_ ?_ _) | (with_reducible refine Below.drew ?_) | (with_reducible refine Below.setCell ?_ ?_ _) | (with_reducible assumption) | omega | (simp; omega) | (simp; done)))))); (try simp only [Act.put, List.setIfInBounds_toArray, List.set_cons_zero, List.set_cons_succ]))  | (apply text_has (OneAt k1 e1 x1); exact rfl; exact OneAt.mono; exact rfl; (focus (intro bs d hF K hK; (repeat rw [app_app] at hK); (repeat rw [app_app]); (repeat rw [Array.append_assoc] at hK); (repeat rw [Array.append_assoc]); go_step; (go_at_call 12; ((refine (r1.out _).mono ?_); rintro r w1 ⟨v, rfl, ho, hb⟩; simp only []; exact hK _ _ hb ho)))); intro v; (try simp only [Act.put, factOf, List.setIfInBounds_toArray, List.set_cons_zero, List.set_cons_succ])) | (apply text_has (OneAt k2 e2 x2); exact rfl; exact OneAt.mono; exact rfl; (focus (intro bs d hF K hK; (repeat rw [app_app] at hK); (repeat rw [app_app]); (repeat rw [Array.append_assoc] at hK); (repeat rw [Array.append_assoc]); go_step; (go_at_call 13; ((refine (r2.out _).mono ?_); rintro r w1 ⟨v, rfl, ho, hb⟩; simp only []; exact hK _ _ hb ho)))); intro v; (try simp only [Act.put, factOf, List.setIfInBounds_toArray, List.set_cons_zero, List.set_cons_succ])) | (apply text_has (OneAt k3 e3 x3); exact rfl; exact OneAt.mono; exact rfl; (focus (intro bs d hF K hK; (repeat rw [app_app] at hK); (repeat rw [app_app]); (repeat rw [Array.append_assoc] at hK); (repeat rw [Array.append_assoc]); go_step; (go_at_call 14; ((refine (r3.out _ (by (repeat' (first | (with_reducible exact Below.refl _ _) | (with_reducible refine Below.app ?_ ?_ _ _) | (with_reducible refine Below.alloc ?_ ?_ _) | (with_reducible refine Below.drew ?_) | (with_reducible refine Below.setCell ?_ ?_ _) | (with_reducible assumption) | omega | (simp; omega) | (simp; done))))).mono ?_); rintro r w1 ⟨v, rfl, ho, hb⟩; simp only []; exact hK _ _ hb ho)))); intro v; (try simp only [Act.put, factOf, List.setIfInBounds_toArray, List.set_cons_zero, List.set_cons_succ])) | (apply text_run; exact rfl; (focus (intro bs d hF K hK; (repeat rw [app_app] at hK); (repeat rw [app_app]); (repeat rw [Array.append_assoc] at hK); (repeat rw [Array.append_assoc]); have h2 := hF.1 rfl; go_step; (go_at_call 11; (refine (same_one ?_ h2).mono ?_); (first | (with_reducible refine o1.out _ ?_) | (with_reducible refine o2.out _ ?_) | (with_reducible refine o3.out _ ?_)); (focus (repeat' (first | (with_reducible exact Below.refl _ _) | (with_reducible refine Below.app ?_ ?_ _ _) | (with_reducible refine Below.alloc ?_ ?_ _) | (with_reducible refine Below.drew ?_) | (with_reducible refine Below.setCell ?_ ?_ _) | (with_reducible assumption) | omega | (simp; omega) | (simp; done)))); rintro r w1 ⟨rfl, hb⟩; simp only []; exact hK _ hb))); (try simp only [Act.put, List.setIfInBounds_toArray, List.set_cons_zero, List.set_cons_succ]))  | (apply text_skip; exact rfl; (try simp only [Act.put, List.setIfInBounds_toArray, List.set_cons_zero, List.set_cons_succ])))); apply text_end; apply hFin; clear hFin Fin; intro bs d hfa)
    go_wp2
    go_returns
    exact ⟨rfl, by (repeat' (first | (with_reducible exact Below.refl _ _) | (with_reducible refine Below.app ?_ ?_ _ _) | (with_reducible refine Below.alloc ?_ ?_ _) | (with_reducible refine Below.drew ?_) | (with_reducible refine Below.setCell ?_ ?_ _) | (with_reducible assumption) | omega | (simp; omega) | (simp; done)))⟩
theorem rulesReplies_law : LawWalk4 3 Tryd.f3 := by
  intro H enc W base args ds ps hA hval hlib
  rw [Tryd.params3] at hA hval
  obtain ⟨v0, vs0, d0, ds0, p0, q0, hargs, rfl, rfl, h0, r0⟩ := trodAll_cons hA
  obtain ⟨v1, vs1, d1, ds1, p1, q1, rfl, rfl, rfl, h1, r1⟩ := trodAll_cons r0
  obtain ⟨v2, vs2, d2, ds2, p2, q2, rfl, rfl, rfl, h2, r2⟩ := trodAll_cons r1
  obtain ⟨v3, vs3, d3, ds3, p3, q3, rfl, rfl, rfl, h3, r3⟩ := trodAll_cons r2
  obtain ⟨rfl, rfl, rfl⟩ := trodAll_nil r3
  obtain rfl : args = #[v0, v1, v2, v3] := by cases args; simp_all
  obtain ⟨n0, rfl, -, -, w0⟩ := open_int Tryd.underlying3 (hval 0 _ _ rfl rfl) h0
  obtain ⟨n1, rfl, -, -, w1⟩ := open_int Tryd.underlying22 (hval 1 _ _ rfl rfl) h1
  obtain ⟨n2, rfl, -⟩ := open_bool Tryd.underlying4 (hval 2 _ _ rfl rfl) h2
  obtain ⟨q, zs, cap, rfl, hz, hl⟩ := open_errnos (hval 3 _ _ rfl rfl) h3
  exact replies_walk n0 n1 n2 q zs cap W hz hl hlib

set_option maxRecDepth 100000 in
theorem rulesReplies_lib (W : World) (h : laidMetH Tryd.prog Rows.rulesRepliesRow.laid W) (hsh : W.ShapedOpen Tryd.prog) : LibAt W := by
  have h2 : laidMet Tryd.prog Rows.rulesRepliesRow.laid W := h
  exact LibAt.of (by kernel_rfl) rfl rfl h2 hsh
set_option maxRecDepth 1000000 in
theorem rulesReplies_laid (os : Os) (args : Array Value) : laidMet Tryd.prog Rows.rulesRepliesRow.laid ((laidWorld os).forCall (fun _ _ => 0) ⟨#[], args, []⟩).memory :=
  laidMet_of_run' 8 (by kernel_rfl) (by kernel_rfl)
set_option maxRecDepth 100000 in
theorem rulesReplies_row : Rows.RulesRepliesSaid :=
  OpenClaim.holds_of_cond 3 Tryd.f3 rfl rfl rfl rfl rfl rfl rfl ⟨rfl, rfl, rfl, rfl, rfl⟩ rfl rfl rfl rfl rfl (by kernel_rfl) Tryd.func3 (by kernel_rfl)
    (of_decide_eq_true (by kernel_rfl)) (by unfold Func.isWrapper; first | (rw [if_pos (by decide +kernel)]; kernel_rfl) | (rw [if_neg (by decide +kernel)]; exact ⟨rfl, rfl⟩))
    (fun os started H enc _ F0 => by
      rw [OpenClaim.pre_eq_preRow]
      exact law_lift4 (s := Rows.rulesRepliesSpec) Tryd.func3 (by kernel_rfl) (by kernel_rfl) rfl (fun H ds hd => by match ds, hd with | [_, _, _, _], _ => rfl) (by kernel_rfl) os started H enc F0
        (witness_row_at (enc := enc) (C := Tryd.checked) false (laidWorld os) #[.int .i64 0, .int .i64 0, .bool false, .slice none 0 0] rfl (by kernel_rfl) (by kernel_rfl) (by kernel_rfl)
          (OpenSpec.preRow_of_B rfl 8 (by kernel_rfl) (by kernel_rfl) (rulesReplies_laid os _))) rulesReplies_lib rulesReplies_law)
set_option maxRecDepth 100000 in
theorem rulesReplies_holds : Rows.RulesRepliesCardSaid :=
  Claim7.holds_tied_plain_at .later [] [.data, .data, .data, .data, .sentinel, .sentinel, .pinned] true (true, "1a6fcf7ebaec6ed68c3774d0a03accf69dc34f739438a2b03278b04b594ca63d") true
    rulesReplies_row (fun _ h => by cases h) (by kernel_rfl) (fun _ h => by cases h) rulesReplies_row_tie rfl ⟨rfl, rfl⟩ (by kernel_rfl) rfl
    (fun f fn hf hfn => by
      obtain rfl : f = 3 := Option.some.inj ((show Tryd.prog.funcNamed Rows.rulesRepliesRow.func = some 3 by kernel_rfl).symm.trans hf) |>.symm
      obtain rfl : fn = Tryd.f3 := (Option.some.inj (Tryd.func3.symm.trans hfn)).symm
      exact ⟨by kernel_rfl, fun j t ht => (wants_none (by kernel_rfl)) j t ht⟩)
    (by kernel_rfl)
#print axioms rulesReplies_holds
end Go.Proofs.YtalkglheaadigaaDoor
