/-
  law08.ReplyBack: the claim.
-/
import Derived.Test.YtalkglheaadigaaDoorRxBack
import Derived.Test.YtalkglheaadigaaDoorReplyReads
set_option maxRecDepth 20000
set_option linter.unusedVariables false
set_option linter.unusedSimpArgs false
set_option linter.unusedSectionVars false
namespace Go.Proofs.YtalkglheaadigaaDoor
open Go.ChangeMaps Go.ChangeShapes Go.WideShapes Go.ChangeAt Go.RowKit
namespace AX
theorem fit_reps {T : List (Nat × TI)} {e : Nat} (he : tyN T e = some .str) : ∀ (n : Nat) (cs : List Cell), cs.length = n * 3 →
    (∀ i j t c, i < n → ([.int .i64, .str, .slice e 1] : List TI)[j]? = some t → cs[i * 3 + j]? = some c → FitC T t c) → ∃ l : List Rep, cs = repsC l ∧ ∀ r ∈ l, r.2.1.length ≤ maxLen ∧ r.2.2.length ≤ maxLen
  | 0, cs, h, _ => by
    have : cs = [] := List.eq_nil_of_length_eq_zero (by omega)
    exact ⟨[], this, fun _ h => by cases h⟩
  | n + 1, cs, h, hf => by
    match cs, h with
    | a :: b :: c :: r, h =>
      obtain ⟨l, hl, h2⟩ := fit_reps he n r (by simp at h; omega) fun i j t x hi ht hx => hf (i + 1) j t x (by omega) ht (by
        rw [show (i + 1) * 3 + j = i * 3 + j + 3 by omega]; simpa using hx)
      have ha := hf 0 0 _ a (by omega) rfl rfl
      have hb := hf 0 1 _ b (by omega) rfl rfl
      have hc := hf 0 2 _ c (by omega) rfl rfl
      cases ha
      cases hb
      obtain ⟨ls, rfl, h5, h6⟩ := fit_row he hc
      refine ⟨(_, _, ls) :: l, by rw [hl]; rfl, fun x hx => ?_⟩
      rcases List.mem_cons.1 hx with rfl | hx
      · exact ⟨‹_›, h5⟩
      · exact h2 x hx
    | [], h => simp at h
    | [_], h => simp at h; omega
    | [_, _], h => simp at h; omega
end AX
theorem replyBack_law : LawWalk4 5 Tryd.f5 := by
  intro H enc W base args ds ps hA hval hlib
  refine AX.law_calls (m := 6) AX.AXE_ok (by kernel_rfl) AX.AXF_ok (by kernel_rfl) (fun xs hx => ?_) hA hval hlib
  rw [Tryd.params5] at hx
  obtain ⟨x, y, rfl, h1, h2⟩ := hx.two
  obtain ⟨b, rfl⟩ := AX.fit_bool (by kernel_rfl) h2
  obtain ⟨ti, h3, h4⟩ := h1
  have h5 : AX.tyN AX.AXE.T 40 = some (.slice 27 3) := by kernel_rfl
  rw [h5] at h3
  cases h3
  obtain ⟨c, rfl, h6⟩ := h4
  cases h6 with
  | sl _ _ n cs ti h1 h2 h3 h4 h5 h6 =>
    have h7 : AX.tyN AX.AXE.T 27 = some (.struct [.int .i64, .str, .slice 9 1] [(0, 1, 3), (1, 1, 9), (2, 1, 25)]) := by kernel_rfl
    rw [h7] at h1
    cases h1
    obtain ⟨l, rfl, h8⟩ := AX.fit_reps (e := 9) (by kernel_rfl) n cs h4 h6
    exact ⟨300001, AX.back_law l b h8⟩

set_option maxRecDepth 100000 in
theorem replyBack_lib (W : World) (h : laidMetH Tryd.prog Rows.replyBackRow.laid W) (hsh : W.ShapedOpen Tryd.prog) : LibAt W := by
  have h2 : laidMet Tryd.prog Rows.replyBackRow.laid W := h
  exact LibAt.of (by kernel_rfl) rfl rfl h2 hsh
set_option maxRecDepth 1000000 in
theorem replyBack_laid (os : Os) (args : Array Value) : laidMet Tryd.prog Rows.replyBackRow.laid ((laidWorld os).forCall (fun _ _ => 0) ⟨#[], args, []⟩).memory :=
  laidMet_of_run' 8 (by kernel_rfl) (by kernel_rfl)
set_option maxRecDepth 100000 in
theorem replyBack_row : Rows.ReplyBackSaid :=
  OpenClaim.holds_of_cond 5 Tryd.f5 rfl rfl rfl rfl rfl rfl rfl ⟨rfl, rfl, rfl, rfl, rfl⟩ rfl rfl rfl rfl rfl (by kernel_rfl) Tryd.func5 (by kernel_rfl)
    (of_decide_eq_true (by kernel_rfl)) (by unfold Func.isWrapper; first | (rw [if_pos (by decide +kernel)]; kernel_rfl) | (rw [if_neg (by decide +kernel)]; exact ⟨rfl, rfl⟩))
    (fun os started H enc _ F0 => by
      rw [OpenClaim.pre_eq_preRow]
      exact law_lift4 (s := Rows.replyBackSpec) Tryd.func5 (by kernel_rfl) (by kernel_rfl) rfl (fun H ds hd => by match ds, hd with | [_, _], _ => rfl) (by kernel_rfl) os started H enc F0
        (witness_row_at (enc := enc) (C := Tryd.checked) false (laidWorld os) #[.slice none 0 0, .bool false] rfl (by kernel_rfl) (by kernel_rfl) (by kernel_rfl)
          (OpenSpec.preRow_of_B rfl 8 (by kernel_rfl) (by kernel_rfl) (replyBack_laid os _))) replyBack_lib replyBack_law)
set_option maxRecDepth 100000 in
theorem replyBack_holds : Rows.ReplyBackCardSaid :=
  Claim7.holds_tied_plain_at .later [] [.data, .data, .data, .data, .sentinel, .sentinel, .sentinel, .pinned] true (true, "1a6fcf7ebaec6ed68c3774d0a03accf69dc34f739438a2b03278b04b594ca63d") true
    replyBack_row (fun _ h => by cases h) (by kernel_rfl) (fun _ h => by cases h) replyBack_row_tie rfl ⟨rfl, rfl⟩ (by kernel_rfl) rfl
    (fun f fn hf hfn => by
      obtain rfl : f = 5 := Option.some.inj ((show Tryd.prog.funcNamed Rows.replyBackRow.func = some 5 by kernel_rfl).symm.trans hf) |>.symm
      obtain rfl : fn = Tryd.f5 := (Option.some.inj (Tryd.func5.symm.trans hfn)).symm
      exact ⟨by kernel_rfl, fun j t ht => (wants_none (by kernel_rfl)) j t ht⟩)
    (by kernel_rfl)
#print axioms replyBack_holds
end Go.Proofs.YtalkglheaadigaaDoor
