/-
  law08.ReplyBytes: the claim.
-/
import Derived.Test.YtalkglheaadigaaDoorRxBytes
set_option maxRecDepth 20000
set_option linter.unusedVariables false
set_option linter.unusedSimpArgs false
set_option linter.unusedSectionVars false
namespace Go.Proofs.YtalkglheaadigaaDoor
open Go.ChangeMaps Go.ChangeShapes Go.WideShapes Go.ChangeAt Go.RowKit
namespace AX
theorem fit_strs {T : List (Nat × TI)} : ∀ cs : List Cell, (∀ (i : Nat) c, cs[i]? = some c → FitC T .str c) → ∃ ls : List (List UInt8), cs = ls.map Cell.str ∧ ∀ l ∈ ls, l.length ≤ maxLen
  | [], _ => ⟨[], rfl, fun _ h => by cases h⟩
  | c :: cs, h => by
    obtain ⟨ls, rfl, h2⟩ := fit_strs cs fun i c hc => h (i + 1) c (by simpa using hc)
    have h0 := h 0 c rfl
    cases h0 with
    | str l hl =>
      refine ⟨l :: ls, rfl, fun x hx => ?_⟩
      rcases List.mem_cons.1 hx with rfl | hx
      · exact hl
      · exact h2 x hx
theorem fit_row {T : List (Nat × TI)} {e : Nat} {c : Cell} (ht : tyN T e = some .str) (h : FitC T (.slice e 1) c) : ∃ ls : List (List UInt8), c = .sl none 1 (ls.map Cell.str) ∧ ls.length ≤ maxLen ∧ ∀ l ∈ ls, l.length ≤ maxLen := by
  cases h with
  | sl _ _ n cs ti h1 h2 h3 h4 h5 h6 =>
    rw [ht] at h1
    cases h1
    obtain ⟨ls, rfl, h7⟩ := fit_strs cs fun i c hc => h6 i 0 .str c (by have := (List.getElem?_eq_some_iff.1 hc).1; omega) rfl (by simpa using hc)
    exact ⟨ls, rfl, by simpa using (show (ls.map Cell.str).length ≤ maxLen by omega), h7⟩
theorem fit_reply {T : List (Nat × TI)} {t e : Nat} {fs : List (Nat × Nat × TypeId)} {x : AV} (ht : tyN T t = some (.struct [.int .i64, .str, .slice e 1] fs)) (he : tyN T e = some .str) (h : FitT T t x) :
    ∃ (code : Int) (en : List UInt8) (ls : List (List UInt8)), x = .agg [.int .i64 code, .str en, .sl none 1 (ls.map Cell.str)] ∧ en.length ≤ maxLen ∧ ls.length ≤ maxLen ∧ ∀ l ∈ ls, l.length ≤ maxLen := by
  obtain ⟨ti, h1, h2⟩ := h
  rw [ht] at h1
  cases h1
  obtain ⟨cs, rfl, h3, h4⟩ := h2
  match cs, h3 with
  | [a, b, c], _ =>
    have ha := h4 0 _ a rfl rfl
    have hb := h4 1 _ b rfl rfl
    have hc := h4 2 _ c rfl rfl
    cases ha
    cases hb
    obtain ⟨ls, rfl, h5, h6⟩ := fit_row he hc
    exact ⟨_, _, ls, rfl, ‹_›, h5, h6⟩
theorem fit_str {T : List (Nat × TI)} {t : Nat} {x : AV} (ht : tyN T t = some .str) (h : FitT T t x) : ∃ l : List UInt8, x = .one (.str l) ∧ l.length ≤ maxLen := by
  obtain ⟨ti, h1, h2⟩ := h
  rw [ht] at h1
  cases h1
  obtain ⟨c, rfl, h3⟩ := h2
  cases h3
  exact ⟨_, rfl, ‹_›⟩
end AX
theorem replyBytes_law : LawWalk4 6 Tryd.f6 := by
  intro H enc W base args ds ps hA hval hlib
  refine AX.law_calls (m := 6) AX.AXE_ok (by kernel_rfl) AX.AXF_ok (by kernel_rfl) (fun xs hx => ?_) hA hval hlib
  rw [Tryd.params6] at hx
  obtain ⟨x, y, rfl, h1, h2⟩ := hx.two
  obtain ⟨code, e, ls, rfl, he, hl, _⟩ := AX.fit_reply (e := 9) (fs := [(0, 1, 3), (1, 1, 9), (2, 1, 25)]) (by kernel_rfl) (by kernel_rfl) h1
  obtain ⟨s, rfl, _⟩ := AX.fit_str (by kernel_rfl) h2
  exact ⟨8, AX.bytes_law 0 code e s ls he hl⟩

set_option maxRecDepth 100000 in
theorem replyBytes_lib (W : World) (h : laidMetH Tryd.prog Rows.replyBytesRow.laid W) (hsh : W.ShapedOpen Tryd.prog) : LibAt W := by
  have h2 : laidMet Tryd.prog Rows.replyBytesRow.laid W := h
  exact LibAt.of (by kernel_rfl) rfl rfl h2 hsh
set_option maxRecDepth 1000000 in
theorem replyBytes_laid (os : Os) (args : Array Value) : laidMet Tryd.prog Rows.replyBytesRow.laid ((laidWorld os).forCall (fun _ _ => 0) ⟨#[], args, []⟩).memory :=
  laidMet_of_run' 8 (by kernel_rfl) (by kernel_rfl)
set_option maxRecDepth 100000 in
theorem replyBytes_row : Rows.ReplyBytesSaid :=
  OpenClaim.holds_of_cond 6 Tryd.f6 rfl rfl rfl rfl rfl rfl rfl ⟨rfl, rfl, rfl, rfl, rfl⟩ rfl rfl rfl rfl rfl (by kernel_rfl) Tryd.func6 (by kernel_rfl)
    (of_decide_eq_true (by kernel_rfl)) (by unfold Func.isWrapper; first | (rw [if_pos (by decide +kernel)]; kernel_rfl) | (rw [if_neg (by decide +kernel)]; exact ⟨rfl, rfl⟩))
    (fun os started H enc _ F0 => by
      rw [OpenClaim.pre_eq_preRow]
      exact law_lift4 (s := Rows.replyBytesSpec) Tryd.func6 (by kernel_rfl) (by kernel_rfl) rfl (fun H ds hd => by match ds, hd with | [_, _], _ => rfl) (by kernel_rfl) os started H enc F0
        (witness_row_at (enc := enc) (C := Tryd.checked) false (laidWorld os) #[.agg #[.int .i64 0, .string ⟨#[]⟩, .slice none 0 0], .string ⟨#[]⟩] rfl (by kernel_rfl) (by kernel_rfl) (by kernel_rfl)
          (OpenSpec.preRow_of_B rfl 8 (by kernel_rfl) (by kernel_rfl) (replyBytes_laid os _))) replyBytes_lib replyBytes_law)
set_option maxRecDepth 100000 in
theorem replyBytes_holds : Rows.ReplyBytesCardSaid :=
  Claim7.holds_tied_plain_at .later [] [.data, .data, .data, .data, .sentinel, .sentinel, .sentinel, .pinned] true (true, "1a6fcf7ebaec6ed68c3774d0a03accf69dc34f739438a2b03278b04b594ca63d") true
    replyBytes_row (fun _ h => by cases h) (by kernel_rfl) (fun _ h => by cases h) replyBytes_row_tie rfl ⟨rfl, rfl⟩ (by kernel_rfl) rfl
    (fun f fn hf hfn => by
      obtain rfl : f = 6 := Option.some.inj ((show Tryd.prog.funcNamed Rows.replyBytesRow.func = some 6 by kernel_rfl).symm.trans hf) |>.symm
      obtain rfl : fn = Tryd.f6 := (Option.some.inj (Tryd.func6.symm.trans hfn)).symm
      exact ⟨by kernel_rfl, fun j t ht => (wants_none (by kernel_rfl)) j t ht⟩)
    (by kernel_rfl)
#print axioms replyBytes_holds
end Go.Proofs.YtalkglheaadigaaDoor
