/-
  law08.ReplyReads: the claim.
-/
import Derived.Test.YtalkglheaadigaaDoorRxReads
import Derived.Test.YtalkglheaadigaaDoorReplyBytes
set_option maxRecDepth 20000
set_option linter.unusedVariables false
set_option linter.unusedSimpArgs false
set_option linter.unusedSectionVars false
namespace Go.Proofs.YtalkglheaadigaaDoor
open Go.ChangeMaps Go.ChangeShapes Go.WideShapes Go.ChangeAt Go.RowKit
namespace AX
theorem fit_u8s {T : List (Nat × TI)} : ∀ cs : List Cell, (∀ (i : Nat) c, cs[i]? = some c → FitC T (.int .u8) c) → ∃ l : List UInt8, cs = AX.byteCells l
  | [], _ => ⟨[], rfl⟩
  | c :: cs, h => by
    obtain ⟨l, rfl⟩ := fit_u8s cs fun i c hc => h (i + 1) c (by simpa using hc)
    have h0 := h 0 c rfl
    cases h0 with
    | int k n hn =>
      have h5 : IntKind.u8.min ≤ n ∧ n ≤ IntKind.u8.max := by simpa [Lit.wf] using hn
      have e1 : IntKind.u8.min = 0 := rfl
      have e2 : IntKind.u8.max = 255 := rfl
      have : 0 ≤ n ∧ n < 256 := by omega
      refine ⟨UInt8.ofNat n.toNat :: l, ?_⟩
      simp only [AX.byteCells, List.map_cons, UInt8.toNat_ofNat']
      congr 2
      omega
theorem fit_bytes {T : List (Nat × TI)} {t e : Nat} {x : AV} (ht : tyN T t = some (.slice e 1)) (he : tyN T e = some (.int .u8)) (h : FitT T t x) : ∃ l : List UInt8, x = .one (.sl none 1 (AX.byteCells l)) := by
  obtain ⟨ti, h1, h2⟩ := h
  rw [ht] at h1
  cases h1
  obtain ⟨c, rfl, h3⟩ := h2
  cases h3 with
  | sl _ _ n cs ti h1 h2 h3 h4 h5 h6 =>
    rw [he] at h1
    cases h1
    obtain ⟨l, rfl⟩ := fit_u8s cs fun i c hc => h6 i 0 (.int .u8) c (by have := (List.getElem?_eq_some_iff.1 hc).1; omega) rfl (by simpa using hc)
    exact ⟨l, rfl⟩
theorem fit_bool {T : List (Nat × TI)} {t : Nat} {x : AV} (ht : tyN T t = some .bool) (h : FitT T t x) : ∃ b : Bool, x = .one (.bool b) := by
  obtain ⟨ti, h1, h2⟩ := h
  rw [ht] at h1
  cases h1
  obtain ⟨c, rfl, h3⟩ := h2
  cases h3
  exact ⟨_, rfl⟩
end AX
theorem replyReads_law : LawWalk4 4 Tryd.f4 := by
  intro H enc W base args ds ps hA hval hlib
  refine AX.law_calls (m := 6) AX.AXE_ok (by kernel_rfl) AX.AXF_ok (by kernel_rfl) (fun xs hx => ?_) hA hval hlib
  rw [Tryd.params4] at hx
  obtain ⟨x, y, rfl, h1, h2⟩ := hx.two
  obtain ⟨s, rfl⟩ := AX.fit_bytes (e := 5) (by kernel_rfl) (by kernel_rfl) h1
  obtain ⟨b, rfl⟩ := AX.fit_bool (by kernel_rfl) h2
  exact ⟨3000, AX.reads_law s b⟩

set_option maxRecDepth 100000 in
theorem replyReads_lib (W : World) (h : laidMetH Tryd.prog Rows.replyReadsRow.laid W) (hsh : W.ShapedOpen Tryd.prog) : LibAt W := by
  have h2 : laidMet Tryd.prog Rows.replyReadsRow.laid W := h
  exact LibAt.of (by kernel_rfl) rfl rfl h2 hsh
set_option maxRecDepth 1000000 in
theorem replyReads_laid (os : Os) (args : Array Value) : laidMet Tryd.prog Rows.replyReadsRow.laid ((laidWorld os).forCall (fun _ _ => 0) ⟨#[], args, []⟩).memory :=
  laidMet_of_run' 8 (by kernel_rfl) (by kernel_rfl)
set_option maxRecDepth 100000 in
theorem replyReads_row : Rows.ReplyReadsSaid :=
  OpenClaim.holds_of_cond 4 Tryd.f4 rfl rfl rfl rfl rfl rfl rfl ⟨rfl, rfl, rfl, rfl, rfl⟩ rfl rfl rfl rfl rfl (by kernel_rfl) Tryd.func4 (by kernel_rfl)
    (of_decide_eq_true (by kernel_rfl)) (by unfold Func.isWrapper; first | (rw [if_pos (by decide +kernel)]; kernel_rfl) | (rw [if_neg (by decide +kernel)]; exact ⟨rfl, rfl⟩))
    (fun os started H enc _ F0 => by
      rw [OpenClaim.pre_eq_preRow]
      exact law_lift4 (s := Rows.replyReadsSpec) Tryd.func4 (by kernel_rfl) (by kernel_rfl) rfl (fun H ds hd => by match ds, hd with | [_, _], _ => rfl) (by kernel_rfl) os started H enc F0
        (witness_row_at (enc := enc) (C := Tryd.checked) false (laidWorld os) #[.slice none 0 0, .bool false] rfl (by kernel_rfl) (by kernel_rfl) (by kernel_rfl)
          (OpenSpec.preRow_of_B rfl 8 (by kernel_rfl) (by kernel_rfl) (replyReads_laid os _))) replyReads_lib replyReads_law)
set_option maxRecDepth 100000 in
theorem replyReads_holds : Rows.ReplyReadsCardSaid :=
  Claim7.holds_tied_plain_at .later [] [.data, .data, .data, .data, .sentinel, .sentinel, .sentinel, .pinned] true (true, "1a6fcf7ebaec6ed68c3774d0a03accf69dc34f739438a2b03278b04b594ca63d") true
    replyReads_row (fun _ h => by cases h) (by kernel_rfl) (fun _ h => by cases h) replyReads_row_tie rfl ⟨rfl, rfl⟩ (by kernel_rfl) rfl
    (fun f fn hf hfn => by
      obtain rfl : f = 4 := Option.some.inj ((show Tryd.prog.funcNamed Rows.replyReadsRow.func = some 4 by kernel_rfl).symm.trans hf) |>.symm
      obtain rfl : fn = Tryd.f4 := (Option.some.inj (Tryd.func4.symm.trans hfn)).symm
      exact ⟨by kernel_rfl, fun j t ht => (wants_none (by kernel_rfl)) j t ht⟩)
    (by kernel_rfl)
#print axioms replyReads_holds
end Go.Proofs.YtalkglheaadigaaDoor
