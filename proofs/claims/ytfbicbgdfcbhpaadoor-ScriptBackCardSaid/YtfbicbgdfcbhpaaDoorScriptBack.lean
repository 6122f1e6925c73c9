/-
  law31.ScriptBack: the claim.
-/
import Derived.Test.YtfbicbgdfcbhpaaDoorScBackW
import Derived.Test.YtfbicbgdfcbhpaaDoorFitG
import Derived.Test.YtfbicbgdfcbhpaaDoorRow4
set_option maxRecDepth 20000
set_option linter.unusedVariables false
set_option linter.unusedSimpArgs false
set_option linter.unusedSectionVars false
namespace Go.Proofs.YtfbicbgdfcbhpaaDoor
open Go.ChangeMaps Go.ChangeShapes Go.WideShapes Go.ChangeAt Go.RowKit
namespace AX
open SC
def evTI (e9 e5 e3 : Nat) : List TI := [.int .i64, .int .i64, .int .i64, .int .i64, .bool, .str, .int .i64, .int .i64, .slice e9 1, .slice e5 1, .int .i64, .slice e3 1]
theorem fitL_event {T : List (Nat × TI)} {e5 e9 e3 : Nat} {cs : List Cell} (h9 : tyN T e9 = some .str) (h5 : tyN T e5 = some (.int .u8)) (h3 : tyN T e3 = some (.int .i64)) (h : FitL T (evTI e9 e5 e3) cs) : ∃ e : PE, cs = (evP e).cells ∧ I64 e := by
  obtain ⟨hl, hc⟩ := h
  match cs, hl with
  | [c0, c1, c2, c3, c4, c5, c6, c7, c8, c9, c10, c11], _ =>
    obtain ⟨v0, rfl, _, _⟩ := fit_int (hc 0 _ c0 rfl rfl)
    obtain ⟨v1, rfl, a1⟩ := fit_int (hc 1 _ c1 rfl rfl)
    obtain ⟨v2, rfl, a2⟩ := fit_int (hc 2 _ c2 rfl rfl)
    obtain ⟨v3, rfl, a3⟩ := fit_int (hc 3 _ c3 rfl rfl)
    have hb := hc 4 _ c4 rfl rfl
    have hst := hc 5 _ c5 rfl rfl
    obtain ⟨v6, rfl, a6⟩ := fit_int (hc 6 _ c6 rfl rfl)
    obtain ⟨v7, rfl, a7⟩ := fit_int (hc 7 _ c7 rfl rfl)
    obtain ⟨ls, rfl, _⟩ := fit_row h9 (hc 8 _ c8 rfl rfl)
    have hd := hc 9 _ c9 rfl rfl
    obtain ⟨v10, rfl, a10⟩ := fit_int (hc 10 _ c10 rfl rfl)
    have hk := hc 11 _ c11 rfl rfl
    cases hb with
    | bool b =>
      cases hst with
      | str l _ =>
        cases hd with
        | sl _ _ nd cd td q1 q2 q3 q4 q5 q6 =>
          rw [h5] at q1; cases q1
          obtain ⟨bs, rfl⟩ := fit_u8s cd fun i c hc => q6 i 0 (.int .u8) c (by have := (List.getElem?_eq_some_iff.1 hc).1; omega) rfl (by simpa using hc)
          cases hk with
          | sl _ _ nk ck tk r1 r2 r3 r4 r5 r6 =>
            rw [h3] at r1; cases r1
            obtain ⟨ks, rfl, hks⟩ := fit_i64s ck fun i c hc => r6 i 0 (.int .i64) c (by have := (List.getElem?_eq_some_iff.1 hc).1; omega) rfl (by simpa using hc)
            exact ⟨⟨v0, v1, v2, v3, b, l, v6, v7, ls, bs, v10, ks⟩, rfl, ⟨a1, a2, a3, a6, a7, a10, hks⟩⟩
theorem evs_of {T : List (Nat × TI)} {e5 e9 e3 : Nat} (h9 : tyN T e9 = some .str) (h5 : tyN T e5 = some (.int .u8)) (h3 : tyN T e3 = some (.int .i64)) : ∀ (n : Nat) (cs : List Cell), cs.length = n * 12 →
    (∀ (i j : Nat) t c, i < n → (evTI e9 e5 e3)[j]? = some t → cs[i * 12 + j]? = some c → FitC T t c) → ∃ l : List PE, cs = pevs l ∧ ∀ e ∈ l, I64 e
  | 0, cs, hl, h => ⟨[], List.eq_nil_of_length_eq_zero (by simpa using hl), fun e he => by cases he⟩
  | n + 1, cs, hl, h => by
    have e12 : (n + 1) * 12 = n * 12 + 12 := by omega
    obtain ⟨e, h1, h2⟩ := fitL_event (cs := cs.take 12) h9 h5 h3 ⟨by rw [List.length_take, hl]; show min 12 _ = 12; omega, fun j t c ht hc => by
      have hj : j < 12 := (List.getElem?_eq_some_iff.1 ht).1
      rw [List.getElem?_take, if_pos hj] at hc
      exact h 0 j t c (by omega) ht (by simpa using hc)⟩
    obtain ⟨l, h4, h6⟩ := evs_of h9 h5 h3 n (cs.drop 12) (by rw [List.length_drop, hl]; omega) fun i j t c hi ht hc => by
      rw [List.getElem?_drop] at hc
      exact h (i + 1) j t c (by omega) ht (by rw [show (i + 1) * 12 + j = 12 + (i * 12 + j) by omega]; exact hc)
    refine ⟨e :: l, ?_, fun x hx => ?_⟩
    · rw [← List.take_append_drop 12 cs, h1, h4]; simp [pevs]
    · rcases List.mem_cons.1 hx with rfl | hx
      · exact h2
      · exact h6 x hx
theorem fit_events {T : List (Nat × TI)} {t ev e5 e9 e3 : Nat} {fs : List (Nat × Nat × TypeId)} {x : AV} (ht : tyN T t = some (.slice ev 12)) (hev : tyN T ev = some (.struct (evTI e9 e5 e3) fs)) (h9 : tyN T e9 = some .str) (h5 : tyN T e5 = some (.int .u8)) (h3 : tyN T e3 = some (.int .i64)) (h : FitT T t x) :
    ∃ l : List PE, x = .one (.sl none 12 (pevs l)) ∧ ∀ e ∈ l, I64 e := by
  obtain ⟨ti, h1, h2⟩ := h
  rw [ht] at h1
  cases h1
  obtain ⟨c, rfl, hc⟩ := h2
  cases hc with
  | sl _ _ n cs td q1 q2 q3 q4 q5 q6 =>
    rw [hev] at q1; cases q1
    obtain ⟨l, rfl, hl⟩ := evs_of h9 h5 h3 n cs q4 q6
    exact ⟨l, rfl, hl⟩
end AX
theorem scriptBack_law : LawWalk4 4 Tryd.f4 := by
  intro H enc W base args ds ps hA hval hlib
  refine AX.law_calls (m := 6) AX.AXE_ok (by kernel_rfl) AX.AXF_ok (by kernel_rfl) (fun xs hx => ?_) hA hval hlib
  rw [Tryd.params4] at hx
  obtain ⟨x, y, rfl, h1, h2⟩ := hx.two
  obtain ⟨l, rfl, hI⟩ := AX.fit_events (ev := 30) (fs := [(0, 1, 3), (1, 1, 3), (2, 1, 3), (3, 1, 3), (4, 1, 4), (5, 1, 9), (6, 2, 24), (8, 1, 25), (9, 1, 26), (10, 1, 27), (11, 1, 28)]) (e9 := 9) (e5 := 5) (e3 := 3) (by kernel_rfl) (by kernel_rfl) (by kernel_rfl) (by kernel_rfl) (by kernel_rfl) h1
  obtain ⟨b, rfl⟩ := AX.fit_bool (by kernel_rfl) h2
  exact ⟨1001001, AX.back_law l hI b⟩

set_option maxRecDepth 100000 in
theorem scriptBack_lib (W : World) (h : laidMetH Tryd.prog Rows.scriptBackRow.laid W) (hsh : W.ShapedOpen Tryd.prog) : LibAt W := by
  have h2 : laidMet Tryd.prog Rows.scriptBackRow.laid W := h
  exact LibAt.of (by kernel_rfl) rfl rfl h2 hsh
set_option maxRecDepth 1000000 in
theorem scriptBack_laid (os : Os) (args : Array Value) : laidMet Tryd.prog Rows.scriptBackRow.laid ((laidWorld os).forCall (fun _ _ => 0) ⟨#[], args, []⟩).memory :=
  laidMet_of_run' 8 (by kernel_rfl) (by kernel_rfl)
set_option maxRecDepth 100000 in
theorem scriptBack_row : Rows.ScriptBackSaid :=
  OpenClaim.holds_of_cond 4 Tryd.f4 rfl rfl rfl rfl rfl rfl rfl ⟨rfl, rfl, rfl, rfl, rfl⟩ rfl rfl rfl rfl rfl (by kernel_rfl) Tryd.func4 (by kernel_rfl)
    (of_decide_eq_true (by kernel_rfl)) (by unfold Func.isWrapper; first | (rw [if_pos (by decide +kernel)]; kernel_rfl) | (rw [if_neg (by decide +kernel)]; exact ⟨rfl, rfl⟩))
    (fun os started H enc _ F0 => by
      rw [OpenClaim.pre_eq_preRow]
      exact law_lift4 (s := Rows.scriptBackSpec) Tryd.func4 (by kernel_rfl) (by kernel_rfl) rfl (fun H ds hd => by match ds, hd with | [_, _], _ => rfl) (by kernel_rfl) os started H enc F0
        (witness_row_at (enc := enc) (C := Tryd.checked) false (laidWorld os) #[.slice none 0 0, .bool false] rfl (by kernel_rfl) (by kernel_rfl) (by kernel_rfl)
          (OpenSpec.preRow_of_B rfl 8 (by kernel_rfl) (by kernel_rfl) (scriptBack_laid os _))) scriptBack_lib scriptBack_law)
set_option maxRecDepth 100000 in
theorem scriptBack_holds : Rows.ScriptBackCardSaid :=
  Claim7.holds_tied_plain_at .later [] [.data, .data, .data, .data, .sentinel, .sentinel, .pinned] true (true, "26be4a89e273cfd0048183963a3103fb579f1cb268b2f44980b0d8acd37b2531") true
    scriptBack_row (fun _ h => by cases h) (by kernel_rfl) (fun _ h => by cases h) scriptBack_row_tie rfl ⟨rfl, rfl⟩ (by kernel_rfl) rfl
    (fun f fn hf hfn => by
      obtain rfl : f = 4 := Option.some.inj ((show Tryd.prog.funcNamed Rows.scriptBackRow.func = some 4 by kernel_rfl).symm.trans hf) |>.symm
      obtain rfl : fn = Tryd.f4 := (Option.some.inj (Tryd.func4.symm.trans hfn)).symm
      exact ⟨by kernel_rfl, fun j t ht => (wants_none (by kernel_rfl)) j t ht⟩)
    (by kernel_rfl)
#print axioms scriptBack_holds
end Go.Proofs.YtfbicbgdfcbhpaaDoor
