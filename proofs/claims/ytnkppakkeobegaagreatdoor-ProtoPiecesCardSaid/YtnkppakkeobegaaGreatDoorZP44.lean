/-
  FwG.
-/
import Derived.Test.YtnkppakkeobegaaGreatDoorZP10
set_option maxRecDepth 20000
set_option linter.unusedVariables false
set_option linter.unusedSimpArgs false
set_option linter.unusedSectionVars false
namespace Go.Proofs.YtnkppakkeobegaaGreatDoor
open Go.ChangeMaps Go.ChangeShapes Go.WideShapes Go.ChangeAt Go.RowKit
namespace AX
theorem fit_strs {T : List (Nat × TI)} : ∀ cs : List Cell, (∀ (i : Nat) c, cs[i]? = some c → FitC T .str c) → ∃ ls : List (List UInt8), cs = ls.map Cell.str ∧ ∀ l ∈ ls, l.length ≤ maxLen
 | [], _ => ⟨[], rfl, fun _ h => by cases h⟩
 | c :: cs, h => by
  obtain ⟨ls, rfl, h2⟩ := fit_strs cs fun i c hc => h (i + 1) c (by simpa using hc)
  have h0 := h 0 c rfl
  cases h0 with
  | str l hl =>
   refine ⟨l :: ls, rfl, fun x hx => ?_⟩
   rcases List.mem_cons.1 hx with rfl | hx
   · exact hl
   · exact h2 x hx
theorem fit_row {T : List (Nat × TI)} {e : Nat} {c : Cell} (ht : tyN T e = some .str) (h : FitC T (.slice e 1) c) : ∃ ls : List (List UInt8), c = .sl none 1 (ls.map Cell.str) ∧ ls.length ≤ maxLen ∧ ∀ l ∈ ls, l.length ≤ maxLen := by
 cases h with
 | sl _ _ n cs ti h1 h2 h3 h4 h5 h6 =>
  rw [ht] at h1
  cases h1
  obtain ⟨ls, rfl, h7⟩ := fit_strs cs fun i c hc => h6 i 0 .str c (by have := (List.getElem?_eq_some_iff.1 hc).1; omega) rfl (by simpa using hc)
  exact ⟨ls, rfl, by simpa using (show (ls.map Cell.str).length ≤ maxLen by omega), h7⟩
theorem fit_u8s {T : List (Nat × TI)} : ∀ cs : List Cell, (∀ (i : Nat) c, cs[i]? = some c → FitC T (.int .u8) c) → ∃ l : List UInt8, cs = AX.byteCells l
 | [], _ => ⟨[], rfl⟩
 | c :: cs, h => by
  obtain ⟨l, rfl⟩ := fit_u8s cs fun i c hc => h (i + 1) c (by simpa using hc)
  have h0 := h 0 c rfl
  cases h0 with
  | int k n hn =>
   have h5 : IntKind.u8.min ≤ n ∧ n ≤ IntKind.u8.max := by simpa [Lit.wf] using hn
   have e1 : IntKind.u8.min = 0 := rfl
   have e2 : IntKind.u8.max = 255 := rfl
   have : 0 ≤ n ∧ n < 256 := by omega
   refine ⟨UInt8.ofNat n.toNat :: l, ?_⟩
   simp only [AX.byteCells, List.map_cons, UInt8.toNat_ofNat']
   congr 2
   omega
theorem fit_bytes {T : List (Nat × TI)} {t e : Nat} {x : AV} (ht : tyN T t = some (.slice e 1)) (he : tyN T e = some (.int .u8)) (h : FitT T t x) : ∃ l : List UInt8, x = .one (.sl none 1 (AX.byteCells l)) := by
 obtain ⟨ti, h1, h2⟩ := h
 rw [ht] at h1
 cases h1
 obtain ⟨c, rfl, h3⟩ := h2
 cases h3 with
 | sl _ _ n cs ti h1 h2 h3 h4 h5 h6 =>
  rw [he] at h1
  cases h1
  obtain ⟨l, rfl⟩ := fit_u8s cs fun i c hc => h6 i 0 (.int .u8) c (by have := (List.getElem?_eq_some_iff.1 hc).1; omega) rfl (by simpa using hc)
  exact ⟨l, rfl⟩
theorem fit_bool {T : List (Nat × TI)} {t : Nat} {x : AV} (ht : tyN T t = some .bool) (h : FitT T t x) : ∃ b : Bool, x = .one (.bool b) := by
 obtain ⟨ti, h1, h2⟩ := h
 rw [ht] at h1
 cases h1
 obtain ⟨c, rfl, h3⟩ := h2
 cases h3
 exact ⟨_, rfl⟩
theorem fit_i64s {T : List (Nat × TI)} : ∀ cs : List Cell, (∀ (i : Nat) c, cs[i]? = some c → FitC T (.int .i64) c) → ∃ l : List Int, cs = l.map (Cell.int .i64) ∧ ∀ v ∈ l, -9223372036854775808 ≤ v ∧ v ≤ 9223372036854775807
 | [], _ => ⟨[], rfl, fun v h => by cases h⟩
 | c :: cs, h => by
  obtain ⟨l, rfl, h2⟩ := fit_i64s cs fun i c hc => h (i + 1) c (by simpa using hc)
  have h0 := h 0 c rfl
  cases h0 with
  | int k n hn =>
   have h5 : IntKind.i64.min ≤ n ∧ n ≤ IntKind.i64.max := by simpa [Lit.wf] using hn
   have e1 : IntKind.i64.min = -9223372036854775808 := rfl
   have e2 : IntKind.i64.max = 9223372036854775807 := rfl
   refine ⟨n :: l, rfl, fun v hv => ?_⟩
   rcases List.mem_cons.1 hv with rfl | hv
   · omega
   · exact h2 v hv
end AX
end Go.Proofs.YtnkppakkeobegaaGreatDoor
