/-
  Layer 31: what is read of a line, in plain words.
-/
import Derived.Test.YtfbicbgdfcbhpaaDoorScDatR
set_option maxRecDepth 20000
set_option linter.unusedVariables false
set_option linter.unusedSimpArgs false
set_option linter.unusedSectionVars false
namespace Go.Proofs.YtfbicbgdfcbhpaaDoor
namespace SC
/-- an event -/
structure PE where
  kind : Int
  slot : Int
  n : Int
  k : Int
  lmtp : Bool
  name : List UInt8
  lb : Int
  lc : Int
  tos : List (List UInt8)
  data : List UInt8
  code : Int
  keep : List Int
  deriving DecidableEq
def PE0 : PE := ⟨0, 0, 0, 0, false, [], 0, 0, [], [], 0, []⟩
def lmtpL : List UInt8 := [108, 109, 116, 112]
def smtpL : List UInt8 := [115, 109, 116, 112]
def wordsL : List (List UInt8) := [[], [111, 112, 101, 110], [98, 121, 116, 101, 115], [99, 108, 111, 115, 101], [116, 105, 99, 107], [114, 117, 110], [117, 115, 101, 114], [108, 105, 109, 105, 116], [97, 108, 105, 97, 115], [117, 110, 97, 108, 105, 97, 115], [101, 120, 112, 117, 110, 103, 101], [102, 108, 97, 103], [99, 111, 109, 112, 97, 99, 116], [112, 101, 114, 115, 105, 115, 116], [102, 97, 105, 108], [99, 114, 97, 115, 104], [98, 111, 111, 116], [114, 101, 112, 97, 105, 114]]
def formsL : List (List UInt8) := [[], [115, 112], [115, 100], [115], [110], [], [117, 98, 99], [109, 98, 99], [117, 116], [117], [109, 110], [109, 110, 107], [109], [], [110, 101], [110], [110, 119], []]
def kindS (w : List UInt8) : List (List UInt8) → Nat → Int → Int
  | [], _, k => k
  | x :: r, i, k => kindS w r (i + 1) (if 0 < i ∧ x = w then (i : Int) else k)
def kindQ (w : List UInt8) : Int := kindS w wordsL 0 0
def fieldQ (c : UInt8) (w : List UInt8) (e : PE) : Option PE :=
  if c = 115 then (match numQ w with | some v => if 0 ≤ v ∧ v < 8 then some { e with slot := v } else none | none => none)
  else if c = 112 then (if w = lmtpL ∨ w = smtpL then some { e with lmtp := decide (w = lmtpL) } else none)
  else if c = 110 then (match numQ w with | some v => some { e with n := v } | none => none)
  else if c = 107 then (match numQ w with | some v => some { e with k := v } | none => none)
  else if c = 98 then (match numQ w with | some v => some { e with lb := v } | none => none)
  else if c = 99 then (match numQ w with | some v => some { e with lc := v } | none => none)
  else if c = 101 then (match numQ w with | some v => if 0 ≤ v ∧ v ≤ 17 then some { e with code := v } else none | none => none)
  else if c = 109 then (if w = [42] then some { e with name := [] } else if nameB w = true then some { e with name := w } else none)
  else if c = 117 then (if nameB w = true then some { e with name := w } else none)
  else none
open AX in
def fillQ : List UInt8 → PE → List (List UInt8) → Option PE
  | [], e, ws => if ws = [] then some e else none
  | c :: f, e, ws => if c = 116 then (if ws ≠ [] ∧ ws.all nameB = true then some { e with tos := ws } else none)
    else if c = 119 then (match numsQ ws with | some vs => some { e with keep := vs } | none => none)
    else match ws with
      | [] => none
      | w :: r => match fieldQ c w e with
        | some e' => fillQ f e' r
        | none => none
theorem fillQ_nil (e : PE) (ws : List (List UInt8)) : fillQ [] e ws = if ws = [] then some e else none := by rw [fillQ.eq_def]
open AX in
theorem fillQ_cons (c : UInt8) (f : List UInt8) (e : PE) (ws : List (List UInt8)) : fillQ (c :: f) e ws = if c = 116 then (if ws ≠ [] ∧ ws.all nameB = true then some { e with tos := ws } else none)
    else if c = 119 then (match numsQ ws with | some vs => some { e with keep := vs } | none => none)
    else match ws with
      | [] => none
      | w :: r => match fieldQ c w e with
        | some e' => fillQ f e' r
        | none => none := by rw [fillQ.eq_def]
open Classical in
noncomputable def dataQ (s : List UInt8) : Option (List UInt8) := if h : ∃ d, quo d = s ∧ d.length ≤ 4096 then some (Classical.choose h) else none
theorem dataQ_iff {s d : List UInt8} : dataQ s = some d ↔ quo d = s ∧ d.length ≤ 4096 := by
  unfold dataQ
  constructor
  · intro h
    split at h
    · rename_i hx; cases h; exact Classical.choose_spec hx
    · cases h
  · intro h
    have hx : ∃ d, quo d = s ∧ d.length ≤ 4096 := ⟨d, h⟩
    rw [dif_pos hx]
    exact congrArg some (AX.quo_inj ((Classical.choose_spec hx).1.trans h.1.symm))
theorem tells_some {s o : List UInt8} (h : AX.Tells s o true) : dataQ s = some o := dataQ_iff.2 (h.2 rfl)
theorem tells_none {s o : List UInt8} (h : AX.Tells s o false) : dataQ s = none := by
  cases hd : dataQ s with
  | none => rfl
  | some d => have := h.1.2 ⟨d, dataQ_iff.1 hd⟩; cases this
/-- what stands behind the word, by its kind -/
noncomputable def bodyQ (k : Int) (ws : List (List UInt8)) : Option PE :=
  if k = 2 then (match ws with
    | a :: b :: r => (match dataQ (Lib.join (b :: r) [32]) with
      | some d => fieldQ 115 a { PE0 with kind := 2, data := d }
      | none => none)
    | _ => none)
  else fillQ (formsL.getD k.toNat []) { PE0 with kind := k } ws
noncomputable def readQ (line : List UInt8) : Except Int PE :=
  match spl 32 line with
  | w :: r => if kindQ w = 0 then .error 15 else (match bodyQ (kindQ w) r with | some e => .ok e | none => .error 3)
  | [] => .error 15
theorem kind_cases (w : List UInt8) : kindQ w = 0 ∨ ∃ k : Fin 18, 0 < k.val ∧ kindQ w = (k.val : Int) ∧ wordsL.getD k.val [] = w := by
  by_cases h : ∃ k : Fin 18, 0 < k.val ∧ wordsL.getD k.val [] = w
  · obtain ⟨k, h0, rfl⟩ := h
    refine .inr ⟨k, h0, ?_, rfl⟩
    have : ∀ k : Fin 18, 0 < k.val → kindQ (wordsL.getD k.val []) = (k.val : Int) := by decide +kernel
    exact this k h0
  · refine .inl ?_
    have hne : ∀ k : Fin 18, 0 < k.val → ¬ wordsL.getD k.val [] = w := fun k h0 e => h ⟨k, h0, e⟩
    have aux : ∀ (l : List (List UInt8)) (i : Nat), (∀ j : Nat, j < l.length → 0 < i + j → ¬ l.getD j [] = w) → kindS w l i 0 = 0 := by
      intro l
      induction l with
      | nil => intro i _; rfl
      | cons x r ih =>
        intro i hj
        have h0 : ¬ (0 < i ∧ x = w) := fun hx => hj 0 (by simp) hx.1 hx.2
        rw [kindS, if_neg h0]
        exact ih (i + 1) fun j hj1 hj2 => by
          have := hj (j + 1) (by simp; omega) (by omega)
          simpa using this
    exact aux wordsL 0 fun j hj h0 => by
      have hl : wordsL.length = 18 := rfl
      exact hne ⟨j, by omega⟩ (by simpa using h0)
end SC
open SC
namespace AX
def evP (p : PE) : S_api_Event := ⟨p.kind, p.slot, p.n, p.k, p.lmtp, p.name, p.lb, p.lc, strs p.tos, byteCells p.data, p.code, ints p.keep⟩
end AX
end Go.Proofs.YtfbicbgdfcbhpaaDoor
