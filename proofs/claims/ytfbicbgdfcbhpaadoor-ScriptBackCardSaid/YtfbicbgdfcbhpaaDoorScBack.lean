/-
  Layer 31: a text of events reads back (plain law for ScriptBack).
-/
import Derived.Test.YtfbicbgdfcbhpaaDoorScParse
set_option maxRecDepth 20000
set_option linter.unusedVariables false
set_option linter.unusedSimpArgs false
set_option linter.unusedSectionVars false
namespace Go.Proofs.YtfbicbgdfcbhpaaDoor
namespace SC
open AX
/-- names of name bytes alone -/
def Namely (e : PE) : Prop := (∀ x ∈ e.name, nameC x = true) ∧ ∀ t ∈ e.tos, ∀ x ∈ t, nameC x = true
theorem nameB_all {w : List UInt8} (h : nameB w = true) : ∀ x ∈ w, nameC x = true := by
  unfold nameB at h
  rw [Bool.and_eq_true, List.all_eq_true] at h
  exact h.1
theorem fieldQ_namely {c : UInt8} {w : List UInt8} {e p : PE} (hg : Namely e) (h : fieldQ c w e = some p) : Namely p := by
  obtain ⟨h1, h2⟩ := hg
  unfold fieldQ at h
  repeat' split at h
  all_goals first
    | (cases h; done)
    | (cases h; first | exact ⟨h1, h2⟩ | exact ⟨nameB_all ‹nameB w = true›, h2⟩ | exact ⟨fun x hx => (by cases hx), h2⟩)
theorem fillQ_namely : ∀ (f : List UInt8) (e p : PE) (ws : List (List UInt8)), Namely e → fillQ f e ws = some p → Namely p
  | [], e, p, ws, hg, h => by
    rw [fillQ_nil] at h
    split at h
    · cases h; exact hg
    · cases h
  | c :: f, e, p, ws, hg, h => by
    rw [fillQ_cons] at h
    split at h
    · split at h
      · rename_i hw
        cases h
        exact ⟨hg.1, fun t ht => nameB_all (List.all_eq_true.1 hw.2 t ht)⟩
      · cases h
    · split at h
      · cases hr : numsQ ws with
        | none => rw [hr] at h; cases h
        | some vs => rw [hr] at h; cases h; exact hg
      · cases ws with
        | nil => cases h
        | cons w r =>
          simp only [] at h
          cases hf : fieldQ c w e with
          | none => rw [hf] at h; cases h
          | some e' =>
            rw [hf] at h
            exact fillQ_namely f e' p r (fieldQ_namely hg hf) h
theorem namely0 (k : Int) (d : List UInt8) : Namely { PE0 with kind := k, data := d } := ⟨fun x hx => (by cases hx), fun t ht => (by cases ht)⟩
theorem read_namely {line : List UInt8} {e : PE} (h : readQ line = .ok e) : Namely e := by
  unfold readQ at h
  cases hs : spl 32 line with
  | nil => rw [hs] at h; cases h
  | cons w ws =>
    rw [hs] at h
    simp only [] at h
    split at h
    · cases h
    · cases hb : bodyQ (kindQ w) ws with
      | none => rw [hb] at h; cases h
      | some p =>
        rw [hb] at h; cases h
        unfold bodyQ at hb
        split at hb
        · split at hb
          · rename_i a b' r
            cases hd : dataQ (Lib.join (b' :: r) [32]) with
            | none => rw [hd] at hb; cases hb
            | some d =>
              rw [hd] at hb
              exact fieldQ_namely (namely0 2 d) hb
          · cases hb
        · exact fillQ_namely _ _ _ ws (namely0 _ []) hb
theorem join_bytes : ∀ (ws : List (List UInt8)) (x : UInt8), x ∈ Lib.join ws [32] → x = 32 ∨ ∃ w ∈ ws, x ∈ w
  | [], x, h => by rw [Lib.join_nil] at h; cases h
  | [a], x, h => by rw [Lib.join_one] at h; exact .inr ⟨a, by simp, h⟩
  | a :: c :: r, x, h => by
    rw [join_two] at h
    rcases List.mem_append.1 h with h | h
    · rcases List.mem_append.1 h with h | h
      · exact .inr ⟨a, by simp, h⟩
      · exact .inl (List.mem_singleton.1 h)
    · rcases join_bytes (c :: r) x h with h | ⟨w, hw, h⟩
      · exact .inl h
      · exact .inr ⟨w, .tail _ hw, h⟩
theorem named_ten {s : List UInt8} (h : ∀ x ∈ s, nameC x = true) : ∀ x ∈ namedQ s, x ≠ 10 := by
  intro x hx
  unfold namedQ at hx
  split at hx
  · rw [List.mem_singleton.1 hx]; decide
  · rintro rfl; have := h _ hx; revert this; decide
theorem itoa_ten (v : Int) : ∀ x ∈ Lib.itoa v, x ≠ 10 := by
  rintro x hx rfl
  rcases itoa_mem v _ hx with h | h
  · revert h; decide
  · revert h; decide
theorem proto_ten (b : Bool) : ∀ x ∈ (if b then lmtpL else smtpL), x ≠ 10 := by cases b <;> decide
theorem quo_ten (d : List UInt8) : ∀ x ∈ quo d, x ≠ 10 := by
  rintro x hx rfl
  have := (quo_print d _ hx).1
  revert this; decide
theorem wordF_ten {e : PE} (hn : Namely e) (c : UInt8) : ∀ w ∈ wordF e c, ∀ x ∈ w, x ≠ 10 := by
  have one : ∀ a : List UInt8, (∀ x ∈ a, x ≠ 10) → ∀ w ∈ [a], ∀ x ∈ w, x ≠ 10 := fun a ha w hw => by rw [List.mem_singleton.1 hw]; exact ha
  unfold wordF
  by_cases c115 : c = 115
  · rw [if_pos c115]
    exact one _ (itoa_ten _)
  rw [if_neg c115]
  by_cases c112 : c = 112
  · rw [if_pos c112]
    exact one _ (proto_ten _)
  rw [if_neg c112]
  by_cases c100 : c = 100
  · rw [if_pos c100]
    exact one _ (quo_ten _)
  rw [if_neg c100]
  by_cases c110 : c = 110
  · rw [if_pos c110]
    exact one _ (itoa_ten _)
  rw [if_neg c110]
  by_cases c107 : c = 107
  · rw [if_pos c107]
    exact one _ (itoa_ten _)
  rw [if_neg c107]
  by_cases c98 : c = 98
  · rw [if_pos c98]
    exact one _ (itoa_ten _)
  rw [if_neg c98]
  by_cases c99 : c = 99
  · rw [if_pos c99]
    exact one _ (itoa_ten _)
  rw [if_neg c99]
  by_cases c101 : c = 101
  · rw [if_pos c101]
    exact one _ (itoa_ten _)
  rw [if_neg c101]
  by_cases c109 : c = 109
  · rw [if_pos c109]
    exact one _ (named_ten hn.1)
  rw [if_neg c109]
  by_cases c117 : c = 117
  · rw [if_pos c117]
    exact one _ (named_ten hn.1)
  rw [if_neg c117]
  by_cases c116 : c = 116
  · rw [if_pos c116]
    rintro w hw x hx rfl
    have := hn.2 w hw _ hx
    revert this; decide
  rw [if_neg c116]
  by_cases c119 : c = 119
  · rw [if_pos c119]
    intro w hw
    obtain ⟨v, _, rfl⟩ := List.mem_map.1 hw
    exact itoa_ten v
  rw [if_neg c119]
  intro w hw; cases hw
theorem words_low : ∀ k : Fin 18, 0 < k.val → wordsL.getD k.val [] ≠ [] ∧ ∀ x ∈ wordsL.getD k.val [], 97 ≤ x.toNat := by decide +kernel
theorem line_plain {line : List UInt8} {e : PE} (h : readQ line = .ok e) : (∀ x ∈ line, x ≠ 10) ∧ skipB line = false := by
  obtain ⟨h1, h2, h3⟩ := round h
  have hn := read_namely h
  obtain ⟨k, hk0, hk⟩ := kind_nat h2 h3
  have hkn : e.kind.toNat = k.val := by omega
  obtain ⟨w1, w2⟩ := words_low k hk0
  subst h1
  unfold writtenQ
  rw [hkn]
  constructor
  · intro x hx
    rcases join_bytes _ x hx with rfl | ⟨w, hw, hx⟩
    · decide
    · rcases List.mem_cons.1 hw with rfl | hw
      · have := w2 x hx; rintro rfl; revert this; decide
      · obtain ⟨c, _, hc⟩ := List.mem_flatMap.1 hw
        exact wordF_ten hn c w hc x hx
  · obtain ⟨c, r, hcr⟩ : ∃ c r, wordsL.getD k.val [] = c :: r := by
      cases hw : wordsL.getD k.val [] with
      | nil => exact absurd hw w1
      | cons c r => exact ⟨c, r, rfl⟩
    rw [hcr] at w2 ⊢
    have hc := w2 c (by simp)
    rw [Lib.join_cons]
    unfold skipB
    rw [show decide ((c :: r) ++ Lib.joinTail [32] (bodyW e) = []) = false by simp, Bool.false_or]
    refine decide_eq_false ?_
    rw [List.cons_append, List.head?_cons]
    intro h; cases h; revert hc; decide
/-- what Text writes -/
noncomputable def textQ : List PE → Option (List UInt8)
  | [] => some []
  | e :: l => match lineQ e with
    | some s => (match textQ l with | some t => some (s ++ 10 :: t) | none => none)
    | none => none
theorem lineQ_some {e : PE} {s : List UInt8} (h : lineQ e = some s) : readQ s = .ok e := by
  unfold lineQ at h
  split at h
  · rename_i hh; cases h; exact hh.2.2
  · cases h
theorem parse_text : ∀ (l : List PE) (t : List UInt8) (i : Nat) (acc : List PE), textQ l = some t → acc.length + l.length ≤ 1000 → parseS (spl 10 t) i acc = (acc ++ l, 0, 0)
  | [], t, i, acc, h, hl => by
    rw [textQ] at h
    cases h
    rw [show spl 10 [] = [[]] from rfl, parseS, if_pos (by rfl), parseS, List.append_nil]
  | e :: l, t, i, acc, h, hl => by
    rw [textQ] at h
    cases hs : lineQ e with
    | none => rw [hs] at h; cases h
    | some s =>
      cases ht : textQ l with
      | none => rw [hs, ht] at h; cases h
      | some t' =>
        rw [hs, ht] at h; cases h
        have hr := lineQ_some hs
        obtain ⟨h1, h2⟩ := line_plain hr
        rw [spl_hit _ _ h1, parseS, h2, if_neg (by decide), hr]
        simp only []
        rw [if_neg (by simp at hl; omega), parse_text l t' (i + 1) (acc ++ [e]) ht (by simp at hl ⊢; omega), List.append_assoc]; rfl
def runE : PE := { PE0 with kind := 5 }
def runL : List UInt8 := [114, 117, 110]
theorem read_run : readQ runL = .ok runE := by
  unfold readQ
  rw [show spl 32 runL = [runL] by decide]
  simp only []
  rw [show kindQ runL = 5 by decide, if_neg (by decide)]
  unfold bodyQ
  rw [if_neg (by decide), show formsL.getD (5 : Int).toNat [] = [] from rfl, fillQ_nil, if_pos rfl]; rfl
theorem line_run : lineQ runE = some runL := by
  obtain ⟨h1, _, _⟩ := round read_run
  unfold lineQ
  rw [h1, if_pos ⟨by decide, by decide, read_run⟩]
def runsT : Nat → List UInt8
  | 0 => []
  | n + 1 => runsT n ++ (runL ++ [10])
theorem runsT_left : ∀ n, runsT (n + 1) = runL ++ 10 :: runsT n
  | 0 => rfl
  | n + 1 => by
    show runsT (n + 1) ++ (runL ++ [10]) = runL ++ 10 :: (runsT n ++ (runL ++ [10]))
    rw [runsT_left n]; simp
theorem parse_runs : ∀ (n i : Nat) (acc : List PE), acc.length ≤ 1000 → 1001 ≤ acc.length + n → parseS (spl 10 (runsT n)) i acc = ([], ((i + (1001 - acc.length) : Nat) : Int), 4)
  | 0, i, acc, h1, h2 => by omega
  | n + 1, i, acc, h1, h2 => by
    obtain ⟨h3, h4⟩ := line_plain read_run
    rw [runsT_left, spl_hit _ _ h3, parseS, h4, if_neg (by decide), read_run]
    simp only []
    by_cases h : acc.length = 1000
    · rw [if_pos h, h]
    · rw [if_neg h, parse_runs n (i + 1) (acc ++ [runE]) (by simp; omega) (by simp; omega)]
      rw [show (acc ++ [runE]).length = acc.length + 1 by simp, show i + 1 + (1001 - (acc.length + 1)) = i + (1001 - acc.length) by omega]
theorem text_runs : ∀ n, textQ (List.replicate n runE) = some (runsT n)
  | 0 => rfl
  | n + 1 => by rw [List.replicate_succ, textQ, line_run, text_runs n, runsT_left]
end SC
end Go.Proofs.YtfbicbgdfcbhpaaDoor
