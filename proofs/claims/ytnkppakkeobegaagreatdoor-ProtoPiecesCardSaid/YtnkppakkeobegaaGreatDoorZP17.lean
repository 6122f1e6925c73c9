/-
  PgCmd.
-/
import Derived.Test.YtnkppakkeobegaaGreatDoorZP16
set_option maxRecDepth 20000
set_option linter.unusedVariables false
set_option linter.unusedSimpArgs false
set_option linter.unusedSectionVars false
namespace Go.Proofs.YtnkppakkeobegaaGreatDoor
namespace AX
theorem loopJ_succ {α : Type} (b : α) (F : α → α) (m : Nat) : loopJ b F (m + 1) = F (loopJ b F m) := rfl
theorem pc_bytesK : ∀ (l : List UInt8) (k : List UInt8 → OR), bytesK (byteCells l) k = k l
 | [], k => rfl
 | c :: l, k => by
  show castI .u8 (.int .u8 (c.toNat : Int)) _ = _
  rw [castI_one]
  have := pc_bytesK l fun l => k (UInt8.ofNat (c.toNat : Int).toNat :: l)
  refine this.trans ?_
  simp
theorem pc_set (l : List UInt8) (i : Nat) (c : UInt8) : (byteCells l).set i (.int .u8 (c.toNat : Int)) = byteCells (l.set i c) := by
 simp [byteCells, List.map_set]
theorem pc_rowAt {l : List UInt8} {i : Nat} (h : i < l.length) {k : Cell → OR} : rowAt (byteCells l) i k = k (.int .u8 (l[i].toNat : Int)) := by
 rw [rowAt_at (by rw [byteCells_len]; exact h), byteCells_get h]
def lowC (c : UInt8) : Bool := decide (97 ≤ c.toNat ∧ c.toNat ≤ 122)
def upC (c : UInt8) : UInt8 := bif lowC c then UInt8.ofNat (c.toNat - 32) else c
def upL (l : List UInt8) : List UInt8 := l.map upC
theorem lowC_iff (c : UInt8) : lowC c = true ↔ 97 ≤ c.toNat ∧ c.toNat ≤ 122 := by unfold lowC; simp
theorem up_and : ∀ c : UInt8, lowC c = true → IntKind.wrap .u8 ((BitVec.toNat ((BitVec.ofInt (IntKind.bits .u8) (c.toNat : Int)) &&& ~~~(BitVec.ofInt (IntKind.bits .u8) (32 : Int))) : Nat) : Int) = ((upC c).toNat : Int) := by
 have h : ∀ n : Fin 256, lowC (UInt8.ofNat n.val) = true → IntKind.wrap .u8 ((BitVec.toNat ((BitVec.ofInt (IntKind.bits .u8) (n.val : Int)) &&& ~~~(BitVec.ofInt (IntKind.bits .u8) (32 : Int))) : Nat) : Int) = ((upC (UInt8.ofNat n.val)).toNat : Int) := by decide +kernel
 intro c hc
 have := h ⟨c.toNat, c.toNat_lt⟩
 rw [UInt8.ofNat_toNat] at this
 exact this hc
theorem upC_D : ∀ c : UInt8, upC c = 68 → c = 68 ∨ c = 100 := by
 have h : ∀ n : Fin 256, upC (UInt8.ofNat n.val) = 68 → UInt8.ofNat n.val = 68 ∨ UInt8.ofNat n.val = 100 := by decide +kernel
 intro c hc
 have := h ⟨c.toNat, c.toNat_lt⟩
 rw [UInt8.ofNat_toNat] at this
 exact this hc
theorem upper_step {l : List UInt8} {i : Nat} (h : i < l.length) : (l.set i (upC l[i])).take (i + 1) ++ upL ((l.set i (upC l[i])).drop (i + 1)) = l.take i ++ upL (l.drop i) := by
 rw [List.drop_set_of_lt (by omega), List.take_set, List.take_succ_eq_append_getElem h, List.drop_eq_getElem_cons h]
 unfold upL
 rw [List.set_append_right _ _ (by simp; omega)]
 have e := List.drop_eq_getElem_cons (l := l.map upC) (i := i) (by simpa using h)
 simp [Nat.min_eq_left (Nat.le_of_lt h), e]
theorem upper_loop {call : CallF} {n : Nat} : ∀ (m i : Nat) (l : List UInt8), l.length ≤ 100000000 → i ≤ l.length → l.length < i + m →
 loopJ (fun _ _ _ _ _ => none) (f126_B0 call n) m l.length l.length (l.length : Int) (i : Int) (byteCells l) = some (.one (.str (l.take i ++ upL (l.drop i))), [])
 | 0, i, l, hl, h1, h2 => by omega
 | m + 1, i, l, hl, h1, h2 => by
  rw [loopJ_succ, f126_B0]
  simp only [joinK_eq]
  by_cases h : i < l.length
  · have hc := lowC_iff l[i]
    rw [decide_eq_true (show (i : Int) < (l.length : Int) by omega), cond_true, guard_ok (by simp; omega), Int.toNat_natCast, Nat.mul_one, pc_rowAt h, castI_one,
     wrap_ok (x := (i : Int) + 1) (by omega) (by omega), show ((i : Int) + 1) = ((i + 1 : Nat) : Int) by omega]
    cases hb : lowC l[i] with
    | true =>
     rw [hb] at hc; simp only [true_iff] at hc
     rw [decide_eq_true (by omega), cond_true, decide_eq_true (by omega), cond_true, guard_ok (by simp; omega), byteCells_len, show Nat.blt i l.length = true by rw [Nat.blt_eq]; exact h, cond_true, up_and _ hb, pc_set]
     have ih := upper_loop (call := call) (n := n) m (i + 1) (l.set i (upC l[i])) (by simpa using hl) (by simp; omega) (by simp; omega)
     rw [List.length_set] at ih
     rw [ih, upper_step h]
    | false =>
     rw [hb] at hc; simp only [Bool.false_eq_true, false_iff] at hc
     have e : upC l[i] = l[i] := by unfold upC; rw [hb]; rfl
     have ih := upper_loop (call := call) (n := n) m (i + 1) l hl (by omega) (by omega)
     have st := upper_step h
     rw [e, List.set_getElem_self] at st
     rw [st] at ih
     by_cases h3 : 97 ≤ l[i].toNat
     · rw [decide_eq_true (by omega), cond_true, decide_eq_false (by omega), cond_false]; exact ih
     · rw [decide_eq_false (by omega), cond_false, cond_false]; exact ih
  · rw [decide_eq_false (by omega), cond_false, byteCells_len, show Nat.ble l.length l.length = true by simp, cond_true, List.take_of_length_le (by rw [byteCells_len]; omega), pc_bytesK, List.drop_of_length_le (by omega), List.take_of_length_le (by omega)]
    simp [upL]
theorem upper_at {n : Nat} (l : List UInt8) (hl : l.length ≤ 100000000) (hn : l.length < n) : acall AXE AXF (n + 1) 126 [.one (.str l)] [] = some (.one (.str (upL l)), []) := by
 rw [f126_eq]
 unfold f126_L
 have := upper_loop (call := acall AXE AXF n) (n := n + 1) (n + 1) 0 l hl (by omega) (by omega)
 simpa using this
def wordsL : List (List UInt8) := [[], [72, 69, 76, 79], [69, 72, 76, 79], [76, 72, 76, 79], [77, 65, 73, 76], [82, 67, 80, 84], [68, 65, 84, 65], [82, 83, 69, 84], [78, 79, 79, 80], [81, 85, 73, 84], [86, 82, 70, 89], [72, 69, 76, 80]]
theorem words_at (n : Nat) : acall AXE AXF (n + 1) 127 [] [] = some (.one (.sl (some ⟨0, 0, 9⟩) 1 (wordsL.map .str)), []) := by
 rw [f127_eq]; rfl
theorem strs_item {ws : List (List UInt8)} {i : Nat} (h : i < ws.length) {k : Cell → OR} : itemK (ws.map Cell.str) (i : Int) k = k (.str ws[i]) := by
 rw [item_at (by simpa using h), List.getElem_map]
theorem verb_loop {call : CallF} {n : Nat} (w : List UInt8) (ws : List (List UInt8)) (hw : ws.length ≤ 1000) : ∀ (m i : Nat), i ≤ ws.length → ws.length < i + m →
 ∃ v : Nat, loopJ (fun _ _ _ _ => none) (f103_B0 call n) m w (ws.map .str) (ws.length : Int) (i : Int) = some (.one (.int .i64 (v : Int)), []) ∧ (v = 0 ∨ ∃ h : v < ws.length, ws[v] = w)
 | 0, i, h1, h2 => by omega
 | m + 1, i, h1, h2 => by
  have ih := verb_loop (call := call) (n := n) w ws hw m (i + 1)
  rw [loopJ_succ, f103_B0]
  simp only [joinK_eq]
  by_cases h : i < ws.length
  · obtain ⟨v, hv1, hv2⟩ := ih (by omega) (by omega)
    rw [decide_eq_true (show (i : Int) < (ws.length : Int) by omega), cond_true, strs_item h, castS_one, wrap_ok (by omega) (by omega), show ((i : Int) + 1) = ((i + 1 : Nat) : Int) by omega, hv1]
    have no : ∃ v' : Nat, (some (.one (.int .i64 (v : Int)), []) : OR) = some (.one (.int .i64 (v' : Int)), []) ∧ (v' = 0 ∨ ∃ h : v' < ws.length, ws[v'] = w) := ⟨v, rfl, hv2⟩
    by_cases h0 : 0 < i
    · rw [decide_eq_true (by omega), cond_true]
      by_cases hx : ws[i] = w
      · rw [show (ws[i] == w) = true by simpa using hx, cond_true]
        exact ⟨i, rfl, .inr ⟨h, hx⟩⟩
      · rw [show (ws[i] == w) = false by simpa using hx, cond_false]; exact no
    · rw [decide_eq_false (by omega), cond_false, cond_false]; exact no
  · rw [decide_eq_false (by omega), cond_false]
    exact ⟨0, rfl, .inl rfl⟩
theorem tot_verb {n : Nat} (hn : 1100 ≤ n) (l : List UInt8) (hl : l.length ≤ 1000) : ∃ v : Nat, acall AXE AXF (n + 1) 103 [.one (.str l)] [] = some (.one (.int .i64 (v : Int)), []) ∧ v < 12 ∧ (v = 6 → upL l = [68, 65, 84, 65]) := by
 rw [f103_eq]
 unfold f103_L
 obtain ⟨k, rfl⟩ : ∃ k, n = k + 1 := ⟨n - 1, by omega⟩
 rw [callK_some (upper_at (n := k) l (by omega) (by omega)), oS_one, callK_some (words_at k), oL_one, List.length_map, Nat.div_one]
 obtain ⟨v, h1, h2⟩ := verb_loop (call := acall AXE AXF (k + 1)) (n := k + 1 + 1) (upL l) wordsL (by decide) (k + 1 + 1) 0 (by omega) (by have : wordsL.length = 12 := rfl; omega)
 refine ⟨v, h1, ?_, fun h6 => ?_⟩
 · rcases h2 with rfl | ⟨h, _⟩
   · decide
   · exact h
 · subst h6
   rcases h2 with h | ⟨_, h⟩
   · cases h
   · exact h.symm
theorem tot_printed {n : Nat} (hn : 1100 ≤ n) (l : List UInt8) (hl : l.length ≤ 1000) : ∃ b, acall AXE AXF (n + 1) 101 [.one (.str l)] [] = some (.one (.bool b), []) ∧ (b = true → asciiB l = true) := by
 have key : ∀ (call : CallF) (k m i : Nat), i ≤ l.length → l.length < i + m → ∃ b, loopJ (fun _ _ _ => none) (f101_B0 call k) m (byteCells l) (l.length : Int) (i : Int) = some (.one (.bool b), []) ∧ (b = true → asciiB (l.drop i) = true) := by
  intro call k m
  induction m with
  | zero => intro i h1 h2; omega
  | succ m ih =>
   intro i h1 h2
   rw [loopJ_succ, f101_B0]
   simp only [joinK_eq]
   by_cases h : i < l.length
   · obtain ⟨b, hb1, hb2⟩ := ih (i + 1) (by omega) (by omega)
     rw [decide_eq_true (show (i : Int) < (l.length : Int) by omega), cond_true, item_byte h, castI_one, wrap_ok (by omega) (by omega), show ((i : Int) + 1) = ((i + 1 : Nat) : Int) by omega, hb1]
     by_cases h3 : l[i].toNat < 32
     · rw [decide_eq_true (by omega), cond_true, cond_true]; exact ⟨false, rfl, fun h => by cases h⟩
     · rw [decide_eq_false (by omega), cond_false]
       by_cases h4 : 126 < l[i].toNat
       · rw [decide_eq_true (by omega), cond_true]; exact ⟨false, rfl, fun h => by cases h⟩
       · rw [decide_eq_false (by omega), cond_false]
         refine ⟨b, rfl, fun h => ?_⟩
         rw [List.drop_eq_getElem_cons ‹i < l.length›]
         have := hb2 h
         unfold asciiB at this ⊢
         rw [List.all_cons, this, decide_eq_true (by omega)]; rfl
   · rw [decide_eq_false (by omega), cond_false, List.drop_of_length_le (by omega)]
     exact ⟨true, rfl, fun _ => rfl⟩
 rw [f101_eq]
 unfold f101_L
 rw [byteCells_len, Nat.div_one]
 exact key _ _ _ 0 (by omega) (by omega)
theorem need_at (n : Nat) (b : Bool) : acall AXE AXF (n + 1) 104 [.one (.bool b)] [] = some (.one (.int .i64 (bif b then 0 else 501)), []) := by
 rw [f104_eq]
 unfold f104_L
 cases b <;> rfl
theorem asc_sub {l : List UInt8} {m : List UInt8} (h : asciiB l = true) (hs : ∀ x ∈ m, x ∈ l) : asciiB m = true := by
 unfold asciiB at *
 rw [List.all_eq_true] at *
 exact fun x hx => h x (hs x hx)
theorem asc_cut {l : List UInt8} (h : asciiB l = true) (a b : Nat) : asciiB ((l.take a).drop b) = true := asc_sub h fun _ hx => List.mem_of_mem_take (List.mem_of_mem_drop hx)
theorem contains_at {l c : List UInt8} (hl : l.length ≤ 1000) (ha : asciiB l = true) (hc : c.length ≤ 1000) (hac : asciiB c = true) : pContains [.one (.str l), .one (.str c)] = some (.one (.bool (Lib.containsAny l c))) := by
 show (bif decide (l.length ≤ 100000000) && (decide (c.length ≤ 1000) && (asciiB l && asciiB c)) then _ else _) = _
 rw [decide_eq_true (by omega), decide_eq_true hc, ha, hac]; rfl
theorem tot_literal (n : Nat) (l : List UInt8) (hl : l.length ≤ 1000) (ha : asciiB l = true) : ∃ b, acall AXE AXF (n + 1) 105 [.one (.str l)] [] = some (.one (.bool b), []) := by
 rw [f105_eq]
 unfold f105_L
 refine join_prop (fun j => ∀ b : Bool, (b = false → 3 ≤ l.length) → ∃ b', j l b = some (.one (.bool b'), [])) (Q := fun r : OR => ∃ b, r = some (.one (.bool b), [])) ?_ ?_
 · intro b hb
   cases b with
   | true => exact ⟨_, rfl⟩
   | false =>
    have h3 := hb rfl
    dsimp only
    rw [cond_false, wrap_ok (by omega) (by omega), cut_ok ⟨by decide, by omega, by omega⟩, primK_some (contains_at (by rw [List.length_drop, List.length_take]; omega) (asc_cut ha _ _) (by decide) (by decide)), oB_one]
    exact ⟨_, rfl⟩
 · intro j hj
   by_cases h3 : l.length < 3
   · rw [cut_ok (by omega)]; exact hj _ fun h => by cases h
   · rw [cut_no (by omega)]
     obtain ⟨u, _, hu⟩ := item_ex (l := l) (i := 0) (by omega) (by omega)
     obtain ⟨v, _, hv⟩ := item_ex (l := l) (i := (l.length : Int) - 1) (by omega) (by omega)
     rw [hu, wrap_ok (by omega) (by omega), hv]
     generalize ((UInt8.toNat u : Int) != 91) = x
     cases x with
     | true => exact hj _ fun _ => by omega
     | false => exact hj _ fun _ => by omega
theorem tot_isValue (n : Nat) (l : List UInt8) (hl : l.length ≤ 1000) (ha : asciiB l = true) : ∃ b, acall AXE AXF (n + 1) 150 [.one (.str l)] [] = some (.one (.bool b), []) := by
 rw [f150_eq]
 unfold f150_L
 generalize (!(l == ([] : List UInt8))) = x
 cases x with
 | false => exact ⟨_, rfl⟩
 | true =>
  rw [cond_true, primK_some (contains_at hl ha (by decide) (by decide)), oB_one]
  exact ⟨_, rfl⟩
theorem tot_isName {n : Nat} (hn : 1100 ≤ n) (l : List UInt8) (hl : l.length ≤ 1000) : ∃ b, acall AXE AXF (n + 1) 149 [.one (.str l)] [] = some (.one (.bool b), []) := by
 have key : ∀ (call : CallF) (k m i : Nat), i ≤ l.length → l.length < i + m → ∃ b, loopJ (fun _ _ _ _ => none) (f149_B0 call k) m l (byteCells l) (l.length : Int) (i : Int) = some (.one (.bool b), []) := by
  intro call k m
  induction m with
  | zero => intro i h1 h2; omega
  | succ m ih =>
   intro i h1 h2
   rw [loopJ_succ, f149_B0]
   by_cases h : i < l.length
   · obtain ⟨b, hb1⟩ := ih (i + 1) (by omega) (by omega)
     rw [decide_eq_true (show (i : Int) < (l.length : Int) by omega), cond_true, item_byte h, castI_one]
     refine join_prop (fun j => ∀ x : Bool, ∃ b', j l (byteCells l) (l.length : Int) (i : Int) x = some (.one (.bool b'), [])) (Q := fun r : OR => ∃ b, r = some (.one (.bool b), [])) ?_ ?_
     · intro x
       dsimp only
       rw [wrap_ok (by omega) (by omega), show ((i : Int) + 1) = ((i + 1 : Nat) : Int) by omega, hb1]
       cases x with
       | true => exact ⟨_, rfl⟩
       | false => exact ⟨_, rfl⟩
     · intro j hj
       simp only [Bool.cond_eq_ite]
       (repeat' split) <;> exact hj _
   · rw [decide_eq_false (by omega), cond_false]
     exact ⟨_, rfl⟩
 rw [f149_eq]
 unfold f149_L
 rw [byteCells_len, Nat.div_one]
 exact key _ _ _ 0 (by omega) (by omega)
structure Same (c c' : S_api_Cmd) : Prop where
 v : c'.fVerb = c.fVerb
 l : c'.fPath_Local = c.fPath_Local
 d : c'.fPath_Domain = c.fPath_Domain
theorem Same.refl (c : S_api_Cmd) : Same c c := ⟨rfl, rfl, rfl⟩
theorem Same.trans {a b c : S_api_Cmd} (h : Same a b) (k : Same b c) : Same a c := ⟨k.v.trans h.v, k.l.trans h.l, k.d.trans h.d⟩
def cOk (x : Int) : Prop := x = 0 ∨ x = 501 ∨ x = 555
def cmdOk (c : S_api_Cmd) (r : OR) : Prop := ∃ x c', r = some (.one (.int .i64 x), [c'.cells]) ∧ cOk x ∧ Same c c'
def SeenOk (ks : List (Cell × Cell × Nat)) : Prop := ∀ e ∈ ks, ∃ (s : List UInt8) (v : Int) (i : Nat), e = (.str s, .int .i64 v, i)
theorem find_tot (nm : List UInt8) : ∀ (ks : List (Cell × Cell × Nat)) (i : Nat), SeenOk ks → findE (.str nm) ks i = some none ∨ ∃ (j : Nat) (v : Int), findE (.str nm) ks i = some (some (j, .int .i64 v))
 | [], i, _ => .inl rfl
 | e :: r, i, h => by
  obtain ⟨s, v, k, rfl⟩ := h e (by simp)
  simp only [findE, keyEq]
  cases (nm == s) with
  | true => exact .inr ⟨i, v, rfl⟩
  | false => exact find_tot nm r (i + 1) fun e he => h e (by simp [he])
theorem look_tot (nm : List UInt8) {ks : List (Cell × Cell × Nat)} (h : SeenOk ks) : ∃ (v : Int) (t : Bool), ∀ k : Cell → Bool → OR, lookK (.str nm) ks (.int .i64 (0 : Int)) k = k (.int .i64 v) t := by
 unfold lookK
 rcases find_tot nm ks 0 h with e | ⟨j, v, e⟩
 · exact ⟨0, false, fun k => by rw [e]⟩
 · exact ⟨v, true, fun k => by rw [e]⟩
theorem upd_tot (nm : List UInt8) (x : Int) (ck : Nat) {ks : List (Cell × Cell × Nat)} (h : SeenOk ks) : ∃ ck' ks', SeenOk ks' ∧ ∀ k : Nat → List (Cell × Cell × Nat) → OR, updK (.str nm) (.int .i64 x) ck ks k = k ck' ks' := by
 unfold updK
 rcases find_tot nm ks 0 h with e | ⟨j, v, e⟩
 · refine ⟨ck + 1, ks ++ [(.str nm, .int .i64 x, ck)], fun e he => ?_, fun k => by rw [e]⟩
   rcases List.mem_append.1 he with he | he
   · exact h e he
   · rw [List.mem_singleton] at he; exact ⟨nm, x, ck, he⟩
 · refine ⟨ck, setVal ks j (.int .i64 x), fun e he => ?_, fun k => by rw [e]⟩
   unfold setVal at he
   obtain ⟨i, hi⟩ := List.getElem?_of_mem he
   rw [List.getElem?_modify] at hi
   cases hk : ks[i]? with
   | none => rw [hk] at hi; simp at hi
   | some q =>
    obtain ⟨s, v, m, rfl⟩ := h q (List.mem_of_getElem? hk)
    rw [hk] at hi
    simp only [Option.map_eq_map, Option.map_some, Option.some.injEq] at hi
    split at hi
    · exact ⟨s, x, m, hi.symm⟩
    · exact ⟨s, v, m, hi.symm⟩
theorem tot_param {n : Nat} (hn : 1110 ≤ n) (c : S_api_Cmd) (nm v : List UInt8) (hl : v.length ≤ 1000) : cmdOk c (acall AXE AXF (n + 1) 151 [.one (.ptr 0 0), .one (.str nm), .one (.str v)] [c.cells]) := by
 rw [f151_eq]
 unfold f151_L
 obtain ⟨k, rfl⟩ : ∃ k, n = k + 1 := ⟨n - 1, by omega⟩
 generalize (nm == ([83, 73, 90, 69] : List UInt8)) = x
 cases x with
 | true =>
  have hp : pParseU [.one (.str v), .one (.int .i64 10), .one (.int .i64 64)] = some (.tup [.one (.int .u64 ((uintV v).1 : Int)), .one (.err (uintV v).2)]) := by
   show (bif decide (v.length ≤ 100000000) then _ else _) = _
   rw [decide_eq_true (by omega)]; rfl
  rw [cond_true, primK_some hp, castTup_tup, zI_cons, zE_cons, nilK_nil]
  refine join_prop (fun j => ∀ (y : Int) (b : Bool), cmdOk c (j y b c)) (Q := cmdOk c) ?_ ?_
  · intro y b
    cases b with
    | true => exact ⟨_, c, rfl, .inr (.inl rfl), .refl c⟩
    | false => exact ⟨_, _, rfl, .inl rfl, ⟨rfl, rfl, rfl⟩⟩
  · intro j hj
    cases (uintV v).2 with
    | true => exact hj _ _
    | false =>
     rw [cond_false]
     generalize decide ((v.length : Int) > 20) = y
     cases y with
     | true => exact hj _ _
     | false => exact hj _ _
 | false =>
  rw [cond_false]
  generalize (nm == ([66, 79, 68, 89] : List UInt8)) = x
  cases x with
  | false => exact ⟨_, c, rfl, .inr (.inr rfl), .refl c⟩
  | true =>
   obtain ⟨k1, m1, hm1, e1⟩ := upd_tot [55, 66, 73, 84] 7 0 (ks := []) (fun e he => by cases he)
   obtain ⟨k2, m2, hm2, e2⟩ := upd_tot [56, 66, 73, 84, 77, 73, 77, 69] 8 k1 hm1
   rw [cond_true, e1, e2, callK_some (upper_at (n := k) v (by omega) (by omega)), oS_one]
   obtain ⟨y, b, e3⟩ := look_tot (upL v) hm2
   rw [e3, castI_one, callK_some (need_at k _), oI_one]
   refine ⟨_, _, rfl, ?_, ⟨rfl, rfl, rfl⟩⟩
   generalize decide (y > 0) = z
   cases z with
   | true => exact .inl rfl
   | false => exact .inr (.inl rfl)
theorem pCut_at {l : List UInt8} {c : List UInt8} (hl : l.length ≤ 100000000) : pCut [.one (.str l), .one (.str c)] = some (.tup [.one (.str (Lib.cut l c).1), .one (.str (Lib.cut l c).2.1), .one (.bool (Lib.cut l c).2.2)]) := by
 show (bif decide (l.length ≤ 100000000) then _ else none) = _
 rw [decide_eq_true hl]; rfl
theorem tot_params {n : Nat} (hn : 1120 ≤ n) (c : S_api_Cmd) (ps : List (List UInt8)) (hps : ∀ p ∈ ps, asciiB p = true ∧ p.length ≤ 1000) (hpl : ps.length ≤ 1010)
 (hcut : ∀ p : List UInt8, (∀ x ∈ (Lib.cut p [61]).1, x ∈ p) ∧ (∀ x ∈ (Lib.cut p [61]).2.1, x ∈ p) ∧ (Lib.cut p [61]).1.length ≤ p.length ∧ (Lib.cut p [61]).2.1.length ≤ p.length) :
 cmdOk c (acall AXE AXF (n + 1) 130 [.one (.ptr 0 0), .one (.sl none 1 (ps.map .str))] [c.cells]) := by
 rw [f130_eq]
 unfold f130_L
 obtain ⟨k, rfl⟩ : ∃ k, n = k + 1 := ⟨n - 1, by omega⟩
 have key : ∀ (m i : Nat) (c' : S_api_Cmd) (ck : Nat) (ks : List (Cell × Cell × Nat)), Same c c' → SeenOk ks → i ≤ ps.length → ps.length < i + m →
  cmdOk c (loopJ (fun _ _ _ _ _ _ => none) (f130_B0 (acall AXE AXF (k + 1)) (k + 1 + 1)) m (ps.map .str) (ps.length : Int) (i : Int) c' ck ks) := by
  intro m
  induction m with
  | zero => intro i c' ck ks _ _ h1 h2; omega
  | succ m ih =>
   intro i c' ck ks hs hk h1 h2
   rw [loopJ_succ, f130_B0]
   by_cases h : i < ps.length
   · obtain ⟨ha, hl⟩ := hps _ (List.getElem_mem h)
     obtain ⟨q1, q2, q3, q4⟩ := hcut ps[i]
     rw [decide_eq_true (show (i : Int) < (ps.length : Int) by omega), cond_true, strs_item h, castS_one, primK_some (pCut_at (by omega)), castTup_tup, zS_cons, zS_cons, zB_cons, nilK_nil]
     have hval := asc_sub ha q2
     generalize (Lib.cut ps[i] [61]).2.1 = v at *
     generalize (Lib.cut ps[i] [61]).2.2 = has
     rw [callK_some (upper_at (n := k) _ (by omega) (by omega)), oS_one]
     have hnl : (upL (Lib.cut ps[i] [61]).1).length ≤ 1000 := by unfold upL; rw [List.length_map]; omega
     generalize upL (Lib.cut ps[i] [61]).1 = nm at *
     refine join_prop (fun j => ∀ x : Bool, cmdOk c (j nm v (ps.map .str) (ps.length : Int) (i : Int) x c' ck ks)) (Q := cmdOk c) ?_ ?_
     · intro x
       cases x with
       | true => exact ⟨_, c', rfl, .inr (.inl rfl), hs⟩
       | false =>
        dsimp only
        obtain ⟨y, t, hy⟩ := look_tot nm hk
        obtain ⟨ck', ks', hk', hu⟩ := upd_tot nm (IntKind.wrap .i64 (y + 1)) ck hk
        rw [cond_false, hy, castI_one, hu]
        refine join_prop (fun j => ∀ (x : Int) (c2 : S_api_Cmd), cOk x → Same c c2 → cmdOk c (j x (ps.map .str) (ps.length : Int) (i : Int) c2 ck' ks')) (Q := cmdOk c) ?_ ?_
        · intro x c2 hx hs2
          dsimp only
          by_cases h0 : x = 0
          · subst h0
            rw [show ((0 : Int) != 0) = false by rfl, cond_false, wrap_ok (by omega) (by omega), show ((i : Int) + 1) = ((i + 1 : Nat) : Int) by omega]
            exact ih (i + 1) c2 ck' ks' hs2 hk' (by omega) (by omega)
          · rw [show (x != 0) = true by simpa using h0]
            exact ⟨x, c2, rfl, hx, hs2⟩
        · intro j hj
          generalize (c'.fVerb == (4 : Int)) = z
          cases z with
          | false => exact hj _ c' (.inr (.inr rfl)) hs
          | true =>
           obtain ⟨x, c2, e1, e2, e3⟩ := tot_param (n := k) (by omega) c' nm v (by omega)
           rw [cond_true, callRK_some e1, consK_cons, takeS_api_Cmd_cells_nil, nilK_nil, nilK_nil, oI_one]
           exact hj x c2 e2 (hs.trans e3)
     · intro j hj
       obtain ⟨b1, e1⟩ := tot_isName (n := k) (by omega) nm hnl
       obtain ⟨y, t, hy⟩ := look_tot nm hk
       rw [callK_some e1, oB_one]
       cases b1 with
       | false => exact hj true
       | true =>
        rw [Bool.not_true, cond_false]
        cases has with
        | false =>
         rw [cond_false, hy, castI_one]
         exact hj _
        | true =>
         obtain ⟨b2, e2⟩ := tot_isValue k v (by omega) hval
         rw [cond_true, callK_some e2, oB_one]
         cases b2 with
         | false => exact hj true
         | true =>
          rw [Bool.not_true, cond_false, hy, castI_one]
          exact hj _
   · rw [decide_eq_false (by omega), cond_false]
     exact ⟨0, c', rfl, .inl rfl, hs⟩
 have := key (k + 1 + 1) 0 c 0 [] (.refl c) (fun e he => by cases he) (by omega) (by omega)
 rw [List.length_map, Nat.div_one]
 exact this
end AX
end Go.Proofs.YtnkppakkeobegaaGreatDoor
