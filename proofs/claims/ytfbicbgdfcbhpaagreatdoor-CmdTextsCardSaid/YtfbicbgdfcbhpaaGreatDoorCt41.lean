/-
  CmRef2.
-/
import Derived.Test.YtfbicbgdfcbhpaaGreatDoorCt40
import Derived.Lib.ParseIntBCases
set_option maxRecDepth 20000
set_option linter.unusedVariables false
set_option linter.unusedSimpArgs false
set_option linter.unusedSectionVars false
namespace Go.Proofs.YtfbicbgdfcbhpaaGreatDoor
open SC CM AX
namespace CM
def sizeL : Nat → List UInt8 → Option Nat
 | acc, [] => some acc
 | acc, c :: r => if 48 ≤ c.toNat ∧ c.toNat ≤ 57 then (if 9007199254740992 < 10 * acc + (c.toNat - 48) then none else sizeL (10 * acc + (c.toNat - 48)) r) else none
def okSmall : Lib.NumEnd Nat → Option Nat
 | .ok v => if 9007199254740992 < v then none else some v
 | _ => none
theorem uintM_ge (M : Nat) : ∀ (l : List UInt8) (acc v : Nat), Lib.parseUintM M acc l = .ok v → acc ≤ v
 | [], acc, v, h => by simp only [Lib.parseUintM] at h; cases h; exact Nat.le_refl _
 | c :: r, acc, v, h => by
  simp only [Lib.parseUintM] at h
  split at h
  · split at h
    · cases h
    · split at h
      · cases h
      · have := uintM_ge M r _ v h
        omega
  · cases h
theorem sizeL_uint : ∀ (l : List UInt8) (acc : Nat), acc ≤ 9007199254740992 → sizeL acc l = okSmall (Lib.parseUintM 18446744073709551615 acc l)
 | [], acc, h => by
  show some acc = if 9007199254740992 < acc then none else some acc
  rw [if_neg (by omega)]
 | c :: r, acc, h => by
  simp only [sizeL, Lib.parseUintM]
  by_cases hd : 48 ≤ c.toNat ∧ c.toNat ≤ 57
  · rw [if_pos hd, if_pos hd, if_neg (show ¬ 1844674407370955162 ≤ acc by omega), if_neg (show ¬ 18446744073709551615 < acc * 10 + (c.toNat - 48) by omega), Nat.mul_comm 10 acc]
    by_cases hb : 9007199254740992 < acc * 10 + (c.toNat - 48)
    · rw [if_pos hb]
      cases hp : Lib.parseUintM 18446744073709551615 (acc * 10 + (c.toNat - 48)) r with
      | ok v =>
       have := uintM_ge _ r _ v hp
       show none = if 9007199254740992 < v then none else some v
       rw [if_pos (by omega)]
      | _ => rfl
    · rw [if_neg hb]
      exact sizeL_uint r _ (by omega)
  · rw [if_neg hd, if_neg hd]; rfl
theorem sizeQ_eq (l : List UInt8) : sizeQ l = if l.length < 1 ∨ 20 < l.length then none else sizeL 0 l := by
 cases l with
 | nil => rfl
 | cons c r =>
  have e1 : Lib.parseUintB 64 (c :: r) = Lib.parseUintM 18446744073709551615 0 (c :: r) := by
   unfold Lib.parseUintB
   rw [if_neg (by simp), show (2 : Nat) ^ 64 - 1 = 18446744073709551615 by decide]
  have e := sizeL_uint (c :: r) 0 (by omega)
  unfold sizeQ uintV
  rw [e1, e]
  by_cases h20 : 20 < (c :: r).length
  · rw [if_pos (.inr (.inl h20)), if_pos (.inr h20)]
  · rw [if_neg (c := (c :: r).length < 1 ∨ 20 < (c :: r).length) (by rintro (h | h); simp at h; exact h20 h)]
    cases Lib.parseUintM 18446744073709551615 0 (c :: r) with
    | ok v =>
     show (if (false = true) ∨ 20 < (c :: r).length ∨ 9007199254740992 < v then none else some v) = if 9007199254740992 < v then none else some v
     by_cases hv : 9007199254740992 < v
     · rw [if_pos (.inr (.inr hv)), if_pos hv]
     · rw [if_neg (by rintro (h | h | h); cases h; exact h20 h; exact hv h), if_neg hv]
    | _ => rfl
def sizeZ (l : List UInt8) : Int := match sizeQ l with
 | some n => n
 | none => -1
def numZ (x : Option Nat) : Int := match x with
 | some n => n
 | none => -1
def gotQ (x : Int × S_api_Cmd) : S_ref06_Got := ⟨(endQ x).1, (endQ x).2⟩
end CM
namespace AX
theorem size_loop {call : CallF} {n : Nat} (l : List UInt8) (hl : l.length ≤ 1000) : ∀ (m i acc : Nat), i ≤ l.length → l.length < i + m → acc ≤ 9007199254740992 →
 f107_L6 call n m l (acc : Int) (i : Int) = some (.one (.int .i64 (numZ (sizeL acc (l.drop i)))), [])
 | 0, i, acc, h1, h2, h3 => by omega
 | m + 1, i, acc, h1, h2, h3 => by
  have ih := size_loop (call := call) (n := n) l hl m (i + 1)
  rw [f107_L6, f107_T6]
  by_cases h : i < l.length
  · rw [decide_eq_true (by omega), cond_true, item_at h, item_at h, List.drop_eq_getElem_cons h, sizeL]
    simp only [f107_L11, f107_T11, f107_L17, f107_T17, item_at h]
    by_cases h48 : l[i].toNat < 48
    · rw [decide_eq_true (by omega), cond_true, cond_true, if_neg (by omega)]; rfl
    · rw [decide_eq_false (by omega), cond_false]
      by_cases h57 : 57 < l[i].toNat
      · rw [decide_eq_true (by omega), cond_true, if_neg (by omega)]; rfl
      · rw [decide_eq_false (by omega), cond_false, if_pos (by omega), wrap_ok (x := (l[i].toNat : Int)) (by omega) (by omega), wrap_ok (x := 10 * (acc : Int)) (by omega) (by omega),
         wrap_ok (x := 10 * (acc : Int) + (l[i].toNat : Int)) (by omega) (by omega), wrap_ok (by omega) (by omega), wrap_ok (by omega) (by omega),
         show 10 * (acc : Int) + (l[i].toNat : Int) - 48 = ((10 * acc + (l[i].toNat - 48) : Nat) : Int) by omega, show ((i : Int) + 1) = ((i + 1 : Nat) : Int) by omega]
        by_cases hb : 9007199254740992 < 10 * acc + (l[i].toNat - 48)
        · rw [decide_eq_true (by omega), cond_true, if_pos hb]; rfl
        · rw [decide_eq_false (by omega), cond_false, if_neg hb]
          exact ih _ (by omega) (by omega) (by omega)
  · rw [decide_eq_false (by omega), cond_false, List.drop_of_length_le (by omega)]; rfl
theorem size_core {call : CallF} {n : Nat} (hn : 2000 ≤ n) (l : List UInt8) (hl : l.length ≤ 1000) : f107_L call n l = some (.one (.int .i64 (numZ (sizeQ l))), []) := by
 rw [f107_L, f107_T, sizeQ_eq]
 by_cases h1 : l.length < 1
 · rw [decide_eq_true (by omega), cond_true, if_pos (.inl h1)]; rfl
 · rw [decide_eq_false (by omega), cond_false]
   by_cases h20 : 20 < l.length
   · rw [decide_eq_true (by omega), if_pos (.inr h20)]; rfl
   · rw [decide_eq_false (by omega), if_neg (by omega), f107_L1, f107_T1, cond_false]
     exact size_loop l hl n 0 0 (by omega) (by omega) (by omega)
def gotV (x : S_ref06_Got) : Option (AV × Heap) := some (.agg x.cells, [])
structure RParCalls (call : CallF) : Prop where
 upper : ∀ l : List UInt8, l.length ≤ 1000 → call 45 [.one (.str l)] [] = some (.one (.str (upL l)), [])
 named : ∀ l : List UInt8, l.length ≤ 1000 → call 106 [.one (.str l)] [] = some (.one (.bool (nameB l)), [])
 find : ∀ (l : List UInt8) (i : Nat) (c : UInt8), l.length ≤ 1000 → i ≤ l.length → call 38 [.one (.str l), .one (.int .i64 (i : Int)), .one (.int .u8 (c.toNat : Int))] [] = some (.one (.int .i64 (i + idx c (l.drop i) : Nat)), [])
 size : ∀ l : List UInt8, l.length ≤ 1000 → call 107 [.one (.str l)] [] = some (.one (.int .i64 (numZ (sizeQ l))), [])
def z06 : S_ref06_Got := ⟨⟨0, [], [], [], false, 0, 0⟩, 0⟩
theorem rpar_new {call : CallF} {n m : Nat} (hC : RParCalls call) (s : List UInt8) (at' : Nat) (seen : List (List UInt8)) (nm v : List UInt8) (hv : v.length ≤ 1000) (c : S_api_Cmd) (ps : List (List UInt8)) (z : S_ref06_Got) (hsn : seen.length ≤ 1000)
 (ih : ∀ c' : S_api_Cmd, f75_L3 call n m s (at' : Int) ((seen ++ [nm]).map .str) c' z = gotV (gotQ (paramsQ ps (seen ++ [nm]) c'))) :
 (guardB (decide (((seen.map Cell.str).length + (([.str nm] : List Cell)).length) * 1000 ≤ rowLim)) (
  bif (c.fVerb != (4 : Int)) then (
   f75_L35 call n (f75_L3 call n m) s (at' : Int) (seen.map Cell.str ++ ([.str nm] : List Cell)) nm v true c z) else (
   bif (!(nm == ([83, 73, 90, 69] : List UInt8))) then (
    f75_L35 call n (f75_L3 call n m) s (at' : Int) (seen.map Cell.str ++ ([.str nm] : List Cell)) nm v (!(nm == ([66, 79, 68, 89] : List UInt8))) c z) else (
    f75_L35 call n (f75_L3 call n m) s (at' : Int) (seen.map Cell.str ++ ([.str nm] : List Cell)) nm v false c z)))) =
  gotV (gotQ (if c.fVerb = 4 then (if (parQ c nm v).1 = 0 then paramsQ ps (seen ++ [nm]) (parQ c nm v).2 else parQ c nm v) else (555, c))) := by
 have hm : seen.map Cell.str ++ [.str nm] = (seen ++ [nm]).map .str := by simp
 rw [guard_ok (decide_eq_true (by
  have : (2000000000000 : Nat) ≤ 2 * rowLim := by decide
  simp; omega)), hm]
 by_cases h4 : c.fVerb = 4
 · rw [if_pos h4, show (c.fVerb != 4) = false by simp [h4], cond_false]
   unfold parQ
   by_cases hs : nm = [83, 73, 90, 69]
   · subst hs
     rw [if_pos rfl, beq_self_eq_true, Bool.not_true, cond_false, f75_L35, f75_T35, cond_false, beq_self_eq_true, cond_true, callK_some (hC.size v hv), oI_one]
     cases hz : sizeQ v with
     | none => rfl
     | some k =>
      show (bif decide (((k : Nat) : Int) < 0) then _ else _) = _
      rw [decide_eq_false (by omega), cond_false]
      simp only []
      rw [if_pos trivial]
      exact ih _
   · rw [if_neg hs, show (nm == [83, 73, 90, 69]) = false by simpa using hs, Bool.not_false, cond_true]
     by_cases hb : nm = [66, 79, 68, 89]
     · subst hb
       rw [if_pos rfl, beq_self_eq_true, Bool.not_true, f75_L35, f75_T35, cond_false, show ((([66, 79, 68, 89] : List UInt8)) == [83, 73, 90, 69]) = false by decide, cond_false, callK_some (hC.upper v hv), oS_one]
       unfold bodyQ
       by_cases h7 : upL v = [55, 66, 73, 84]
       · rw [if_pos h7, h7, beq_self_eq_true, cond_true]
         simp only []
         rw [if_pos (by rfl)]
         exact ih _
       · rw [if_neg h7, show (upL v == [55, 66, 73, 84]) = false by simpa using h7, cond_false, callK_some (hC.upper v hv), oS_one]
         by_cases h8 : upL v = [56, 66, 73, 84, 77, 73, 77, 69]
         · rw [if_pos h8, h8, beq_self_eq_true, cond_true]
           simp only []
           rw [if_pos (by rfl)]
           exact ih _
         · rw [if_neg h8, show (upL v == [56, 66, 73, 84, 77, 73, 77, 69]) = false by simpa using h8, cond_false]; rfl
     · rw [if_neg hb, show (nm == [66, 79, 68, 89]) = false by simpa using hb, Bool.not_false, f75_L35, f75_T35, cond_true]; rfl
 · rw [if_neg h4, show (c.fVerb != 4) = true by simpa using h4, cond_true, f75_L35, f75_T35, cond_true]; rfl
theorem rseen_loop {call : CallF} {n k : Nat} (hC : RParCalls call) (s : List UInt8) (at' : Nat) (seen : List (List UInt8)) (nm v : List UInt8) (hv : v.length ≤ 1000) (c : S_api_Cmd) (ps : List (List UInt8)) (z : S_ref06_Got) (hsn : seen.length ≤ 1000)
 (ih : ∀ c' : S_api_Cmd, f75_L3 call n k s (at' : Int) ((seen ++ [nm]).map .str) c' z = gotV (gotQ (paramsQ ps (seen ++ [nm]) c'))) : ∀ (m i : Nat), i ≤ seen.length → seen.length < i + m →
 f75_L27 call n (f75_L3 call n k) m s (at' : Int) (seen.map .str) nm v (i : Int) c z =
  gotV (gotQ (if nm ∈ seen.drop i then (501, c) else if c.fVerb = 4 then (if (parQ c nm v).1 = 0 then paramsQ ps (seen ++ [nm]) (parQ c nm v).2 else parQ c nm v) else (555, c)))
 | 0, i, h1, h2 => by omega
 | m + 1, i, h1, h2 => by
  have ih2 := rseen_loop hC s at' seen nm v hv c ps z hsn ih m (i + 1)
  rw [f75_L27, f75_T27, List.length_map, Nat.div_one]
  by_cases h : i < seen.length
  · rw [decide_eq_true (by omega), cond_true, strs_item h, castS_one, List.drop_eq_getElem_cons h]
    by_cases hx : seen[i] = nm
    · rw [if_pos (by rw [hx]; exact List.mem_cons_self), hx, beq_self_eq_true, cond_true]; rfl
    · rw [show (seen[i] == nm) = false by simpa using hx, cond_false, wrap_ok (by omega) (by omega), show ((i : Int) + 1) = ((i + 1 : Nat) : Int) by omega, ih2 (by omega) (by omega)]
      have : (nm ∈ seen[i] :: seen.drop (i + 1)) ↔ nm ∈ seen.drop (i + 1) := by
       rw [List.mem_cons]
       exact ⟨fun h => h.resolve_left fun e => hx e.symm, .inr⟩
      simp only [this]
  · rw [decide_eq_false (by omega), cond_false, List.drop_of_length_le (by omega), if_neg (by simp)]
    have := rpar_new hC s at' seen nm v hv c ps z hsn ih
    rw [List.length_map] at this
    exact this
theorem rparams_loop {call : CallF} {n : Nat} (hC : RParCalls call) (hn : 2000 ≤ n) (s : List UInt8) (hs : s.length ≤ 1000) (z : S_ref06_Got) : ∀ (m at' : Nat) (seen ps : List (List UInt8)) (c : S_api_Cmd), at' ≤ s.length → s.length < at' + m → seen.length ≤ at' →
 ((ps = [] ∧ at' = s.length) ∨ ∃ t, s.drop at' = 32 :: t ∧ ps = spl 32 t) →
 f75_L3 call n m s (at' : Int) (seen.map .str) c z = gotV (gotQ (paramsQ ps seen c))
 | 0, at', seen, ps, c, h1, h2, h3, hp => by omega
 | m + 1, at', seen, ps, c, h1, h2, h3, hp => by
  rw [f75_L3, f75_T3]
  rcases hp with ⟨rfl, rfl⟩ | ⟨t, ht, rfl⟩
  · rw [decide_eq_false (by omega), cond_false]; rfl
  · have hlt : at' < s.length := by
     rcases Nat.lt_or_ge at' s.length with h | h
     · exact h
     · rw [List.drop_of_length_le h] at ht; cases ht
    have hx : s[at'] = 32 ∧ s.drop (at' + 1) = t := by
     rw [List.drop_eq_getElem_cons hlt] at ht
     exact List.cons.inj ht
    have hidx := idx_le 32 t
    have htl : t.length = s.length - (at' + 1) := by rw [← hx.2, List.length_drop]
    have hsp := spl_idx 32 t
    have hpe : (s.take (at' + 1 + idx 32 t)).drop (at' + 1) = t.take (idx 32 t) := by
     rw [List.drop_take, hx.2]; congr 1; omega
    have hpn : ∀ x ∈ t.take (idx 32 t), x ≠ 32 := by
     have hm : t.take (idx 32 t) ∈ spl 32 t := by
      rcases hsp with ⟨h1, h2⟩ | ⟨r, h1, h2⟩
      · rw [h2, h1, List.take_length]; exact List.mem_cons_self
      · rw [h2]; exact List.mem_cons_self
     exact spl_mem hm
    have hpl : (t.take (idx 32 t)).length ≤ 1000 := by rw [List.length_take]; omega
    -- the rest of the pieces
    obtain ⟨ps', hps, hnext⟩ : ∃ ps', spl 32 t = t.take (idx 32 t) :: ps' ∧ ((ps' = [] ∧ at' + 1 + idx 32 t = s.length) ∨ ∃ r, s.drop (at' + 1 + idx 32 t) = 32 :: r ∧ ps' = spl 32 r) := by
     rcases hsp with ⟨h1, h2⟩ | ⟨r, h1, h2⟩
     · exact ⟨[], by rw [h2, h1, List.take_length], .inl ⟨rfl, by omega⟩⟩
     · exact ⟨spl 32 r, h2, .inr ⟨r, by rw [← h1, ← hx.2, List.drop_drop], rfl⟩⟩
    rw [decide_eq_true (by omega), cond_true, item_at hlt, hx.1, show (32 : Int) = ((32 : UInt8).toNat : Int) by rfl, byte_ne, decide_eq_true rfl, Bool.not_true, cond_false, wrap_ok (by omega) (by omega), show ((at' : Int) + 1) = ((at' + 1 : Nat) : Int) by omega,
     callK_some (hC.find s (at' + 1) 32 hs (by omega)), oI_one, hx.2, decide_eq_true (by omega), cond_true, Int.toNat_natCast, Int.toNat_natCast, hpe, show (0 : Int) = ((0 : Nat) : Int) by rfl, show (61 : Int) = ((61 : UInt8).toNat : Int) by rfl, callK_some (hC.find _ 0 61 hpl (by omega)), oI_one, List.drop_zero, Nat.zero_add]
    have hci := cut_idx 61 (t.take (idx 32 t))
    have hile := idx_le 61 (t.take (idx 32 t))
    rw [hps, paramsQ]
    rw [hci]
    simp only []
    generalize hp : t.take (idx 32 t) = p at hpn hpl hile ⊢
    rw [decide_eq_true (by omega), cond_true, Int.toNat_natCast, List.drop_zero, callK_some (hC.upper _ (by rw [List.length_take]; omega)), oS_one, List.take_length]
    generalize hnm : upL (p.take (idx 61 p)) = nm
    have hnl : nm.length ≤ 1000 := by rw [← hnm]; unfold upL; rw [List.length_map, List.length_take]; omega
    -- behind the value's test
    have behind : ∀ v : List UInt8, v.length ≤ 1000 → ∀ c : S_api_Cmd, f75_L22 call n (f75_L3 call n m) s ((at' + 1 + idx 32 t : Nat) : Int) (seen.map .str) nm v (!(nameB nm)) c z =
     gotV (gotQ (if nameB nm = false ∨ nm ∈ seen then (501, c) else if c.fVerb = 4 then (if (parQ c nm v).1 = 0 then paramsQ ps' (seen ++ [nm]) (parQ c nm v).2 else parQ c nm v) else (555, c))) := fun v hv c => by
     rw [f75_L22, f75_T22]
     cases hb : nameB nm with
     | false => rw [Bool.not_false, cond_true, if_pos (.inl rfl)]; rfl
     | true =>
      rw [Bool.not_true, cond_false, f75_L25, f75_T25, f75_L26, f75_T26]
      have := rseen_loop (n := n) (k := m) hC s (at' + 1 + idx 32 t) seen nm v hv c ps' z (by omega) (fun c' => rparams_loop hC hn s hs z m (at' + 1 + idx 32 t) (seen ++ [nm]) ps' c' (by omega) (by omega) (by simp; omega) hnext) n 0 (by omega) (by omega)
      rw [List.drop_zero] at this
      refine this.trans ?_
      congr 2
      by_cases hm : nm ∈ seen
      · rw [if_pos hm, if_pos (.inr hm)]
      · rw [if_neg hm, if_neg (c := true = false ∨ nm ∈ seen) (by rintro (h | h); cases h; exact hm h)]
    by_cases heq : idx 61 p < p.length
    · rw [decide_eq_true (show ((idx 61 p : Nat) : Int) < (p.length : Int) by omega), cond_true, wrap_ok (by omega) (by omega), show (((idx 61 p : Nat) : Int) + 1) = ((idx 61 p + 1 : Nat) : Int) by omega, decide_eq_true (by omega), cond_true, Int.toNat_natCast, decide_eq_true heq]
      have hvl : (p.drop (idx 61 p + 1)).length ≤ 1000 := by rw [List.length_drop]; omega
      have hvn : ∀ x ∈ p.drop (idx 61 p + 1), x ≠ 32 := fun x hx => hpn x (List.mem_of_mem_drop hx)
      have hvb := value_idx hvn
      generalize p.drop (idx 61 p + 1) = v at hvl hvn hvb ⊢
      have no : ∀ c : S_api_Cmd, f75_L20 call n (f75_L3 call n m) s ((at' + 1 + idx 32 t : Nat) : Int) (seen.map .str) nm v true c z = gotV (gotQ (501, c)) := fun c => rfl
      have yes : ∀ c : S_api_Cmd, f75_L20 call n (f75_L3 call n m) s ((at' + 1 + idx 32 t : Nat) : Int) (seen.map .str) nm v false c z =
       gotV (gotQ (if nameB nm = false ∨ nm ∈ seen then (501, c) else if c.fVerb = 4 then (if (parQ c nm v).1 = 0 then paramsQ ps' (seen ++ [nm]) (parQ c nm v).2 else parQ c nm v) else (555, c))) := fun c => by
       rw [f75_L20, f75_T20, cond_false, callK_some (hC.named nm hnl), oB_one]
       exact behind v hvl c
      cases v with
      | nil =>
       rw [show (([] : List UInt8) == []) = true by rfl, cond_true, no, if_pos (.inr (.inl ⟨rfl, rfl⟩))]
      | cons a r =>
       rw [show ((a :: r) == ([] : List UInt8)) = false by rfl, cond_false, callK_some (hC.find _ 0 61 hvl (by omega)), oI_one, List.drop_zero, Nat.zero_add]
       rw [decide_eq_true (p := (a :: r) ≠ []) (by simp), Bool.true_and] at hvb
       by_cases hv2 : idx 61 (a :: r) < (a :: r).length
       · rw [decide_eq_true (show ((idx 61 (a :: r) : Nat) : Int) < ((a :: r).length : Int) by omega), no, if_pos (.inr (.inl ⟨rfl, by rw [hvb, decide_eq_true hv2]; rfl⟩))]
       · rw [decide_eq_false (show ¬ ((idx 61 (a :: r) : Nat) : Int) < ((a :: r).length : Int) by omega), yes]
         rw [decide_eq_false hv2, Bool.not_false] at hvb
         rw [hvb]
         congr 2
         by_cases hb : nameB nm = false ∨ nm ∈ seen
         · rw [if_pos hb, if_pos (by rcases hb with h | h; exact .inl h; exact .inr (.inr h))]
         · rw [if_neg hb, if_neg (c := nameB nm = false ∨ (true = true ∧ true = false) ∨ nm ∈ seen) (by rintro (h | h | h); exact hb (.inl h); cases h.2; exact hb (.inr h))]
    · rw [decide_eq_false (show ¬ ((idx 61 p : Nat) : Int) < (p.length : Int) by omega), cond_false, callK_some (hC.named nm hnl), oB_one, behind [] (by simp) c, decide_eq_false heq, List.drop_of_length_le (by omega)]
      congr 2
      by_cases hb : nameB nm = false ∨ nm ∈ seen
      · rw [if_pos hb, if_pos (by rcases hb with h | h; exact .inl h; exact .inr (.inr h))]
      · rw [if_neg hb, if_neg (c := nameB nm = false ∨ (false = true ∧ valueB [] = false) ∨ nm ∈ seen) (by rintro (h | h | h); exact hb (.inl h); cases h.1; exact hb (.inr h))]
end AX
end Go.Proofs.YtfbicbgdfcbhpaaGreatDoor
