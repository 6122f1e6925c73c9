/-
  CmText.
-/
import Derived.Test.YtfbicbgdfcbhpaaGreatDoorCt42
set_option maxRecDepth 20000
set_option linter.unusedVariables false
set_option linter.unusedSimpArgs false
set_option linter.unusedSectionVars false
namespace Go.Proofs.YtfbicbgdfcbhpaaGreatDoor
open SC CM AX
namespace CM
def sameB (x y : S_api_Cmd) : Bool := (x.fVerb == y.fVerb) && ((x.fArg == y.fArg) && (((x.fPath_Local == y.fPath_Local) && ((x.fPath_Domain == y.fPath_Domain) && true)) && ((x.fNull == y.fNull) && ((x.fSize == y.fSize) && ((x.fBody == y.fBody) && true)))))
theorem sameB_iff (x y : S_api_Cmd) : sameB x y = true ↔ x = y := by
 obtain ⟨x1, x2, x3, x4, x5, x6, x7⟩ := x
 obtain ⟨y1, y2, y3, y4, y5, y6, y7⟩ := y
 unfold sameB
 simp [and_assoc]
structure Fair (c : S_api_Cmd) : Prop where
 size : c.fSize = -1 ∨ 0 ≤ c.fSize
 body : c.fBody = 0 ∨ c.fBody = 7 ∨ c.fBody = 8
theorem bodyQ_cases (v : List UInt8) : bodyQ v = 0 ∨ bodyQ v = 7 ∨ bodyQ v = 8 := by
 unfold bodyQ
 split
 · exact .inr (.inl rfl)
 · split
   · exact .inr (.inr rfl)
   · exact .inl rfl
theorem parQ_fair {c : S_api_Cmd} {nm v : List UInt8} (h : Fair c) : Fair (parQ c nm v).2 := by
 unfold parQ
 split
 · cases sizeQ v with
   | none => exact h
   | some n => exact ⟨.inr (Int.natCast_nonneg n), h.body⟩
 · split
   · exact ⟨h.size, bodyQ_cases v⟩
   · exact h
theorem paramsQ_fair : ∀ (ps seen : List (List UInt8)) {c : S_api_Cmd}, Fair c → Fair (paramsQ ps seen c).2
 | [], _, c, h => h
 | p :: ps, seen, c, h => by
  unfold paramsQ
  split
  · exact h
  · split
    · split
      · exact paramsQ_fair ps _ (parQ_fair h)
      · exact parQ_fair h
    · exact h
theorem pathQ_fair {c : S_api_Cmd} {r f : List UInt8} {null : Bool} (h : Fair c) : Fair (pathQ c r f null).2 := by
 unfold pathQ
 split
 · exact h
 · split
   · exact h
   · split
     · exact ⟨h.size, h.body⟩
     · split
       · exact paramsQ_fair _ _ ⟨h.size, h.body⟩
       · exact ⟨h.size, h.body⟩
theorem fair_new (v : Int) (r x y : List UInt8) (b : Bool) : Fair ⟨v, r, x, y, b, -1, 0⟩ := ⟨.inl rfl, .inl rfl⟩
theorem restQ_fair (v : Nat) (r : List UInt8) (b : Bool) : Fair (restQ v r b).2 := by
 unfold restQ
 repeat' split
 all_goals first | exact fair_new _ _ _ _ _ | exact pathQ_fair (fair_new _ _ _ _ _)
theorem parseQ_fair (l : List UInt8) (h : (parseQ l).2 = 0) : Fair (parseQ l).1 := by
 unfold parseQ at h ⊢
 split at h
 · cases h
 · rename_i hc
   rw [if_neg hc]
   unfold endQ at h ⊢
   split at h
   · rename_i h2
     rw [if_pos h2]
     exact restQ_fair _ _ _
   · rename_i h2
     exact absurd h h2
def tailQ (s : List UInt8) (c : S_api_Cmd) : List UInt8 × Int := if (parseQ s).2 = 0 ∧ sameB (parseQ s).1 c = true then (s, 0) else ([], 3)
theorem tailQ_unfair {s : List UInt8} {c : S_api_Cmd} (h : ¬ Fair c) : tailQ s c = ([], 3) := by
 unfold tailQ
 rw [if_neg]
 rintro ⟨h1, h2⟩
 rw [sameB_iff] at h2
 exact h (h2 ▸ parseQ_fair s h1)
def bodyT (s : List UInt8) (c : S_api_Cmd) : List UInt8 × Int :=
 if c.fBody = 8 then tailQ (s ++ [32, 66, 79, 68, 89, 61, 56, 66, 73, 84, 77, 73, 77, 69]) c
 else if c.fBody = 7 then tailQ (s ++ [32, 66, 79, 68, 89, 61, 55, 66, 73, 84]) c
 else if c.fBody = 0 then tailQ s c else ([], 3)
theorem bodyT_unfair {s : List UInt8} {c : S_api_Cmd} (h : ¬ Fair c) : bodyT s c = ([], 3) := by
 unfold bodyT
 repeat' split
 all_goals first | exact tailQ_unfair h | rfl
def sizeT (s : List UInt8) (c : S_api_Cmd) : List UInt8 × Int :=
 if c.fSize = -1 then bodyT s c else if 0 ≤ c.fSize then bodyT (s ++ ([32, 83, 73, 90, 69, 61] ++ Lib.itoa c.fSize)) c else ([], 3)
def textQ (c : S_api_Cmd) : List UInt8 × Int :=
  if c.fVerb < 1 ∨ 11 < c.fVerb then ([], 16)
  else if c.fVerb = 4 ∨ c.fVerb = 5 then
    (if apathE c.fPath_Local c.fPath_Domain ≠ 0 then ([], 3)
     else sizeT ((wordsL.getD c.fVerb.toNat []) ++ ((if c.fVerb = 5 then [32, 84, 79, 58] else [32, 70, 82, 79, 77, 58]) ++ apathS c.fPath_Local c.fPath_Domain)) c)
  else if c.fArg = [] then tailQ (wordsL.getD c.fVerb.toNat []) c else tailQ ((wordsL.getD c.fVerb.toNat []) ++ ([32] ++ c.fArg)) c
theorem tailQ_ok {s : List UInt8} {c : S_api_Cmd} (h : (tailQ s c).2 = 0) : parseQ (tailQ s c).1 = (c, 0) := by
 unfold tailQ at h ⊢
 split at h
 · rename_i h1
   rw [if_pos h1]
   have := (sameB_iff _ _).1 h1.2
   exact Prod.ext this h1.1
 · cases h
theorem bodyT_ok {s : List UInt8} {c : S_api_Cmd} (h : (bodyT s c).2 = 0) : parseQ (bodyT s c).1 = (c, 0) := by
 unfold bodyT at h ⊢
 split at h
 · rw [if_pos ‹_›]; exact tailQ_ok h
 · rw [if_neg ‹_›]
   split at h
   · rw [if_pos ‹_›]; exact tailQ_ok h
   · rw [if_neg ‹_›]
     split at h
     · rw [if_pos ‹_›]; exact tailQ_ok h
     · cases h
theorem sizeT_ok {s : List UInt8} {c : S_api_Cmd} (h : (sizeT s c).2 = 0) : parseQ (sizeT s c).1 = (c, 0) := by
 unfold sizeT at h ⊢
 split at h
 · rw [if_pos ‹_›]; exact bodyT_ok h
 · rw [if_neg ‹_›]
   split at h
   · rw [if_pos ‹_›]; exact bodyT_ok h
   · cases h
theorem textQ_ok {c : S_api_Cmd} (h : (textQ c).2 = 0) : parseQ (textQ c).1 = (c, 0) := by
 unfold textQ at h ⊢
 split at h
 · cases h
 · rw [if_neg ‹_›]
   split at h
   · rw [if_pos ‹_›]
     split at h
     · cases h
     · rw [if_neg ‹_›]; exact sizeT_ok h
   · rw [if_neg ‹_›]
     split at h
     · rw [if_pos ‹_›]; exact tailQ_ok h
     · rw [if_neg ‹_›]; exact tailQ_ok h
end CM
namespace AX
def textV (x : List UInt8 × Int) : Option (AV × Heap) := some (.tup [.one (.str x.1), .one (.int .i64 x.2)], [])
theorem text_tail {call : CallF} {n : Nat} (hp : ∀ l : List UInt8, call 14 [.one (.str l)] [] = lineV (parseQ l)) (s : List UInt8) (c : S_api_Cmd) : f18_L11 call n s c = textV (tailQ s c) := by
 have h1 := hp s
 unfold tailQ
 generalize parseQ s = x at h1 ⊢
 obtain ⟨x, k⟩ := x
 unfold lineV at h1
 rw [f18_L11, f18_T11, callK_some h1, castTup_tup, consK_cons, aggV_agg, takeS_api_Cmd_cells_nil, nilK_nil, zI_cons, nilK_nil, f18_L13, f18_T13]
 by_cases hk : k = 0
 · subst hk
   rw [show (((x, (0 : Int)) : S_api_Cmd × Int).2 != 0) = false by rfl, cond_false]
   show f18_L16 call n s (!(sameB x c)) = _
   cases hs : sameB x c with
   | true => rw [if_pos ⟨rfl, rfl⟩]; rfl
   | false => rw [if_neg (fun h => by have := h.2; cases this)]; rfl
 · rw [show (((x, k) : S_api_Cmd × Int).2 != 0) = true by simpa using hk, cond_true, if_neg (fun h => hk h.1)]; rfl
theorem rtext_tail {call : CallF} {n : Nat} (hp : ∀ l : List UInt8, call 15 [.one (.str l)] [] = lineG (parseQ l)) (s : List UInt8) (c : S_api_Cmd) : f19_L8 call n s c = textV (tailQ s c) := by
 have h1 := hp s
 unfold tailQ
 generalize parseQ s = x at h1 ⊢
 obtain ⟨x, k⟩ := x
 unfold lineG gotV at h1
 rw [f19_L8, f19_T8, callK_some h1, castAgg_agg, takeS_ref06_Got_cells_nil, nilK_nil, f19_L10, f19_T10]
 by_cases hk : k = 0
 · subst hk
   show f19_L13 call n s (!(sameB x c)) = _
   cases hs : sameB x c with
   | true => rw [if_pos ⟨rfl, rfl⟩]; rfl
   | false => rw [if_neg (fun h => by have := h.2; cases this)]; rfl
 · show (bif (k != 0) then _ else _) = _
   rw [show (k != 0) = true by simpa using hk, cond_true, if_neg (fun h => hk h.1)]; rfl
theorem lim_ok {a b : List UInt8} (ha : a.length ≤ 10000) (hb : b.length ≤ 10000) : decide (a.length + b.length ≤ strLim) = true := decide_eq_true (by unfold strLim; omega)
theorem pItoa_at {v : Int} (h1 : -9223372036854775808 ≤ v) (h2 : v ≤ 9223372036854775807) : pItoa [.one (.int .i64 v)] = some (.one (.str (Lib.itoa v))) := by
 show (bif decide (-9223372036854775808 ≤ v) && decide (v ≤ 9223372036854775807) then _ else none) = _
 rw [decide_eq_true h1, decide_eq_true h2]; rfl
theorem itoa_len {v : Int} (h1 : -9223372036854775808 ≤ v) (h2 : v ≤ 9223372036854775807) : (Lib.itoa v).length ≤ 21 := by
 unfold Lib.itoa
 split
 · have := dec_len v.natAbs 19 (by omega)
   simp; omega
 · have := dec_len v.toNat 19 (by omega)
   omega
theorem body_at {call : CallF} {n : Nat} (hp : ∀ l : List UInt8, call 14 [.one (.str l)] [] = lineV (parseQ l)) (s : List UInt8) (hs : s.length ≤ 9000) (c : S_api_Cmd) (h1 : -9223372036854775808 ≤ c.fBody) (h2 : c.fBody ≤ 9223372036854775807) :
 f18_L25 call n s c = textV (bodyT s c) := by
 rw [f18_L25, f18_T25, f18_L26, f18_T26]
 unfold bodyT
 by_cases h8 : c.fBody = 8
 · rw [if_pos h8, show (c.fBody == 8) = true by simpa using h8, cond_true, lim_ok (by omega) (by simp), cond_true]
   exact text_tail hp _ _
 · rw [if_neg h8, show (c.fBody == 8) = false by simpa using h8, cond_false, f18_L27, f18_T27]
   by_cases h0 : c.fBody = 0
   · rw [if_neg (by omega), if_pos h0, show (c.fBody != 0) = false by simp [h0], cond_false]
     exact text_tail hp _ _
   · have hl := itoa_len h1 h2
     rw [show (c.fBody != 0) = true by simpa using h0, cond_true, primK_some (pItoa_at h1 h2), oS_one, lim_ok (by simp) (by omega), cond_true, lim_ok (by simp; omega) (by simp), cond_true, lim_ok (by omega) (by simp; omega), cond_true, text_tail hp]
     by_cases h7 : c.fBody = 7
     · have e : Lib.itoa 7 = [55] := by
        unfold Lib.itoa
        rw [if_neg (by decide)]
        exact dec_small (by decide)
       rw [if_pos h7, h7, e]; rfl
     · rw [if_neg h7, if_neg h0, tailQ_unfair]
       exact fun h => by rcases h.body with h | h | h; exact h0 h; exact h7 h; exact h8 h
theorem rbody_at {call : CallF} {n : Nat} (hp : ∀ l : List UInt8, call 15 [.one (.str l)] [] = lineG (parseQ l)) (s : List UInt8) (hs : s.length ≤ 9000) (c : S_api_Cmd) :
 f19_L20 call n s c = textV (bodyT s c) := by
 rw [f19_L20, f19_T20, f19_L21, f19_T21]
 unfold bodyT
 by_cases h7 : c.fBody = 7
 · rw [if_neg (by omega), if_pos h7, show (c.fBody == 7) = true by simpa using h7, cond_true, lim_ok (by omega) (by simp), cond_true]
   exact rtext_tail hp _ _
 · rw [show (c.fBody == 7) = false by simpa using h7, cond_false, if_neg h7, f19_L22, f19_T22]
   by_cases h0 : c.fBody = 0
   · rw [if_neg (by omega), if_pos h0, show (c.fBody != 0) = false by simp [h0], cond_false]
     exact rtext_tail hp _ _
   · rw [show (c.fBody != 0) = true by simpa using h0, cond_true, lim_ok (by omega) (by simp), cond_true, rtext_tail hp]
     by_cases h8 : c.fBody = 8
     · rw [if_pos h8]
     · rw [if_neg h8, if_neg h0, tailQ_unfair]
       exact fun h => by rcases h.body with h | h | h; exact h0 h; exact h7 h; exact h8 h
theorem cdig_cell (u : Nat) (hu : u < 9223372036854775808) (k : List UInt8 → OR) : bytesK ([.int .u8 (IntKind.wrap .u8 (IntKind.wrap .i64 ((48 : Int) + (Int.tmod (u : Int) (10 : Int)))))] : List Cell) k = k [UInt8.ofNat (48 + u % 10)] := by
 have e : IntKind.wrap .u8 (IntKind.wrap .i64 ((48 : Int) + (Int.tmod (u : Int) (10 : Int)))) = ((48 + u % 10 : Nat) : Int) := by
  rw [show Int.tmod (u : Int) 10 = ((u % 10 : Nat) : Int) by rw [Int.tmod_eq_emod_of_nonneg (by omega)]; omega, wrap_ok (by omega) (by omega), IntKind.wrap_u8]; omega
 rw [e]
 simp only [bytesK, castI_one, Int.toNat_natCast]
theorem cdigits_loop {call : CallF} {n : Nat} : ∀ (m u : Nat) (c : UInt8) (s : List UInt8), u < 10 ^ m → u < 9223372036854775808 → s.length + m ≤ 1000000000000 → c = UInt8.ofNat (48 + u % 10) →
 f49_L5 call n (m + 1) (u : Int) (c :: s) = some (.one (.str (Lib.decDigits u ++ s)), [])
 | m, u, c, s, h, h2, h3, h4 => by
  subst h4
  rw [f49_L5, f49_T5]
  by_cases hu : u < 10
  · rw [decide_eq_false (by omega), cond_false, dec_small hu, Nat.mod_eq_of_lt hu]; rfl
  · have ed : IntKind.wrap .i64 (Int.tdiv (u : Int) (10 : Int)) = ((u / 10 : Nat) : Int) := by
     rw [Int.tdiv_eq_ediv_of_nonneg (by omega), wrap_ok (by omega) (by omega)]; omega
    rw [ed, cdig_cell _ (by omega)]
    cases m with
    | zero => simp at h; omega
    | succ m =>
     have ih := cdigits_loop (call := call) (n := n) m (u / 10) _ (UInt8.ofNat (48 + u % 10) :: s) (by rw [Nat.pow_succ] at h; omega) (by omega) (by simp; omega) rfl
     have hb : decide (([UInt8.ofNat (48 + u / 10 % 10)] : List UInt8).length + (UInt8.ofNat (48 + u % 10) :: s).length ≤ strLim) = true := decide_eq_true (by simp [strLim]; omega)
     rw [decide_eq_true (show (u : Int) ≥ 10 by omega), cond_true, hb, cond_true, List.cons_append, List.nil_append, ih, dec_big hu, List.append_assoc]; rfl
theorem cdigits_at (n : Nat) (v : Int) (h1 : v ≤ 9223372036854775807) (hn : 20 ≤ n) (hn2 : n ≤ 900000000000) : acall AXE AXF (n + 1) 49 [.one (.int .i64 v)] [] = some (.one (.str (if v < 0 then [45] else Lib.itoa v)), []) := by
 rw [f49_eq, f49_L, f49_T]
 by_cases h : v < 0
 · rw [if_pos h, decide_eq_true h]; rfl
 · obtain ⟨u, rfl⟩ : ∃ u : Nat, v = u := ⟨v.toNat, by omega⟩
   have hlt : u < 10 ^ n := Nat.lt_of_lt_of_le (show u < 10 ^ 20 by omega) (Nat.pow_le_pow_right (by decide) hn)
   rw [if_neg h, decide_eq_false h, cond_false, cdig_cell _ (by omega), cdigits_loop n u _ [] hlt (by omega) (by simp; omega) rfl, List.append_nil]
   unfold Lib.itoa
   rw [if_neg h]; rfl
theorem size_at {call : CallF} {n : Nat} (hp : ∀ l : List UInt8, call 14 [.one (.str l)] [] = lineV (parseQ l)) (s : List UInt8) (hs : s.length ≤ 8000) (c : S_api_Cmd) (h1 : -9223372036854775808 ≤ c.fBody) (h2 : c.fBody ≤ 9223372036854775807) (h3 : -9223372036854775808 ≤ c.fSize) (h4 : c.fSize ≤ 9223372036854775807) :
 f18_L23 call n s c = textV (sizeT s c) := by
 rw [f18_L23, f18_T23, f18_L24, f18_T24]
 unfold sizeT
 by_cases hm : c.fSize = -1
 · rw [if_pos hm, show (c.fSize != -1) = false by simp [hm], cond_false]
   exact body_at hp s (by omega) c h1 h2
 · have hl := itoa_len h3 h4
   rw [if_neg hm, show (c.fSize != -1) = true by simpa using hm, cond_true, primK_some (pItoa_at h3 h4), oS_one, lim_ok (by simp) (by omega), cond_true, lim_ok (by omega) (by simp; omega), cond_true, body_at hp _ (by simp; omega) c h1 h2]
   by_cases h0 : 0 ≤ c.fSize
   · rw [if_pos h0]
   · rw [if_neg h0, bodyT_unfair]
     exact fun h => by rcases h.size with h | h; exact hm h; exact h0 h
theorem rsize_at {call : CallF} {n : Nat} (hp : ∀ l : List UInt8, call 15 [.one (.str l)] [] = lineG (parseQ l)) (hd : ∀ v : Int, v ≤ 9223372036854775807 → call 49 [.one (.int .i64 v)] [] = some (.one (.str (if v < 0 then [45] else Lib.itoa v)), []))
 (s : List UInt8) (hs : s.length ≤ 8000) (c : S_api_Cmd) (h4 : c.fSize ≤ 9223372036854775807) :
 f19_L18 call n s c = textV (sizeT s c) := by
 rw [f19_L18, f19_T18, f19_L19, f19_T19]
 unfold sizeT
 by_cases hm : c.fSize = -1
 · rw [if_pos hm, show (c.fSize != -1) = false by simp [hm], cond_false]
   exact rbody_at hp s (by omega) c
 · rw [if_neg hm, show (c.fSize != -1) = true by simpa using hm, cond_true, lim_ok (by omega) (by simp), cond_true, callK_some (hd _ h4), oS_one]
   by_cases h0 : 0 ≤ c.fSize
   · have hl := itoa_len (v := c.fSize) (by omega) h4
     rw [if_pos h0, if_neg (by omega), lim_ok (by simp; omega) (by omega), cond_true, rbody_at hp _ (by simp; omega) c, List.append_assoc]
   · rw [if_neg h0, if_pos (by omega), lim_ok (by simp; omega) (by simp), cond_true, rbody_at hp _ (by simp; omega) c, bodyT_unfair]
     exact fun h => by rcases h.size with h | h; exact hm h; exact h0 h
theorem apath_len (x y : List UInt8) : (apathS x y).length ≤ 2 * x.length + y.length + 10 := by
 have h := textS_size (baOf x) (baOf y)
 have s1 := baOf_size x
 have s2 := baOf_size y
 unfold apathS pathS
 have e : ∀ b : ByteArray, b.data.toList.length = b.size := fun b => by simp
 rw [e]
 split
 · exact Nat.le_trans (show 2 ≤ 10 by decide) (by omega)
 · split
   · rw [ByteArray.size_append, ByteArray.size_append]
     show 1 + (textS (baOf x) (baOf y)).size + 1 ≤ _
     omega
   · exact Nat.zero_le _
theorem pAPath_at {x y : List UInt8} (hx : x.length ≤ 100000000) (hy : y.length ≤ 100000000) : pAPath [.agg [.str x, .str y]] = some (.tup [.one (.str (apathS x y)), .one (.int .i64 (apathE x y))]) := by
 show (bif decide (x.length ≤ 100000000) && decide (y.length ≤ 100000000) then _ else none) = _
 rw [decide_eq_true hx, decide_eq_true hy]; rfl
theorem pRPath_at {x y : List UInt8} (hx : x.length ≤ 100000000) (hy : y.length ≤ 100000000) : pRPath [.agg [.str x, .str y]] = some (.tup [.one (.str (apathS x y)), .one (.int .i64 (apathE x y))]) := pAPath_at hx hy
theorem word_len {i : Nat} (h : i < wordsL.length) : (wordsL[i]).length ≤ 4 := by
 have : ∀ w ∈ wordsL, w.length ≤ 4 := by decide
 exact this _ (List.getElem_mem h)
structure Small (c : S_api_Cmd) : Prop where
 arg : c.fArg.length ≤ 600
 loc : c.fPath_Local.length ≤ 100
 dom : c.fPath_Domain.length ≤ 100
 s1 : -9223372036854775808 ≤ c.fSize
 s2 : c.fSize ≤ 9223372036854775807
 b1 : -9223372036854775808 ≤ c.fBody
 b2 : c.fBody ≤ 9223372036854775807
theorem text_core {call : CallF} {n : Nat} (hp : ∀ l : List UInt8, call 14 [.one (.str l)] [] = lineV (parseQ l)) (hw : call 43 [] [] = some (.one (.sl (some ⟨0, 0, 9⟩) 1 (wordsL.map .str)), []))
 (c : S_api_Cmd) (hc : Small c) : f18_L call n c = textV (textQ c) := by
 rw [f18_L, f18_T]
 unfold textQ
 have hlen : wordsL.length = 12 := rfl
 by_cases h1 : c.fVerb < 1
 · rw [if_pos (.inl h1), decide_eq_true h1]; rfl
 · rw [decide_eq_false h1, cond_false]
   by_cases h2 : 11 < c.fVerb
   · rw [if_pos (.inr h2), decide_eq_true h2]; rfl
   · obtain ⟨v, hv⟩ : ∃ v : Nat, c.fVerb = v := ⟨c.fVerb.toNat, by omega⟩
     have hvl : v < wordsL.length := by omega
     have hwl := word_len hvl
     have hg : wordsL.getD v [] = wordsL[v] := by simp [List.getD, hvl]
     rw [if_neg (by omega), decide_eq_false h2, f18_L1, f18_T1, cond_false, callK_some hw, oL_one, hv, strs_item hvl, castS_one, Int.toNat_natCast, hg]
     generalize wordsL[v] = w at hwl ⊢
     have ha := apath_len c.fPath_Local c.fPath_Domain
     have hap : apathS c.fPath_Local c.fPath_Domain = apathS c.fPath_Local c.fPath_Domain := rfl
     have path : ∀ f : List UInt8, f.length ≤ 10 → (f = if (v : Int) = 5 then [32, 84, 79, 58] else [32, 70, 82, 79, 77, 58]) → f18_L10 call n w (apathS c.fPath_Local c.fPath_Domain) (apathE c.fPath_Local c.fPath_Domain) c =
      textV (if apathE c.fPath_Local c.fPath_Domain ≠ 0 then ([], 3) else sizeT (w ++ (f ++ apathS c.fPath_Local c.fPath_Domain)) c) := fun f hf hfe => by
      have hl1 := hc.loc
      have hl2 := hc.dom
      rw [f18_L10, f18_T10, f18_L12, f18_T12]
      generalize apathS c.fPath_Local c.fPath_Domain = p at ha ⊢
      generalize apathE c.fPath_Local c.fPath_Domain = e
      by_cases he : e = 0
      · rw [if_neg (fun h => h he), show (e != 0) = false by simp [he], cond_false, f18_L15, f18_T15, f18_L19, f18_T19, f18_L21, f18_T21, hv]
        have go : f18_L22 call n w p f c = textV (sizeT (w ++ (f ++ p)) c) := by
         rw [f18_L22, f18_T22, lim_ok (by omega) (by omega), cond_true, lim_ok (by omega) (by simp; omega), cond_true]
         exact size_at hp _ (by simp; omega) c hc.b1 hc.b2 hc.s1 hc.s2
        by_cases h5 : (v : Int) = 5
        · rw [if_pos h5] at hfe
          rw [show ((v : Int) == 5) = true by simpa using h5, cond_true, ← hfe]; exact go
        · rw [if_neg h5] at hfe
          rw [show ((v : Int) == 5) = false by simpa using h5, cond_false, ← hfe]; exact go
      · rw [if_pos he, show (e != 0) = true by simpa using he, cond_true]; rfl
     have hff : (if (v : Int) = 5 then ([32, 84, 79, 58] : List UInt8) else [32, 70, 82, 79, 77, 58]).length ≤ 10 := by split <;> decide
     have path2 := path _ hff rfl
     have hl1 := hc.loc
     have hl2 := hc.dom
     by_cases h4 : (v : Int) = 4
     · rw [if_pos (.inl h4), show ((v : Int) == 4) = true by simpa using h4, cond_true, primK_some (pAPath_at (by omega) (by omega)), castTup_tup, zS_cons, zI_cons, nilK_nil]
       exact path2
     · rw [show ((v : Int) == 4) = false by simpa using h4, cond_false]
       by_cases h5 : (v : Int) = 5
       · rw [if_pos (.inr h5), show ((v : Int) == 5) = true by simpa using h5, cond_true, primK_some (pAPath_at (by omega) (by omega)), castTup_tup, zS_cons, zI_cons, nilK_nil]
         exact path2
       · rw [if_neg (by omega), show ((v : Int) == 5) = false by simpa using h5, cond_false]
         have hla := hc.arg
         by_cases he : c.fArg = []
         · rw [if_pos he, he]
           show f18_L11 call n w c = _
           exact text_tail hp _ _
         · rw [if_neg he, show (!(c.fArg == ([] : List UInt8))) = true by simpa using he, cond_true, lim_ok (by simp) (by omega), cond_true, lim_ok (by omega) (by simp; omega), cond_true]
           exact text_tail hp _ _
theorem rtext_core {call : CallF} {n : Nat} (hp : ∀ l : List UInt8, call 15 [.one (.str l)] [] = lineG (parseQ l)) (hd : ∀ v : Int, v ≤ 9223372036854775807 → call 49 [.one (.int .i64 v)] [] = some (.one (.str (if v < 0 then [45] else Lib.itoa v)), []))
 (hw : ∀ (i : Nat) (hi : i < 12), call 44 [.one (.int .i64 (i : Int))] [] = some (.one (.str (wordsL[i]'hi)), [])) (c : S_api_Cmd) (hc : Small c) : f19_L call n c = textV (textQ c) := by
 rw [f19_L, f19_T]
 unfold textQ
 have hlen : wordsL.length = 12 := rfl
 by_cases h1 : c.fVerb < 1
 · rw [if_pos (.inl h1), decide_eq_true h1]; rfl
 · rw [decide_eq_false h1, cond_false]
   by_cases h2 : 11 < c.fVerb
   · rw [if_pos (.inr h2), decide_eq_true h2]; rfl
   · obtain ⟨v, hv⟩ : ∃ v : Nat, c.fVerb = v := ⟨c.fVerb.toNat, by omega⟩
     have hvl : v < wordsL.length := by omega
     have hwl := word_len hvl
     have hg : wordsL.getD v [] = wordsL[v] := by simp [List.getD, hvl]
     rw [if_neg (by omega), decide_eq_false h2, f19_L1, f19_T1, cond_false, hv, callK_some (hw v (by omega)), oS_one, Int.toNat_natCast, hg]
     generalize wordsL[v] = w at hwl ⊢
     have ha := apath_len c.fPath_Local c.fPath_Domain
     have hl1 := hc.loc
     have hl2 := hc.dom
     have path : ((v : Int) = 4 ∨ (v : Int) = 5) → f19_L5 call n w true c =
      textV (if apathE c.fPath_Local c.fPath_Domain ≠ 0 then ([], 3) else sizeT (w ++ ((if (v : Int) = 5 then [32, 84, 79, 58] else [32, 70, 82, 79, 77, 58]) ++ apathS c.fPath_Local c.fPath_Domain)) c) := fun h45 => by
      rw [f19_L5, f19_T5, cond_true, primK_some (pRPath_at (by omega) (by omega)), castTup_tup, zS_cons, zI_cons, nilK_nil, f19_L7, f19_T7, f19_L9, f19_T9]
      generalize apathS c.fPath_Local c.fPath_Domain = p at ha ⊢
      generalize apathE c.fPath_Local c.fPath_Domain = e
      by_cases he : e = 0
      · rw [if_neg (fun h => h he), show (e != 0) = false by simp [he], cond_false, f19_L12, f19_T12, hv, f19_L16, f19_T16]
        by_cases h4 : (v : Int) = 4
        · rw [if_neg (by omega), show ((v : Int) == 4) = true by simpa using h4, cond_true, lim_ok (by omega) (by simp), cond_true, lim_ok (by simp; omega) (by omega), cond_true, List.append_assoc]
          exact rsize_at hp hd _ (by simp; omega) c hc.s2
        · have h5 := h45.resolve_left h4
          rw [if_pos h5, show ((v : Int) == 4) = false by simpa using h4, cond_false, lim_ok (by omega) (by simp), cond_true, lim_ok (by simp; omega) (by omega), cond_true, List.append_assoc]
          exact rsize_at hp hd _ (by simp; omega) c hc.s2
      · rw [if_pos he, show (e != 0) = true by simpa using he, cond_true]; rfl
     by_cases h4 : (v : Int) = 4
     · rw [if_pos (.inl h4), show ((v : Int) == 4) = true by simpa using h4, cond_true]
       exact path (.inl h4)
     · rw [show ((v : Int) == 4) = false by simpa using h4, cond_false]
       by_cases h5 : (v : Int) = 5
       · rw [if_pos (.inr h5), show ((v : Int) == 5) = true by simpa using h5]
         exact path (.inr h5)
       · rw [if_neg (by omega), show ((v : Int) == 5) = false by simpa using h5, f19_L5, f19_T5, cond_false]
         have hla := hc.arg
         by_cases he : c.fArg = []
         · rw [if_pos he, he]
           show f19_L8 call n w c = _
           exact rtext_tail hp _ _
         · rw [if_neg he, show (!(c.fArg == ([] : List UInt8))) = true by simpa using he, cond_true, lim_ok (by omega) (by simp), cond_true, lim_ok (by simp; omega) (by omega), cond_true, List.append_assoc]
           exact rtext_tail hp _ _
end AX
end Go.Proofs.YtfbicbgdfcbhpaaGreatDoor
