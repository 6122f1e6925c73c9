/-
  law08.ReplyBack answers true at all arguments: by the reckoning.
-/
import Derived.Test.YtalkglheaadigaaDoorRxReads
set_option maxRecDepth 20000
set_option linter.unusedVariables false
set_option linter.unusedSimpArgs false
set_option linter.unusedSectionVars false
namespace Go.Proofs.YtalkglheaadigaaDoor
open Go.ChangeShapes Go.WideShapes Go.ChangeAt Go.RowKit
theorem step_chars {l r : List UInt8} {a : Nat} (h : stepQ l = some (a, r)) : l = digs l ++ 46 :: r := by
  unfold stepQ at h
  split at h
  · rename_i hc
    cases h
    have h2 := digs_split l
    cases hd : l.drop (digs l).length with
    | nil => rw [hd] at hc; simp at hc
    | cons c t =>
      rw [hd] at hc h2
      simp only [List.head?_cons, Option.some.injEq] at hc
      obtain ⟨_, rfl⟩ := hc
      have h3 : l.drop ((digs l).length + 1) = t := by
        rw [← List.drop_drop, hd]; rfl
      rw [h3]; exact h2
  · cases h
theorem enh_chars {l : List UInt8} {x : Nat × Nat × Nat} (h : enhQ l = some x) : ∀ c ∈ l, digC c = true ∨ c = 46 := by
  rw [enhQ_eq] at h
  unfold enhR at h
  split at h
  · cases h
  · rename_i a r1 h1
    split at h
    · cases h
    · rename_i b r2 h2
      split at h
      · rename_i hc
        have e1 := step_chars h1
        have e2 := step_chars h2
        have e3 := digs_split r2
        rw [List.drop_of_length_le (by omega), List.append_nil] at e3
        have dg : ∀ t : List UInt8, ∀ c ∈ digs t, digC c = true ∨ c = 46 := fun t c hc => .inl (List.all_eq_true.1 (digs_all t) c hc)
        intro c hc
        rw [e1, List.mem_append, List.mem_cons] at hc
        rcases hc with hc | rfl | hc
        · exact dg _ c hc
        · exact .inr rfl
        · rw [e2, List.mem_append, List.mem_cons] at hc
          rcases hc with hc | rfl | hc
          · exact dg _ c hc
          · exact .inr rfl
          · rw [e3] at hc; exact dg _ c hc
      · cases h
theorem index_crlf : ∀ (X rest : List UInt8), (∀ c ∈ X, c ≠ 13) → Lib.index (X ++ 13 :: 10 :: rest) [13, 10] = X.length
  | [], rest, _ => by
    show Lib.index (13 :: 10 :: rest) [13, 10] = 0
    unfold Lib.index
    rw [if_pos (by simp [List.isPrefixOf])]
  | c :: X, rest, h => by
    have hc := h c List.mem_cons_self
    rw [List.cons_append]
    unfold Lib.index
    rw [if_neg (by simp only [List.isPrefixOf, Bool.and_eq_true, beq_iff_eq, not_and]; intro e; exact absurd e.symm hc), index_crlf X rest fun d hd => h d (List.mem_cons_of_mem _ hd), if_neg (by rw [beq_iff_eq]; omega)]
    simp
theorem index_sp : ∀ (X rest : List UInt8), (∀ c ∈ X, c ≠ 32) → Lib.index (X ++ 32 :: rest) [32] = X.length
  | [], rest, _ => by
    show Lib.index (32 :: rest) [32] = 0
    unfold Lib.index
    rw [if_pos (by simp [List.isPrefixOf])]
  | c :: X, rest, h => by
    have hc := h c List.mem_cons_self
    rw [List.cons_append]
    unfold Lib.index
    rw [if_neg (by simp only [List.isPrefixOf, Bool.and_true, beq_iff_eq]; intro e; exact absurd e.symm hc), index_sp X rest fun d hd => h d (List.mem_cons_of_mem _ hd), if_neg (by rw [beq_iff_eq]; omega)]
    simp
/-- a line as it is sent, without its end -/
def lineX (sign : UInt8) (code : Int) (e s : List UInt8) : List UInt8 := Lib.itoa code ++ ([sign] ++ ((if e = [] then [] else e ++ [32]) ++ s))
theorem lineL_X (sign : UInt8) (code : Int) (e s : List UInt8) : lineL sign code e s = lineX sign code e s ++ [13, 10] := by
  unfold lineL lineX; simp [List.append_assoc]
theorem three_val {a b c : UInt8} {m : Nat} (h1 : a.toNat = 48 + m / 100) (h2 : b.toNat = 48 + m / 10 % 10) (h3 : c.toNat = 48 + m % 10) (hm : m ≤ 599) : digC a = true ∧ digC b = true ∧ digC c = true ∧ valN 0 [a, b, c] = m := by
  refine ⟨?_, ?_, ?_, ?_⟩
  · unfold digC; rw [h1, decide_eq_true_eq]; omega
  · unfold digC; rw [h2, decide_eq_true_eq]; omega
  · unfold digC; rw [h3, decide_eq_true_eq]; omega
  · show ((0 * 10 + (a.toNat - 48)) * 10 + (b.toNat - 48)) * 10 + (c.toNat - 48) = m
    rw [h1, h2, h3]; omega
theorem byte_nat {n : Nat} (h : n < 256) : (UInt8.ofNat n).toNat = n := by rw [UInt8.toNat_ofNat']; omega
theorem three_dig {n : Int} (h0 : 200 ≤ n) (h1 : n ≤ 599) : ∃ a b c : UInt8, Lib.itoa n = [a, b, c] ∧ digC a = true ∧ digC b = true ∧ digC c = true ∧ valN 0 [a, b, c] = n.toNat := by
  obtain ⟨m, rfl⟩ : ∃ m : Nat, n = m := ⟨n.toNat, by omega⟩
  have hi := itoa_three h0 h1
  have e1 : ((m : Int) / 100).toNat = m / 100 := by omega
  have e2 : ((m : Int) / 10 % 10).toNat = m / 10 % 10 := by omega
  have e3 : ((m : Int) % 10).toNat = m % 10 := by omega
  rw [e1, e2, e3] at hi
  have t1 := byte_nat (n := 48 + m / 100) (by omega)
  have t2 := byte_nat (n := 48 + m / 10 % 10) (by omega)
  have t3 := byte_nat (n := 48 + m % 10) (by omega)
  generalize UInt8.ofNat (48 + m / 100) = a at hi t1
  generalize UInt8.ofNat (48 + m / 10 % 10) = b at hi t2
  generalize UInt8.ofNat (48 + m % 10) = c at hi t3
  have hv := three_val t1 t2 t3 (by omega)
  exact ⟨a, b, c, hi, hv.1, hv.2.1, hv.2.2.1, by rw [hv.2.2.2, Int.toNat_natCast]⟩
/-- A good reply's line is read as it was. -/
theorem lineQ_back {sign : UInt8} {code : Int} {e s : List UInt8} (hs : sign = 32 ∨ sign = 45) (h0 : 200 ≤ code) (h1 : code ≤ 599) (he : e ≠ [] → fitsB e code = true) (hl : lineB s = true) :
    (∀ c ∈ lineX sign code e s, c ≠ 13) ∧ lineQ (decide (e ≠ [])) (lineX sign code e s) = some (code.toNat, decide (sign = 45), e, s) := by
  obtain ⟨a, b, c, hi, ha, hb, hc, hv⟩ := three_dig h0 h1
  have hlc : ∀ x ∈ s, x ≠ 13 := fun x hx => by
    unfold lineB at hl
    rw [Bool.and_eq_true, List.all_eq_true] at hl
    have := hl.1 x hx
    unfold lineC at this
    rw [decide_eq_true_eq] at this
    intro e; subst e; revert this; decide
  have hec : ∀ x ∈ e, x ≠ 13 ∧ x ≠ 32 := fun x hx => by
    have hne : e ≠ [] := fun e0 => by rw [e0] at hx; cases hx
    have hf := he hne
    cases hq : enhQ e with
    | none => rw [fitsB_none hq] at hf; cases hf
    | some y =>
      rcases enh_chars hq x hx with h | rfl
      · have := dig_ok h
        exact ⟨fun e => by subst e; revert this; decide, fun e => by subst e; revert this; decide⟩
      · decide
  have hd13 : ∀ x, digC x = true → x ≠ 13 := fun x hx e => by subst e; revert hx; decide
  refine ⟨fun x hx => ?_, ?_⟩
  · unfold lineX at hx
    rw [hi] at hx
    simp only [List.mem_append, List.mem_cons, List.not_mem_nil, or_false] at hx
    rcases hx with (rfl | rfl | rfl) | rfl | hx | hx
    · exact hd13 _ ha
    · exact hd13 _ hb
    · exact hd13 _ hc
    · rcases hs with rfl | rfl <;> decide
    · split at hx
      · cases hx
      · rw [List.mem_append, List.mem_singleton] at hx
        rcases hx with hx | rfl
        · exact (hec x hx).1
        · decide
    · exact hlc x hx
  · have hX : lineX sign code e s = a :: b :: c :: sign :: ((if e = [] then [] else e ++ [32]) ++ s) := by unfold lineX; rw [hi]; rfl
    rw [hX]
    have hhead : headOk (a :: b :: c :: sign :: ((if e = [] then [] else e ++ [32]) ++ s)) = true := by
      unfold headOk
      have hall : ([a, b, c] : List UInt8).all digC = true := by simp [ha, hb, hc]
      have h3 : (a :: b :: c :: sign :: ((if e = [] then [] else e ++ [32]) ++ s)).take 3 = [a, b, c] := rfl
      have h4 : (a :: b :: c :: sign :: ((if e = [] then [] else e ++ [32]) ++ s)).getD 3 0 = sign := rfl
      rw [h3, h4, hall, hv, decide_eq_true hs, decide_eq_true (by simp), decide_eq_true (by omega)]; rfl
    unfold lineQ
    rw [if_pos hhead]
    have h3 : (a :: b :: c :: sign :: ((if e = [] then [] else e ++ [32]) ++ s)).take 3 = [a, b, c] := rfl
    have h4 : (a :: b :: c :: sign :: ((if e = [] then [] else e ++ [32]) ++ s)).getD 3 0 = sign := rfl
    have h5 : (a :: b :: c :: sign :: ((if e = [] then [] else e ++ [32]) ++ s)).drop 4 = (if e = [] then [] else e ++ [32]) ++ s := rfl
    rw [h3, h4, h5, hv]
    by_cases hne : e = []
    · subst hne
      rw [if_neg (by simp), if_pos rfl, List.nil_append, if_pos hl]
    · rw [if_pos (by simp [hne]), if_neg hne]
      have hcut : Lib.cut (e ++ [32] ++ s) [32] = (e, s, true) := by
        unfold Lib.cut
        have hx : Lib.index (e ++ [32] ++ s) [32] = e.length := by
          rw [List.append_assoc]
          exact index_sp e s fun c hc => (hec c hc).2
        rw [hx, if_pos (by omega)]
        simp [List.drop_append]
      rw [hcut]
      have hf : fitsB e (code.toNat : Int) = true := by rw [show ((code.toNat : Nat) : Int) = code by omega]; exact he hne
      rw [if_pos (by rw [hf, hl]; rfl)]
structure GoodR (code : Int) (e : List UInt8) (ss : List ByteArray) : Prop where
  lo : 200 ≤ code
  hi : code ≤ 599
  fit : e ≠ [] → fitsB e code = true
  ne : ss ≠ []
  line : ∀ s ∈ ss, lineB s.data.toList = true
theorem goodR_out {code : Int} {e : List UInt8} {ss : List ByteArray} (h : goodR code e ss = true) : GoodR code e ss := by
  have hc := good_code h
  unfold goodR at h
  simp only [Bool.and_eq_true, Bool.or_eq_true, Bool.not_eq_true', List.all_eq_true] at h
  refine ⟨hc.1, hc.2, fun hne => ?_, fun e => ?_, h.2.2.2⟩
  · rcases h.2.1 with h | h
    · exact absurd (List.isEmpty_iff.1 h) hne
    · exact h
  · rw [e] at h; simp at h
/-- A good reply is read as it was. -/
theorem readQ_back {enh : Bool} {code : Int} {e : List UInt8} (h0 : 200 ≤ code) (h1 : code ≤ 599) (he : e ≠ [] → fitsB e code = true) (henh : enh = decide (e ≠ [])) (b rest : List UInt8) : ∀ (ss : List ByteArray) (n c0 : Nat) (e0 : List UInt8) (ts : List ByteArray), ss ≠ [] → (∀ s ∈ ss, lineB s.data.toList = true) →
    b.drop n = bytesL code e ss ++ rest → n ≤ b.length → (ts = [] ∨ (c0 = code.toNat ∧ e0 = e)) → readQ enh b n c0 e0 ts = .ok (code.toNat, e, ts ++ ss, n + (bytesL code e ss).length)
  | [], n, c0, e0, ts, hne, _, _, _, _ => absurd rfl hne
  | [s], n, c0, e0, ts, _, hl, hb, hn, hts => by
    obtain ⟨hcr, hq⟩ := lineQ_back (sign := 32) (.inl rfl) h0 h1 he (hl s List.mem_cons_self)
    have hbl : bytesL code e [s] = lineX 32 code e s.data.toList ++ [13, 10] := lineL_X _ _ _ _
    have hidx : Lib.index (b.drop n) [13, 10] = (lineX 32 code e s.data.toList).length := by
      rw [hb, hbl, List.append_assoc]
      exact index_crlf _ rest hcr
    have htk : (b.drop n).take (lineX 32 code e s.data.toList).length = lineX 32 code e s.data.toList := by
      rw [hb, hbl, List.append_assoc]; simp
    rw [readQ_some hidx (by rw [htk, henh]; exact hq), if_neg (by rintro ⟨h, h2⟩; rcases hts with h3 | ⟨h3, h4⟩; exact h h3; exact h2.elim (fun h => h h3.symm) (fun h => h h4.symm)), if_neg (by decide), hbl]
    have : (⟨s.data.toList.toArray⟩ : ByteArray) = s := by cases s; simp
    rw [this, List.length_append]
    congr 4
  | s :: t :: r, n, c0, e0, ts, _, hl, hb, hn, hts => by
    obtain ⟨hcr, hq⟩ := lineQ_back (sign := 45) (.inr rfl) h0 h1 he (hl s List.mem_cons_self)
    have hbl : bytesL code e (s :: t :: r) = (lineX 45 code e s.data.toList ++ [13, 10]) ++ bytesL code e (t :: r) := by
      rw [← lineL_X]; rfl
    have hidx : Lib.index (b.drop n) [13, 10] = (lineX 45 code e s.data.toList).length := by
      rw [hb, hbl, List.append_assoc, List.append_assoc]
      exact index_crlf _ _ hcr
    have htk : (b.drop n).take (lineX 45 code e s.data.toList).length = lineX 45 code e s.data.toList := by
      rw [hb, hbl, List.append_assoc, List.append_assoc]; simp
    have hlen : (b.drop n).length = (bytesL code e (s :: t :: r)).length + rest.length := by rw [hb, List.length_append]
    rw [List.length_drop, hbl] at hlen
    simp only [List.length_append, List.length_cons, List.length_nil] at hlen
    rw [readQ_some hidx (by rw [htk, henh]; exact hq), if_neg (by rintro ⟨h, h2⟩; rcases hts with h3 | ⟨h3, h4⟩; exact h h3; exact h2.elim (fun h => h h3.symm) (fun h => h h4.symm)), if_pos (by decide)]
    have : (⟨s.data.toList.toArray⟩ : ByteArray) = s := by cases s; simp
    rw [this, readQ_back h0 h1 he henh b rest (t :: r) (n + (lineX 45 code e s.data.toList).length + 2) code.toNat e (ts ++ [s]) (by simp) (fun x hx => hl x (List.mem_cons_of_mem _ hx)) (by
      rw [Nat.add_assoc, ← List.drop_drop, hb, hbl, List.append_assoc, List.drop_append_of_le_length (by simp), List.drop_of_length_le (by simp)]; rfl) (by omega) (.inr ⟨rfl, rfl⟩)]
    rw [hbl]
    simp only [List.length_append, List.length_cons, List.length_nil, List.append_assoc, List.singleton_append]
    congr 4
    omega
namespace AX
/-- replies: code, enhanced code, lines -/
abbrev Rep := Int × List UInt8 × List (List UInt8)
def repB (r : Rep) : List UInt8 := bytesL r.1 r.2.1 (r.2.2.map baOf)
def repC (r : Rep) : List Cell := [.int .i64 r.1, .str r.2.1, .sl none 1 (r.2.2.map Cell.str)]
def repsC (l : List Rep) : List Cell := l.flatMap repC
def repsB (l : List Rep) : List UInt8 := l.flatMap repB
def RepOk (enh : Bool) (r : Rep) : Prop := GoodR r.1 r.2.1 (r.2.2.map baOf) ∧ enh = decide (r.2.1 ≠ [])
theorem repsC_len : ∀ l : List Rep, (repsC l).length = 3 * l.length
  | [] => rfl
  | r :: l => by
    have := repsC_len l
    simp only [repsC, List.flatMap_cons, List.length_append] at this ⊢
    rw [this]; simp [repC]; omega
theorem repsC_at : ∀ (l : List Rep) (i : Nat) (h : i < l.length), ((repsC l).drop (i * 3)).take 3 = repC l[i]
  | r :: l, 0, _ => by simp [repsC, repC]
  | r :: l, i + 1, h => by
    have ih := repsC_at l i (by simpa using h)
    have : (repsC (r :: l)).drop ((i + 1) * 3) = (repsC l).drop (i * 3) := by
      rw [show (i + 1) * 3 = 3 + i * 3 by omega, ← List.drop_drop]
      simp [repsC, repC]
    rw [this, ih]; rfl
theorem strC_ba (ls : List (List UInt8)) : (ls.map baOf).map strC = ls.map Cell.str := by
  rw [List.map_map]; exact List.map_congr_left fun l _ => by simp [strC, baOf]
theorem allR_back {enh : Bool} (s : List UInt8) : ∀ (l : List Rep) (m at_ : Nat) (out : List Cell), (∀ r ∈ l, RepOk enh r) → s.drop at_ = repsB l → at_ ≤ s.length → s.length < at_ + m → allR enh s m at_ out = some (out ++ repsC l, 0)
  | _, 0, at_, out, _, _, h1, h2 => by omega
  | [], m + 1, at_, out, _, hs, h1, h2 => by
    have : s.length - at_ = 0 := by rw [← List.length_drop, hs]; rfl
    unfold allR
    rw [if_neg (by omega)]; simp [repsC]
  | r :: l, m + 1, at_, out, hr, hs, h1, h2 => by
    obtain ⟨hg, henh⟩ := hr r List.mem_cons_self
    have hs2 : s.drop at_ = repB r ++ repsB l := hs
    have hq := readQ_back hg.lo hg.hi hg.fit henh s (repsB l) (r.2.2.map baOf) at_ 0 [] [] hg.ne hg.line hs2 h1 (.inl rfl)
    have hb := readQ_ok (s.length + 1) _ _ _ _ _ _ _ _ (by omega) hq
    unfold allR
    rw [if_pos (by omega), hq]
    simp only [List.nil_append]
    rw [allR_back s l m _ _ (fun x hx => hr x (List.mem_cons_of_mem _ hx)) (by
      rw [← List.drop_drop, hs2, show bytesL r.1 r.2.1 (r.2.2.map baOf) = repB r from rfl, List.drop_left]) hb.2 (by omega)]
    have hlo := hg.lo
    rw [strC_ba, show ((r.1.toNat : Nat) : Int) = r.1 by omega]
    simp [repsC, repC]
end AX
end Go.Proofs.YtalkglheaadigaaDoor
namespace Go.Proofs.YtalkglheaadigaaDoor
open Go.ChangeShapes Go.WideShapes Go.ChangeAt Go.RowKit
namespace AX
theorem few_len {e : List UInt8} {ls : List (List UInt8)} (h : few8B e (ls.map baOf) = true) : e.length ≤ 100 ∧ ls.length ≤ 20 ∧ ∀ l ∈ ls, l.length ≤ 500 := by
  obtain ⟨h1, h2, h3⟩ := few8_bd h
  refine ⟨h2, by simpa using h1, fun l hl => ?_⟩
  have := h3 (baOf l) (List.mem_map.2 ⟨l, hl, rfl⟩)
  have h4 : l.toArray.size ≤ 500 := this
  simpa using h4
theorem lineL_len {sign : UInt8} {code : Int} {e s : List UInt8} (h0 : 200 ≤ code) (h1 : code ≤ 599) : (lineL sign code e s).length ≤ e.length + s.length + 7 := by
  unfold lineL
  simp only [List.length_append, itoa_len h0 h1, List.length_cons, List.length_nil]
  split <;> simp <;> omega
theorem bytesL_len {code : Int} {e : List UInt8} (h0 : 200 ≤ code) (h1 : code ≤ 599) (he : e.length ≤ 100) : ∀ ls : List (List UInt8), (∀ l ∈ ls, l.length ≤ 500) → (bytesL code e (ls.map baOf)).length ≤ 607 * ls.length
  | [], _ => by simp [bytesL]
  | [a], h => by
    have h2 := h a List.mem_cons_self
    have := lineL_len (sign := 32) (e := e) (s := (baOf a).data.toList) h0 h1
    have e1 : (baOf a).data.toList = a := by simp [baOf]
    rw [e1] at this
    show (lineL 32 code e (baOf a).data.toList).length ≤ _
    rw [e1]; simp; omega
  | a :: b :: r, h => by
    have h2 := h a List.mem_cons_self
    have ih := bytesL_len h0 h1 he (b :: r) fun l hl => h l (List.mem_cons_of_mem _ hl)
    have := lineL_len (sign := 45) (e := e) (s := (baOf a).data.toList) h0 h1
    have e1 : (baOf a).data.toList = a := by simp [baOf]
    show (lineL 45 code e (baOf a).data.toList ++ bytesL code e ((b :: r).map baOf)).length ≤ _
    rw [e1] at this ⊢
    rw [List.length_append]
    simp only [List.length_cons] at ih ⊢
    omega
/-- the law's last loop -/
theorem f5_last {call : CallF} {N : Nat} (l : List Cell) (b : Nat) (hl : Repls b l) (hlen : l.length ≤ 1000000) (hsm : SameAt call b) : ∀ (m i : Nat), i * 3 ≤ l.length → l.length < (i + m) * 3 →
    f5_L31 call N m l l i = some (.one (.bool true), [])
  | 0, i, h1, h2 => by omega
  | m + 1, i, h1, h2 => by
    have ih := f5_last (call := call) (N := N) l b hl hlen hsm m (i + 1)
    unfold f5_L31 f5_T31
    obtain ⟨k, hk⟩ := hl.len3
    have hw : IntKind.wrap .i64 ((i : Int) + 1) = ((i + 1 : Nat) : Int) := wrap_ok (by omega) (by omega)
    by_cases h : i < k
    · rw [decide_eq_true (by omega), cond_true]
      have hg : (decide (0 ≤ (i : Int)) && decide (i * 3 + 3 ≤ l.length)) = true := by
        rw [Bool.and_eq_true, decide_eq_true_eq, decide_eq_true_eq]; omega
      obtain ⟨c, e, ls, h3, h4⟩ := hl.at i (by omega)
      have hs := hsm c e ls h4
      simp only [Int.toNat_natCast, guard_ok hg, h3, consK, castI, castS, castL, if_pos, Nat.beq_refl, Bool.true_or, cond_true, callK, hs, castOne, castB, Bool.not_true, cond_false, hw]
      exact ih (by omega) (by omega)
    · rw [decide_eq_false (by omega), cond_false]
theorem repsC_snoc (l : List Rep) (r : Rep) : repsC (l ++ [r]) = repsC l ++ repC r := by simp [repsC]
theorem repsB_snoc (l : List Rep) (r : Rep) : repsB (l ++ [r]) = repsB l ++ repB r := by simp [repsB]
theorem repls_app {b : Nat} : ∀ (l : List Rep) (l1 : List Cell), Repls b l1 → (∀ r ∈ l, r.2.2.length ≤ b) → Repls b (l1 ++ repsC l)
  | [], l1, h, _ => by simpa [repsC] using h
  | r :: l, l1, h, hr => by
    have := repls_app l (l1 ++ repC r) (.snoc l1 r.1 r.2.1 r.2.2 h (hr r List.mem_cons_self)) fun x hx => hr x (List.mem_cons_of_mem _ hx)
    rw [List.append_assoc] at this
    exact this
theorem repls_snoc {b : Nat} (l : List Rep) (h : ∀ r ∈ l, r.2.2.length ≤ b) : Repls b (repsC l) := by simpa using repls_app l [] .nil h
theorem f5_loop {call : CallF} {N : Nat} (enh : Bool) (xs : List Rep) (hx10 : xs.length ≤ 10) (hmax : ∀ r ∈ xs, r.2.1.length ≤ maxLen ∧ r.2.2.length ≤ maxLen) (hN : 10 < N)
    (hsm : SameAt call 20) (hall : ∀ l : List Rep, (∀ r ∈ l, RepOk enh r) → (repsB l).length ≤ 200000 → ∃ nm, call 20 [.one (.sl none 1 (AX.byteCells (repsB l))), .one (.bool enh)] [] = some (.tup [.one (.sl nm 3 (repsC l)), .one (.int .i64 0)], [])) : ∀ (m i : Nat) (ins : List Rep), i ≤ xs.length → xs.length < i + m → (∀ r ∈ ins, RepOk enh r ∧ r.2.2.length ≤ 20) → ins.length ≤ i → (repsB ins).length ≤ 12140 * i →
    f5_L10 call N m (repsC xs) enh (AX.byteCells (repsB ins)) (repsC ins) i = some (.one (.bool true), [])
  | 0, i, ins, h1, h2, _, _, _ => by omega
  | m + 1, i, ins, h1, h2, hins, hil, hbl => by
    have hxl := repsC_len xs
    have hil2 := repsC_len ins
    have hbc : (AX.byteCells (repsB ins)).length = (repsB ins).length := by simp [AX.byteCells]
    unfold f5_L10 f5_T10
    have hw : IntKind.wrap .i64 ((i : Int) + 1) = ((i + 1 : Nat) : Int) := wrap_ok (by omega) (by omega)
    by_cases h : i < xs.length
    · rw [decide_eq_true (by omega), cond_true]
      have hg : (decide (0 ≤ (i : Int)) && decide (i * 3 + 3 ≤ (repsC xs).length)) = true := by
        rw [Bool.and_eq_true, decide_eq_true_eq, decide_eq_true_eq]; omega
      have hat := repsC_at xs i h
      have hmx := hmax xs[i] (List.getElem_mem h)
      generalize xs[i] = R at hat hmx
      obtain ⟨code, e, ls⟩ := R
      have hrc : repC (code, e, ls) = [.int .i64 code, .str e, .sl none 1 (ls.map Cell.str)] := rfl
      rw [hrc] at hat
      have hfew : pFew [.agg [.int .i64 code, .str e, .sl none 1 (ls.map Cell.str)]] = some (.one (.bool (few8B e (ls.map baOf)))) := by
        unfold pFew
        have h1 : (decide (e.length ≤ maxLen) && decide (ls.length ≤ maxLen)) = true := by simp [hmx.1, hmx.2]
        rw [replyK_at, h1]; rfl
      simp only [Int.toNat_natCast, guard_ok hg, hat, consK, castI, castS, castL, if_pos, Nat.beq_refl, Bool.true_or, cond_true, primK, hfew, castOne, castB]
      cases hf : few8B e (ls.map baOf) with
      | false => rfl
      | true =>
        obtain ⟨he100, hls20, hl500⟩ := few_len hf
        simp only [Bool.not_true, cond_false, pBytes_at hf, pGood_at hf]
        cases hgd : goodR code e (ls.map baOf) with
        | false =>
          have ih := f5_loop (call := call) (N := N) enh xs hx10 hmax hN hsm hall m (i + 1) ins (by omega) (by omega) hins (by omega) (by omega)
          rw [← ih]
          simp only [cond_false, castTup, consK, oneV, castL, castI, nilK, if_pos, Nat.beq_refl, Bool.true_or, Bool.or_true, cond_true]
          rw [show (!(((3 : Int) == 0) == false)) = false from rfl, cond_false, show ((3 : Int) != 0) = true from rfl, cond_true]
          simp only [f5_L22, f5_T22, cond_true, f5_L29, f5_T29, hw]
        | true =>
          have hG := goodR_out hgd
          have hBl := bytesL_len hG.lo hG.hi he100 ls hl500
          simp only [cond_true, castTup, consK, oneV, castL, castI, castS, nilK, if_pos, Nat.beq_refl, Bool.true_or, Bool.or_true]
          rw [show (!(((0 : Int) == 0) == true)) = false from rfl, cond_false, show ((0 : Int) != 0) = false from rfl, cond_false]
          have hd1 : (([.int .i64 code, .str e, .sl none 1 (ls.map Cell.str)] : List Cell).drop 1).take 1 = [.str e] := rfl
          simp only [hd1]
          by_cases hen : enh = decide (e ≠ [])
          · have hfl : (!((!(e == [])) == enh)) = false := by
              rw [hen]; cases e <;> rfl
            rw [hfl]
            have ih := f5_loop (call := call) (N := N) enh xs hx10 hmax hN hsm hall m (i + 1) (ins ++ [(code, e, ls)]) (by omega) (by omega) (fun r hr => by
              rcases List.mem_append.1 hr with hr | hr
              · exact hins r hr
              · rw [List.mem_singleton] at hr; subst hr; exact ⟨⟨hG, hen⟩, hls20⟩) (by simp; omega) (by rw [repsB_snoc, List.length_append]; show (repsB ins).length + (bytesL code e (ls.map baOf)).length ≤ _; omega)
            rw [← ih]
            simp only [f5_L22, f5_T22, cond_false]
            have hbc2 : (AX.byteCells (bytesL code e (ls.map baOf))).length = (bytesL code e (ls.map baOf)).length := by simp [AX.byteCells]
            rw [guard_ok (by rw [decide_eq_true_eq, hbc, hbc2]; unfold rowLim; omega)]
            simp only [Int.toNat_natCast, guard_ok hg, hat, consK, castI, castS, castL, if_pos, Nat.beq_refl, Bool.true_or, cond_true]
            rw [guard_ok (by rw [decide_eq_true_eq, hil2]; unfold rowLim; simp; omega), hw, repsC_snoc, repsB_snoc]
            have hby : AX.byteCells (repsB ins ++ repB (code, e, ls)) = AX.byteCells (repsB ins) ++ AX.byteCells (bytesL code e (ls.map baOf)) := by
              simp [AX.byteCells, repB]
            rw [hby]
            rfl
          · have hfl : (!((!(e == [])) == enh)) = true := by
              cases e <;> cases enh <;> first | rfl | (exfalso; apply hen; rfl)
            rw [hfl]
            have ih := f5_loop (call := call) (N := N) enh xs hx10 hmax hN hsm hall m (i + 1) ins (by omega) (by omega) hins (by omega) (by omega)
            rw [← ih]
            simp only [f5_L22, f5_T22, cond_true, f5_L29, f5_T29, hw]
    · rw [decide_eq_false (by omega), cond_false]
      obtain ⟨nm, hA⟩ := hall ins (fun r hr => (hins r hr).1) (by omega)
      simp only [callK, hA, castTup, consK, oneV, castL, castI, nilK, if_pos, Nat.beq_refl, Bool.true_or, cond_true]
      rw [show ((0 : Int) != 0) = false from rfl, cond_false, show ∀ z : Int, (z != z) = false by simp]
      simp only [f5_L26, f5_T26, cond_false]
      exact f5_last (repsC ins) 20 (repls_snoc ins fun r hr => (hins r hr).2) (by omega) hsm N 0 (by omega) (by omega)
theorem all_back (n : Nat) (enh : Bool) (l : List Rep) (hl : ∀ r ∈ l, RepOk enh r) (hb : (repsB l).length ≤ 200000) (hn : 200000 ≤ n) : ∃ nm, acall AXE AXF (n + 1) 20 [.one (.sl none 1 (AX.byteCells (repsB l))), .one (.bool enh)] [] = some (.tup [.one (.sl nm 3 (repsC l)), .one (.int .i64 0)], []) := by
  obtain ⟨r, hr1, nm, hr2⟩ := f20_loop (call := acall AXE AXF n) (n := n + 1) enh (repsB l) (by omega) (n + 1) 0 [] (by omega) (by omega) (by simp)
  rw [allR_back (enh := enh) (repsB l) l (n + 1) 0 [] hl (by rw [List.drop_zero]) (by omega) (by omega)] at hr1
  cases hr1
  rw [List.drop_zero, List.nil_append] at hr2
  refine ⟨nm, ?_⟩
  rw [f20_eq]
  unfold f20_L f20_T
  exact hr2
theorem back_law (xs : List Rep) (enh : Bool) (hmax : ∀ r ∈ xs, r.2.1.length ≤ maxLen ∧ r.2.2.length ≤ maxLen) : acall AXE AXF 300001 5 [.one (.sl none 3 (repsC xs)), .one (.bool enh)] [] = some (.one (.bool true), []) := by
  rw [show (300001 : Nat) = 300000 + 1 from rfl, f5_eq]
  have haw : acall AXE AXF 300000 16 [] [] = some (.one (.bool true), []) := awake_true 299994
  have hsm : SameAt (acall AXE AXF 300000) 20 := same_at (n := 299999) (by omega) (by omega)
  have hall := fun l hl hb => all_back 299999 enh l hl hb (by omega)
  rw [show (299999 + 1 : Nat) = 300000 from rfl] at hall
  generalize acall AXE AXF 300000 = call at haw hsm hall
  unfold f5_L f5_T
  simp only [callK, haw, castOne, castB, Bool.not_true, cond_false]
  have hl := repsC_len xs
  by_cases h : xs.length > 10
  · rw [decide_eq_true (by omega), cond_true]
  · rw [decide_eq_false (by omega), cond_false]
    have := f5_loop (call := call) (N := 300000 + 1) enh xs (by omega) hmax (by omega) hsm hall (300000 + 1) 0 [] (by omega) (by omega) (fun r hr => by cases hr) (by simp) (by simp [repsB])
    exact this
end AX
end Go.Proofs.YtalkglheaadigaaDoor
