/-
  Layer 31's plain functions: pieces between a byte, numerals, data in quotes. No program in sight.
-/
import Derived.Lib.Split
import Derived.Lib.Join
import Derived.Lib.AtoiAll
import Derived.Lib.ItoaNum
import Derived.Lib.IndexBytes
set_option maxRecDepth 20000
set_option linter.unusedVariables false
set_option linter.unusedSimpArgs false
set_option linter.unusedSectionVars false
namespace Go.Proofs.YtfbicbgdfcbhpaaDoor
namespace SC
/-! pieces between a byte -/
def spl (c : UInt8) : List UInt8 → List (List UInt8)
  | [] => [[]]
  | x :: r => if x = c then [] :: spl c r else match spl c r with
    | h :: t => (x :: h) :: t
    | [] => [[x]]
theorem spl_ne (c : UInt8) : ∀ l, spl c l ≠ []
  | [] => by simp [spl]
  | x :: r => by
    unfold spl
    split
    · simp
    · split <;> simp
theorem spl_no {c : UInt8} : ∀ {l : List UInt8}, (∀ x ∈ l, x ≠ c) → spl c l = [l]
  | [], _ => rfl
  | x :: r, h => by
    unfold spl
    rw [if_neg (h x (by simp)), spl_no fun y hy => h y (by simp [hy])]
theorem spl_hit {c : UInt8} : ∀ (a b : List UInt8), (∀ x ∈ a, x ≠ c) → spl c (a ++ c :: b) = a :: spl c b
  | [], b, _ => by rw [List.nil_append, spl, if_pos rfl]
  | x :: r, b, h => by
    rw [List.cons_append, spl, if_neg (h x (by simp)), spl_hit r b fun y hy => h y (by simp [hy])]
theorem hit_cases (c : UInt8) : ∀ l : List UInt8, (∀ x ∈ l, x ≠ c) ∨ ∃ a b, l = a ++ c :: b ∧ ∀ x ∈ a, x ≠ c
  | [] => .inl (by simp)
  | x :: r => by
    by_cases hx : x = c
    · exact .inr ⟨[], r, by simp [hx], by simp⟩
    · rcases hit_cases c r with h | ⟨a, b, h1, h2⟩
      · refine .inl fun y hy => ?_
        rcases List.mem_cons.1 hy with rfl | hy
        · exact hx
        · exact h y hy
      · refine .inr ⟨x :: a, b, by rw [h1]; rfl, fun y hy => ?_⟩
        rcases List.mem_cons.1 hy with rfl | hy
        · exact hx
        · exact h2 y hy
theorem spl_mem {c : UInt8} : ∀ {l : List UInt8} {p : List UInt8}, p ∈ spl c l → ∀ x ∈ p, x ≠ c
  | [], p, h => by simp [spl] at h; subst h; simp
  | y :: r, p, h => by
    have ih := @spl_mem c r
    unfold spl at h
    split at h
    · rcases List.mem_cons.1 h with rfl | h
      · simp
      · exact ih h
    · rename_i hy
      split at h
      · rename_i h0 t0 e
        rcases List.mem_cons.1 h with rfl | h
        · intro x hx
          rcases List.mem_cons.1 hx with rfl | hx
          · exact hy
          · exact ih (p := h0) (by rw [e]; simp) x hx
        · exact ih (by rw [e]; simp [h])
      · rename_i e; exact absurd e (spl_ne c r)
theorem join_two (x y : List UInt8) (r : List (List UInt8)) (s : List UInt8) : Lib.join (x :: y :: r) s = x ++ s ++ Lib.join (y :: r) s := by
  rw [Lib.join_cons, Lib.join_cons]
  simp [Lib.joinTail]
theorem join_spl (c : UInt8) : ∀ l : List UInt8, Lib.join (spl c l) [c] = l
  | [] => by rw [spl, Lib.join_one]
  | x :: r => by
    have ih := join_spl c r
    unfold spl
    split
    · rename_i hx
      cases hs : spl c r with
      | nil => exact absurd hs (spl_ne c r)
      | cons h t => rw [join_two, ← hs, ih, hx]; rfl
    · split
      · rename_i h t e
        rw [e] at ih
        rw [← ih]
        cases t with
        | nil => rw [Lib.join_one, Lib.join_one]
        | cons h2 t2 => rw [join_two, join_two]; rfl
      · rename_i e; exact absurd e (spl_ne c r)
theorem spl_join {c : UInt8} : ∀ {ws : List (List UInt8)}, ws ≠ [] → (∀ w ∈ ws, ∀ x ∈ w, x ≠ c) → spl c (Lib.join ws [c]) = ws
  | [], h, _ => absurd rfl h
  | [w], _, h => by rw [Lib.join_one, spl_no (h w (by simp))]
  | w :: v :: r, _, h => by
    rw [join_two, List.append_assoc]
    show spl c (w ++ c :: Lib.join (v :: r) [c]) = _
    rw [spl_hit _ _ (h w (by simp)), spl_join (by simp) fun y hy => h y (by simp [List.mem_cons.1 hy])]
theorem index_hit1 {c : UInt8} (r : List UInt8) : ∀ n : List UInt8, (∀ x ∈ n, x ≠ c) → Lib.index (n ++ c :: r) [c] = n.length
  | [], _ => by rw [List.nil_append, Lib.index, if_pos (by simp [List.isPrefixOf])]; first | done | rfl
  | x :: n, h => by
    have ih := index_hit1 r n fun d hd => h d (List.mem_cons_of_mem _ hd)
    have hc := h x (List.mem_cons_self ..)
    rw [List.cons_append, Lib.index, if_neg (by simp [List.isPrefixOf]; exact fun e => hc e.symm), ih, if_neg (by first | (simp; done) | (simp; omega))]
    simp
theorem index_no1 {c : UInt8} : ∀ {t : List UInt8}, (∀ x ∈ t, x ≠ c) → Lib.index t [c] = -1
  | [], _ => by simp [Lib.index]
  | x :: r, h => by
    have ih := index_no1 (t := r) fun d hd => h d (List.mem_cons_of_mem _ hd)
    have hc := h x (List.mem_cons_self ..)
    rw [Lib.index, if_neg (by simp [List.isPrefixOf]; exact fun e => hc e.symm), ih]
    rfl
theorem split_eq (c : UInt8) : ∀ (n : Nat) (l : List UInt8), l.length ≤ n → Lib.split l [c] = spl c l
  | n, l, hn => by
    rcases hit_cases c l with h | ⟨a, b, rfl, h⟩
    · rw [spl_no h]
      unfold Lib.split
      rw [Lib.count_miss (index_no1 h)]; rfl
    · cases n with
      | zero => simp at hn
      | succ n =>
        have hi := index_hit1 b a h
        have hd : (a ++ c :: b).drop (a.length + ([c] : List UInt8).length) = b := by simp
        rw [spl_hit a b h, ← split_eq c n b (by simp at hn; omega)]
        unfold Lib.split
        rw [Lib.count_hit (by simp) hi, hd, Nat.add_comm 1, Lib.splitK, if_neg (by rw [hi]; first | (simp; done) | (simp; omega)), hi]
        simp only [Int.toNat_natCast]
        rw [hd]
        simp
theorem cut_no {c : UInt8} {l : List UInt8} (h : ∀ x ∈ l, x ≠ c) : Lib.cut l [c] = (l, [], false) := by
  unfold Lib.cut; rw [index_no1 h, if_neg (by decide)]
theorem cut_hit {c : UInt8} (a b : List UInt8) (h : ∀ x ∈ a, x ≠ c) : Lib.cut (a ++ c :: b) [c] = (a, b, true) := by
  unfold Lib.cut
  rw [index_hit1 b a h, if_pos (by omega)]
  simp
/-- A cut, by the pieces. -/
theorem cut_spl (c : UInt8) (l : List UInt8) : (∃ w, spl c l = [w] ∧ Lib.cut l [c] = (w, [], false)) ∨ ∃ w v r, spl c l = w :: v :: r ∧ Lib.cut l [c] = (w, Lib.join (v :: r) [c], true) := by
  rcases hit_cases c l with h | ⟨a, b, rfl, h⟩
  · exact .inl ⟨l, spl_no h, cut_no h⟩
  · refine .inr ?_
    cases hs : spl c b with
    | nil => exact absurd hs (spl_ne c b)
    | cons v r => exact ⟨a, v, r, by rw [spl_hit a b h, hs], by rw [cut_hit a b h, ← hs, join_spl]⟩

/-! numerals -/
def inB (n : Int) : Bool := decide (-9007199254740992 ≤ n) && decide (n ≤ 9007199254740992)
theorem inB_iff (n : Int) : inB n = true ↔ -9007199254740992 ≤ n ∧ n ≤ 9007199254740992 := by unfold inB; simp
/-- A number's text, where it may be told. -/
def numQ (s : List UInt8) : Option Int := match Lib.atoiAll s with
  | .ok v => if Lib.itoa v = s ∧ inB v = true then some v else none
  | _ => none
theorem dec_small {u : Nat} (h : u < 10) : Lib.decDigits u = [UInt8.ofNat (48 + u)] := by rw [Lib.decDigits, dif_pos h]
theorem dec_big {u : Nat} (h : ¬ u < 10) : Lib.decDigits u = Lib.decDigits (u / 10) ++ [UInt8.ofNat (48 + u % 10)] := by rw [Lib.decDigits, dif_neg h]
theorem dig_nat {d : Nat} (h : d < 10) : (UInt8.ofNat (48 + d)).toNat = 48 + d := by rw [UInt8.toNat_ofNat']; omega
theorem parse_app : ∀ (xs : List UInt8) (acc : Nat) (ys : List UInt8) (a : Nat), Lib.parseUint10 acc xs = .ok a → Lib.parseUint10 acc (xs ++ ys) = Lib.parseUint10 a ys
  | [], acc, ys, a, h => by
    simp only [Lib.parseUint10] at h
    cases h; rfl
  | x :: xs, acc, ys, a, h => by
    rw [List.cons_append]
    simp only [Lib.parseUint10] at h ⊢
    split at h
    · rename_i h1
      rw [if_pos h1]
      split at h
      · cases h
      · rename_i h2
        rw [if_neg h2]
        split at h
        · cases h
        · rename_i h3
          rw [if_neg h3]
          exact parse_app xs _ ys a h
    · cases h
theorem parse_dec (u : Nat) (h : u < 18446744073709551616) : Lib.parseUint10 0 (Lib.decDigits u) = .ok u := by
  induction u using Nat.strongRecOn with
  | _ u ih =>
    by_cases hu : u < 10
    · rw [dec_small hu]
      simp only [Lib.parseUint10, dig_nat hu]
      rw [if_pos (by omega), if_neg (by omega), if_neg (by omega)]
      congr 1; omega
    · rw [dec_big hu, parse_app _ _ _ _ (ih (u / 10) (by omega) (by omega))]
      simp only [Lib.parseUint10, dig_nat (Nat.mod_lt u (by omega : 10 > 0))]
      rw [if_pos (by omega), if_neg (by omega), if_neg (by omega)]
      congr 1; omega
theorem dec_head (u : Nat) : ∃ c r, Lib.decDigits u = c :: r ∧ 48 ≤ c.toNat ∧ c.toNat ≤ 57 := by
  induction u using Nat.strongRecOn with
  | _ u ih =>
    by_cases hu : u < 10
    · exact ⟨_, [], dec_small hu, by rw [dig_nat hu]; omega, by rw [dig_nat hu]; omega⟩
    · obtain ⟨c, r, h1, h2, h3⟩ := ih (u / 10) (by omega)
      exact ⟨c, r ++ [UInt8.ofNat (48 + u % 10)], by rw [dec_big hu, h1]; rfl, h2, h3⟩
theorem dec_mem (u : Nat) : ∀ c ∈ Lib.decDigits u, 48 ≤ c.toNat ∧ c.toNat ≤ 57 := by
  induction u using Nat.strongRecOn with
  | _ u ih =>
    intro c hc
    by_cases hu : u < 10
    · rw [dec_small hu, List.mem_singleton] at hc
      subst hc; rw [dig_nat hu]; omega
    · rw [dec_big hu, List.mem_append, List.mem_singleton] at hc
      rcases hc with hc | rfl
      · exact ih _ (by omega) c hc
      · rw [dig_nat (Nat.mod_lt u (by omega : 10 > 0))]; omega
theorem dec_len : ∀ (u k : Nat), u < 10 ^ (k + 1) → (Lib.decDigits u).length ≤ k + 1
  | u, 0, h => by rw [dec_small (by simpa using h)]; simp
  | u, k + 1, h => by
    by_cases hu : u < 10
    · rw [dec_small hu]; simp
    · have := dec_len (u / 10) k (by rw [Nat.pow_succ] at h; omega)
      rw [dec_big hu]; simp; omega
theorem itoa_mem (n : Int) : ∀ c ∈ Lib.itoa n, c.toNat = 45 ∨ 48 ≤ c.toNat ∧ c.toNat ≤ 57 := by
  intro c hc
  unfold Lib.itoa at hc
  split at hc
  · rcases List.mem_cons.1 hc with rfl | hc
    · exact .inl rfl
    · exact .inr (dec_mem _ c hc)
  · exact .inr (dec_mem _ c hc)
theorem itoa_ne (n : Int) : Lib.itoa n ≠ [] := by
  unfold Lib.itoa
  split
  · simp
  · obtain ⟨c, r, h, _⟩ := dec_head n.toNat; rw [h]; simp
theorem atoi_itoa {n : Int} (h : inB n = true) : Lib.atoiAll (Lib.itoa n) = .ok n := by
  rw [inB_iff] at h
  unfold Lib.itoa
  by_cases hn : n < 0
  · rw [if_pos hn]
    obtain ⟨c, r, hd, _⟩ := dec_head n.natAbs
    simp only [Lib.atoiAll]
    rw [if_pos (by decide)]
    unfold Lib.parseMag
    rw [if_neg (by rw [hd]; simp), parse_dec _ (by omega)]
    simp only []
    rw [if_neg (by simp; done), if_neg (by omega), if_pos (by decide)]
    congr 1; omega
  · rw [if_neg hn]
    obtain ⟨c, r, hd, h1, h2⟩ := dec_head n.toNat
    have hp := parse_dec n.toNat (by omega)
    rw [hd] at hp ⊢
    simp only [Lib.atoiAll]
    rw [if_neg (by omega)]
    unfold Lib.parseMag
    rw [if_neg (by simp), hp]
    simp only []
    rw [if_neg (by omega), if_neg (by omega), if_neg (by omega)]
    congr 1; omega
theorem numQ_iff {s : List UInt8} {n : Int} : numQ s = some n ↔ Lib.itoa n = s ∧ inB n = true := by
  constructor
  · intro h
    unfold numQ at h
    split at h
    · split at h
      · rename_i v _ hv; cases h; exact hv
      · cases h
    · cases h
  · rintro ⟨rfl, h⟩
    unfold numQ
    rw [atoi_itoa h]
    simp [h]
theorem numQ_itoa {n : Int} (h : inB n = true) : numQ (Lib.itoa n) = some n := numQ_iff.2 ⟨rfl, h⟩
/-- The reference's reading of digits. -/
def numL : Nat → List UInt8 → Option Nat
  | acc, [] => some acc
  | acc, c :: r => if 48 ≤ c.toNat ∧ c.toNat ≤ 57 ∧ acc ≤ 9007199254740992 then numL (10 * acc + (c.toNat - 48)) r else none
def magR (s : List UInt8) : Option Nat := match s with
  | c :: r => if c.toNat = 45 then numL 0 r else numL 0 s
  | [] => numL 0 []
def negR (s : List UInt8) : Bool := match s with
  | c :: _ => decide (c.toNat = 45)
  | [] => false
def numR (s : List UInt8) : Option Int := match magR s with
  | some u => if inB (if negR s then -(u : Int) else u) = true ∧ Lib.itoa (if negR s then -(u : Int) else u) = s then some (if negR s then -(u : Int) else u) else none
  | none => none
theorem numL_app : ∀ (xs : List UInt8) (acc : Nat) (ys : List UInt8), numL acc (xs ++ ys) = (numL acc xs).bind fun a => numL a ys
  | [], acc, ys => rfl
  | x :: xs, acc, ys => by
    rw [List.cons_append]
    simp only [numL]
    split
    · exact numL_app xs _ ys
    · rfl
theorem numL_dec (u : Nat) (h : u ≤ 9007199254740992) : numL 0 (Lib.decDigits u) = some u := by
  induction u using Nat.strongRecOn with
  | _ u ih =>
    by_cases hu : u < 10
    · rw [dec_small hu]
      simp only [numL, dig_nat hu]
      rw [if_pos (by omega)]
      congr 1; omega
    · rw [dec_big hu, numL_app, ih (u / 10) (by omega) (by omega)]
      simp only [Option.bind_some, numL, dig_nat (Nat.mod_lt u (by omega : 10 > 0))]
      rw [if_pos (by omega)]
      congr 1; omega
theorem numR_iff {s : List UInt8} {n : Int} : numR s = some n ↔ Lib.itoa n = s ∧ inB n = true := by
  constructor
  · intro h
    unfold numR at h
    cases hm : magR s with
    | none => rw [hm] at h; cases h
    | some u =>
      rw [hm] at h
      simp only [] at h
      by_cases hv : inB (if negR s then -(u : Int) else u) = true ∧ Lib.itoa (if negR s then -(u : Int) else u) = s
      · rw [if_pos hv] at h; obtain rfl := Option.some.inj h; exact ⟨hv.2, hv.1⟩
      · rw [if_neg hv] at h; cases h
  · rintro ⟨rfl, h⟩
    have h' := (inB_iff n).1 h
    unfold numR
    by_cases hn : n < 0
    · have e : Lib.itoa n = 45 :: Lib.decDigits n.natAbs := by unfold Lib.itoa; rw [if_pos hn]
      have e1 : magR (Lib.itoa n) = some n.natAbs := by
        rw [e]; unfold magR; simp only []; rw [if_pos (by decide), numL_dec _ (by omega)]
      have e2 : negR (Lib.itoa n) = true := by rw [e]; rfl
      have e3 : -((n.natAbs : Nat) : Int) = n := by omega
      rw [e1]; simp only [e2, e3, if_true, h, true_and]
    · obtain ⟨c, r, hd, h1, h2⟩ := dec_head n.toNat
      have e : Lib.itoa n = Lib.decDigits n.toNat := by unfold Lib.itoa; rw [if_neg hn]
      have e1 : magR (Lib.itoa n) = some n.toNat := by
        have hp := numL_dec n.toNat (by omega)
        rw [e]; rw [hd] at hp ⊢; unfold magR; simp only []; rw [if_neg (by omega), hp]
      have e2 : negR (Lib.itoa n) = false := by rw [e, hd]; unfold negR; simp; omega
      have e3 : ((n.toNat : Nat) : Int) = n := by omega
      rw [e1]; simp only [e2, e3, Bool.false_eq_true, if_false, h, true_and, if_true]
theorem numR_eq (s : List UInt8) : numR s = numQ s := by
  apply Option.ext
  intro n
  rw [numR_iff, numQ_iff]
theorem numQ_mem {s : List UInt8} {n : Int} (h : numQ s = some n) : ∀ c ∈ s, c.toNat = 45 ∨ 48 ≤ c.toNat ∧ c.toNat ≤ 57 := by
  obtain ⟨rfl, _⟩ := numQ_iff.1 h; exact itoa_mem n

/-! data in quotes -/
def hexd (n : Nat) : UInt8 := UInt8.ofNat (if n < 10 then 48 + n else 87 + n)
def esc (c : UInt8) : List UInt8 :=
  if c = 34 ∨ c = 92 then [92, c] else if 32 ≤ c.toNat ∧ c.toNat ≤ 126 then [c] else if c = 13 then [92, 114] else if c = 10 then [92, 110] else [92, 120, hexd (c.toNat / 16), hexd (c.toNat % 16)]
def escs (b : List UInt8) : List UInt8 := b.flatMap esc
def quo (b : List UInt8) : List UInt8 := 34 :: (escs b ++ [34])
def quotedB (s : List UInt8) : Bool := decide (2 ≤ s.length) && (s.head? == some 34) && (s.getLast? == some 34)
def midL (s : List UInt8) : List UInt8 := (s.drop 1).dropLast
theorem quo_quoted (b : List UInt8) : quotedB (quo b) = true := by
  unfold quotedB quo
  have h : (34 :: (escs b ++ [34]) : List UInt8).getLast? = some 34 := by
    rw [show (34 :: (escs b ++ [34]) : List UInt8) = (34 :: escs b) ++ [34] by rfl, List.getLast?_concat]
  rw [h]
  simp
theorem quo_mid (b : List UInt8) : midL (quo b) = escs b := by
  unfold midL quo
  simp
theorem esc_print (c : UInt8) : ∀ x ∈ esc c, 32 ≤ x.toNat ∧ x.toNat ≤ 126 := by
  have h : ∀ n : Fin 256, ((esc (UInt8.ofNat n.val)).all fun x => decide (32 ≤ x.toNat) && decide (x.toNat ≤ 126)) = true := by decide +kernel
  have := h ⟨c.toNat, c.toNat_lt⟩
  simp only [UInt8.ofNat_toNat] at this
  intro x hx
  have := List.all_eq_true.1 this x hx
  simpa using this
theorem quo_print (b : List UInt8) : ∀ x ∈ quo b, 32 ≤ x.toNat ∧ x.toNat ≤ 126 := by
  intro x hx
  unfold quo escs at hx
  rcases List.mem_cons.1 hx with rfl | hx
  · decide
  · rcases List.mem_append.1 hx with hx | hx
    · obtain ⟨c, _, hc⟩ := List.mem_flatMap.1 hx
      exact esc_print c x hc
    · rw [List.mem_singleton] at hx; subst hx; decide
end SC
end Go.Proofs.YtfbicbgdfcbhpaaDoor
