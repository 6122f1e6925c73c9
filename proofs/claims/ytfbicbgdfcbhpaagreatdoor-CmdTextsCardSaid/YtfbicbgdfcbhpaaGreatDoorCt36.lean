/-
  ScPure, CmPure.
-/
import Derived.Lib.Split
import Derived.Lib.Join
import Derived.Lib.AtoiAll
import Derived.Lib.ItoaNum
import Derived.Lib.IndexBytes
import Derived.Test.YtfbicbgdfcbhpaaGreatDoorCt32
set_option maxRecDepth 20000
set_option linter.unusedVariables false
set_option linter.unusedSimpArgs false
set_option linter.unusedSectionVars false
namespace Go.Proofs.YtfbicbgdfcbhpaaGreatDoor
namespace SC
def spl (c : UInt8) : List UInt8 → List (List UInt8)
 | [] => [[]]
 | x :: r => if x = c then [] :: spl c r else match spl c r with
  | h :: t => (x :: h) :: t
  | [] => [[x]]
theorem spl_ne (c : UInt8) : ∀ l, spl c l ≠ []
 | [] => by simp [spl]
 | x :: r => by
  unfold spl
  split
  · simp
  · split <;> simp
theorem spl_no {c : UInt8} : ∀ {l : List UInt8}, (∀ x ∈ l, x ≠ c) → spl c l = [l]
 | [], _ => rfl
 | x :: r, h => by
  unfold spl
  rw [if_neg (h x (by simp)), spl_no fun y hy => h y (by simp [hy])]
theorem spl_hit {c : UInt8} : ∀ (a b : List UInt8), (∀ x ∈ a, x ≠ c) → spl c (a ++ c :: b) = a :: spl c b
 | [], b, _ => by rw [List.nil_append, spl, if_pos rfl]
 | x :: r, b, h => by
  rw [List.cons_append, spl, if_neg (h x (by simp)), spl_hit r b fun y hy => h y (by simp [hy])]
theorem hit_cases (c : UInt8) : ∀ l : List UInt8, (∀ x ∈ l, x ≠ c) ∨ ∃ a b, l = a ++ c :: b ∧ ∀ x ∈ a, x ≠ c
 | [] => .inl (by simp)
 | x :: r => by
  by_cases hx : x = c
  · exact .inr ⟨[], r, by simp [hx], by simp⟩
  · rcases hit_cases c r with h | ⟨a, b, h1, h2⟩
    · refine .inl fun y hy => ?_
      rcases List.mem_cons.1 hy with rfl | hy
      · exact hx
      · exact h y hy
    · refine .inr ⟨x :: a, b, by rw [h1]; rfl, fun y hy => ?_⟩
      rcases List.mem_cons.1 hy with rfl | hy
      · exact hx
      · exact h2 y hy
theorem spl_mem {c : UInt8} : ∀ {l : List UInt8} {p : List UInt8}, p ∈ spl c l → ∀ x ∈ p, x ≠ c
 | [], p, h => by simp [spl] at h; subst h; simp
 | y :: r, p, h => by
  have ih := @spl_mem c r
  unfold spl at h
  split at h
  · rcases List.mem_cons.1 h with rfl | h
    · simp
    · exact ih h
  · rename_i hy
    split at h
    · rename_i h0 t0 e
      rcases List.mem_cons.1 h with rfl | h
      · intro x hx
        rcases List.mem_cons.1 hx with rfl | hx
        · exact hy
        · exact ih (p := h0) (by rw [e]; simp) x hx
      · exact ih (by rw [e]; simp [h])
    · rename_i e; exact absurd e (spl_ne c r)
theorem index_hit1 {c : UInt8} (r : List UInt8) : ∀ n : List UInt8, (∀ x ∈ n, x ≠ c) → Lib.index (n ++ c :: r) [c] = n.length
 | [], _ => by rw [List.nil_append, Lib.index, if_pos (by simp [List.isPrefixOf])]; first | done | rfl
 | x :: n, h => by
  have ih := index_hit1 r n fun d hd => h d (List.mem_cons_of_mem _ hd)
  have hc := h x (List.mem_cons_self ..)
  rw [List.cons_append, Lib.index, if_neg (by simp [List.isPrefixOf]; exact fun e => hc e.symm), ih, if_neg (by first | (simp; done) | (simp; omega))]
  simp
theorem index_no1 {c : UInt8} : ∀ {t : List UInt8}, (∀ x ∈ t, x ≠ c) → Lib.index t [c] = -1
 | [], _ => by simp [Lib.index]
 | x :: r, h => by
  have ih := index_no1 (t := r) fun d hd => h d (List.mem_cons_of_mem _ hd)
  have hc := h x (List.mem_cons_self ..)
  rw [Lib.index, if_neg (by simp [List.isPrefixOf]; exact fun e => hc e.symm), ih]
  rfl
theorem split_eq (c : UInt8) : ∀ (n : Nat) (l : List UInt8), l.length ≤ n → Lib.split l [c] = spl c l
 | n, l, hn => by
  rcases hit_cases c l with h | ⟨a, b, rfl, h⟩
  · rw [spl_no h]
    unfold Lib.split
    rw [Lib.count_miss (index_no1 h)]; rfl
  · cases n with
    | zero => simp at hn
    | succ n =>
     have hi := index_hit1 b a h
     have hd : (a ++ c :: b).drop (a.length + ([c] : List UInt8).length) = b := by simp
     rw [spl_hit a b h, ← split_eq c n b (by simp at hn; omega)]
     unfold Lib.split
     rw [Lib.count_hit (by simp) hi, hd, Nat.add_comm 1, Lib.splitK, if_neg (by rw [hi]; first | (simp; done) | (simp; omega)), hi]
     simp only [Int.toNat_natCast]
     rw [hd]
     simp
theorem cut_no {c : UInt8} {l : List UInt8} (h : ∀ x ∈ l, x ≠ c) : Lib.cut l [c] = (l, [], false) := by
 unfold Lib.cut; rw [index_no1 h, if_neg (by decide)]
theorem cut_hit {c : UInt8} (a b : List UInt8) (h : ∀ x ∈ a, x ≠ c) : Lib.cut (a ++ c :: b) [c] = (a, b, true) := by
 unfold Lib.cut
 rw [index_hit1 b a h, if_pos (by omega)]
 simp
theorem dec_small {u : Nat} (h : u < 10) : Lib.decDigits u = [UInt8.ofNat (48 + u)] := by rw [Lib.decDigits, dif_pos h]
theorem dec_big {u : Nat} (h : ¬ u < 10) : Lib.decDigits u = Lib.decDigits (u / 10) ++ [UInt8.ofNat (48 + u % 10)] := by rw [Lib.decDigits, dif_neg h]
theorem dec_len : ∀ (u k : Nat), u < 10 ^ (k + 1) → (Lib.decDigits u).length ≤ k + 1
 | u, 0, h => by rw [dec_small (by simpa using h)]; simp
 | u, k + 1, h => by
  by_cases hu : u < 10
  · rw [dec_small hu]; simp
  · have := dec_len (u / 10) k (by rw [Nat.pow_succ] at h; omega)
    rw [dec_big hu]; simp; omega
def hexd (n : Nat) : UInt8 := UInt8.ofNat (if n < 10 then 48 + n else 87 + n)
def esc (c : UInt8) : List UInt8 :=
 if c = 34 ∨ c = 92 then [92, c] else if 32 ≤ c.toNat ∧ c.toNat ≤ 126 then [c] else if c = 13 then [92, 114] else if c = 10 then [92, 110] else [92, 120, hexd (c.toNat / 16), hexd (c.toNat % 16)]
def escs (b : List UInt8) : List UInt8 := b.flatMap esc
def quo (b : List UInt8) : List UInt8 := 34 :: (escs b ++ [34])
end SC
end Go.Proofs.YtfbicbgdfcbhpaaGreatDoor
set_option maxRecDepth 20000
set_option linter.unusedVariables false
set_option linter.unusedSimpArgs false
set_option linter.unusedSectionVars false
namespace Go.Proofs.YtfbicbgdfcbhpaaGreatDoor
open AX SC
namespace CM
def lowC (c : UInt8) : Bool := decide (97 ≤ c.toNat ∧ c.toNat ≤ 122)
def upC (c : UInt8) : UInt8 := bif lowC c then UInt8.ofNat (c.toNat - 32) else c
def upL (l : List UInt8) : List UInt8 := l.map upC
theorem up_and : ∀ c : UInt8, lowC c = true → IntKind.wrap .u8 ((BitVec.toNat ((BitVec.ofInt (IntKind.bits .u8) (c.toNat : Int)) &&& ~~~(BitVec.ofInt (IntKind.bits .u8) (32 : Int))) : Nat) : Int) = ((upC c).toNat : Int) := by
 have h : ∀ n : Fin 256, lowC (UInt8.ofNat n.val) = true → IntKind.wrap .u8 ((BitVec.toNat ((BitVec.ofInt (IntKind.bits .u8) (n.val : Int)) &&& ~~~(BitVec.ofInt (IntKind.bits .u8) (32 : Int))) : Nat) : Int) = ((upC (UInt8.ofNat n.val)).toNat : Int) := by decide +kernel
 intro c hc
 have := h ⟨c.toNat, c.toNat_lt⟩
 rw [UInt8.ofNat_toNat] at this
 exact this hc
def wordsL : List (List UInt8) := [[], [72, 69, 76, 79], [69, 72, 76, 79], [76, 72, 76, 79], [77, 65, 73, 76], [82, 67, 80, 84], [68, 65, 84, 65], [82, 83, 69, 84], [78, 79, 79, 80], [81, 85, 73, 84], [86, 82, 70, 89], [72, 69, 76, 80]]
def findW (w : List UInt8) : List (List UInt8) → Nat → Nat
 | [], _ => 0
 | x :: r, i => if 0 < i ∧ x = w then i else findW w r (i + 1)
def verbN (w : List UInt8) : Nat := findW w wordsL 0
def verbQ (l : List UInt8) : Nat := verbN (upL l)
def printC (c : UInt8) : Bool := decide (32 ≤ c.toNat ∧ c.toNat ≤ 126)
def printL (l : List UInt8) : Bool := l.all printC
def nameC (c : UInt8) : Bool := decide (65 ≤ c.toNat ∧ c.toNat ≤ 90) || decide (48 ≤ c.toNat ∧ c.toNat ≤ 57) || c == 45
theorem nameC_iff (c : UInt8) : nameC c = true ↔ (65 ≤ c.toNat ∧ c.toNat ≤ 90) ∨ (48 ≤ c.toNat ∧ c.toNat ≤ 57) ∨ c.toNat = 45 := by
 have e : ∀ k : UInt8, (c == k) = decide (c.toNat = k.toNat) := fun k => by
  rw [Bool.eq_iff_iff]; simp [UInt8.toNat_inj]
 unfold nameC
 rw [e]
 simp [or_assoc]
def nameB (l : List UInt8) : Bool := l.all nameC && decide (l ≠ [])
def valueB (l : List UInt8) : Bool := decide (l ≠ []) && !Lib.containsAny l [61, 32]
def literalB (l : List UInt8) : Bool := decide (3 ≤ l.length) && (l.head? == some 91) && (l.getLast? == some 93) && !Lib.containsAny ((l.take (l.length - 1)).drop 1) [91, 93, 92, 32]
def sizeQ (l : List UInt8) : Option Nat := if (uintV l).2 = true ∨ 20 < l.length ∨ 9007199254740992 < (uintV l).1 then none else some (uintV l).1
def bodyQ (l : List UInt8) : Int := if upL l = [55, 66, 73, 84] then 7 else if upL l = [56, 66, 73, 84, 77, 73, 77, 69] then 8 else 0
def parQ (c : S_api_Cmd) (nm v : List UInt8) : Int × S_api_Cmd :=
 if nm = [83, 73, 90, 69] then (match sizeQ v with | some n => (0, { c with fSize := n }) | none => (501, c))
 else if nm = [66, 79, 68, 89] then (if 0 < bodyQ v then 0 else 501, { c with fBody := bodyQ v })
 else (555, c)
def paramsQ : List (List UInt8) → List (List UInt8) → S_api_Cmd → Int × S_api_Cmd
 | [], _, c => (0, c)
 | p :: ps, seen, c =>
  if nameB (upL (Lib.cut p [61]).1) = false ∨ ((Lib.cut p [61]).2.2 = true ∧ valueB (Lib.cut p [61]).2.1 = false) ∨ upL (Lib.cut p [61]).1 ∈ seen then (501, c)
  else if c.fVerb = 4 then
   (if (parQ c (upL (Lib.cut p [61]).1) (Lib.cut p [61]).2.1).1 = 0 then paramsQ ps (seen ++ [upL (Lib.cut p [61]).1]) (parQ c (upL (Lib.cut p [61]).1) (Lib.cut p [61]).2.1).2 else parQ c (upL (Lib.cut p [61]).1) (Lib.cut p [61]).2.1)
  else (555, c)
def pathQ (c : S_api_Cmd) (r front : List UInt8) (null : Bool) : Int × S_api_Cmd :=
 if r.length < front.length ∨ upL (r.take front.length) ≠ front then (501, c)
 else if (areadV (r.drop front.length) null).2.2.2 ≠ 0 then (501, c)
 else
  match (r.drop front.length).drop (areadV (r.drop front.length) null).2.2.1.toNat with
  | [] => (0, { c with fPath_Local := (areadV (r.drop front.length) null).1, fPath_Domain := (areadV (r.drop front.length) null).2.1, fNull := (areadV (r.drop front.length) null).1 == [] && (areadV (r.drop front.length) null).2.1 == [] })
  | x :: t => if x = 32 then paramsQ (spl 32 t) [] { c with fPath_Local := (areadV (r.drop front.length) null).1, fPath_Domain := (areadV (r.drop front.length) null).2.1, fNull := (areadV (r.drop front.length) null).1 == [] && (areadV (r.drop front.length) null).2.1 == [] }
   else (501, { c with fPath_Local := (areadV (r.drop front.length) null).1, fPath_Domain := (areadV (r.drop front.length) null).2.1, fNull := (areadV (r.drop front.length) null).1 == [] && (areadV (r.drop front.length) null).2.1 == [] })
def zeroC : S_api_Cmd := ⟨0, [], [], [], false, 0, 0⟩
def need (b : Bool) : Int := if b then 0 else 501
def restQ (v : Nat) (r : List UInt8) (b : Bool) : Int × S_api_Cmd :=
 if v = 0 then (500, ⟨0, [], [], [], false, -1, 0⟩)
 else if v = 1 ∨ v = 2 ∨ v = 3 then (need (domainB r || literalB r), ⟨v, r, [], [], false, -1, 0⟩)
 else if v = 4 then pathQ ⟨4, [], [], [], false, -1, 0⟩ r [70, 82, 79, 77, 58] true
 else if v = 5 then pathQ ⟨5, [], [], [], false, -1, 0⟩ r [84, 79, 58] false
 else if v = 6 ∨ v = 7 ∨ v = 9 then (need (!b), ⟨v, [], [], [], false, -1, 0⟩)
 else if v = 10 then (need (decide (r ≠ [])), ⟨v, r, [], [], false, -1, 0⟩)
 else (0, ⟨v, r, [], [], false, -1, 0⟩)
def endQ (x : Int × S_api_Cmd) : S_api_Cmd × Int := if x.1 = 0 then (x.2, 0) else (zeroC, x.1)
def parseQ (l : List UInt8) : S_api_Cmd × Int :=
 if 510 < l.length ∨ printL l = false then (zeroC, 500)
 else endQ (restQ (verbQ (Lib.cut l [32]).1) (Lib.cut l [32]).2.1 (Lib.cut l [32]).2.2)
end CM
end Go.Proofs.YtfbicbgdfcbhpaaGreatDoor
