/-
  Routes: how they are written, and that they tell nothing. No program.
-/
import Derived.Test.YtnbllnnbdopjoaaAddrLaws
namespace Go.Proofs.Ytnbllnnbdopjoaa

/-- A route as it is written. -/
def joinL : List ByteArray → List UInt8
  | [] => []
  | [r] => 64 :: r.data.toList
  | r :: t => 64 :: (r.data.toList ++ 44 :: joinL t)
theorem joinL_cons (r : ByteArray) (t : List ByteArray) (h : t ≠ []) : joinL (r :: t) = 64 :: (r.data.toList ++ 44 :: joinL t) := by
  cases t with
  | nil => exact absurd rfl h
  | cons a b => rfl
theorem joinL_snoc (r : ByteArray) : ∀ L : List ByteArray, L ≠ [] → joinL (L ++ [r]) = joinL L ++ (44 :: 64 :: r.data.toList)
  | [], h => absurd rfl h
  | [a], _ => by
    show joinL [a, r] = _
    rw [joinL_cons a [r] (by simp)]
    simp [joinL]
  | a :: b :: t, _ => by
    have ih := joinL_snoc r (b :: t) (by simp)
    rw [List.cons_append, joinL_cons a _ (by simp), ih, joinL_cons a (b :: t) (by simp)]
    simp
theorem joinL_len : ∀ L : List ByteArray, (∀ r ∈ L, r.size ≤ 100) → (joinL L).length ≤ 102 * L.length
  | [], _ => by simp [joinL]
  | [a], h => by
    have := h a (by simp)
    have hl : a.data.toList.length = a.size := by simp
    simp only [joinL, List.length_cons, hl, List.length_nil]; omega
  | a :: b :: t, h => by
    have ih := joinL_len (b :: t) (fun r hr => h r (by simp [hr]))
    have := h a (by simp)
    have hl : a.data.toList.length = a.size := by simp
    rw [joinL_cons a (b :: t) (by simp)]
    simp only [List.length_cons, List.length_append, hl] at ih ⊢; omega
theorem domain_of {l : List UInt8} (h : domainB l = true) : domP l = some l.length ∧ l.length ≤ 64 := by
  unfold domainB at h
  simpa using h
theorem route_law (t : List UInt8) : ∀ L : List ByteArray, L ≠ [] → (∀ r ∈ L, domainB r.data.toList = true) → routeT (joinL L ++ 58 :: t) = some ((joinL L).length + 1, false)
  | [], h, _ => absurd rfl h
  | [a], _, h => by
    obtain ⟨h1, h2⟩ := domain_of (h a (by simp))
    show routeT (64 :: (a.data.toList ++ 58 :: t)) = _
    rw [routeT, if_pos rfl, dom_ends h1 (by intro c t e; cases e; decide)]
    have g : (a.data.toList ++ 58 :: t).getD a.data.toList.length 0 = 58 := by simp [List.getD]
    simp only [g]
    rw [if_neg (by decide), if_pos trivial]
    simp [joinL] at h2 ⊢
    omega
  | a :: b :: r, _, h => by
    obtain ⟨h1, h2⟩ := domain_of (h a (by simp))
    have ih := route_law t (b :: r) (by simp) (fun x hx => h x (by simp [hx]))
    rw [joinL_cons a (b :: r) (by simp)]
    show routeT (64 :: (a.data.toList ++ 44 :: joinL (b :: r) ++ 58 :: t)) = _
    rw [show a.data.toList ++ 44 :: joinL (b :: r) ++ 58 :: t = a.data.toList ++ 44 :: (joinL (b :: r) ++ 58 :: t) by simp]
    rw [routeT, if_pos rfl, dom_ends h1 (by intro c t e; cases e; decide)]
    have g : (a.data.toList ++ 44 :: (joinL (b :: r) ++ 58 :: t)).getD a.data.toList.length 0 = 44 := by simp [List.getD]
    have g2 : (a.data.toList ++ 44 :: (joinL (b :: r) ++ 58 :: t)).drop (a.data.toList.length + 1) = joinL (b :: r) ++ 58 :: t := by
      rw [← List.drop_drop, List.drop_left]; rfl
    simp only [g, g2]
    rw [if_pos trivial, ih]
    simp at h2 ⊢
    constructor <;> omega
/-- The text of the law's path. -/
def routeS (L : List ByteArray) : ByteArray := ⟨(60 :: joinL L).toArray⟩
theorem routed_read {x y : ByteArray} (hg : goodB x y = true) (L : List ByteArray) (h0 : L ≠ []) (hL : ∀ r ∈ L, domainB r.data.toList = true) (b : List UInt8) (S : ByteArray)
    (hS : S.data.toList = 60 :: (joinL L ++ 58 :: ((textS x y).data.toList ++ 62 :: b))) : readP S true = (x, y, (((routeS L).size + 1 + (textS x y).size + 1 : Nat) : Int), 0) := by
  have hj : ∃ r, joinL L = 64 :: r := by
    match L, h0 with
    | [a], _ => exact ⟨_, rfl⟩
    | a :: b :: t, _ => exact ⟨_, joinL_cons a (b :: t) (by simp)⟩
  obtain ⟨r, hr⟩ := hj
  have hn : nullB S true = false := by
    unfold nullB Lib.hasPrefix
    rw [hS, hr]
    rfl
  have h64 : S.data.toList.getD 1 0 = 64 := by rw [hS, hr]; rfl
  rw [readP_tail hn (by rw [hS]; rfl) _ rfl, if_pos h64]
  have hd : S.data.toList.drop 1 = joinL L ++ 58 :: ((textS x y).data.toList ++ 62 :: b) := by rw [hS]; rfl
  rw [hd, route_law _ L h0 hL]
  simp only [Option.map_some, routedP, Bool.or_self]
  rw [tail_back hg S (1 + ((joinL L).length + 1)) b (by
    rw [hS]
    rw [show 1 + ((joinL L).length + 1) = ((joinL L).length + 1) + 1 by omega, List.drop_succ_cons, ← List.drop_drop, List.drop_left]; rfl)]
  have hz : (routeS L).size = (joinL L).length + 1 := by show (60 :: joinL L).toArray.size = _; simp
  rw [hz]
  refine Prod.ext_iff.2 ⟨rfl, Prod.ext_iff.2 ⟨rfl, Prod.ext_iff.2 ⟨?_, rfl⟩⟩⟩
  show ((1 + ((joinL L).length + 1) + (textS x y).size : Nat) : Int) + 1 = (((joinL L).length + 1 + 1 + (textS x y).size + 1 : Nat) : Int)
  omega
end Go.Proofs.Ytnbllnnbdopjoaa
