/-
  addr.AddrRoutes answers true at every input: a route ahead of a path's mailbox tells nothing.
-/
import Derived.Test.YtnbllnnbdopjoaaAwake05
import Derived.Test.YtnbllnnbdopjoaaRouteLaw
import Derived.Test.YtnbllnnbdopjoaaAddrRow
namespace Go.Proofs.Ytnbllnnbdopjoaa
open Go.ChangeMaps Go.ChangeShapes Go.WideShapes Go.ChangeAt Go.RowKit

def allDom (L : List ByteArray) : Bool := L.all fun r => domainB r.data.toList
theorem allDom_snoc (L : List ByteArray) (r : ByteArray) : allDom (L ++ [r]) = (allDom L && domainB r.data.toList) := by simp [allDom]
def RelRo (L : List ByteArray) (w0 : World) (s g i : Value) (wr : World) : Prop :=
  ∃ (k : Nat) (bs : Array Obj) (d : Nat), k ≤ L.length ∧ i = .int .i64 k ∧ s = .string (routeS (L.take k)) ∧ g = .bool (allDom (L.take k)) ∧ wr = app w0 bs d ∧ (∀ r ∈ L.take k, r.size ≤ 100)
theorem take_snocB (L : List ByteArray) (k : Nat) (h : k < L.length) : L.take (k + 1) = L.take k ++ [L[k]] := List.take_succ_eq_append_getElem h
theorem routeS_first (r : ByteArray) : routeS [] ++ ⟨#[64]⟩ ++ r = routeS [r] := by apply ByteArray.ext; simp [routeS, joinL]
theorem routeS_more (L : List ByteArray) (r : ByteArray) (h : L ≠ []) : routeS L ++ ⟨#[44]⟩ ++ ⟨#[64]⟩ ++ r = routeS (L ++ [r]) := by
  apply ByteArray.ext; simp [routeS, joinL_snoc r L h]
theorem routeS_size (L : List ByteArray) (h : ∀ r ∈ L, r.size ≤ 100) : (routeS L).size ≤ 1 + 102 * L.length := by
  have := joinL_len L h
  show (60 :: joinL L).toArray.size ≤ _
  simp; omega

set_option maxRecDepth 20000 in
set_option maxHeartbeats 16000000 in
theorem addrRoutes_main (x y : ByteArray) (p : Option Addr) (b off cap : Nat) (L : List ByteArray) (w : World) (hp : p = some ⟨b, off, none⟩) (hb : b < w.heap.size) (hc : ∀ i (h : i < L.length), w.cell? ⟨b, off + i, none⟩ = some (.string L[i]))
    (hx : x.size ≤ 100) (hy : y.size ≤ 100) (h0 : 0 < L.length) (h10 : L.length ≤ 10) (hm : ∀ i (h : i < L.length), L[i].size ≤ 9223372036854775807) :
    Calls Try.prog 4 #[.agg #[.string x, .string y], .slice p L.length cap] w fun r w' => r = .returned (.bool true) ∧ Below w.heap.size w w' := by
  have g1 : ¬ 100 < (x.size : Int) := by omega
  have g2 : ¬ 100 < (y.size : Int) := by omega
  have g3 : ¬ 10 < (L.length : Int) := by omega
  have g4 : ((L.length : Int) == 0) = false := by simp; intro h; rw [h] at h0; simp at h0
  have c1 := text_calls x y (by omega) (by omega)
  have hts := textS_size x y
  have hts2 : (textS x y).size ≤ 400 := by omega
  clear hts
  replace c1 := Lib.hid c1
  replace hm := Lib.hid hm
  subst hp
  go_enter Try.func4, Try.ntmps4
  go_wp2_with (go_at_call 8; ((refine (awake05 _).mono ?_); rintro r w1 ⟨rfl, hb⟩; obtain ⟨b1, b1d, rfl⟩ := of_below hb; clear hb))
  go_loopw [5, 6, 7] (fun s g i wr => RelRo L (w.alloc (.cells #[.string x, .string y] 24)) s g i wr) (fun _ _ i _ => L.length - (intOf i).toNat)
  case atStart => exact ⟨0, _, _, by omega, rfl, by simp [routeS, joinL], rfl, rfl, by simp⟩
  case round =>
    obtain ⟨k, bs, d, hk, rfl, rfl, rfl, rfl, hall⟩ := hrel
    have hrs := routeS_size _ hall
    have htk : (L.take k).length = k := by simp; omega
    rw [htk] at hrs
    by_cases hlt : k < L.length
    · have hck := hc k hlt
      have hmk := hm.out k hlt
      have hts1 := take_snocB L k hlt
      by_cases hbig : L[k].size ≤ 100
      · have hbig2 : ¬ 100 < (L[k].size : Int) := by omega
        have cd := Lib.hid (domain_calls L[k] (by omega))
        have hal := allDom_snoc (L.take k) L[k]
        rw [← hts1] at hal
        have hall2 : ∀ r ∈ L.take (k + 1), r.size ≤ 100 := by
          rw [hts1]
          intro r hr
          rcases List.mem_append.1 hr with hr | hr
          · exact hall r hr
          · simp at hr; subst hr; exact hbig
        have hz : (routeS (L.take k)).size ≤ 2000 := by omega
        replace hall2 := Lib.hid hall2
        by_cases hk0 : k = 0
        · subst hk0
          have hs := routeS_first L[0]
          rw [show [L[0]] = L.take 1 by simpa using hts1.symm] at hs
          have ha0 : allDom (L.take 0) = true := rfl
          have hs0 : routeS (L.take 0) = routeS [] := rfl
          rw [ha0] at hal
          rw [ha0, hs0]
          rw [hs0] at hz
          rw [Nat.add_zero] at hck
          clear hrs hall hc htk hts1
          generalize routeS [] = U at *
          replace hs := Lib.hid hs
          replace hal := Lib.hid hal
          go_wp2_with (go_at_call 13; ((refine (cd.out _).mono ?_); rintro r w1 ⟨rfl, hb⟩; obtain ⟨b2, b2d, rfl⟩ := of_below hb; clear hb))
          go_roundw
          case rel => first | exact ⟨1, _, _, by omega, rfl, by rw [← hs.out], by rw [hal.out]; simp, rfl, hall2.out⟩ | ((repeat apply Exists.intro); refine ⟨?rl, ?fr⟩; case fr => ((repeat' apply And.intro) <;> exact rfl); case rl => exact ⟨1, _, _, by omega, rfl, by rw [← hs.out], by rw [hal.out]; simp, rfl, hall2.out⟩)
          case measure => first | (simp [intOf]; done) | (simp [intOf]; omega)
        · have hk1 : 0 < (k : Int) := by omega
          have hne : L.take k ≠ [] := by intro e; rw [e] at htk; simp at htk; omega
          have hs := routeS_more (L.take k) L[k] hne
          rw [← hts1] at hs
          clear hrs hall hc htk hne hk0 hts1
          generalize routeS (L.take k) = U at *
          generalize allDom (L.take k) = B at *
          replace hs := Lib.hid hs
          replace hal := Lib.hid hal
          cases B
          all_goals
            go_wp2_with (go_at_call 13; ((refine (cd.out _).mono ?_); rintro r w1 ⟨rfl, hb⟩; obtain ⟨b2, b2d, rfl⟩ := of_below hb; clear hb))
            go_roundw
            case rel => first | exact ⟨k + 1, _, _, by omega, by go_num, by rw [← hs.out], by rw [hal.out]; simp, rfl, hall2.out⟩ | ((repeat apply Exists.intro); refine ⟨?rl, ?fr⟩; case fr => ((repeat' apply And.intro) <;> exact rfl); case rl => exact ⟨k + 1, _, _, by omega, by go_num, by rw [← hs.out], by rw [hal.out]; simp, rfl, hall2.out⟩)
            case measure => first | (simp [intOf]; done) | (simp [intOf]; omega)
      · have hbig2 : 100 < (L[k].size : Int) := by omega
        clear hrs hall hc htk hts1
        go_wp2
        go_returns
        exact ⟨rfl, by (repeat' (first | (with_reducible exact Below.refl _ _) | (with_reducible refine Below.app ?_ ?_ _ _) | (with_reducible refine Below.alloc ?_ ?_ _) | (with_reducible refine Below.drew ?_) | (with_reducible refine Below.setCell ?_ ?_ _) | (with_reducible assumption) | omega | (simp; omega) | (simp; done)))⟩
    · have hke : k = L.length := by omega
      subst hke
      rw [List.take_of_length_le (by omega)] at hrs hall ⊢
      have hz : (routeS L).size ≤ 2000 := by omega
      have hne : L ≠ [] := by intro e; rw [e] at h0; simp at h0
      clear htk hrs hc
      cases hg : goodB x y
      · have e1 : textE x y = 3 := by unfold textE; rw [hg]; rfl
        have c1 := c1.out
        rw [e1] at c1
        replace c1 := Lib.hid c1
        generalize textS x y = T at *
        generalize routeS L = U at *
        generalize allDom L = B at *
        clear e1 hg hall hne hlt hm
        go_wp2_with (go_at_call 15; ((refine (c1.out _).mono ?_); rintro r w1 ⟨rfl, hb⟩; obtain ⟨b2, b2d, rfl⟩ := of_below hb; clear hb))
        all_goals (go_returns; exact ⟨rfl, by (repeat' (first | (with_reducible exact Below.refl _ _) | (with_reducible refine Below.app ?_ ?_ _ _) | (with_reducible refine Below.alloc ?_ ?_ _) | (with_reducible refine Below.drew ?_) | (with_reducible refine Below.setCell ?_ ?_ _) | (with_reducible assumption) | omega | (simp; omega) | (simp; done)))⟩)
      · have e1 : textE x y = 0 := by unfold textE; rw [hg]; rfl
        have c1 := c1.out
        rw [e1] at c1
        cases hd : allDom L
        · replace c1 := Lib.hid c1
          generalize textS x y = T at *
          generalize routeS L = U at *
          clear e1 hg hall hne hlt hm hd
          go_wp2_with (go_at_call 15; ((refine (c1.out _).mono ?_); rintro r w1 ⟨rfl, hb⟩; obtain ⟨b2, b2d, rfl⟩ := of_below hb; clear hb))
          all_goals (go_returns; exact ⟨rfl, by (repeat' (first | (with_reducible exact Below.refl _ _) | (with_reducible refine Below.app ?_ ?_ _ _) | (with_reducible refine Below.alloc ?_ ?_ _) | (with_reducible refine Below.drew ?_) | (with_reducible refine Below.setCell ?_ ?_ _) | (with_reducible assumption) | omega | (simp; omega) | (simp; done)))⟩)
        · have hrr := routed_read hg L hne (fun r hr => List.all_eq_true.1 hd r hr) [32, 83, 73, 90, 69, 61, 49] (routeS L ++ ⟨#[58]⟩ ++ textS x y ++ ⟨#[62, 32, 83, 73, 90, 69, 61, 49]⟩) (by simp [routeS])
          have c2 := read_calls (routeS L ++ ⟨#[58]⟩ ++ textS x y ++ ⟨#[62, 32, 83, 73, 90, 69, 61, 49]⟩) true (by
            simp only [ByteArray.size_append]
            have : (⟨#[58]⟩ : ByteArray).size = 1 := rfl
            have : (⟨#[62, 32, 83, 73, 90, 69, 61, 49]⟩ : ByteArray).size = 8 := rfl
            omega)
          rw [hrr] at c2
          unfold ReadIs at c2
          clear e1 hg hall hne hlt hm hd hrr
          generalize textS x y = T at *
          generalize routeS L = U at *
          replace c1 := Lib.hid c1
          replace c2 := Lib.hid c2
          go_wp2_with first
            | (go_at_call 15; ((refine (c1.out _).mono ?_); rintro r w1 ⟨rfl, hb⟩; obtain ⟨b2, b2d, rfl⟩ := of_below hb; clear hb))
            | (go_at_call 11; ((refine (c2.out _).mono ?_); rintro r w1 ⟨rfl, hb⟩; obtain ⟨b3, b3d, rfl⟩ := of_below hb; clear hb))
          all_goals (go_returns; exact ⟨rfl, by (repeat' (first | (with_reducible exact Below.refl _ _) | (with_reducible refine Below.app ?_ ?_ _ _) | (with_reducible refine Below.alloc ?_ ?_ _) | (with_reducible refine Below.drew ?_) | (with_reducible refine Below.setCell ?_ ?_ _) | (with_reducible assumption) | omega | (simp; omega) | (simp; done)))⟩)

set_option maxRecDepth 20000 in
set_option maxHeartbeats 8000000 in
theorem addrRoutes_out (x y : ByteArray) (p : Option Addr) (n cap : Nat) (w : World) (h : 100 < x.size ∨ 100 < y.size ∨ 10 < n ∨ n = 0) :
    Calls Try.prog 4 #[.agg #[.string x, .string y], .slice p n cap] w fun r w' => r = .returned (.bool true) ∧ Below w.heap.size w w' := by
  by_cases hx : 100 < x.size
  · have g1 : 100 < (x.size : Int) := by omega
    clear h hx
    go_enter Try.func4, Try.ntmps4
    go_wp2_with (go_at_call 8; ((refine (awake05 _).mono ?_); rintro r w1 ⟨rfl, hb⟩; obtain ⟨b1, b1d, rfl⟩ := of_below hb; clear hb))
    all_goals (go_returns; exact ⟨rfl, by (repeat' (first | (with_reducible exact Below.refl _ _) | (with_reducible refine Below.app ?_ ?_ _ _) | (with_reducible refine Below.alloc ?_ ?_ _) | (with_reducible refine Below.drew ?_) | (with_reducible refine Below.setCell ?_ ?_ _) | (with_reducible assumption) | omega | (simp; omega) | (simp; done)))⟩)
  · have g1 : ¬ 100 < (x.size : Int) := by omega
    by_cases hy : 100 < y.size
    · have g2 : 100 < (y.size : Int) := by omega
      clear h hx hy
      go_enter Try.func4, Try.ntmps4
      go_wp2_with (go_at_call 8; ((refine (awake05 _).mono ?_); rintro r w1 ⟨rfl, hb⟩; obtain ⟨b1, b1d, rfl⟩ := of_below hb; clear hb))
      all_goals (go_returns; exact ⟨rfl, by (repeat' (first | (with_reducible exact Below.refl _ _) | (with_reducible refine Below.app ?_ ?_ _ _) | (with_reducible refine Below.alloc ?_ ?_ _) | (with_reducible refine Below.drew ?_) | (with_reducible refine Below.setCell ?_ ?_ _) | (with_reducible assumption) | omega | (simp; omega) | (simp; done)))⟩)
    · have g2 : ¬ 100 < (y.size : Int) := by omega
      by_cases hn : 10 < n
      · have g3 : 10 < (n : Int) := by omega
        clear h hx hy hn
        go_enter Try.func4, Try.ntmps4
        go_wp2_with (go_at_call 8; ((refine (awake05 _).mono ?_); rintro r w1 ⟨rfl, hb⟩; obtain ⟨b1, b1d, rfl⟩ := of_below hb; clear hb))
        all_goals (go_returns; exact ⟨rfl, by (repeat' (first | (with_reducible exact Below.refl _ _) | (with_reducible refine Below.app ?_ ?_ _ _) | (with_reducible refine Below.alloc ?_ ?_ _) | (with_reducible refine Below.drew ?_) | (with_reducible refine Below.setCell ?_ ?_ _) | (with_reducible assumption) | omega | (simp; omega) | (simp; done)))⟩)
      · have hn0 : n = 0 := by omega
        subst hn0
        clear h hx hy hn
        go_enter Try.func4, Try.ntmps4
        go_wp2_with (go_at_call 8; ((refine (awake05 _).mono ?_); rintro r w1 ⟨rfl, hb⟩; obtain ⟨b1, b1d, rfl⟩ := of_below hb; clear hb))
        all_goals (go_returns; exact ⟨rfl, by (repeat' (first | (with_reducible exact Below.refl _ _) | (with_reducible refine Below.app ?_ ?_ _ _) | (with_reducible refine Below.alloc ?_ ?_ _) | (with_reducible refine Below.drew ?_) | (with_reducible refine Below.setCell ?_ ?_ _) | (with_reducible assumption) | omega | (simp; omega) | (simp; done)))⟩)
theorem addrRoutes_walk (x y : ByteArray) (p : Option Addr) (cap : Nat) (L : List ByteArray) (w : World) (hs : Shows w 1 IsStr p L) :
    Calls Try.prog 4 #[.agg #[.string x, .string y], .slice p L.length cap] w fun r w' => r = .returned (.bool true) ∧ Below w.heap.size w w' := by
  by_cases h : 100 < x.size ∨ 100 < y.size ∨ 10 < L.length ∨ L.length = 0
  · exact addrRoutes_out x y p L.length cap w h
  · have h0 : 0 < L.length := by omega
    obtain ⟨b, off, cs0, hp, hb, _, _, _⟩ := hs 0 h0
    refine addrRoutes_main x y p b off cap L w hp hb (fun i hi => ?_) (by omega) (by omega) h0 (by omega) (fun i hi => ?_)
    · obtain ⟨b', off', cs, hp', _, _, h4, h5, _⟩ := hs i hi
      rw [hp] at hp'
      injection hp' with hp'
      injection hp' with e1 e2
      subst e1 e2
      have := h4 0 (by omega)
      rw [Nat.mul_one, Nat.add_zero] at this
      rw [this, h5]
      rfl
    · obtain ⟨_, _, _, _, _, _, _, _, h6⟩ := hs i hi
      unfold maxLen at h6
      omega
theorem cellsStr : Try.prog.cellsOf 9 = 1 := by kernel_rfl
theorem addrRoutes_law : LawWalk 4 Try.f4 := by
  intro H enc W base args ds ps hA hval
  rw [Try.params4] at hA hval
  obtain ⟨v0, vs0, d0, ds0, p0, q0, hargs, rfl, rfl, h0, r0⟩ := trodAll_cons hA
  obtain ⟨v1, vs1, d1, ds1, p1, q1, hargs1, rfl, rfl, h1, r1⟩ := trodAll_cons r0
  obtain ⟨rfl, rfl, rfl⟩ := trodAll_nil r1
  obtain rfl : args = #[v0, v1] := by cases args; simp_all
  obtain ⟨x, y, rfl, -, -⟩ := open_addr (hval 0 _ _ rfl rfl) h0
  obtain ⟨fuel, hf⟩ := h1
  obtain ⟨p, l, cap, e, hl, hm, hz⟩ := open_shows Try.underlying35 cellsStr (by omega) (isStr_of Try.underlying9) hf
  obtain ⟨p', n', c', rfl⟩ := okWide_slice Try.underlying35 (hval 1 _ _ rfl rfl)
  simp [Value.cells] at e
  obtain ⟨rfl, rfl, rfl⟩ := e
  exact addrRoutes_walk x y p' c' l W hz

set_option maxRecDepth 100000 in
theorem addrRoutes_holds : Rows.AddrRoutesSaid :=
  OpenClaim.holds_of_wide 4 Try.f4 rfl rfl rfl rfl rfl rfl rfl ⟨rfl, rfl, rfl, rfl, rfl⟩ rfl rfl rfl rfl rfl (by kernel_rfl) Try.func4 (by kernel_rfl)
    (of_decide_eq_true (by kernel_rfl)) (by unfold Func.isWrapper; first | (rw [if_pos (by decide +kernel)]; kernel_rfl) | (rw [if_neg (by decide +kernel)]; exact ⟨rfl, rfl⟩))
    (fun os started H enc _ => law_lift (s := Rows.addrRoutesSpec) Try.func4 (by kernel_rfl) (by kernel_rfl) rfl (fun H ds hd => by match ds, hd with | [_, _], _ => rfl) (by kernel_rfl) os started H enc
      (ChangeSpec.witness6 (enc := enc) (C := Try.checked) false ⟨#[], #[.agg #[.string ⟨#[]⟩, .string ⟨#[]⟩], .slice none 0 0], []⟩ 8 (by kernel_rfl) (by kernel_rfl) (by kernel_rfl) (by kernel_rfl)) addrRoutes_law)
#print axioms addrRoutes_holds
end Go.Proofs.Ytnbllnnbdopjoaa
