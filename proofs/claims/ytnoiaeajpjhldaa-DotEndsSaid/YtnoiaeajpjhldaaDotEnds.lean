/-
  dot.DotEnds answers true at every input: in what is sent no line but the last one is a point alone; each line that begins with a point begins with two.
-/
import Derived.Test.YtnoiaeajpjhldaaRefPlain07
import Derived.Test.YtnoiaeajpjhldaaBytesArg
namespace Go.Proofs.Ytnoiaeajpjhldaa
open Go.ChangeMaps Go.ChangeShapes Go.WideShapes Go.ChangeAt Go.RowKit

def EndsAt (s : List UInt8) (f i : Nat) : Prop := (∃ rest, s.drop f = sendP rest ∧ f ≤ i + 1 ∧ f < s.length ∧ endN s i = endN s f) ∨ (f = s.length ∧ i + 1 = s.length)
theorem sendP_pos (l : List UInt8) : 3 ≤ (sendP l).length := by
  unfold sendP
  simp only [List.length_append, List.length_cons, List.length_nil]
  omega
theorem EndsAt.zero (l : List UInt8) : EndsAt (sendP l) 0 0 := .inl ⟨l, rfl, by omega, by have := sendP_pos l; omega, rfl⟩
theorem endN_drop {s : List UInt8} {f n : Nat} (h : endQ false (s.drop f) = some n) : endN s f = ((f + n : Nat) : Int) := by unfold endN; rw [h]
theorem EndsAt.go {s : List UInt8} {f i : Nat} (h : EndsAt s f i) (hi : i + 1 < s.length) (hn : ¬ (s[i] = 13 ∧ s[i + 1] = 10)) : EndsAt s f (i + 1) := by
  rcases h with ⟨rest, h1, h2, h3, h4⟩ | ⟨h1, h2⟩
  · exact .inl ⟨rest, h1, by omega, h3, by rw [← endN_go hi hn, h4]⟩
  · omega
theorem EndsAt.done {s : List UInt8} {f i : Nat} (h : EndsAt s f i) (hi : ¬ i + 1 < s.length) : f = s.length := by
  rcases h with ⟨rest, h1, h2, h3, h4⟩ | ⟨h1, h2⟩
  · exfalso
    rw [endN_end (by omega)] at h4
    by_cases h0 : rest = []
    · subst h0
      have := endN_drop (s := s) (f := f) (n := 3) (by rw [h1, sendP_nil]; simp [endQ])
      omega
    · obtain ⟨D, r, hD⟩ := sent_line rest h0
      have := endN_drop (s := s) (f := f) (n := D.length) (by rw [h1, hD.sent]; exact hD.fin _)
      omega
  · exact h1
theorem EndsAt.hit {s : List UInt8} {f i : Nat} (h : EndsAt s f i) (hi : i + 1 < s.length) (h13 : s[i] = 13) (h10 : s[i + 1] = 10) :
    f ≤ i ∧ ((i + 2 = s.length ∧ (s.drop f).take (i - f) = [46] ∧ EndsAt s (i + 2) (i + 1)) ∨
      (i + 2 < s.length ∧ (s.drop f).take (i - f) ≠ [46] ∧ (((s.drop f).take (i - f)).head? = some 46 → ∃ Y, (s.drop f).take (i - f) = 46 :: 46 :: Y) ∧ EndsAt s (i + 2) (i + 1))) := by
  rcases h with ⟨rest, h1, h2, h3, h4⟩ | ⟨h1, h2⟩
  · rw [endN_hit hi h13 h10] at h4
    by_cases h0 : rest = []
    · subst h0
      have e := endN_drop (s := s) (f := f) (n := 3) (by rw [h1, sendP_nil]; simp [endQ])
      have hfi : i = f + 1 := by omega
      have hl : s.length = f + 3 := by have := congrArg List.length h1; rw [List.length_drop, sendP_nil] at this; simp at this; omega
      subst hfi
      refine ⟨by omega, .inl ⟨by omega, ?_, .inr ⟨by omega, by omega⟩⟩⟩
      rw [h1, sendP_nil, Nat.add_sub_cancel_left]; rfl
    · obtain ⟨D, r, hD⟩ := sent_line rest h0
      have e := endN_drop (s := s) (f := f) (n := D.length) (by rw [h1, hD.sent]; exact hD.fin _)
      have hd2 := hD.two
      have hfi : i + 2 = f + D.length := by omega
      have hl : s.length = f + (D.length + (sendP r).length) := by have := congrArg List.length h1; rw [List.length_drop, hD.sent, List.length_append] at this; omega
      have hp := sendP_pos r
      have hle : i - f = D.length - 2 := by omega
      have htk : (s.drop f).take (i - f) = D.take (D.length - 2) := by rw [h1, hD.sent, hle, List.take_append_of_le_length (by omega)]
      have hdr : s.drop (i + 2) = sendP r := by rw [hfi, ← List.drop_drop, h1, hD.sent, List.drop_left]
      refine ⟨by omega, .inr ⟨by omega, ?_, ?_, .inl ⟨r, hdr, by omega, by omega, ?_⟩⟩⟩
      · rw [htk]
        intro e2
        have hlen : D.length = 3 := by have := congrArg List.length e2; rw [List.length_take] at this; simp at this; omega
        match D, hlen, e2 with
        | [a, b, c], _, e2 =>
          simp at e2
          subst e2
          have hg : s[i] = b := by
            have : (s.drop f)[1]? = some b := by rw [h1, hD.sent]; rfl
            rw [List.getElem?_drop] at this
            have hi2 : i = f + 1 := by simp at hfi; omega
            subst hi2
            exact (List.getElem?_eq_some_iff.1 this).2
          rw [h13] at hg
          subst hg
          exact hD.noDot [c] rfl
      · rw [htk]
        intro hh
        have hh2 : D.head? = some 46 := by
          cases D with
          | nil => simp at hd2
          | cons c t =>
            by_cases hz : (c :: t).length - 2 = 0
            · rw [hz] at hh; simp at hh
            · obtain ⟨k, hk⟩ : ∃ k, (c :: t).length - 2 = k + 1 := ⟨(c :: t).length - 3, by omega⟩
              rw [hk] at hh; simpa using hh
        obtain ⟨h5, Y, rfl⟩ := hD.dots hh2
        obtain ⟨k, hk⟩ : ∃ k, (46 :: 46 :: Y : List UInt8).length - 2 = k + 2 := ⟨(46 :: 46 :: Y : List UInt8).length - 4, by omega⟩
        exact ⟨Y.take k, by rw [hk]; rfl⟩
      · rw [endN_go (k := i + 1) (by omega) (by rw [h10]; simp)]
  · omega
set_option maxRecDepth 20000 in
set_option maxHeartbeats 8000000 in
theorem dotEnds_walk (q : Option Addr) (l : List UInt8) (cap : Nat) (w : World) (h : BytesAt w q cap l) (hmx : MaxLenAt w) :
    Calls Try.prog 7 #[.slice q l.length cap] w fun r w' => r = .returned (.bool true) ∧ Below w.heap.size w w' := by
  have hcap := h.cap
  have haw := Lib.hid (awake07 hmx)
  by_cases hbig : l.length ≤ 3000
  · have hb1 : ¬ 3000 < (l.length : Int) := by omega
    have c0 := fun (W : World) (hb : Below w.heap.size w W) => send_text (h.below hb) (by omega)
    have c2 := fun (W : World) (hb : Below w.heap.size w W) => rplain_calls (h.below hb).textOf (by omega)
    have hsl := sendR_len l true false
    have hsl2 : (sendP l).length ≤ 100000000 := by unfold sendP; simp only [List.length_append]; split <;> simp <;> omega
    have hz := EndsAt.zero l
    have hp3 := sendP_pos l
    replace c0 := Lib.hid c0
    replace c2 := Lib.hid c2
    clear h hmx hbig hsl
    generalize plainQ l = pl at *
    generalize sendP l = s at *
    have hsz : ∀ l : List UInt8, (⟨l.toArray⟩ : ByteArray).size = l.length := fun l => by show l.toArray.size = _; simp
    have hgt : ∀ k (h : k < s.length) (h' : k < (⟨s.toArray⟩ : ByteArray).size), (⟨s.toArray⟩ : ByteArray)[k] = s[k] := fun k h h' => rfl
    go_enter Try.func7, Try.ntmps7
    cases pl
    · go_wp2_with first
        | (go_at_call 8; ((refine (haw.out).mono ?_); rintro r w1 ⟨rfl, hb⟩; obtain ⟨b1, b1d, rfl⟩ := of_below hb; clear hb))
        | (go_at_call 20; ((refine (c2.out _ (by (repeat' (first | (with_reducible exact Below.refl _ _) | (with_reducible refine Below.app ?_ ?_ _ _) | (with_reducible refine Below.alloc ?_ ?_ _) | (with_reducible refine Below.drew ?_) | (with_reducible refine Below.setCell ?_ ?_ _) | (with_reducible assumption) | omega | (simp; omega) | (simp; done))))).mono ?_); rintro _ _ ⟨rfl, rfl⟩))
      all_goals (go_returns; exact ⟨rfl, by (repeat' (first | (with_reducible exact Below.refl _ _) | (with_reducible refine Below.app ?_ ?_ _ _) | (with_reducible refine Below.alloc ?_ ?_ _) | (with_reducible refine Below.drew ?_) | (with_reducible refine Below.setCell ?_ ?_ _) | (with_reducible assumption) | omega | (simp; omega) | (simp; done)))⟩)
    · go_wp2_with first
        | (go_at_call 8; ((refine (haw.out).mono ?_); rintro r w1 ⟨rfl, hb⟩; obtain ⟨b1, b1d, rfl⟩ := of_below hb; clear hb))
        | (go_at_call 20; ((refine (c2.out _ (by (repeat' (first | (with_reducible exact Below.refl _ _) | (with_reducible refine Below.app ?_ ?_ _ _) | (with_reducible refine Below.alloc ?_ ?_ _) | (with_reducible refine Below.drew ?_) | (with_reducible refine Below.setCell ?_ ?_ _) | (with_reducible assumption) | omega | (simp; omega) | (simp; done))))).mono ?_); rintro _ _ ⟨rfl, rfl⟩))
        | (go_at_call 9; ((refine (c0.out _ (by (repeat' (first | (with_reducible exact Below.refl _ _) | (with_reducible refine Below.app ?_ ?_ _ _) | (with_reducible refine Below.alloc ?_ ?_ _) | (with_reducible refine Below.drew ?_) | (with_reducible refine Below.setCell ?_ ?_ _) | (with_reducible assumption) | omega | (simp; omega) | (simp; done))))).mono ?_); rintro r w1 ⟨p1, k1, rfl, hs1, hb1⟩; obtain ⟨b2, d2, rfl⟩ := of_below hb1; (try simp only [app_app] at hs1); replace hs1 := hs1 _ (Below.refl _ _); clear hb1))
      go_loop [4, 5] (fun f i => ∃ a b : Nat, f = .int .i64 a ∧ i = .int .i64 b ∧ a ≤ s.length ∧ b ≤ s.length ∧ Hid (EndsAt s a b)) (fun _ i => s.length - (intOf i).toNat)
      case atStart => exact ⟨0, 0, rfl, rfl, by omega, by omega, hz⟩
      case round =>
        obtain ⟨f, i, rfl, rfl, hf, hi, hr⟩ := hrel
        clear hs1 hz
        by_cases hlt : i + 1 < s.length
        · have hlt2 : (i : Int) + 1 < s.length := by omega
          have g1 := hgt i (by omega) (by rw [hsz]; omega)
          have g2 := hgt (i + 1) hlt (by rw [hsz]; omega)
          clear hgt
          have hgo := fun hn => hr.out.go hlt hn
          have hhit := fun a b => hr.out.hit hlt a b
          have hbs : ∀ x y : UInt8, ((x.toNat : Int) != (y.toNat : Int)) = !decide (x = y) := fun x y => by
            rw [Bool.eq_iff_iff]; simp [← UInt8.toNat_inj]; omega
          have h13 : ((s[i].toNat : Int) != 13) = !decide (s[i] = 13) := hbs _ 13
          have h10 : ((s[i + 1].toNat : Int) != 10) = !decide (s[i + 1] = 10) := hbs _ 10
          have hbe : ∀ x y : UInt8, ((x.toNat : Int) == (y.toNat : Int)) = decide (x = y) := fun x y => by
            rw [Bool.eq_iff_iff]; simp [← UInt8.toNat_inj]; omega
          clear hr
          by_cases e13 : s[i] = 13
          · rw [decide_eq_true e13] at h13
            by_cases e10 : s[i + 1] = 10
            · rw [decide_eq_true e10] at h10
              obtain ⟨hfi, hc⟩ := hhit e13 e10
              have hext := ext_take s f (i - f)
              rw [show f + (i - f) = i by omega] at hext
              have hLl : ((s.drop f).take (i - f)).length = i - f := by rw [List.length_take, List.length_drop]; omega
              generalize (s.drop f).take (i - f) = L at *
              have hszL := hsz L
              clear hgo hhit hbs e13 e10 hLl
              rcases hc with ⟨h1, h2, h3⟩ | ⟨h1, h2, h3, h4⟩
              · have hR := Lib.hid h3
                have hl1 : ((i : Int) + 2 == (s.length : Int)) = true := by simp; omega
                subst h2
                clear h1 h3 hbe
                go_wp2
                go_round
                case rel => exact ⟨i + 2, i + 1, by go_num, by go_num, by omega, by omega, hR⟩
                case measure => first | (simp [intOf]; done) | (simp [intOf]; omega)
              · have hR := Lib.hid h4
                have hl1 : ((i : Int) + 2 == (s.length : Int)) = false := by simp; omega
                have hLe : (L == [46]) = false := by simpa using h2
                by_cases hL0 : 0 < L.length
                · have hL1 : 0 < (L.length : Int) := by omega
                  have gL0 : (⟨L.toArray⟩ : ByteArray)[0]'(by rw [hszL]; exact hL0) = L[0] := rfl
                  have hh : L.head? = some L[0] := by rw [List.head?_eq_getElem?, List.getElem?_eq_getElem hL0]
                  have hb46 : ((L[0].toNat : Int) == 46) = decide (L[0] = 46) := hbe _ 46
                  by_cases e46 : L[0] = 46
                  · rw [decide_eq_true e46] at hb46
                    obtain ⟨Y, hY⟩ := h3 (by rw [hh, e46])
                    have hL2 : 2 ≤ L.length := by rw [hY]; simp
                    have hL3 : ¬ (L.length : Int) < 2 := by omega
                    have gL1 : (⟨L.toArray⟩ : ByteArray)[1]'(by rw [hszL]; omega) = L[1] := rfl
                    have hL46 : L[1] = 46 := by simp [hY]
                    rw [hL46] at gL1
                    clear h3 h4 h2 hbe hh e46 hY hL46 h1
                    go_wp2
                    go_round
                    case rel => exact ⟨i + 2, i + 1, by go_num, by go_num, by omega, by omega, hR⟩
                    case measure => first | (simp [intOf]; done) | (simp [intOf]; omega)
                  · rw [decide_eq_false e46] at hb46
                    clear h3 h4 h2 hbe hh e46 h1
                    go_wp2
                    go_round
                    case rel => exact ⟨i + 2, i + 1, by go_num, by go_num, by omega, by omega, hR⟩
                    case measure => first | (simp [intOf]; done) | (simp [intOf]; omega)
                · have hL1 : ¬ 0 < (L.length : Int) := by omega
                  clear h3 h4 h2 hbe h1
                  go_wp2
                  go_round
                  case rel => exact ⟨i + 2, i + 1, by go_num, by go_num, by omega, by omega, hR⟩
                  case measure => first | (simp [intOf]; done) | (simp [intOf]; omega)
            · rw [decide_eq_false e10] at h10
              have hR := Lib.hid (hgo fun h => e10 h.2)
              clear hgo hhit hbs hbe e13 e10
              go_wp2
              go_round
              case rel => exact ⟨f, i + 1, by go_num, by go_num, by omega, by omega, hR⟩
              case measure => first | (simp [intOf]; done) | (simp [intOf]; omega)
          · rw [decide_eq_false e13] at h13
            have hR := Lib.hid (hgo fun h => e13 h.1)
            clear hgo hhit hbs hbe e13 h10
            go_wp2
            go_round
            case rel => exact ⟨f, i + 1, by go_num, by go_num, by omega, by omega, hR⟩
            case measure => first | (simp [intOf]; done) | (simp [intOf]; omega)
        · have hlt2 : ¬ (i : Int) + 1 < s.length := by omega
          have hfl := hr.out.done hlt
          subst hfl
          have hp4 : 3 ≤ (s.length : Int) := by omega
          clear hr hgt
          go_wp2
          go_returns
          exact ⟨rfl, by (repeat' (first | (with_reducible exact Below.refl _ _) | (with_reducible refine Below.app ?_ ?_ _ _) | (with_reducible refine Below.alloc ?_ ?_ _) | (with_reducible refine Below.drew ?_) | (with_reducible refine Below.setCell ?_ ?_ _) | (with_reducible assumption) | omega | (simp; omega) | (simp; done)))⟩
  · have hb2 : 3000 < (l.length : Int) := by omega
    clear h hmx hbig
    go_enter Try.func7, Try.ntmps7
    go_wp2_with (go_at_call 8; ((refine (haw.out).mono ?_); rintro r w1 ⟨rfl, hb⟩; obtain ⟨b1, b1d, rfl⟩ := of_below hb; clear hb))
    all_goals (go_returns; exact ⟨rfl, by (repeat' (first | (with_reducible exact Below.refl _ _) | (with_reducible refine Below.app ?_ ?_ _ _) | (with_reducible refine Below.alloc ?_ ?_ _) | (with_reducible refine Below.drew ?_) | (with_reducible refine Below.setCell ?_ ?_ _) | (with_reducible assumption) | omega | (simp; omega) | (simp; done)))⟩)

theorem dotEnds_law : LawWalk2 7 Try.f7 := by
  intro H enc W base args ds ps hA hval hsh
  rw [Try.params7] at hA hval
  obtain ⟨v0, vs0, d0, ds0, p0, q0, hargs, rfl, rfl, h0, r0⟩ := trodAll_cons hA
  obtain ⟨rfl, rfl, rfl⟩ := trodAll_nil r0
  obtain rfl : args = #[v0] := by cases args; simp_all
  obtain ⟨q, l, cap, rfl, h, _⟩ := open_bytes (hval 0 _ _ rfl rfl) h0
  exact dotEnds_walk q l cap W h (MaxLenAt.of hsh)

set_option maxRecDepth 100000 in
theorem dotEnds_holds : Rows.DotEndsSaid :=
  OpenClaim.holds_of_wide 7 Try.f7 rfl rfl rfl rfl rfl rfl rfl ⟨rfl, rfl, rfl, rfl, rfl⟩ rfl rfl rfl rfl rfl (by kernel_rfl) Try.func7 (by kernel_rfl)
    (of_decide_eq_true (by kernel_rfl)) (by unfold Func.isWrapper; first | (rw [if_pos (by decide +kernel)]; kernel_rfl) | (rw [if_neg (by decide +kernel)]; exact ⟨rfl, rfl⟩))
    (fun os started H enc _ => law_lift2 (s := Rows.dotEndsSpec) Try.func7 (by kernel_rfl) (by kernel_rfl) rfl (fun H ds hd => by match ds, hd with | [_], _ => rfl) (by kernel_rfl) os started H enc
      (ChangeSpec.witness6 (enc := enc) (C := Try.checked) false ⟨#[], #[.slice none 0 0], []⟩ 8 (by kernel_rfl) (by kernel_rfl) (by kernel_rfl) (by kernel_rfl)) dotEnds_law)
#print axioms dotEnds_holds
end Go.Proofs.Ytnoiaeajpjhldaa
