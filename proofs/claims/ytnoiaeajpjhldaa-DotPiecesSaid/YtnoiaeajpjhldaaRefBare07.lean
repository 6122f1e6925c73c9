/-
  ref07.bare: does a CR or LF stand alone?
-/
import Derived.Test.YtnoiaeajpjhldaaRefEnd07
namespace Go.Proofs.Ytnoiaeajpjhldaa
open Go.ChangeShapes Go.WideShapes Go.ChangeAt Go.RowKit

def prevB (l : List UInt8) (k : Nat) : Bool := decide (0 < k) && decide (l.getD (k - 1) 0 = 13)
theorem prevB_succ {l : List UInt8} {k : Nat} (h : k < l.length) : prevB l (k + 1) = decide (l[k] = 13) := by
  unfold prevB
  simp [h]
structure BareAt (l : List UInt8) (o R : Bool) (k : Nat) : Prop where
  val : bareL (prevB l k) (l.drop k) o = R
  lf : prevB l k = true → ∀ (h : k < l.length), l[k] = 10
  last : prevB l k = true → k = l.length → o = true
theorem bareL_at {l : List UInt8} {k : Nat} (h : k < l.length) (p o : Bool) : bareL p (l.drop k) o = if l[k] = 10 then !p || bareL false (l.drop (k + 1)) o else p || bareL (decide (l[k] = 13)) (l.drop (k + 1)) o := by
  rw [List.drop_eq_getElem_cons h, bareL]
theorem BareAt.zero (l : List UInt8) (o : Bool) : BareAt l o (bareL false l o) 0 := ⟨by simp [prevB], by simp [prevB], by simp [prevB]⟩
theorem BareAt.go {l : List UInt8} {o R : Bool} {k : Nat} (h : BareAt l o R k) (hk : k < l.length) (h1 : l[k] = 10 → prevB l k = true) (h2 : l[k] = 13 → (∀ h : k + 1 < l.length, l[k + 1] = 10) ∧ (k + 1 = l.length → o = true)) : BareAt l o R (k + 1) := by
  have e := prevB_succ hk
  refine ⟨?_, fun hp hk2 => ?_, fun hp hk2 => ?_⟩
  · rw [← h.val, bareL_at hk, e]
    by_cases h10 : l[k] = 10
    · rw [if_pos h10, h1 h10, h10]; rfl
    · rw [if_neg h10]
      have : prevB l k = false := by
        cases hp : prevB l k with
        | false => rfl
        | true => exact absurd (h.lf hp hk) h10
      rw [this]; rfl
  · rw [e] at hp; exact (h2 (by simpa using hp)).1 hk2
  · rw [e] at hp; exact (h2 (by simpa using hp)).2 hk2
theorem BareAt.hit {l : List UInt8} {o R : Bool} {k : Nat} (h : BareAt l o R k) (hk : k < l.length) (h1 : (l[k] = 10 ∧ prevB l k = false) ∨ (l[k] = 13 ∧ ((∃ h : k + 1 < l.length, ¬ l[k + 1] = 10) ∨ (k + 1 = l.length ∧ o = false)))) : R = true := by
  rw [← h.val, bareL_at hk]
  rcases h1 with ⟨a, b⟩ | ⟨a, b⟩
  · rw [if_pos a, b]; rfl
  · rw [if_neg (by rw [a]; decide), a]
    rcases b with ⟨c, d⟩ | ⟨c, d⟩
    · rw [show decide ((13 : UInt8) = 13) = true by decide, bareL_at c, if_neg d]; simp
    · rw [List.drop_of_length_le (by omega), d, show decide ((13 : UInt8) = 13) = true by decide, bareL]; simp
theorem BareAt.done {l : List UInt8} {o R : Bool} (h : BareAt l o R l.length) : R = false := by
  rw [← h.val, List.drop_of_length_le (Nat.le_refl _), bareL]
  cases hp : prevB l l.length with
  | false => rfl
  | true => rw [h.last hp rfl]; rfl
theorem getD_lt' {s : ByteArray} {n : Nat} (h : n < s.size) : s.data.toList.getD n 0 = s[n] := by simp [List.getD, h]; rfl
set_option maxHeartbeats 4000000 in
theorem bare_calls (s : ByteArray) (o : Bool) (hs : s.size ≤ 100000000) (w : World) : Calls Try.prog 24 #[.string s, .bool o] w fun r w' => r = .returned (.bool (bareL false s.data.toList o)) ∧ w = w' := by
  have hlen : s.data.toList.length = s.size := by simp
  have hz := BareAt.zero s.data.toList o
  generalize bareL false s.data.toList o = R at hz ⊢
  go_enter Try.func24, Try.ntmps24
  go_wp2
  go_loop [5] (fun i => ∃ k : Nat, k ≤ s.size ∧ i = .int .i64 k ∧ BareAt s.data.toList o R k) (fun i => s.size - (intOf i).toNat)
  case atStart => exact ⟨0, by omega, rfl, hz⟩
  case round =>
    obtain ⟨k, hk, rfl, hr⟩ := hrel
    clear hz
    by_cases hlt : k < s.size
    · have hkl : k < s.data.toList.length := by omega
      have g1 : s.data.toList[k] = s[k] := rfl
      cases h13 : ((s[k].toNat : Int) == 13)
      · have n13 : ¬ s[k] = 13 := by intro e; rw [e] at h13; simp at h13
        cases h10 : ((s[k].toNat : Int) == 10)
        · have n10 : ¬ s[k] = 10 := by intro e; rw [e] at h10; simp at h10
          have hR := hr.go hkl (fun e => absurd (g1.symm.trans e) n10) (fun e => absurd (g1.symm.trans e) n13)
          clear hr n13 n10 g1
          go_wp2
          go_round
          case rel => exact ⟨k + 1, by omega, by go_num, hR⟩
          case measure => first | (simp [intOf]; done) | (simp [intOf]; omega)
        · have e10 : s[k] = 10 := by rw [← UInt8.toNat_inj]; simp at h10 ⊢; omega
          by_cases k0 : k = 0
          · subst k0
            have hT : Hid (true = R) := (hr.hit hkl (.inl ⟨g1.trans e10, by simp [prevB]⟩)).symm
            clear hr e10 n13 g1
            go_wp2
            go_returns
            exact ⟨rb hT.out, rfl⟩
          · have kz : ((k : Int) == 0) = false := by simp; omega
            have k1 : 1 ≤ (k : Int) := by omega
            have k2 : (k : Int) - 1 < s.size := by omega
            have hk1 : k - 1 < s.size := by omega
            have hpb : prevB s.data.toList k = decide (s[k - 1] = 13) := by
              unfold prevB
              rw [getD_lt' hk1]
              simp [show 0 < k by omega]
            cases hp : ((s[k - 1].toNat : Int) == 13)
            · have hp' : ((s[k - 1].toNat : Int) != 13) = true := by simp [bne, hp]
              have np : ¬ s[k - 1] = 13 := by intro e; rw [e] at hp; simp at hp
              have hT : Hid (true = R) := (hr.hit hkl (.inl ⟨g1.trans e10, by rw [hpb]; simp [np]⟩)).symm
              clear hr e10 n13 g1 np hpb k0
              go_wp2
              go_returns
              exact ⟨rb hT.out, rfl⟩
            · have hp' : ((s[k - 1].toNat : Int) != 13) = false := by simp [bne, hp]
              have np : s[k - 1] = 13 := by rw [← UInt8.toNat_inj]; simp at hp ⊢; omega
              have hR := hr.go hkl (fun _ => by rw [hpb]; simp [np]) (fun e => absurd (g1.symm.trans e) n13)
              clear hr e10 n13 g1 np hpb k0
              go_wp2
              go_round
              case rel => exact ⟨k + 1, by omega, by go_num, hR⟩
              case measure => first | (simp [intOf]; done) | (simp [intOf]; omega)
      · have e13 : s[k] = 13 := by rw [← UInt8.toNat_inj]; simp at h13 ⊢; omega
        have n10 : ¬ s[k] = 10 := by rw [e13]; decide
        have h10 : ((s[k].toNat : Int) == 10) = false := by rw [e13]; rfl
        by_cases hk1 : k + 1 < s.size
        · have hk2 : (k : Int) + 1 < s.size := by omega
          have g2 : s.data.toList[k + 1]'(by omega) = s[k + 1] := rfl
          have hke : ((k : Int) + 1 == (s.size : Int)) = false := by simp; omega
          cases hn : ((s[k + 1].toNat : Int) == 10)
          · have hn' : ((s[k + 1].toNat : Int) != 10) = true := by simp [bne, hn]
            have nn : ¬ s[k + 1] = 10 := by intro e; rw [e] at hn; simp at hn
            have hT : Hid (true = R) := (hr.hit hkl (.inr ⟨g1.trans e13, .inl ⟨by omega, fun e => nn (g2.symm.trans e)⟩⟩)).symm
            clear hr e13 n10 g1 g2 nn
            go_wp2
            go_returns
            exact ⟨rb hT.out, rfl⟩
          · have hn' : ((s[k + 1].toNat : Int) != 10) = false := by simp [bne, hn]
            have nn : s[k + 1] = 10 := by rw [← UInt8.toNat_inj]; simp at hn ⊢; omega
            have hR := hr.go hkl (fun e => absurd (g1.symm.trans e) n10) (fun _ => ⟨fun _ => g2.trans nn, fun e => by omega⟩)
            clear hr e13 n10 g1 g2 nn
            go_wp2
            go_round
            case rel => exact ⟨k + 1, by omega, by go_num, hR⟩
            case measure => first | (simp [intOf]; done) | (simp [intOf]; omega)
        · have hk2 : ¬ (k : Int) + 1 < s.size := by omega
          have hke : ((k : Int) + 1 == (s.size : Int)) = true := by simp; omega
          cases o
          · have hT : Hid (true = R) := (hr.hit hkl (.inr ⟨g1.trans e13, .inr ⟨by omega, rfl⟩⟩)).symm
            clear hr e13 n10 g1
            go_wp2
            go_returns
            exact ⟨rb hT.out, rfl⟩
          · have hR := hr.go hkl (fun e => absurd (g1.symm.trans e) n10) (fun _ => ⟨fun h => by omega, fun _ => rfl⟩)
            clear hr e13 n10 g1
            go_wp2
            go_round
            case rel => exact ⟨k + 1, by omega, by go_num, hR⟩
            case measure => first | (simp [intOf]; done) | (simp [intOf]; omega)
    · have hke : k = s.size := by omega
      subst hke
      have hR : Hid (R = false) := by unfold Hid; rw [← hlen] at hr; exact hr.done
      clear hr
      go_wp2
      go_returns
      exact ⟨rb hR.out.symm, rfl⟩
end Go.Proofs.Ytnoiaeajpjhldaa
