/-
  ref05.local: the half without quotes.
-/
import Derived.Test.YtnbllnnbdopjoaaRefAtomLaw
namespace Go.Proofs.Ytnbllnnbdopjoaa
open Go.ChangeShapes Go.WideShapes Go.ChangeAt Go.RowKit

theorem atCh_int (c : UInt8) : atCh c = (atomB c || ((c.toNat : Int) == 46)) := by
  unfold atCh; congr 1; rw [Bool.eq_iff_iff]; simp; rw [← UInt8.toNat_inj]; simp; omega
/-- The half without quotes. -/
def rlocA (s : ByteArray) : Nat := if ratomsB (s.data.toList.take (spanLen atCh s.data.toList)) = true then spanLen atCh s.data.toList else 0

set_option maxHeartbeats 4000000 in
theorem rlocal_plain (s : ByteArray) (hs : s.size ≤ 1000000000000) (h1 : 0 < s.size) (hq : ((s[0].toNat : Int) == 34) = false) (w : World) : Calls Try.prog 40 #[.string s] w fun r w' => r = .returned (.tuple #[.string (s.extract 0 (rlocA s)), .int .i64 (rlocA s : Int)]) ∧ Below w.heap.size w w' := by
  have hlen : s.data.toList.length = s.size := by simp
  have hst : Hid (spanLen atCh s.data.toList = 0 + spanLen atCh (s.data.toList.drop 0)) := by unfold Hid; rw [List.drop_zero, Nat.zero_add]
  have hxl : s.toList = s.data.toList := ByteArray.toList_mk s.data.toList
  have he2 : s.toList.isEmpty = false := by
    rw [hxl]
    cases h : s.data.toList with
    | nil => rw [h] at hlen; simp at hlen; omega
    | cons a b => rfl
  clear hxl
  have hq2 : ((s[0].toNat : Int) != 34) = true := by simp [bne, hq]
  go_enter Try.func40, Try.ntmps40
  go_wp2
  go_loop [4] (fun i => ∃ k : Nat, k ≤ s.size ∧ i = .int .i64 k ∧ Hid (spanLen atCh s.data.toList = k + spanLen atCh (s.data.toList.drop k))) (fun i => s.size - (intOf i).toNat)
  case atStart => exact ⟨0, by omega, rfl, hst⟩
  case round =>
    obtain ⟨k, hk, rfl, hr⟩ := hrel
    clear hst
    have hend : ∀ {G : Prop}, (Hid (spanLen atCh s.data.toList = k) → G) → spanLen atCh (s.data.toList.drop k) = 0 → G := fun h e => h (by unfold Hid; rw [hr.out, e, Nat.add_zero])
    have hex : s.extract 0 k = ⟨(s.data.toList.take k).toArray⟩ := by
      have := extract_list s 0 k
      rwa [Nat.zero_add, List.drop_zero] at this
    have hesz : (s.extract 0 k).size ≤ 1000000000000 := by rw [ByteArray.size_extract]; omega
    have hlc := ratoms_calls (s.extract 0 k) hesz
    have htl : (s.extract 0 k).data.toList = s.data.toList.take k := by rw [hex]
    rw [htl] at hlc
    clear hex htl
    replace hlc := Lib.hid hlc
    have hval : ∀ b, Hid (spanLen atCh s.data.toList = k) → ratomsB (s.data.toList.take k) = b → Hid (rlocA s = if b = true then k else 0) := by
      intro b h1 h2
      unfold Hid rlocA
      rw [h1.out, h2]
    replace hval := Lib.hid hval
    by_cases hlt : k < s.size
    · have had := spanLen_at atCh s.data.toList k (by omega)
      have hgk : s.data.toList[k]'(by omega) = s[k] := rfl
      rw [hgk] at had
      have hac := ratom_calls s[k]
      rw [atCh_int] at had
      cases hal : atomB s[k]
      · rw [hal] at hac had
        replace hac := Lib.hid hac
        cases h46 : ((s[k].toNat : Int) == 46)
        · have hsp : Hid (spanLen atCh s.data.toList = k) := by
            unfold Hid
            rw [h46] at had
            rw [hr.out, had]; rfl
          cases hL : ratomsB (s.data.toList.take k)
          · have hv := hval.out _ hsp hL
            have hlc2 := hlc.out
            rw [hL] at hlc2
            replace hlc2 := Lib.hid hlc2
            clear had hgk hal hr hend hval hL hsp hlc
            go_wp2_with (first | (go_at_call 48; ((with_reducible refine (hac.out _).mono ?_); rintro _ _ ⟨rfl, rfl⟩)) | (go_at_call 37; ((with_reducible refine (hlc2.out _).mono ?_); rintro _ w1 ⟨rfl, hbw⟩)))
            go_returns
            exact ⟨by rw [hv.out]; first | rfl | (simp; done) | (simp; rfl), hbw⟩
          · have hv := hval.out _ hsp hL
            have hlc2 := hlc.out
            rw [hL] at hlc2
            replace hlc2 := Lib.hid hlc2
            clear had hgk hal hr hend hval hL hsp hlc
            go_wp2_with (first | (go_at_call 48; ((with_reducible refine (hac.out _).mono ?_); rintro _ _ ⟨rfl, rfl⟩)) | (go_at_call 37; ((with_reducible refine (hlc2.out _).mono ?_); rintro _ w1 ⟨rfl, hbw⟩)))
            go_returns
            exact ⟨by rw [hv.out]; first | rfl | (simp; done) | (simp; rfl), hbw⟩
        · have hR : Hid (spanLen atCh s.data.toList = (k + 1) + spanLen atCh (s.data.toList.drop (k + 1))) := by
            unfold Hid
            rw [h46] at had
            rw [hr.out, had]; simp; omega
          clear had hgk hal hr hend hval hlc
          go_wp2_with (go_at_call 48; ((with_reducible refine (hac.out _).mono ?_); rintro _ _ ⟨rfl, rfl⟩))
          go_round
          case rel => exact ⟨k + 1, by omega, by go_num, hR⟩
          case measure => first | (simp [intOf]; done) | (simp [intOf]; omega)
      · rw [hal] at hac had
        replace hac := Lib.hid hac
        have hR : Hid (spanLen atCh s.data.toList = (k + 1) + spanLen atCh (s.data.toList.drop (k + 1))) := by
          unfold Hid
          rw [hr.out, had]; simp; omega
        clear had hgk hal hr hend hval hlc
        go_wp2_with (go_at_call 48; ((with_reducible refine (hac.out _).mono ?_); rintro _ _ ⟨rfl, rfl⟩))
        go_round
        case rel => exact ⟨k + 1, by omega, by go_num, hR⟩
        case measure => first | (simp [intOf]; done) | (simp [intOf]; omega)
    · have hke : k = s.size := by omega
      subst hke
      have hsp : Hid (spanLen atCh s.data.toList = s.size) := by unfold Hid; rw [hr.out, spanLen_end _ _ _ (by omega)]; rfl
      cases hL : ratomsB (s.data.toList.take s.size)
      · have hv := hval.out _ hsp hL
        have hlc2 := hlc.out
        rw [hL, show s.extract 0 s.size = s from ByteArray.extract_zero_size] at hlc2
        replace hlc2 := Lib.hid hlc2
        clear hr hend hval hL hsp hlc
        go_wp2_with (go_at_call 37; ((with_reducible refine (hlc2.out _).mono ?_); rintro _ w1 ⟨rfl, hbw⟩))
        go_returns
        exact ⟨by rw [hv.out]; first | rfl | (simp; done) | (simp; rfl), hbw⟩
      · have hv := hval.out _ hsp hL
        have hlc2 := hlc.out
        rw [hL, show s.extract 0 s.size = s from ByteArray.extract_zero_size] at hlc2
        replace hlc2 := Lib.hid hlc2
        clear hr hend hval hL hsp hlc
        go_wp2_with (go_at_call 37; ((with_reducible refine (hlc2.out _).mono ?_); rintro _ w1 ⟨rfl, hbw⟩))
        go_returns
        exact ⟨by rw [hv.out]; first | rfl | (simp; done) | (simp; rfl), hbw⟩
end Go.Proofs.Ytnbllnnbdopjoaa
