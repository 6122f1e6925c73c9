/-
  ref05.domain: how many bytes a domain has.
-/
import Derived.Test.YtnbllnnbdopjoaaRefAtoms
namespace Go.Proofs.Ytnbllnnbdopjoaa
open Go.ChangeShapes Go.WideShapes Go.ChangeAt Go.RowKit

def domCh (c : UInt8) : Bool := alnumB c || (((c.toNat : Int) == 45) || ((c.toNat : Int) == 46))
def rdomN (l : List UInt8) : Nat := if labelsB (l.take (spanLen domCh l)) = true then spanLen domCh l else 0

set_option maxHeartbeats 4000000 in
theorem rdom_calls (s : ByteArray) (hs : s.size ≤ 1000000000000) (w : World) : Calls Try.prog 30 #[.string s] w fun r w' => r = .returned (.int .i64 (rdomN s.data.toList : Int)) ∧ Below w.heap.size w w' := by
  have hlen : s.data.toList.length = s.size := by simp
  have hst : Hid (spanLen domCh s.data.toList = 0 + spanLen domCh (s.data.toList.drop 0)) := by unfold Hid; rw [List.drop_zero, Nat.zero_add]
  go_enter Try.func30, Try.ntmps30
  go_wp2
  go_loop [3] (fun i => ∃ k : Nat, k ≤ s.size ∧ i = .int .i64 k ∧ Hid (spanLen domCh s.data.toList = k + spanLen domCh (s.data.toList.drop k))) (fun i => s.size - (intOf i).toNat)
  case atStart => exact ⟨0, by omega, rfl, hst⟩
  case round =>
    obtain ⟨k, hk, rfl, hr⟩ := hrel
    clear hst
    have hend : ∀ {G : Prop}, (Hid (spanLen domCh s.data.toList = k) → G) → spanLen domCh (s.data.toList.drop k) = 0 → G := fun h e => h (by unfold Hid; rw [hr.out, e, Nat.add_zero])
    have hex : s.extract 0 k = ⟨(s.data.toList.take k).toArray⟩ := by
      have := extract_list s 0 k
      rwa [Nat.zero_add, List.drop_zero] at this
    have hesz : (s.extract 0 k).size ≤ 1000000000000 := by rw [ByteArray.size_extract]; omega
    have hlc := rlabels_calls (s.extract 0 k) hesz
    have htl : (s.extract 0 k).data.toList = s.data.toList.take k := by rw [hex]
    rw [htl] at hlc
    clear hex htl
    replace hlc := Lib.hid hlc
    have hval : ∀ b, Hid (spanLen domCh s.data.toList = k) → labelsB (s.data.toList.take k) = b → Hid (rdomN s.data.toList = if b = true then k else 0) := by
      intro b h1 h2
      unfold Hid rdomN
      rw [h1.out, h2]
    replace hval := Lib.hid hval
    by_cases hlt : k < s.size
    · have had := spanLen_at domCh s.data.toList k (by omega)
      have hgk : s.data.toList[k]'(by omega) = s[k] := rfl
      rw [hgk] at had
      have hac := alnum_calls s[k]
      unfold domCh at had
      rw [show (fun c : UInt8 => alnumB c || (((c.toNat : Int) == 45) || ((c.toNat : Int) == 46))) = domCh from rfl] at had
      cases hal : alnumB s[k]
      · rw [hal] at hac had
        replace hac := Lib.hid hac
        cases h45 : ((s[k].toNat : Int) == 45)
        · cases h46 : ((s[k].toNat : Int) == 46)
          · have hsp : Hid (spanLen domCh s.data.toList = k) := by
              unfold Hid
              rw [h45, h46] at had
              rw [hr.out, had]; rfl
            cases hL : labelsB (s.data.toList.take k)
            · have hv := hval.out _ hsp hL
              have hlc2 := hlc.out
              rw [hL] at hlc2
              replace hlc2 := Lib.hid hlc2
              clear had hgk hal hr hend hval hL hsp hlc
              go_wp2_with (first | (go_at_call 43; ((with_reducible refine (hac.out _).mono ?_); rintro _ _ ⟨rfl, rfl⟩)) | (go_at_call 32; ((with_reducible refine (hlc2.out _).mono ?_); rintro _ w1 ⟨rfl, hbw⟩)))
              go_returns
              exact ⟨by rw [hv.out]; rfl, hbw⟩
            · have hv := hval.out _ hsp hL
              have hlc2 := hlc.out
              rw [hL] at hlc2
              replace hlc2 := Lib.hid hlc2
              clear had hgk hal hr hend hval hL hsp hlc
              go_wp2_with (first | (go_at_call 43; ((with_reducible refine (hac.out _).mono ?_); rintro _ _ ⟨rfl, rfl⟩)) | (go_at_call 32; ((with_reducible refine (hlc2.out _).mono ?_); rintro _ w1 ⟨rfl, hbw⟩)))
              go_returns
              exact ⟨by rw [hv.out]; rfl, hbw⟩
          · have hR : Hid (spanLen domCh s.data.toList = (k + 1) + spanLen domCh (s.data.toList.drop (k + 1))) := by
              unfold Hid
              rw [h45, h46] at had
              rw [hr.out, had]; simp; omega
            clear had hgk hal hr hend hval hlc
            go_wp2_with (go_at_call 43; ((with_reducible refine (hac.out _).mono ?_); rintro _ _ ⟨rfl, rfl⟩))
            go_round
            case rel => exact ⟨k + 1, by omega, by go_num, hR⟩
            case measure => first | (simp [intOf]; done) | (simp [intOf]; omega)
        · have hR : Hid (spanLen domCh s.data.toList = (k + 1) + spanLen domCh (s.data.toList.drop (k + 1))) := by
            unfold Hid
            rw [h45] at had
            rw [hr.out, had]; simp; omega
          clear had hgk hal hr hend hval hlc
          go_wp2_with (go_at_call 43; ((with_reducible refine (hac.out _).mono ?_); rintro _ _ ⟨rfl, rfl⟩))
          go_round
          case rel => exact ⟨k + 1, by omega, by go_num, hR⟩
          case measure => first | (simp [intOf]; done) | (simp [intOf]; omega)
      · rw [hal] at hac had
        replace hac := Lib.hid hac
        have hR : Hid (spanLen domCh s.data.toList = (k + 1) + spanLen domCh (s.data.toList.drop (k + 1))) := by
          unfold Hid
          rw [hr.out, had]; simp; omega
        clear had hgk hal hr hend hval hlc
        go_wp2_with (go_at_call 43; ((with_reducible refine (hac.out _).mono ?_); rintro _ _ ⟨rfl, rfl⟩))
        go_round
        case rel => exact ⟨k + 1, by omega, by go_num, hR⟩
        case measure => first | (simp [intOf]; done) | (simp [intOf]; omega)
    · have hke : k = s.size := by omega
      subst hke
      have hsp : Hid (spanLen domCh s.data.toList = s.size) := by unfold Hid; rw [hr.out, spanLen_end _ _ _ (by omega)]; rfl
      cases hL : labelsB (s.data.toList.take s.size)
      · have hv := hval.out _ hsp hL
        have hlc2 := hlc.out
        rw [hL, show s.extract 0 s.size = s from ByteArray.extract_zero_size] at hlc2
        replace hlc2 := Lib.hid hlc2
        clear hr hend hval hL hsp hlc
        go_wp2_with (go_at_call 32; ((with_reducible refine (hlc2.out _).mono ?_); rintro _ w1 ⟨rfl, hbw⟩))
        go_returns
        exact ⟨by rw [hv.out]; rfl, hbw⟩
      · have hv := hval.out _ hsp hL
        have hlc2 := hlc.out
        rw [hL, show s.extract 0 s.size = s from ByteArray.extract_zero_size] at hlc2
        replace hlc2 := Lib.hid hlc2
        clear hr hend hval hL hsp hlc
        go_wp2_with (go_at_call 32; ((with_reducible refine (hlc2.out _).mono ?_); rintro _ w1 ⟨rfl, hbw⟩))
        go_returns
        exact ⟨by rw [hv.out]; rfl, hbw⟩
end Go.Proofs.Ytnbllnnbdopjoaa
