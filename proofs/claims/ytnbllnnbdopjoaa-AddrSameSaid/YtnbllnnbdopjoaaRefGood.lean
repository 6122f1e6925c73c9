/-
  ref05.Good, ref05.lower, ref05.Key: what they give.
-/
import Derived.Test.YtnbllnnbdopjoaaAddrText
import Derived.Test.YtnbllnnbdopjoaaRefLabels
import Derived.Test.YtnbllnnbdopjoaaRefDomLaw
import Derived.Laws.BytesArg
namespace Go.Proofs.Ytnbllnnbdopjoaa
open Go.ChangeShapes Go.WideShapes Go.ChangeAt Go.RowKit

set_option maxHeartbeats 4000000 in
theorem rgood_calls (x y : ByteArray) (hx : x.size ≤ 1000000000000) (hy : y.size ≤ 1000000000000) (w : World) : Calls Try.prog 18 #[.agg #[.string x, .string y]] w fun r w' => r = .returned (.bool (goodB x y)) ∧ Below w.heap.size w w' := by
  have hlen : x.data.toList.length = x.size := by simp
  have hdc := rdomain_calls y hy
  rw [← domain_law] at hdc
  replace hdc := Lib.hid hdc
  go_enter Try.func18, Try.ntmps18
  go_wp2
  go_loop [3] (fun i => ∃ k : Nat, k ≤ x.size ∧ i = .int .i64 k ∧ Hid (goodB x y = ((x.data.toList.drop k).all plainB && (!x.data.toList.isEmpty && decide (x.size ≤ 64) && domainB y.data.toList)))) (fun i => x.size - (intOf i).toNat)
  case atStart => exact ⟨0, by omega, rfl, by unfold Hid; rw [List.drop_zero]; rfl⟩
  case round =>
    obtain ⟨k, hk, rfl, hr⟩ := hrel
    by_cases hlt : k < x.size
    · have had := @all_drop plainB x.data.toList k (by omega)
      have hgk : x.data.toList[k]'(by omega) = x[k] := rfl
      rw [hgk] at had
      have hpc := rplain_calls x[k]
      by_cases hp : plainB x[k] = true
      · have hr' : Hid (goodB x y = ((x.data.toList.drop (k + 1)).all plainB && (!x.data.toList.isEmpty && decide (x.size ≤ 64) && domainB y.data.toList))) := by unfold Hid; rw [hr.out, had, hp, Bool.true_and]
        rw [hp] at hpc
        clear had hgk hp hr
        replace hpc := Lib.hid hpc
        go_wp2_with (go_at_call 35; ((with_reducible refine (hpc.out _).mono ?_); rintro _ _ ⟨rfl, rfl⟩))
        go_round
        case rel => exact ⟨k + 1, by omega, by go_num, hr'⟩
        case measure => simp [intOf]; omega
      · rw [Bool.not_eq_true] at hp
        have hr' : Hid (goodB x y = false) := by unfold Hid; rw [hr.out, had, hp]; rfl
        rw [hp] at hpc
        clear had hgk hp hr
        replace hpc := Lib.hid hpc
        go_wp2_with (go_at_call 35; ((with_reducible refine (hpc.out _).mono ?_); rintro _ _ ⟨rfl, rfl⟩))
        go_returns
        exact ⟨rb hr'.out.symm, by (repeat' (first | (with_reducible exact Below.refl _ _) | (with_reducible refine Below.app ?_ ?_ _ _) | (with_reducible refine Below.alloc ?_ ?_ _) | (with_reducible refine Below.drew ?_) | (with_reducible refine Below.setCell ?_ ?_ _) | (with_reducible assumption) | omega | (simp; omega) | (simp; done)))⟩
    · have hke : k = x.size := by omega
      subst hke
      have hr' : Hid (goodB x y = (!x.data.toList.isEmpty && decide (x.size ≤ 64) && domainB y.data.toList)) := by unfold Hid; rw [hr.out, List.drop_of_length_le (by omega)]; rfl
      have hemp : x.data.toList.isEmpty = decide (x.size = 0) := by rw [← hlen]; cases x.data.toList <;> simp
      clear hr
      by_cases h1 : 1 ≤ x.size
      · by_cases h64 : x.size ≤ 64
        · have hv : Hid (goodB x y = domainB y.data.toList) := by unfold Hid; rw [hr'.out, hemp]; simp [show x.size ≠ 0 by omega, h64]
          clear hemp hr'
          go_wp2_with (go_at_call 14; ((refine (hdc.out _).mono ?_); rintro r w1 ⟨rfl, hb⟩; obtain ⟨b1, b1d, rfl⟩ := of_below hb; clear hb))
          go_returns
          exact ⟨rb hv.out.symm, by (repeat' (first | (with_reducible exact Below.refl _ _) | (with_reducible refine Below.app ?_ ?_ _ _) | (with_reducible refine Below.alloc ?_ ?_ _) | (with_reducible refine Below.drew ?_) | (with_reducible refine Below.setCell ?_ ?_ _) | (with_reducible assumption) | omega | (simp; omega) | (simp; done)))⟩
        · have hv : Hid (goodB x y = false) := by unfold Hid; rw [hr'.out]; simp [h64]
          clear hemp hr'
          go_wp2
          go_returns
          exact ⟨rb hv.out.symm, by (repeat' (first | (with_reducible exact Below.refl _ _) | (with_reducible refine Below.app ?_ ?_ _ _) | (with_reducible refine Below.alloc ?_ ?_ _) | (with_reducible refine Below.drew ?_) | (with_reducible refine Below.setCell ?_ ?_ _) | (with_reducible assumption) | omega | (simp; omega) | (simp; done)))⟩
      · have hv : Hid (goodB x y = false) := by unfold Hid; rw [hr'.out, hemp]; simp [show x.size = 0 by omega]
        clear hemp hr'
        go_wp2
        go_returns
        exact ⟨rb hv.out.symm, by (repeat' (first | (with_reducible exact Below.refl _ _) | (with_reducible refine Below.app ?_ ?_ _ _) | (with_reducible refine Below.alloc ?_ ?_ _) | (with_reducible refine Below.drew ?_) | (with_reducible refine Below.setCell ?_ ?_ _) | (with_reducible assumption) | omega | (simp; omega) | (simp; done)))⟩

/-- A row of bytes of the call's own, back as a text; the empty one too. -/
theorem own_text {w : World} {B : Nat} {v : Value} {l : List UInt8} (h : w.ownsRow B 5 1 v l.length (Lib.byteCells l)) : (convert 56 9 v).run Try.prog w = .ok (.string ⟨l.toArray⟩) w := by
  by_cases h0 : l = []
  · subst h0
    obtain ⟨_, ⟨hv, _⟩ | ⟨g, cap, cur, rfl, _, hg, _, _, _, ht⟩⟩ := h
    · rw [hv]; exact run_convert_bytes_nil w 56 5 rfl rfl _ _ 9 rfl
    · exact run_convert_bytes_back (P := Try.prog) w 56 9 5 ⟨g, 0, none⟩ cap [] rfl rfl rfl (fun j hj => absurd hj (by simp))
  · exact own_back h h0
def RelRL (s : ByteArray) (w : World) (k : Nat) (v : Value) (wr : World) : Prop :=
  wr.ownsRow w.heap.size 5 1 v ((s.data.toList.take k).map lowerB).length (Lib.byteCells ((s.data.toList.take k).map lowerB)) ∧ Below w.heap.size w wr
theorem low_take {s : ByteArray} {k : Nat} (h : k < s.size) : (s.data.toList.take (k + 1)).map lowerB = (s.data.toList.take k).map lowerB ++ [lowerB s[k]] := by
  have hl : k < s.data.toList.length := by simpa using h
  rw [List.take_succ_eq_append_getElem hl, List.map_append]
  rfl
set_option maxHeartbeats 4000000 in
theorem rlower_calls (s : ByteArray) (hs : s.size ≤ 1000000000000) (w : World) : Calls Try.prog 36 #[.string s] w fun r w' => r = .returned (.string (lowerS s)) ∧ Below w.heap.size w w' := by
  have hlen : s.data.toList.length = s.size := by simp
  obtain ⟨i0, hi, hz0, hz1, hz2⟩ := info_parts infoByte
  go_enter Try.func36, Try.ntmps36
  go_wp2
  go_loopw [3, 4] (fun v i wr => ∃ k : Nat, k ≤ s.size ∧ i = .int .i64 k ∧ RelRL s w k v wr) (fun _ i _ => s.size - (intOf i).toNat)
  case atStart => exact ⟨0, by omega, rfl, World.ownsRow_nil _ _ _ _, Below.refl _ _⟩
  case round =>
    obtain ⟨k, hk, rfl, hown, hbw⟩ := hrel
    by_cases hlt : k < s.size
    · have hle : ((s.data.toList.take k).map lowerB).length ≤ 1000000000000 := by simp; omega
      have hts := Lib.hid (low_take hlt)
      by_cases hu : 65 ≤ s[k].toNat ∧ s[k].toNat ≤ 90
      · have hlo := Lib.hid (lowerB_nat _ hu)
        obtain ⟨hu1, hu2⟩ := hu
        have hu3 : 65 ≤ (s[k].toNat : Int) := by omega
        have hu4 : (s[k].toNat : Int) ≤ 90 := by omega
        go_wp2_with (at_builtin; refine wpList_append_own _ rfl _ _ 56 rfl w.heap.size 5 i0 (.int .u8 0) 1 1 Try.underlying56 hi hz0 hz1 hz2 rfl (by decide) _ _ _ rfl (hown.alloc _) _ 1 1 [.int .u8 ((s[k].toNat : Int) + 32)] rfl rfl ?c1 ?c2 ?c3 ?c4 ?c5 ?_; (case c1 => exact one_new _ _ (by first | rfl | (simp; done)) _ _); (case c2 => (intro u hu; simp at hu; subst hu; rfl)); (case c3 => (unfold maxLen; omega)); (case c4 => omega); (case c5 => (have := hbw.size; simp; omega)); intro v1 w1 hown1 hg0 _; have hbw1 := (hbw.alloc hbw.size _).grown hg0 (by have := hbw.size; simp; omega) (fun k hk => (hown.lt k hk).1); clear hg0)
        go_roundw
        case rel => exact ⟨k + 1, by omega, by go_num, own_cast hown1 (by rw [hts.out]; simp) (by rw [hts.out]; simp [Lib.byteCells, hlo.out]), hbw1⟩
        case measure => first | (simp [intOf]; done) | (simp [intOf]; omega)
      · have hlo : Hid (lowerB s[k] = s[k]) := by unfold Hid lowerB; rw [if_neg hu]
        by_cases hu1 : 65 ≤ s[k].toNat
        · have hu3 : 65 ≤ (s[k].toNat : Int) := by omega
          have hu4 : ¬ (s[k].toNat : Int) ≤ 90 := by omega
          clear hu
          go_wp2_with (at_builtin; refine wpList_append_own _ rfl _ _ 56 rfl w.heap.size 5 i0 (.int .u8 0) 1 1 Try.underlying56 hi hz0 hz1 hz2 rfl (by decide) _ _ _ rfl (hown.alloc _) _ 1 1 [.int .u8 (s[k].toNat : Int)] rfl rfl ?c1 ?c2 ?c3 ?c4 ?c5 ?_; (case c1 => exact one_new _ _ (by first | rfl | (simp; done)) _ _); (case c2 => (intro u hu; simp at hu; subst hu; rfl)); (case c3 => (unfold maxLen; omega)); (case c4 => omega); (case c5 => (have := hbw.size; simp; omega)); intro v1 w1 hown1 hg0 _; have hbw1 := (hbw.alloc hbw.size _).grown hg0 (by have := hbw.size; simp; omega) (fun k hk => (hown.lt k hk).1); clear hg0)
          go_roundw
          case rel => exact ⟨k + 1, by omega, by go_num, own_cast hown1 (by rw [hts.out]; simp) (by rw [hts.out]; simp [Lib.byteCells, hlo.out]), hbw1⟩
          case measure => first | (simp [intOf]; done) | (simp [intOf]; omega)
        · have hu3 : ¬ 65 ≤ (s[k].toNat : Int) := by omega
          clear hu
          go_wp2_with (at_builtin; refine wpList_append_own _ rfl _ _ 56 rfl w.heap.size 5 i0 (.int .u8 0) 1 1 Try.underlying56 hi hz0 hz1 hz2 rfl (by decide) _ _ _ rfl (hown.alloc _) _ 1 1 [.int .u8 (s[k].toNat : Int)] rfl rfl ?c1 ?c2 ?c3 ?c4 ?c5 ?_; (case c1 => exact one_new _ _ (by first | rfl | (simp; done)) _ _); (case c2 => (intro u hu; simp at hu; subst hu; rfl)); (case c3 => (unfold maxLen; omega)); (case c4 => omega); (case c5 => (have := hbw.size; simp; omega)); intro v1 w1 hown1 hg0 _; have hbw1 := (hbw.alloc hbw.size _).grown hg0 (by have := hbw.size; simp; omega) (fun k hk => (hown.lt k hk).1); clear hg0)
          go_roundw
          case rel => exact ⟨k + 1, by omega, by go_num, own_cast hown1 (by rw [hts.out]; simp) (by rw [hts.out]; simp [Lib.byteCells, hlo.out]), hbw1⟩
          case measure => first | (simp [intOf]; done) | (simp [intOf]; omega)
    · have hke : k = s.size := by omega
      subst hke
      rw [List.take_of_length_le (by omega)] at hown
      have hbk := own_text hown
      clear hown
      go_wp2
      go_returns
      exact ⟨rfl, hbw⟩
set_option maxHeartbeats 2000000 in
theorem rkey_calls (x y : ByteArray) (hx : x.size ≤ 1000000000000) (hy : y.size ≤ 1000000000000) (w : World) : Calls Try.prog 19 #[.agg #[.string x, .string y]] w fun r w' => r = .returned (.string (keyS x y)) ∧ Below w.heap.size w w' := by
  have hg := rgood_calls x y hx hy
  have hlx := Lib.hid (rlower_calls x hx)
  have hly := Lib.hid (rlower_calls y hy)
  have h1 : (lowerS x).size ≤ 1000000000000 := by rw [lowerS_size]; exact hx
  have h2 : (lowerS y).size ≤ 1000000000000 := by rw [lowerS_size]; exact hy
  unfold keyS
  cases hb : goodB x y
  · rw [hb] at hg
    replace hg := Lib.hid hg
    clear hb
    go_enter Try.func19, Try.ntmps19
    go_wp2_with (go_at_call 18; ((refine (hg.out _).mono ?_); rintro r w1 ⟨rfl, hb⟩; obtain ⟨b1, b1d, rfl⟩ := of_below hb; clear hb))
    go_returns
    exact ⟨rfl, by (repeat' (first | (with_reducible exact Below.refl _ _) | (with_reducible refine Below.app ?_ ?_ _ _) | (with_reducible refine Below.alloc ?_ ?_ _) | (with_reducible refine Below.drew ?_) | (with_reducible refine Below.setCell ?_ ?_ _) | (with_reducible assumption) | omega | (simp; omega) | (simp; done)))⟩
  · rw [hb] at hg
    replace hg := Lib.hid hg
    clear hb
    go_enter Try.func19, Try.ntmps19
    go_wp2_with (go_at_call 18; ((refine (hg.out _).mono ?_); rintro r w1 ⟨rfl, hb⟩; obtain ⟨b1, b1d, rfl⟩ := of_below hb; clear hb))
    (apply wp_region_text 9; kernel_rfl; kernel_rfl; intro Fin hFin; (repeat (first | (apply text_run; exact rfl; (focus (intro bs d hF K hK; (repeat rw [app_app] at hK); (repeat rw [app_app]); (repeat rw [Array.append_assoc] at hK); (repeat rw [Array.append_assoc]); go_step; first  | (go_at_call 36; ((with_reducible refine (hlx.out _).mono ?_); rintro r w1 ⟨rfl, hb⟩; simp only []; exact hK _ hb)) | (go_at_call 36; ((with_reducible refine (hly.out _).mono ?_); rintro r w1 ⟨rfl, hb⟩; simp only []; exact hK _ hb))  | (refine hK _ ?_; (repeat' (first | (with_reducible exact Below.refl _ _) | (with_reducible refine Below.app ?_ ?_ _ _) | (with_reducible refine Below.alloc ?_ ?_ _) | (with_reducible refine Below.drew ?_) | (with_reducible refine Below.setCell ?_ ?_ _) | (with_reducible assumption) | omega | (simp; omega) | (simp; done)))))); (try simp only [Act.put, List.setIfInBounds_toArray, List.set_cons_zero, List.set_cons_succ])) | (apply text_skip; exact rfl; (try simp only [Act.put, List.setIfInBounds_toArray, List.set_cons_zero, List.set_cons_succ])))); apply text_end; apply hFin; clear hFin Fin; intro bs d hfa)
    go_wp2
    go_returns
    exact ⟨rfl, by (repeat' (first | (with_reducible exact Below.refl _ _) | (with_reducible refine Below.app ?_ ?_ _ _) | (with_reducible refine Below.alloc ?_ ?_ _) | (with_reducible refine Below.drew ?_) | (with_reducible refine Below.setCell ?_ ?_ _) | (with_reducible assumption) | omega | (simp; omega) | (simp; done)))⟩
end Go.Proofs.Ytnbllnnbdopjoaa
