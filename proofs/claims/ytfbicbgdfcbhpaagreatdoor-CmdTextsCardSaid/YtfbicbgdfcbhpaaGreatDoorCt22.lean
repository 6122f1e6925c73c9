/-
  RefBytes, RefLabel, RefSplit.
-/
import Derived.Test.YtfbicbgdfcbhpaaGreatDoorCt20
import Derived.Test.YtfbicbgdfcbhpaaGreatDoorCt13
import Derived.OwnWalk
import Derived.Test.YtfbicbgdfcbhpaaGreatDoorCt21
set_option maxRecDepth 20000
set_option linter.unusedVariables false
set_option linter.unusedSimpArgs false
set_option linter.unusedSectionVars false
namespace Go.Proofs.YtfbicbgdfcbhpaaGreatDoor
open Go.ChangeShapes Go.WideShapes Go.ChangeAt Go.RowKit
theorem oth_len : othersL.length = 19 := rfl
theorem oth_step (c : UInt8) (k : Nat) (h : k < 19) : (othersL.drop k).contains c = (((othersL[k]'(by rw [oth_len]; exact h)).toNat : Int) == (c.toNat : Int) || (othersL.drop (k + 1)).contains c) := by
 rw [List.drop_eq_getElem_cons (by rw [oth_len]; exact h), List.contains_cons]
 congr 1
 rw [Bool.eq_iff_iff]
 simp only [beq_iff_eq]
 rw [u8_int]
 exact eq_comm
set_option maxRecDepth 20000 in
set_option maxHeartbeats 2000000 in
theorem ratom_calls (c : UInt8) (w : World) : Calls Tryz.prog 144 #[.int .u8 (c.toNat : Int)] w fun r w' => r = .returned (.bool (atomB c)) ∧ w = w' := by
  have ha := alnum_calls c
  unfold atomB
  cases hal : alnumB c
  · rw [hal] at ha
    rw [Bool.false_or]
    replace ha := Lib.hid ha
    clear hal
    generalize hT : othersL.contains c = T
    replace hT := Lib.hid hT
    go_enter Tryz.func144, Tryz.ntmps144
    go_wp2_with (go_at_call 135; ((with_reducible refine (ha.out _).mono ?_); rintro _ _ ⟨rfl, rfl⟩))
    go_loop [4] (fun i => ∃ k : Nat, k ≤ 19 ∧ i = .int .i64 k ∧ Hid (T = (othersL.drop k).contains c)) (fun i => 19 - (intOf i).toNat)
    case atStart => exact ⟨0, by omega, rfl, hT.out.symm⟩
    case round =>
      obtain ⟨k, hk, rfl, hr⟩ := hrel
      clear hT
      by_cases hlt : k < 19
      · have hst := oth_step c k hlt
        by_cases he : (((othersL[k]'(by rw [oth_len]; exact hlt)).toNat : Int) == (c.toNat : Int)) = true
        · have hR : Hid (T = true) := by unfold Hid; rw [hr.out, hst, he]; rfl
          replace he := Lib.hid he
          clear hst hr
          go_wp2
          all_goals first
            | (go_returns; exact ⟨rb hR.out.symm, rfl⟩)
            | (exfalso; have h := he.out; rename_i h2; simp at h h2; exact h2 h)
        · rw [Bool.not_eq_true] at he
          have hR : Hid (T = (othersL.drop (k + 1)).contains c) := by unfold Hid; rw [hr.out, hst, he]; rfl
          replace he := Lib.hid he
          clear hst hr
          go_wp2
          all_goals first
            | (go_round
               case rel => exact ⟨k + 1, by omega, by go_num, hR⟩
               case measure => simp [intOf]; omega)
            | (exfalso; have h := he.out; rename_i h2 _; simp at h h2; exact h h2)
      · have hk : k = 19 := by omega
        subst hk
        have hR : Hid (T = false) := by unfold Hid; rw [hr.out]; rfl
        clear hr
        go_wp2
        go_returns
        exact ⟨rb hR.out.symm, rfl⟩
  · rw [hal] at ha
    replace ha := Lib.hid ha
    clear hal
    go_enter Tryz.func144, Tryz.ntmps144
    go_wp2_with (go_at_call 135; ((with_reducible refine (ha.out _).mono ?_); rintro _ _ ⟨rfl, rfl⟩))
    go_returns
    exact ⟨rfl, rfl⟩
end Go.Proofs.YtfbicbgdfcbhpaaGreatDoor
set_option maxRecDepth 20000
set_option linter.unusedVariables false
set_option linter.unusedSimpArgs false
set_option linter.unusedSectionVars false
namespace Go.Proofs.YtfbicbgdfcbhpaaGreatDoor
open Go.ChangeShapes Go.WideShapes Go.ChangeAt Go.RowKit
def rlabelB (l : List UInt8) : Bool := l.all labelB && labelOk l
theorem labelB_int (c : UInt8) : labelB c = (alnumB c || ((c.toNat : Int) == 45)) := by
 unfold labelB; congr 1; rw [Bool.eq_iff_iff]; simp; rw [← UInt8.toNat_inj]; simp; omega
theorem labelOk_bytes {s : ByteArray} (h0 : 0 < s.size) : labelOk s.data.toList = (!((s[0].toNat : Int) == 45) && !((s[s.size - 1].toNat : Int) == 45)) := by
 have h := @labelOk_take s 0 s.size (by omega) h0
 have hl : s.data.toList.length = s.size := by simp
 rw [List.drop_zero, List.take_of_length_le (by omega), Nat.zero_add, getD_lt h0, getD_lt (show s.size - 1 < s.size by omega)] at h
 rw [h]
 simp only [u8_int]
 rw [Bool.eq_iff_iff]
 simp
set_option maxHeartbeats 4000000 in
theorem rlabel_calls (s : ByteArray) (hs : s.size ≤ 140000000000000) (w : World) : Calls Tryz.prog 103 #[.string s] w fun r w' => r = .returned (.bool (rlabelB s.data.toList)) ∧ w = w' := by
 have hlen : s.data.toList.length = s.size := by simp
 generalize hR : rlabelB s.data.toList = R
 replace hR := Lib.hid hR
 go_enter Tryz.func103, Tryz.ntmps103
 go_wp2
 go_loop [3] (fun i => ∃ k : Nat, k ≤ s.size ∧ i = .int .i64 k ∧ Hid (R = ((s.data.toList.drop k).all labelB && labelOk s.data.toList))) (fun i => s.size - (intOf i).toNat)
 case atStart => exact ⟨0, by omega, rfl, hR.out.symm⟩
 case round =>
  obtain ⟨k, hk, rfl, hr⟩ := hrel
  clear hR
  by_cases hlt : k < s.size
  · have had := @all_drop labelB s.data.toList k (by omega)
    have hgk : s.data.toList[k]'(by omega) = s[k] := rfl
    rw [hgk, labelB_int] at had
    have hac := alnum_calls s[k]
    cases hal : alnumB s[k]
    · rw [hal] at hac had
      replace hac := Lib.hid hac
      cases h45 : ((s[k].toNat : Int) == 45)
      · have hR : Hid (R = false) := by unfold Hid; rw [hr.out, had, h45]; rfl
        clear had hgk hal hr
        go_wp2_with (go_at_call 135; ((with_reducible refine (hac.out _).mono ?_); rintro _ _ ⟨rfl, rfl⟩))
        go_returns
        exact ⟨rb hR.out.symm, rfl⟩
      · have hR : Hid (R = ((s.data.toList.drop (k + 1)).all labelB && labelOk s.data.toList)) := by unfold Hid; rw [hr.out, had, h45]; rfl
        clear had hgk hal hr
        go_wp2_with (go_at_call 135; ((with_reducible refine (hac.out _).mono ?_); rintro _ _ ⟨rfl, rfl⟩))
        go_round
        case rel => exact ⟨k + 1, by omega, by go_num, hR⟩
        case measure => simp [intOf]; omega
    · rw [hal] at hac had
      replace hac := Lib.hid hac
      have hR : Hid (R = ((s.data.toList.drop (k + 1)).all labelB && labelOk s.data.toList)) := by unfold Hid; rw [hr.out, had]; rfl
      clear had hgk hal hr
      go_wp2_with (go_at_call 135; ((with_reducible refine (hac.out _).mono ?_); rintro _ _ ⟨rfl, rfl⟩))
      go_round
      case rel => exact ⟨k + 1, by omega, by go_num, hR⟩
      case measure => simp [intOf]; omega
  · have hke : k = s.size := by omega
    subst hke
    have hR : Hid (R = labelOk s.data.toList) := by unfold Hid; rw [hr.out, List.drop_of_length_le (by omega)]; rfl
    clear hr
    by_cases h0 : s.size = 0
    · have hR2 : Hid (R = false) := by
       unfold Hid
       rw [hR.out, List.eq_nil_of_length_eq_zero (by omega : s.data.toList.length = 0)]; rfl
      clear hR
      go_wp2
      all_goals first
       | (go_returns; exact ⟨rb hR2.out.symm, rfl⟩)
       | (exfalso; go_light; omega)
    · have hlb := labelOk_bytes (s := s) (by omega)
      rw [hlb] at hR
      clear hlb
      go_wp2
      all_goals first
       | (go_returns; refine ⟨rb ?_, rfl⟩; rw [hR.out]; clear hR; go_light; simp_all; done)
       | (go_returns; refine ⟨rb ?_, rfl⟩; rw [hR.out]; clear hR; go_light; rfl)
end Go.Proofs.YtfbicbgdfcbhpaaGreatDoor
set_option maxRecDepth 20000
set_option linter.unusedVariables false
set_option linter.unusedSimpArgs false
set_option linter.unusedSectionVars false
namespace Go.Proofs.YtfbicbgdfcbhpaaGreatDoor
open Go.ChangeShapes Go.WideShapes Go.ChangeAt Go.RowKit
def prep (p : List UInt8) : List (List UInt8) → List (List UInt8)
 | [] => [p]
 | h :: t => (p ++ h) :: t
def splitP (c : UInt8) : List UInt8 → List (List UInt8)
 | [] => [[]]
 | x :: r => if x = c then [] :: splitP c r else prep [x] (splitP c r)
theorem splitP_ne (c : UInt8) : ∀ l, splitP c l ≠ []
 | [] => by simp [splitP]
 | x :: r => by
  simp only [splitP]
  split
  · simp
  · cases h : splitP c r <;> simp [prep]
theorem prep_prep (p q : List UInt8) (L : List (List UInt8)) : prep p (prep q L) = prep (p ++ q) L := by cases L <;> simp [prep]
theorem prep_nil {L : List (List UInt8)} (h : L ≠ []) : prep [] L = L := by cases L with | nil => exact absurd rfl h | cons a t => simp [prep]
def strCells (L : List (List UInt8)) : List Value := L.map fun p => .string ⟨p.toArray⟩
theorem infoStr : (Tryz.prog.info? 9).map (fun i => (i.zero, i.size, i.bytes)) = some (some (.string ⟨#[]⟩), 1, 16) := by kernel_rfl
def restS (c : UInt8) (l : List UInt8) (f i : Nat) : List (List UInt8) := if i ≤ l.length then prep ((l.drop f).take (i - f)) (splitP c (l.drop i)) else []
theorem rest_end (c : UInt8) (l : List UInt8) (f : Nat) : restS c l f l.length = [(l.drop f).take (l.length - f)] := by
 unfold restS
 rw [if_pos (Nat.le_refl _), List.drop_of_length_le (Nat.le_refl _)]
 simp [splitP, prep]
theorem rest_over (c : UInt8) (l : List UInt8) (f i : Nat) (h : l.length < i) : restS c l f i = [] := by unfold restS; rw [if_neg (by omega)]
theorem rest_cut (c : UInt8) (l : List UInt8) (f i : Nat) (h : i < l.length) (he : l[i] = c) : restS c l f i = (l.drop f).take (i - f) :: restS c l (i + 1) (i + 1) := by
 unfold restS
 rw [if_pos (by omega), if_pos (by omega), List.drop_eq_getElem_cons h, splitP, if_pos he, Nat.sub_self, List.take_zero, prep_nil (splitP_ne _ _)]
 simp [prep]
theorem rest_go (c : UInt8) (l : List UInt8) (f i : Nat) (h : i < l.length) (hf : f ≤ i) (he : ¬ l[i] = c) : restS c l f i = restS c l f (i + 1) := by
 unfold restS
 rw [if_pos (by omega), if_pos (by omega), List.drop_eq_getElem_cons h, splitP, if_neg he, prep_prep]
 congr 1
 rw [show i + 1 - f = (i - f) + 1 by omega]
 have h2 : i - f < (l.drop f).length := by simp; omega
 rw [List.take_succ_eq_append_getElem h2]
 simp [show f + (i - f) = i by omega]
def RelSp (s : ByteArray) (c : UInt8) (w : World) (f i : Nat) (v : Value) (wr : World) : Prop :=
 ∃ acc : List (List UInt8), acc.length ≤ i ∧ Hid (splitP c s.data.toList = acc ++ restS c s.data.toList f i) ∧ wr.ownsRow w.heap.size 9 1 v acc.length (strCells acc) ∧ Below w.heap.size w wr
set_option maxHeartbeats 4000000 in
theorem split_calls (s : ByteArray) (c : UInt8) (hs : s.size ≤ 1000000000000) (w : World) : Calls Tryz.prog 102 #[.string s, .int .u8 (c.toNat : Int)] w fun r w' =>
 (∃ v, r = .returned v ∧ w'.ownsRow w.heap.size 9 1 v (splitP c s.data.toList).length (strCells (splitP c s.data.toList))) ∧ Below w.heap.size w w' := by
 have hlen : s.data.toList.length = s.size := by simp
 obtain ⟨i0, hi, hz0, hz1, hz2⟩ := info_parts infoStr
 have hst : Hid (splitP c s.data.toList = [] ++ restS c s.data.toList 0 0) := by
  unfold Hid restS
  rw [if_pos (Nat.zero_le _)]
  simp [prep_nil (splitP_ne _ _)]
 go_enter Tryz.func102, Tryz.ntmps102
 go_wp2
 go_loopw [5, 6, 7] (fun v fr ir wr => ∃ f i : Nat, f ≤ i ∧ i ≤ s.size + 1 ∧ f ≤ s.size + 1 ∧ fr = .int .i64 f ∧ ir = .int .i64 i ∧ RelSp s c w f i v wr) (fun _ _ ir _ => s.size + 1 - (intOf ir).toNat)
 case atStart => exact ⟨0, 0, by omega, by omega, by omega, rfl, rfl, [], by simp, hst, World.ownsRow_nil _ _ _ _, Below.refl _ _⟩
 case round =>
  obtain ⟨f, i, h1, h2, h3, rfl, rfl, acc, hal, hr, hown, hbw⟩ := hrel
  clear hst
  by_cases hend : i = s.size + 1
  · subst hend
    have hR : Hid (splitP c s.data.toList = acc) := by unfold Hid; rw [hr.out, rest_over _ _ _ _ (by omega), List.append_nil]
    clear hr
    go_wp2
    go_returns
    refine ⟨⟨_, rfl, ?_⟩, hbw⟩
    rw [hR.out]
    exact hown
  · have hex : Hid (s.extract f i = ⟨((s.data.toList.drop f).take (i - f)).toArray⟩) := by
     unfold Hid
     have := extract_list s f (i - f)
     rwa [show f + (i - f) = i by omega] at this
    by_cases hsz : i = s.size
    · have hr' : Hid (splitP c s.data.toList = (acc ++ [(s.data.toList.drop f).take (i - f)]) ++ restS c s.data.toList (i + 1) (i + 1)) := by
       unfold Hid
       have e := rest_end c s.data.toList f
       rw [hlen, ← hsz] at e
       rw [hr.out, e, rest_over _ _ _ _ (by omega)]; simp
      clear hr
      subst hsz
      go_wp2_with (at_builtin; refine wpList_append_own _ rfl _ _ 24 rfl w.heap.size 9 i0 (.string ⟨#[]⟩) 1 16 Tryz.underlying24 hi hz0 hz1 hz2 rfl (by decide) _ _ _ rfl (hown.alloc _) _ 1 1 [.string (s.extract f s.size)] rfl rfl ?c1 ?c2 ?c3 ?c4 ?c5 ?_; (case c1 => exact one_new _ _ (by first | rfl | (simp; done)) _ _); (case c2 => (intro u hu; simp at hu; subst hu; rfl)); (case c3 => (unfold maxLen; omega)); (case c4 => omega); (case c5 => (have := hbw.size; simp; omega)); intro v1 w1 hown1 hg0 _; have hbw1 := (hbw.alloc hbw.size _).grown hg0 (by have := hbw.size; simp; omega) (fun k hk => (hown.lt k hk).1); clear hg0)
      go_roundw
      case rel => exact ⟨s.size + 1, s.size + 1, by omega, by omega, by omega, by go_num, by go_num, acc ++ [(s.data.toList.drop f).take (s.size - f)], by first | (simp; done) | (simp; omega), hr', own_cast hown1 (by simp) (by rw [hex.out]; simp [strCells]), hbw1⟩
      case measure => first | (simp [intOf]; done) | (simp [intOf]; omega)
    · have hlt : i < s.size := by omega
      have hgi : s.data.toList[i]'(by omega) = s[i] := rfl
      have hne : ((i : Int) == (s.size : Int)) = false := by simp; omega
      by_cases hc : s[i] = c
      · have hr' : Hid (splitP c s.data.toList = (acc ++ [(s.data.toList.drop f).take (i - f)]) ++ restS c s.data.toList (i + 1) (i + 1)) := by
         unfold Hid
         rw [hr.out, rest_cut c s.data.toList f i (by omega) (hgi.trans hc)]; simp
        have hcb : ((s[i].toNat : Int) == (c.toNat : Int)) = true := by rw [hc]; simp
        clear hr hgi hc
        go_wp2_with (at_builtin; refine wpList_append_own _ rfl _ _ 24 rfl w.heap.size 9 i0 (.string ⟨#[]⟩) 1 16 Tryz.underlying24 hi hz0 hz1 hz2 rfl (by decide) _ _ _ rfl (hown.alloc _) _ 1 1 [.string (s.extract f i)] rfl rfl ?c1 ?c2 ?c3 ?c4 ?c5 ?_; (case c1 => exact one_new _ _ (by first | rfl | (simp; done)) _ _); (case c2 => (intro u hu; simp at hu; subst hu; rfl)); (case c3 => (unfold maxLen; omega)); (case c4 => omega); (case c5 => (have := hbw.size; simp; omega)); intro v1 w1 hown1 hg0 _; have hbw1 := (hbw.alloc hbw.size _).grown hg0 (by have := hbw.size; simp; omega) (fun k hk => (hown.lt k hk).1); clear hg0)
        go_roundw
        case rel => exact ⟨i + 1, i + 1, by omega, by omega, by omega, by go_num, by go_num, acc ++ [(s.data.toList.drop f).take (i - f)], by first | (simp; done) | (simp; omega), hr', own_cast hown1 (by simp) (by rw [hex.out]; simp [strCells]), hbw1⟩
        case measure => first | (simp [intOf]; done) | (simp [intOf]; omega)
      · have hr' : Hid (splitP c s.data.toList = acc ++ restS c s.data.toList f (i + 1)) := by
         unfold Hid
         rw [hr.out, rest_go c s.data.toList f i (by omega) h1 (fun h => hc (hgi.symm.trans h))]
        have hcb : ((s[i].toNat : Int) == (c.toNat : Int)) = false := by rw [u8_int] at hc; simpa using hc
        clear hr hgi hc hex
        go_wp2
        go_roundw
        case rel => exact ⟨f, i + 1, by omega, by omega, by omega, rfl, by go_num, acc, by omega, hr', hown, hbw⟩
        case measure => first | (simp [intOf]; done) | (simp [intOf]; omega)
end Go.Proofs.YtfbicbgdfcbhpaaGreatDoor
