/-
  RefLabels, RefAtoms, RefDomain.
-/
import Derived.Test.YtfbicbgdfcbhpaaGreatDoorCt22
set_option maxRecDepth 20000
set_option linter.unusedVariables false
set_option linter.unusedSimpArgs false
set_option linter.unusedSectionVars false
namespace Go.Proofs.YtfbicbgdfcbhpaaGreatDoor
open Go.ChangeShapes Go.WideShapes Go.ChangeAt Go.RowKit
theorem splitP_len (c : UInt8) : ∀ l, ∀ p ∈ splitP c l, p.length ≤ l.length
 | [] => by simp [splitP]
 | x :: r => by
  intro p hp
  have ih := splitP_len c r
  simp only [splitP] at hp
  split at hp
  · rcases List.mem_cons.1 hp with rfl | h
    · simp
    · have := ih p h; simp; omega
  · cases hL : splitP c r with
    | nil => exact absurd hL (splitP_ne _ _)
    | cons a t =>
     rw [hL] at hp ih
     rcases List.mem_cons.1 hp with rfl | h
     · have := ih a (by simp); simp; omega
     · have := ih p (by simp [h]); simp; omega
theorem splitP_count (c : UInt8) : ∀ l, (splitP c l).length ≤ l.length + 1
 | [] => by simp [splitP]
 | x :: r => by
  have ih := splitP_count c r
  simp only [splitP]
  split
  · simp; omega
  · cases hL : splitP c r with
    | nil => exact absurd hL (splitP_ne _ _)
    | cons a t => rw [hL] at ih; simp [prep] at ih ⊢; omega
def StrRow (w : World) (b : Nat) (L : List (List UInt8)) : Prop := ∀ j (h : j < L.length), w.cell? ⟨b, j, none⟩ = some (.string ⟨(L[j]).toArray⟩)
theorem own_strs {w : World} {B : Nat} {v : Value} {L : List (List UInt8)} (h : w.ownsRow B 9 1 v L.length (strCells L)) (h0 : L ≠ []) : ∃ g cap, v = .slice (some ⟨g, 0, none⟩) L.length cap ∧ B ≤ g ∧ g < w.heap.size ∧ StrRow w g L := by
 have hp : 0 < L.length := List.length_pos_iff.2 h0
 obtain ⟨_, ⟨_, hn⟩ | ⟨g, cap, cur, rfl, hb, hg, _, _, _, ht⟩⟩ := h
 · exact absurd hn (by omega)
 · refine ⟨g, cap, rfl, hb, ?_, fun j hj => ?_⟩
   · rcases Nat.lt_or_ge g w.heap.size with hlt | hge
     · exact hlt
     · rw [Array.getElem?_eq_none hge] at hg; cases hg
   · have h1 : w.cell? ⟨g, j, none⟩ = cur[j]? := by simp [World.cell?, hg]
     have h2 : (cur.toList.take (L.length * 1))[j]? = cur[j]? := by rw [List.getElem?_take, if_pos (by omega)]; simp
     rw [h1, ← h2, ht]
     simp [strCells, hj]
theorem all_at {p : List UInt8 → Bool} (L : List (List UInt8)) (k : Nat) (h : k < L.length) : (L.drop k).all p = (p L[k] && (L.drop (k + 1)).all p) := by
 rw [List.drop_eq_getElem_cons h, List.all_cons]
def labelsB (l : List UInt8) : Bool := (splitP 46 l).all rlabelB
theorem rlabels_calls (s : ByteArray) (hs : s.size ≤ 1000000000000) (w : World) : Calls Tryz.prog 73 #[.string s] w fun r w' => r = .returned (.bool (labelsB s.data.toList)) ∧ Below w.heap.size w w' := by
 have hlen : s.data.toList.length = s.size := by simp
 generalize hR : labelsB s.data.toList = R
 unfold labelsB at hR
 have hle := splitP_len 46 s.data.toList
 have hco := splitP_count 46 s.data.toList
 have hne := splitP_ne 46 s.data.toList
 have hsp := split_calls s 46 hs w
 rw [hlen] at hco hle
 rw [show (((46 : UInt8).toNat : Nat) : Int) = 46 from rfl] at hsp
 generalize splitP 46 s.data.toList = L at hR hle hco hne hsp
 replace hR := Lib.hid hR
 replace hle := Lib.hid hle
 replace hne := Lib.hid hne
 go_enter Tryz.func73, Tryz.ntmps73
 go_wp2_with (go_at_call 102; (with_reducible refine hsp.mono ?_); rintro _ w1 ⟨⟨v, rfl, hown⟩, hbw⟩; obtain ⟨g, cap, rfl, hg1, hg2, hrow⟩ := own_strs hown hne.out; clear hown)
 go_loop [4] (fun i => ∃ k : Nat, k ≤ L.length ∧ i = .int .i64 k ∧ Hid (R = (L.drop k).all rlabelB)) (fun i => L.length - (intOf i).toNat)
 case atStart => exact ⟨0, by omega, rfl, by unfold Hid; rw [← hR.out]; rfl⟩
 case round =>
  obtain ⟨k, hk, rfl, hr⟩ := hrel
  clear hR
  by_cases hlt : k < L.length
  · have had := all_at (p := rlabelB) L k hlt
    have hcell := hrow k hlt
    have hsz : (⟨(L[k]).toArray⟩ : ByteArray).size ≤ 140000000000000 := by
     have := hle.out L[k] (List.getElem_mem hlt)
     show (L[k]).toArray.size ≤ _
     simp; omega
    have hlc := rlabel_calls ⟨(L[k]).toArray⟩ hsz
    have htl : (⟨(L[k]).toArray⟩ : ByteArray).data.toList = L[k] := rfl
    rw [htl] at hlc
    cases hal : rlabelB L[k]
    · have hR : Hid (R = false) := by unfold Hid; rw [hr.out, had, hal]; rfl
      rw [hal] at hlc
      replace hlc := Lib.hid hlc
      clear had hal hr htl
      go_wp2_with (go_at_call 103; ((with_reducible refine (hlc.out _).mono ?_); rintro _ _ ⟨rfl, rfl⟩))
      go_returns
      exact ⟨rb hR.out.symm, hbw⟩
    · have hR : Hid (R = (L.drop (k + 1)).all rlabelB) := by unfold Hid; rw [hr.out, had, hal]; rfl
      rw [hal] at hlc
      replace hlc := Lib.hid hlc
      clear had hal hr htl
      go_wp2_with (go_at_call 103; ((with_reducible refine (hlc.out _).mono ?_); rintro _ _ ⟨rfl, rfl⟩))
      go_round
      case rel => exact ⟨k + 1, by omega, by go_num, hR⟩
      case measure => first | (simp [intOf]; done) | (simp [intOf]; omega)
  · have hke : k = L.length := by omega
    subst hke
    have hR : Hid (R = true) := by unfold Hid; rw [hr.out, List.drop_of_length_le (by omega)]; rfl
    clear hr
    go_wp2
    go_returns
    exact ⟨rb hR.out.symm, hbw⟩
def rdomB (l : List UInt8) : Bool := labelsB l && decide (l.length ≤ 64)
theorem rdomain_calls (s : ByteArray) (hs : s.size ≤ 1000000000000) (w : World) : Calls Tryz.prog 39 #[.string s] w fun r w' => r = .returned (.bool (rdomB s.data.toList)) ∧ Below w.heap.size w w' := by
 have hlen : s.data.toList.length = s.size := by simp
 have hlc := rlabels_calls s hs
 generalize hR : rdomB s.data.toList = R
 unfold rdomB at hR
 rw [hlen] at hR
 cases hal : labelsB s.data.toList
 · rw [hal] at hlc hR
   replace hlc := Lib.hid hlc
   replace hR := Lib.hid hR
   go_enter Tryz.func39, Tryz.ntmps39
   go_wp2_with (go_at_call 73; ((with_reducible refine (hlc.out _).mono ?_); rintro _ w1 ⟨rfl, hbw⟩))
   go_returns
   exact ⟨rb hR.out, hbw⟩
 · rw [hal] at hlc hR
   replace hlc := Lib.hid hlc
   replace hR := Lib.hid hR
   go_enter Tryz.func39, Tryz.ntmps39
   go_wp2_with (go_at_call 73; ((with_reducible refine (hlc.out _).mono ?_); rintro _ w1 ⟨rfl, hbw⟩))
   go_returns
   refine ⟨rb ?_, hbw⟩
   rw [← hR.out]
   simp
   omega
end Go.Proofs.YtfbicbgdfcbhpaaGreatDoor
set_option maxRecDepth 20000
set_option linter.unusedVariables false
set_option linter.unusedSimpArgs false
set_option linter.unusedSectionVars false
namespace Go.Proofs.YtfbicbgdfcbhpaaGreatDoor
open Go.ChangeShapes Go.WideShapes Go.ChangeAt Go.RowKit
def partB (p : List UInt8) : Bool := p.all atomB && !p.isEmpty
def ratomsB (l : List UInt8) : Bool := (splitP 46 l).all partB
set_option maxHeartbeats 4000000 in
theorem ratoms_calls (s : ByteArray) (hs : s.size ≤ 1000000000000) (w : World) : Calls Tryz.prog 112 #[.string s] w fun r w' => r = .returned (.bool (ratomsB s.data.toList)) ∧ Below w.heap.size w w' := by
 have hlen : s.data.toList.length = s.size := by simp
 generalize hR : ratomsB s.data.toList = R
 unfold ratomsB at hR
 have hle := splitP_len 46 s.data.toList
 have hco := splitP_count 46 s.data.toList
 have hne := splitP_ne 46 s.data.toList
 have hsp := split_calls s 46 hs w
 rw [hlen] at hco hle
 rw [show (((46 : UInt8).toNat : Nat) : Int) = 46 from rfl] at hsp
 generalize splitP 46 s.data.toList = L at hR hle hco hne hsp
 replace hR := Lib.hid hR
 replace hle := Lib.hid hle
 replace hne := Lib.hid hne
 go_enter Tryz.func112, Tryz.ntmps112
 go_wp2_with (go_at_call 102; (with_reducible refine hsp.mono ?_); rintro _ w1 ⟨⟨v, rfl, hown⟩, hbw⟩; obtain ⟨g, cap, rfl, hg1, hg2, hrow⟩ := own_strs hown hne.out; clear hown)
 clear hsp
 go_loop [4, 5] (fun i _ => ∃ k : Nat, k ≤ L.length ∧ i = .int .i64 k ∧ Hid (R = (L.drop k).all partB)) (fun i _ => L.length - (intOf i).toNat)
 case atStart => exact ⟨0, by omega, rfl, by unfold Hid; rw [← hR.out]; rfl⟩
 case round =>
  obtain ⟨k, hk, rfl, hr⟩ := hrel
  clear hR
  by_cases hlt : k < L.length
  · have had := all_at (p := partB) L k hlt
    have hcell := hrow k hlt
    have hsz := hle.out L[k] (List.getElem_mem hlt)
    obtain ⟨t, ht⟩ : ∃ t : ByteArray, t = ⟨(L[k]).toArray⟩ := ⟨_, rfl⟩
    have htl : L[k] = t.data.toList := by rw [ht]
    rw [← ht] at hcell
    rw [htl] at had hsz
    clear ht htl
    have htn : t.data.toList.length = t.size := by simp
    rw [htn] at hsz
    have hr2 : Hid (R = ((t.data.toList.drop 0).all atomB && (!t.data.toList.isEmpty && (L.drop (k + 1)).all partB))) := by
     unfold Hid; rw [hr.out, had]; unfold partB; rw [List.drop_zero, Bool.and_assoc]
    clear had hr
    go_wp2
    go_loop [5] (fun i => ∃ q : Nat, q ≤ t.size ∧ i = .int .i64 q ∧ Hid (R = ((t.data.toList.drop q).all atomB && (!t.data.toList.isEmpty && (L.drop (k + 1)).all partB)))) (fun i => t.size - (intOf i).toNat)
    case atStart => exact ⟨0, by omega, rfl, hr2⟩
    case round =>
     obtain ⟨q, hq, rfl, hr⟩ := hrel
     clear hr2
     by_cases hqt : q < t.size
     · have had := @all_drop atomB t.data.toList q (by omega)
       have hgk : t.data.toList[q]'(by omega) = t[q] := rfl
       rw [hgk] at had
       have hac := ratom_calls t[q]
       cases hal : atomB t[q]
       · rw [hal] at hac had
         replace hac := Lib.hid hac
         have hR : Hid (R = false) := by unfold Hid; rw [hr.out, had]; rfl
         clear had hgk hal hr
         go_wp2_with (go_at_call 144; ((with_reducible refine (hac.out _).mono ?_); rintro _ _ ⟨rfl, rfl⟩))
         go_returns
         exact ⟨rb hR.out.symm, hbw⟩
       · rw [hal] at hac had
         replace hac := Lib.hid hac
         have hR : Hid (R = ((t.data.toList.drop (q + 1)).all atomB && (!t.data.toList.isEmpty && (L.drop (k + 1)).all partB))) := by unfold Hid; rw [hr.out, had]; rfl
         clear had hgk hal hr
         go_wp2_with (go_at_call 144; ((with_reducible refine (hac.out _).mono ?_); rintro _ _ ⟨rfl, rfl⟩))
         go_round
         case rel => exact ⟨q + 1, by omega, by go_num, hR⟩
         case measure => first | (simp [intOf]; done) | (simp [intOf]; omega)
     · have hqe : q = t.size := by omega
       subst hqe
       rw [List.drop_of_length_le (by omega)] at hr
       by_cases h0 : t.size = 0
       · have he : t.data.toList = [] := List.eq_nil_of_length_eq_zero (by omega)
         have hR : Hid (R = false) := by unfold Hid; rw [hr.out, he]; rfl
         clear hr
         have ht0 : t = ⟨#[]⟩ := by
          have h1 : t.data = #[] := by rw [← Array.toList_inj, he]
          rw [← h1]
         subst ht0
         go_wp2
         go_returns
         exact ⟨rb hR.out.symm, hbw⟩
       · have he : t.data.toList.isEmpty = false := by
          cases h : t.data.toList with
          | nil => rw [h] at htn; exact absurd htn.symm h0
          | cons a b => rfl
         have hR : Hid (R = (L.drop (k + 1)).all partB) := by unfold Hid; rw [hr.out, he]; rfl
         have hxl : t.toList = t.data.toList := ByteArray.toList_mk t.data.toList
         have he2 : t.toList.isEmpty = false := by rw [hxl]; exact he
         clear hr hxl he
         go_wp2
         go_round
         case rel => exact ⟨k + 1, by omega, by go_num, hR⟩
         case measure => first | (simp [intOf]; done) | (simp [intOf]; omega)
  · have hke : k = L.length := by omega
    subst hke
    have hR : Hid (R = true) := by unfold Hid; rw [hr.out, List.drop_of_length_le (by omega)]; rfl
    clear hr
    go_wp2
    go_returns
    exact ⟨rb hR.out.symm, hbw⟩
end Go.Proofs.YtfbicbgdfcbhpaaGreatDoor
set_option maxRecDepth 20000
set_option linter.unusedVariables false
set_option linter.unusedSimpArgs false
set_option linter.unusedSectionVars false
namespace Go.Proofs.YtfbicbgdfcbhpaaGreatDoor
open Go.ChangeShapes Go.WideShapes Go.ChangeAt Go.RowKit
def domCh (c : UInt8) : Bool := alnumB c || (((c.toNat : Int) == 45) || ((c.toNat : Int) == 46))
def rdomN (l : List UInt8) : Nat := if labelsB (l.take (spanLen domCh l)) = true then spanLen domCh l else 0
set_option maxHeartbeats 4000000 in
theorem rdom_calls (s : ByteArray) (hs : s.size ≤ 1000000000000) (w : World) : Calls Tryz.prog 104 #[.string s] w fun r w' => r = .returned (.int .i64 (rdomN s.data.toList : Int)) ∧ Below w.heap.size w w' := by
 have hlen : s.data.toList.length = s.size := by simp
 have hst : Hid (spanLen domCh s.data.toList = 0 + spanLen domCh (s.data.toList.drop 0)) := by unfold Hid; rw [List.drop_zero, Nat.zero_add]
 go_enter Tryz.func104, Tryz.ntmps104
 go_wp2
 go_loop [3] (fun i => ∃ k : Nat, k ≤ s.size ∧ i = .int .i64 k ∧ Hid (spanLen domCh s.data.toList = k + spanLen domCh (s.data.toList.drop k))) (fun i => s.size - (intOf i).toNat)
 case atStart => exact ⟨0, by omega, rfl, hst⟩
 case round =>
  obtain ⟨k, hk, rfl, hr⟩ := hrel
  clear hst
  have hend : ∀ {G : Prop}, (Hid (spanLen domCh s.data.toList = k) → G) → spanLen domCh (s.data.toList.drop k) = 0 → G := fun h e => h (by unfold Hid; rw [hr.out, e, Nat.add_zero])
  have hex : s.extract 0 k = ⟨(s.data.toList.take k).toArray⟩ := by
   have := extract_list s 0 k
   rwa [Nat.zero_add, List.drop_zero] at this
  have hesz : (s.extract 0 k).size ≤ 1000000000000 := by rw [ByteArray.size_extract]; omega
  have hlc := rlabels_calls (s.extract 0 k) hesz
  have htl : (s.extract 0 k).data.toList = s.data.toList.take k := by rw [hex]
  rw [htl] at hlc
  clear hex htl
  replace hlc := Lib.hid hlc
  have hval : ∀ b, Hid (spanLen domCh s.data.toList = k) → labelsB (s.data.toList.take k) = b → Hid (rdomN s.data.toList = if b = true then k else 0) := by
   intro b h1 h2
   unfold Hid rdomN
   rw [h1.out, h2]
  replace hval := Lib.hid hval
  by_cases hlt : k < s.size
  · have had := spanLen_at domCh s.data.toList k (by omega)
    have hgk : s.data.toList[k]'(by omega) = s[k] := rfl
    rw [hgk] at had
    have hac := alnum_calls s[k]
    unfold domCh at had
    rw [show (fun c : UInt8 => alnumB c || (((c.toNat : Int) == 45) || ((c.toNat : Int) == 46))) = domCh from rfl] at had
    cases hal : alnumB s[k]
    · rw [hal] at hac had
      replace hac := Lib.hid hac
      cases h45 : ((s[k].toNat : Int) == 45)
      · cases h46 : ((s[k].toNat : Int) == 46)
        · have hsp : Hid (spanLen domCh s.data.toList = k) := by
           unfold Hid
           rw [h45, h46] at had
           rw [hr.out, had]; rfl
          cases hL : labelsB (s.data.toList.take k)
          · have hv := hval.out _ hsp hL
            have hlc2 := hlc.out
            rw [hL] at hlc2
            replace hlc2 := Lib.hid hlc2
            clear had hgk hal hr hend hval hL hsp hlc
            go_wp2_with (first | (go_at_call 135; ((with_reducible refine (hac.out _).mono ?_); rintro _ _ ⟨rfl, rfl⟩)) | (go_at_call 73; ((with_reducible refine (hlc2.out _).mono ?_); rintro _ w1 ⟨rfl, hbw⟩)))
            go_returns
            exact ⟨by rw [hv.out]; rfl, hbw⟩
          · have hv := hval.out _ hsp hL
            have hlc2 := hlc.out
            rw [hL] at hlc2
            replace hlc2 := Lib.hid hlc2
            clear had hgk hal hr hend hval hL hsp hlc
            go_wp2_with (first | (go_at_call 135; ((with_reducible refine (hac.out _).mono ?_); rintro _ _ ⟨rfl, rfl⟩)) | (go_at_call 73; ((with_reducible refine (hlc2.out _).mono ?_); rintro _ w1 ⟨rfl, hbw⟩)))
            go_returns
            exact ⟨by rw [hv.out]; rfl, hbw⟩
        · have hR : Hid (spanLen domCh s.data.toList = (k + 1) + spanLen domCh (s.data.toList.drop (k + 1))) := by
           unfold Hid
           rw [h45, h46] at had
           rw [hr.out, had]; simp; omega
          clear had hgk hal hr hend hval hlc
          go_wp2_with (go_at_call 135; ((with_reducible refine (hac.out _).mono ?_); rintro _ _ ⟨rfl, rfl⟩))
          go_round
          case rel => exact ⟨k + 1, by omega, by go_num, hR⟩
          case measure => first | (simp [intOf]; done) | (simp [intOf]; omega)
      · have hR : Hid (spanLen domCh s.data.toList = (k + 1) + spanLen domCh (s.data.toList.drop (k + 1))) := by
         unfold Hid
         rw [h45] at had
         rw [hr.out, had]; simp; omega
        clear had hgk hal hr hend hval hlc
        go_wp2_with (go_at_call 135; ((with_reducible refine (hac.out _).mono ?_); rintro _ _ ⟨rfl, rfl⟩))
        go_round
        case rel => exact ⟨k + 1, by omega, by go_num, hR⟩
        case measure => first | (simp [intOf]; done) | (simp [intOf]; omega)
    · rw [hal] at hac had
      replace hac := Lib.hid hac
      have hR : Hid (spanLen domCh s.data.toList = (k + 1) + spanLen domCh (s.data.toList.drop (k + 1))) := by
       unfold Hid
       rw [hr.out, had]; simp; omega
      clear had hgk hal hr hend hval hlc
      go_wp2_with (go_at_call 135; ((with_reducible refine (hac.out _).mono ?_); rintro _ _ ⟨rfl, rfl⟩))
      go_round
      case rel => exact ⟨k + 1, by omega, by go_num, hR⟩
      case measure => first | (simp [intOf]; done) | (simp [intOf]; omega)
  · have hke : k = s.size := by omega
    subst hke
    have hsp : Hid (spanLen domCh s.data.toList = s.size) := by unfold Hid; rw [hr.out, spanLen_end _ _ _ (by omega)]; rfl
    cases hL : labelsB (s.data.toList.take s.size)
    · have hv := hval.out _ hsp hL
      have hlc2 := hlc.out
      rw [hL, show s.extract 0 s.size = s from ByteArray.extract_zero_size] at hlc2
      replace hlc2 := Lib.hid hlc2
      clear hr hend hval hL hsp hlc
      go_wp2_with (go_at_call 73; ((with_reducible refine (hlc2.out _).mono ?_); rintro _ w1 ⟨rfl, hbw⟩))
      go_returns
      exact ⟨by rw [hv.out]; rfl, hbw⟩
    · have hv := hval.out _ hsp hL
      have hlc2 := hlc.out
      rw [hL, show s.extract 0 s.size = s from ByteArray.extract_zero_size] at hlc2
      replace hlc2 := Lib.hid hlc2
      clear hr hend hval hL hsp hlc
      go_wp2_with (go_at_call 73; ((with_reducible refine (hlc2.out _).mono ?_); rintro _ w1 ⟨rfl, hbw⟩))
      go_returns
      exact ⟨by rw [hv.out]; rfl, hbw⟩
end Go.Proofs.YtfbicbgdfcbhpaaGreatDoor
