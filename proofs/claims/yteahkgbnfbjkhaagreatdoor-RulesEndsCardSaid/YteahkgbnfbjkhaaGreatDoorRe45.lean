/-
  RefSplit, RefLabels, RefAtoms, RefDomain, RefDomLaw.
-/
import Derived.Test.YteahkgbnfbjkhaaGreatDoorRe26
import Derived.Test.YteahkgbnfbjkhaaGreatDoorRe43
import Derived.Test.YteahkgbnfbjkhaaGreatDoorRe25
set_option maxRecDepth 20000
set_option linter.unusedVariables false
set_option linter.unusedSimpArgs false
set_option linter.unusedSectionVars false
namespace Go.Proofs.YteahkgbnfbjkhaaGreatDoor
open Go.ChangeShapes Go.WideShapes Go.ChangeAt Go.RowKit
def prep (p : List UInt8) : List (List UInt8) → List (List UInt8)
 | [] => [p]
 | h :: t => (p ++ h) :: t
def splitP (c : UInt8) : List UInt8 → List (List UInt8)
 | [] => [[]]
 | x :: r => if x = c then [] :: splitP c r else prep [x] (splitP c r)
theorem splitP_ne (c : UInt8) : ∀ l, splitP c l ≠ []
 | [] => by simp [splitP]
 | x :: r => by
  simp only [splitP]
  split
  · simp
  · cases h : splitP c r <;> simp [prep]
theorem prep_prep (p q : List UInt8) (L : List (List UInt8)) : prep p (prep q L) = prep (p ++ q) L := by cases L <;> simp [prep]
theorem prep_nil {L : List (List UInt8)} (h : L ≠ []) : prep [] L = L := by cases L with | nil => exact absurd rfl h | cons a t => simp [prep]
def strCells (L : List (List UInt8)) : List Value := L.map fun p => .string ⟨p.toArray⟩
theorem infoStr : (Tryz.prog.info? 9).map (fun i => (i.zero, i.size, i.bytes)) = some (some (.string ⟨#[]⟩), 1, 16) := by kernel_rfl
def restS (c : UInt8) (l : List UInt8) (f i : Nat) : List (List UInt8) := if i ≤ l.length then prep ((l.drop f).take (i - f)) (splitP c (l.drop i)) else []
theorem rest_end (c : UInt8) (l : List UInt8) (f : Nat) : restS c l f l.length = [(l.drop f).take (l.length - f)] := by
 unfold restS
 rw [if_pos (Nat.le_refl _), List.drop_of_length_le (Nat.le_refl _)]
 simp [splitP, prep]
theorem rest_over (c : UInt8) (l : List UInt8) (f i : Nat) (h : l.length < i) : restS c l f i = [] := by unfold restS; rw [if_neg (by omega)]
theorem rest_cut (c : UInt8) (l : List UInt8) (f i : Nat) (h : i < l.length) (he : l[i] = c) : restS c l f i = (l.drop f).take (i - f) :: restS c l (i + 1) (i + 1) := by
 unfold restS
 rw [if_pos (by omega), if_pos (by omega), List.drop_eq_getElem_cons h, splitP, if_pos he, Nat.sub_self, List.take_zero, prep_nil (splitP_ne _ _)]
 simp [prep]
theorem rest_go (c : UInt8) (l : List UInt8) (f i : Nat) (h : i < l.length) (hf : f ≤ i) (he : ¬ l[i] = c) : restS c l f i = restS c l f (i + 1) := by
 unfold restS
 rw [if_pos (by omega), if_pos (by omega), List.drop_eq_getElem_cons h, splitP, if_neg he, prep_prep]
 congr 1
 rw [show i + 1 - f = (i - f) + 1 by omega]
 have h2 : i - f < (l.drop f).length := by simp; omega
 rw [List.take_succ_eq_append_getElem h2]
 simp [show f + (i - f) = i by omega]
def RelSp (s : ByteArray) (c : UInt8) (w : World) (f i : Nat) (v : Value) (wr : World) : Prop :=
 ∃ acc : List (List UInt8), acc.length ≤ i ∧ Hid (splitP c s.data.toList = acc ++ restS c s.data.toList f i) ∧ wr.ownsRow w.heap.size 9 1 v acc.length (strCells acc) ∧ Below w.heap.size w wr
set_option maxHeartbeats 4000000 in
theorem rsplit05_calls (s : ByteArray) (c : UInt8) (hs : s.size ≤ 1000000000000) (w : World) : Calls Tryz.prog 167 #[.string s, .int .u8 (c.toNat : Int)] w fun r w' =>
 (∃ v, r = .returned v ∧ w'.ownsRow w.heap.size 9 1 v (splitP c s.data.toList).length (strCells (splitP c s.data.toList))) ∧ Below w.heap.size w w' := by
 have hlen : s.data.toList.length = s.size := by simp
 obtain ⟨i0, hi, hz0, hz1, hz2⟩ := info_parts infoStr
 have hst : Hid (splitP c s.data.toList = [] ++ restS c s.data.toList 0 0) := by
  unfold Hid restS
  rw [if_pos (Nat.zero_le _)]
  simp [prep_nil (splitP_ne _ _)]
 go_enter Tryz.func167, Tryz.ntmps167
 go_wp2
 go_loopw [5, 6, 7] (fun v fr ir wr => ∃ f i : Nat, f ≤ i ∧ i ≤ s.size + 1 ∧ f ≤ s.size + 1 ∧ fr = .int .i64 f ∧ ir = .int .i64 i ∧ RelSp s c w f i v wr) (fun _ _ ir _ => s.size + 1 - (intOf ir).toNat)
 case atStart => exact ⟨0, 0, by omega, by omega, by omega, rfl, rfl, [], by simp, hst, World.ownsRow_nil _ _ _ _, Below.refl _ _⟩
 case round =>
  obtain ⟨f, i, h1, h2, h3, rfl, rfl, acc, hal, hr, hown, hbw⟩ := hrel
  clear hst
  by_cases hend : i = s.size + 1
  · subst hend
    have hR : Hid (splitP c s.data.toList = acc) := by unfold Hid; rw [hr.out, rest_over _ _ _ _ (by omega), List.append_nil]
    clear hr
    go_wp2
    go_returns
    refine ⟨⟨_, rfl, ?_⟩, hbw⟩
    rw [hR.out]
    exact hown
  · have hex : Hid (s.extract f i = ⟨((s.data.toList.drop f).take (i - f)).toArray⟩) := by
     unfold Hid
     have := aextract_list s f (i - f)
     rwa [show f + (i - f) = i by omega] at this
    by_cases hsz : i = s.size
    · have hr' : Hid (splitP c s.data.toList = (acc ++ [(s.data.toList.drop f).take (i - f)]) ++ restS c s.data.toList (i + 1) (i + 1)) := by
       unfold Hid
       have e := rest_end c s.data.toList f
       rw [hlen, ← hsz] at e
       rw [hr.out, e, rest_over _ _ _ _ (by omega)]; simp
      clear hr
      subst hsz
      go_wp2_with (at_builtin; refine wpList_append_own _ rfl _ _ 45 rfl w.heap.size 9 i0 (.string ⟨#[]⟩) 1 16 Tryz.underlying45 hi hz0 hz1 hz2 rfl (by decide) _ _ _ rfl (hown.alloc _) _ 1 1 [.string (s.extract f s.size)] rfl rfl ?c1 ?c2 ?c3 ?c4 ?c5 ?_; (case c1 => exact one_new _ _ (by first | rfl | (simp; done)) _ _); (case c2 => (intro u hu; simp at hu; subst hu; rfl)); (case c3 => (unfold maxLen; omega)); (case c4 => omega); (case c5 => (have := hbw.size; simp; omega)); intro v1 w1 hown1 hg0 _; have hbw1 := (hbw.alloc hbw.size _).grown hg0 (by have := hbw.size; simp; omega) (fun k hk => (hown.lt k hk).1); clear hg0)
      go_roundw
      case rel => exact ⟨s.size + 1, s.size + 1, by omega, by omega, by omega, by go_num, by go_num, acc ++ [(s.data.toList.drop f).take (s.size - f)], by first | (simp; done) | (simp; omega), hr', own_castA hown1 (by simp) (by rw [hex.out]; simp [strCells]), hbw1⟩
      case measure => first | (simp [intOf]; done) | (simp [intOf]; omega)
    · have hlt : i < s.size := by omega
      have hgi : s.data.toList[i]'(by omega) = s[i] := rfl
      have hne : ((i : Int) == (s.size : Int)) = false := by simp; omega
      by_cases hc : s[i] = c
      · have hr' : Hid (splitP c s.data.toList = (acc ++ [(s.data.toList.drop f).take (i - f)]) ++ restS c s.data.toList (i + 1) (i + 1)) := by
         unfold Hid
         rw [hr.out, rest_cut c s.data.toList f i (by omega) (hgi.trans hc)]; simp
        have hcb : ((s[i].toNat : Int) == (c.toNat : Int)) = true := by rw [hc]; simp
        clear hr hgi hc
        go_wp2_with (at_builtin; refine wpList_append_own _ rfl _ _ 45 rfl w.heap.size 9 i0 (.string ⟨#[]⟩) 1 16 Tryz.underlying45 hi hz0 hz1 hz2 rfl (by decide) _ _ _ rfl (hown.alloc _) _ 1 1 [.string (s.extract f i)] rfl rfl ?c1 ?c2 ?c3 ?c4 ?c5 ?_; (case c1 => exact one_new _ _ (by first | rfl | (simp; done)) _ _); (case c2 => (intro u hu; simp at hu; subst hu; rfl)); (case c3 => (unfold maxLen; omega)); (case c4 => omega); (case c5 => (have := hbw.size; simp; omega)); intro v1 w1 hown1 hg0 _; have hbw1 := (hbw.alloc hbw.size _).grown hg0 (by have := hbw.size; simp; omega) (fun k hk => (hown.lt k hk).1); clear hg0)
        go_roundw
        case rel => exact ⟨i + 1, i + 1, by omega, by omega, by omega, by go_num, by go_num, acc ++ [(s.data.toList.drop f).take (i - f)], by first | (simp; done) | (simp; omega), hr', own_castA hown1 (by simp) (by rw [hex.out]; simp [strCells]), hbw1⟩
        case measure => first | (simp [intOf]; done) | (simp [intOf]; omega)
      · have hr' : Hid (splitP c s.data.toList = acc ++ restS c s.data.toList f (i + 1)) := by
         unfold Hid
         rw [hr.out, rest_go c s.data.toList f i (by omega) h1 (fun h => hc (hgi.symm.trans h))]
        have hcb : ((s[i].toNat : Int) == (c.toNat : Int)) = false := by rw [u8_int] at hc; simpa using hc
        clear hr hgi hc hex
        go_wp2
        go_roundw
        case rel => exact ⟨f, i + 1, by omega, by omega, by omega, rfl, by go_num, acc, by omega, hr', hown, hbw⟩
        case measure => first | (simp [intOf]; done) | (simp [intOf]; omega)
end Go.Proofs.YteahkgbnfbjkhaaGreatDoor
set_option maxRecDepth 20000
set_option linter.unusedVariables false
set_option linter.unusedSimpArgs false
set_option linter.unusedSectionVars false
namespace Go.Proofs.YteahkgbnfbjkhaaGreatDoor
open Go.ChangeShapes Go.WideShapes Go.ChangeAt Go.RowKit
theorem splitP_len (c : UInt8) : ∀ l, ∀ p ∈ splitP c l, p.length ≤ l.length
 | [] => by simp [splitP]
 | x :: r => by
  intro p hp
  have ih := splitP_len c r
  simp only [splitP] at hp
  split at hp
  · rcases List.mem_cons.1 hp with rfl | h
    · simp
    · have := ih p h; simp; omega
  · cases hL : splitP c r with
    | nil => exact absurd hL (splitP_ne _ _)
    | cons a t =>
     rw [hL] at hp ih
     rcases List.mem_cons.1 hp with rfl | h
     · have := ih a (by simp); simp; omega
     · have := ih p (by simp [h]); simp; omega
theorem splitP_count (c : UInt8) : ∀ l, (splitP c l).length ≤ l.length + 1
 | [] => by simp [splitP]
 | x :: r => by
  have ih := splitP_count c r
  simp only [splitP]
  split
  · simp; omega
  · cases hL : splitP c r with
    | nil => exact absurd hL (splitP_ne _ _)
    | cons a t => rw [hL] at ih; simp [prep] at ih ⊢; omega
def StrRow (w : World) (b : Nat) (L : List (List UInt8)) : Prop := ∀ j (h : j < L.length), w.cell? ⟨b, j, none⟩ = some (.string ⟨(L[j]).toArray⟩)
theorem own_strs {w : World} {B : Nat} {v : Value} {L : List (List UInt8)} (h : w.ownsRow B 9 1 v L.length (strCells L)) (h0 : L ≠ []) : ∃ g cap, v = .slice (some ⟨g, 0, none⟩) L.length cap ∧ B ≤ g ∧ g < w.heap.size ∧ StrRow w g L := by
 have hp : 0 < L.length := List.length_pos_iff.2 h0
 obtain ⟨_, ⟨_, hn⟩ | ⟨g, cap, cur, rfl, hb, hg, _, _, _, ht⟩⟩ := h
 · exact absurd hn (by omega)
 · refine ⟨g, cap, rfl, hb, ?_, fun j hj => ?_⟩
   · rcases Nat.lt_or_ge g w.heap.size with hlt | hge
     · exact hlt
     · rw [Array.getElem?_eq_none hge] at hg; cases hg
   · have h1 : w.cell? ⟨g, j, none⟩ = cur[j]? := by simp [World.cell?, hg]
     have h2 : (cur.toList.take (L.length * 1))[j]? = cur[j]? := by rw [List.getElem?_take, if_pos (by omega)]; simp
     rw [h1, ← h2, ht]
     simp [strCells, hj]
theorem all_at {p : List UInt8 → Bool} (L : List (List UInt8)) (k : Nat) (h : k < L.length) : (L.drop k).all p = (p L[k] && (L.drop (k + 1)).all p) := by
 rw [List.drop_eq_getElem_cons h, List.all_cons]
def labelsB (l : List UInt8) : Bool := (splitP 46 l).all rlabelB
theorem rlabels_calls (s : ByteArray) (hs : s.size ≤ 1000000000000) (w : World) : Calls Tryz.prog 164 #[.string s] w fun r w' => r = .returned (.bool (labelsB s.data.toList)) ∧ Below w.heap.size w w' := by
 have hlen : s.data.toList.length = s.size := by simp
 generalize hR : labelsB s.data.toList = R
 unfold labelsB at hR
 have hle := splitP_len 46 s.data.toList
 have hco := splitP_count 46 s.data.toList
 have hne := splitP_ne 46 s.data.toList
 have hsp := rsplit05_calls s 46 hs w
 rw [hlen] at hco hle
 rw [show (((46 : UInt8).toNat : Nat) : Int) = 46 from rfl] at hsp
 generalize splitP 46 s.data.toList = L at hR hle hco hne hsp
 replace hR := Lib.hid hR
 replace hle := Lib.hid hle
 replace hne := Lib.hid hne
 go_enter Tryz.func164, Tryz.ntmps164
 go_wp2_with (go_at_call 167; (with_reducible refine hsp.mono ?_); rintro _ w1 ⟨⟨v, rfl, hown⟩, hbw⟩; obtain ⟨g, cap, rfl, hg1, hg2, hrow⟩ := own_strs hown hne.out; clear hown)
 go_loop [4] (fun i => ∃ k : Nat, k ≤ L.length ∧ i = .int .i64 k ∧ Hid (R = (L.drop k).all rlabelB)) (fun i => L.length - (intOf i).toNat)
 case atStart => exact ⟨0, by omega, rfl, by unfold Hid; rw [← hR.out]; rfl⟩
 case round =>
  obtain ⟨k, hk, rfl, hr⟩ := hrel
  clear hR
  by_cases hlt : k < L.length
  · have had := all_at (p := rlabelB) L k hlt
    have hcell := hrow k hlt
    have hsz : (⟨(L[k]).toArray⟩ : ByteArray).size ≤ 140000000000000 := by
     have := hle.out L[k] (List.getElem_mem hlt)
     show (L[k]).toArray.size ≤ _
     simp; omega
    have hlc := rlabel_calls ⟨(L[k]).toArray⟩ hsz
    have htl : (⟨(L[k]).toArray⟩ : ByteArray).data.toList = L[k] := rfl
    rw [htl] at hlc
    cases hal : rlabelB L[k]
    · have hR : Hid (R = false) := by unfold Hid; rw [hr.out, had, hal]; rfl
      rw [hal] at hlc
      replace hlc := Lib.hid hlc
      clear had hal hr htl
      go_wp2_with (go_at_call 199; ((with_reducible refine (hlc.out _).mono ?_); rintro _ _ ⟨rfl, rfl⟩))
      go_returns
      exact ⟨rb hR.out.symm, hbw⟩
    · have hR : Hid (R = (L.drop (k + 1)).all rlabelB) := by unfold Hid; rw [hr.out, had, hal]; rfl
      rw [hal] at hlc
      replace hlc := Lib.hid hlc
      clear had hal hr htl
      go_wp2_with (go_at_call 199; ((with_reducible refine (hlc.out _).mono ?_); rintro _ _ ⟨rfl, rfl⟩))
      go_round
      case rel => exact ⟨k + 1, by omega, by go_num, hR⟩
      case measure => first | (simp [intOf]; done) | (simp [intOf]; omega)
  · have hke : k = L.length := by omega
    subst hke
    have hR : Hid (R = true) := by unfold Hid; rw [hr.out, List.drop_of_length_le (by omega)]; rfl
    clear hr
    go_wp2
    go_returns
    exact ⟨rb hR.out.symm, hbw⟩
def rdomB (l : List UInt8) : Bool := labelsB l && decide (l.length ≤ 64)
theorem rdomain_calls (s : ByteArray) (hs : s.size ≤ 1000000000000) (w : World) : Calls Tryz.prog 112 #[.string s] w fun r w' => r = .returned (.bool (rdomB s.data.toList)) ∧ Below w.heap.size w w' := by
 have hlen : s.data.toList.length = s.size := by simp
 have hlc := rlabels_calls s hs
 generalize hR : rdomB s.data.toList = R
 unfold rdomB at hR
 rw [hlen] at hR
 cases hal : labelsB s.data.toList
 · rw [hal] at hlc hR
   replace hlc := Lib.hid hlc
   replace hR := Lib.hid hR
   go_enter Tryz.func112, Tryz.ntmps112
   go_wp2_with (go_at_call 164; ((with_reducible refine (hlc.out _).mono ?_); rintro _ w1 ⟨rfl, hbw⟩))
   go_returns
   exact ⟨rb hR.out, hbw⟩
 · rw [hal] at hlc hR
   replace hlc := Lib.hid hlc
   replace hR := Lib.hid hR
   go_enter Tryz.func112, Tryz.ntmps112
   go_wp2_with (go_at_call 164; ((with_reducible refine (hlc.out _).mono ?_); rintro _ w1 ⟨rfl, hbw⟩))
   go_returns
   refine ⟨rb ?_, hbw⟩
   rw [← hR.out]
   simp
   omega
end Go.Proofs.YteahkgbnfbjkhaaGreatDoor
set_option maxRecDepth 20000
set_option linter.unusedVariables false
set_option linter.unusedSimpArgs false
set_option linter.unusedSectionVars false
namespace Go.Proofs.YteahkgbnfbjkhaaGreatDoor
open Go.ChangeShapes Go.WideShapes Go.ChangeAt Go.RowKit
end Go.Proofs.YteahkgbnfbjkhaaGreatDoor
set_option maxRecDepth 20000
set_option linter.unusedVariables false
set_option linter.unusedSimpArgs false
set_option linter.unusedSectionVars false
namespace Go.Proofs.YteahkgbnfbjkhaaGreatDoor
open Go.ChangeShapes Go.WideShapes Go.ChangeAt Go.RowKit
def domCh (c : UInt8) : Bool := alnumB c || (((c.toNat : Int) == 45) || ((c.toNat : Int) == 46))
end Go.Proofs.YteahkgbnfbjkhaaGreatDoor
set_option maxRecDepth 20000
set_option linter.unusedVariables false
set_option linter.unusedSimpArgs false
set_option linter.unusedSectionVars false
namespace Go.Proofs.YteahkgbnfbjkhaaGreatDoor
theorem split_run : ∀ (p t : List UInt8), (∀ c ∈ p, c ≠ 46) → splitP 46 (p ++ 46 :: t) = p :: splitP 46 t
 | [], t, _ => by simp [splitP]
 | x :: p, t, h => by
  have hx : x ≠ 46 := h x (by simp)
  have ih := split_run p t (fun c hc => h c (by simp [hc]))
  rw [List.cons_append, splitP, if_neg hx, ih]; rfl
theorem split_one : ∀ (p : List UInt8), (∀ c ∈ p, c ≠ 46) → splitP 46 p = [p]
 | [], _ => rfl
 | x :: p, h => by
  have hx : x ≠ 46 := h x (by simp)
  have ih := split_one p (fun c hc => h c (by simp [hc]))
  rw [splitP, if_neg hx, ih]; rfl
theorem labelB_dot : labelB 46 = false := by decide
theorem domCh_eq (c : UInt8) : domCh c = (labelB c || c == 46) := by
 unfold domCh; rw [labelB_int, Bool.or_assoc]; congr 1; congr 1; rw [Bool.eq_iff_iff]; simp; rw [← UInt8.toNat_inj]; simp; omega
theorem run_form : ∀ l : List UInt8, ∃ p r, l = p ++ r ∧ p.all labelB = true ∧ spanLen labelB l = p.length ∧
 ((∃ t, r = 46 :: t ∧ spanLen domCh l = p.length + (1 + spanLen domCh t)) ∨ ((∀ t, r ≠ 46 :: t) ∧ spanLen domCh l = p.length))
 | [] => ⟨[], [], rfl, rfl, rfl, .inr ⟨by simp, rfl⟩⟩
 | c :: l => by
  by_cases hc : labelB c = true
  · obtain ⟨p, r, h1, h2, h3, h4⟩ := run_form l
    refine ⟨c :: p, r, by rw [h1]; rfl, by simp [hc, h2], by simp [spanLen, hc, h3], ?_⟩
    have hd : domCh c = true := by rw [domCh_eq, hc]; rfl
    rcases h4 with ⟨t, ht, h5⟩ | ⟨ht, h5⟩
    · exact .inl ⟨t, ht, by simp only [spanLen, if_pos hd, List.length_cons, h5]; omega⟩
    · exact .inr ⟨ht, by simp only [spanLen, if_pos hd, List.length_cons, h5]⟩
  · refine ⟨[], c :: l, rfl, rfl, by simp [spanLen, hc], ?_⟩
    by_cases h46 : c = 46
    · subst h46
      have hd : domCh 46 = true := by rw [domCh_eq]; rfl
      exact .inl ⟨l, rfl, by simp only [spanLen, if_pos hd, List.length_nil]; omega⟩
    · have hd : domCh c ≠ true := by rw [domCh_eq]; simp [hc, h46]
      exact .inr ⟨by intro t e; exact h46 (List.cons.inj e).1, by simp only [spanLen, if_neg hd, List.length_nil]⟩
theorem dom_law : ∀ n, ∀ l : List UInt8, l.length ≤ n → domP l = if labelsB (l.take (spanLen domCh l)) = true then some (spanLen domCh l) else none
 | n, l, hn => by
  obtain ⟨p, r, h1, h2, h3, h4⟩ := run_form l
  have hp : ∀ c ∈ p, c ≠ 46 := by
   intro c hc e
   have := List.all_eq_true.1 h2 c hc
   rw [e, labelB_dot] at this
   exact absurd this (by decide)
  have htk : l.take p.length = p := by rw [h1]; simp
  have hdr : l.drop p.length = r := by rw [h1]; simp
  have hrl : rlabelB p = labelOk p := by unfold rlabelB; rw [h2, Bool.true_and]
  unfold domP
  rw [h3, htk, hdr]
  rcases h4 with ⟨t, ht, h5⟩ | ⟨ht, h5⟩
  · have htn : t.length < n := by rw [h1, ht] at hn; simp at hn; omega
    have ih := dom_law (n - 1) t (by omega)
    have e1 : l.take (spanLen domCh l) = p ++ 46 :: t.take (spanLen domCh t) := by
     rw [h5, h1, ht, List.take_append, List.take_of_length_le (by omega), Nat.add_sub_cancel_left, Nat.add_comm 1, List.take_succ_cons]
    have e2 : labelsB (p ++ 46 :: t.take (spanLen domCh t)) = (labelOk p && labelsB (t.take (spanLen domCh t))) := by
     unfold labelsB; rw [split_run p _ hp, List.all_cons, hrl]
    have e3 : domT (46 :: t) = (domP t).map (1 + ·) := by
     rw [domT, if_pos rfl]
     unfold domP
     split
     · rw [Option.map_map]; congr 1; funext x; simp; omega
     · rfl
    rw [ht, e3, e1, e2, ih, h5]
    cases labelOk p <;> cases labelsB (t.take (spanLen domCh t)) <;> simp
  · have e1 : l.take (spanLen domCh l) = p := by rw [h5, htk]
    have e2 : labelsB p = labelOk p := by unfold labelsB; rw [split_one p hp]; simp [hrl]
    have e3 : domT r = some 0 := by
     cases r with
     | nil => rw [domT]
     | cons c t =>
      rw [domT, if_neg]
      intro e; exact ht t (by rw [e])
    rw [e3, e1, e2, h5]
    cases labelOk p <;> simp
termination_by n => n
decreasing_by omega
theorem split_dom : ∀ l : List UInt8, (∀ q ∈ splitP 46 l, q.all labelB = true) → l.all domCh = true
 | [], _ => rfl
 | x :: r, h => by
  rw [splitP] at h
  split at h
  · rename_i hx
    rw [List.all_cons, domCh_eq, hx, split_dom r (fun q hq => h q (by simp [hq]))]; rfl
  · cases hL : splitP 46 r with
    | nil => exact absurd hL (splitP_ne _ _)
    | cons a t =>
     rw [hL] at h
     have ha := h (x :: a) (by simp [prep])
     rw [List.all_cons, Bool.and_eq_true] at ha
     have hr := split_dom r (fun q hq => by
      rw [hL] at hq
      rcases List.mem_cons.1 hq with rfl | hq
      · exact ha.2
      · exact h q (by simp [prep, hq]))
     rw [List.all_cons, domCh_eq, ha.1, hr]; rfl
theorem span_all (f : UInt8 → Bool) : ∀ l : List UInt8, l.all f = true → spanLen f l = l.length
 | [], _ => rfl
 | c :: l, h => by
  rw [List.all_cons, Bool.and_eq_true] at h
  rw [spanLen, if_pos h.1, span_all f l h.2]; rfl
theorem labels_law (l : List UInt8) : domP l = some l.length ↔ labelsB l = true := by
 rw [dom_law l.length l (Nat.le_refl _)]
 constructor
 · intro h
   split at h
   · rename_i hl
     have e : spanLen domCh l = l.length := Option.some.inj h
     rwa [e, List.take_of_length_le (Nat.le_refl _)] at hl
   · cases h
 · intro h
   have e : spanLen domCh l = l.length := span_all _ _ (split_dom l (fun q hq => by
    have := List.all_eq_true.1 h q hq
    unfold rlabelB at this
    rw [Bool.and_eq_true] at this
    exact this.1))
   rw [e, List.take_of_length_le (Nat.le_refl _), if_pos h]
theorem domain_law (l : List UInt8) : domainB l = rdomB l := by
 unfold domainB rdomB
 congr 1
 rw [Bool.eq_iff_iff, ← labels_law]
 simp
end Go.Proofs.YteahkgbnfbjkhaaGreatDoor
