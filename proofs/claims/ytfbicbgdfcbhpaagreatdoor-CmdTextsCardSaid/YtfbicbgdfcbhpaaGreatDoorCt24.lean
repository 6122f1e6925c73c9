/-
  RefDomLaw, RefAtomLaw, RefLocal.
-/
import Derived.Test.YtfbicbgdfcbhpaaGreatDoorCt23
import Derived.Test.YtfbicbgdfcbhpaaGreatDoorCt17
set_option maxRecDepth 20000
set_option linter.unusedVariables false
set_option linter.unusedSimpArgs false
set_option linter.unusedSectionVars false
namespace Go.Proofs.YtfbicbgdfcbhpaaGreatDoor
theorem split_run : ∀ (p t : List UInt8), (∀ c ∈ p, c ≠ 46) → splitP 46 (p ++ 46 :: t) = p :: splitP 46 t
 | [], t, _ => by simp [splitP]
 | x :: p, t, h => by
  have hx : x ≠ 46 := h x (by simp)
  have ih := split_run p t (fun c hc => h c (by simp [hc]))
  rw [List.cons_append, splitP, if_neg hx, ih]; rfl
theorem split_one : ∀ (p : List UInt8), (∀ c ∈ p, c ≠ 46) → splitP 46 p = [p]
 | [], _ => rfl
 | x :: p, h => by
  have hx : x ≠ 46 := h x (by simp)
  have ih := split_one p (fun c hc => h c (by simp [hc]))
  rw [splitP, if_neg hx, ih]; rfl
theorem labelB_dot : labelB 46 = false := by decide
theorem domCh_eq (c : UInt8) : domCh c = (labelB c || c == 46) := by
 unfold domCh; rw [labelB_int, Bool.or_assoc]; congr 1; congr 1; rw [Bool.eq_iff_iff]; simp; rw [← UInt8.toNat_inj]; simp; omega
theorem run_form : ∀ l : List UInt8, ∃ p r, l = p ++ r ∧ p.all labelB = true ∧ spanLen labelB l = p.length ∧
 ((∃ t, r = 46 :: t ∧ spanLen domCh l = p.length + (1 + spanLen domCh t)) ∨ ((∀ t, r ≠ 46 :: t) ∧ spanLen domCh l = p.length))
 | [] => ⟨[], [], rfl, rfl, rfl, .inr ⟨by simp, rfl⟩⟩
 | c :: l => by
  by_cases hc : labelB c = true
  · obtain ⟨p, r, h1, h2, h3, h4⟩ := run_form l
    refine ⟨c :: p, r, by rw [h1]; rfl, by simp [hc, h2], by simp [spanLen, hc, h3], ?_⟩
    have hd : domCh c = true := by rw [domCh_eq, hc]; rfl
    rcases h4 with ⟨t, ht, h5⟩ | ⟨ht, h5⟩
    · exact .inl ⟨t, ht, by simp only [spanLen, if_pos hd, List.length_cons, h5]; omega⟩
    · exact .inr ⟨ht, by simp only [spanLen, if_pos hd, List.length_cons, h5]⟩
  · refine ⟨[], c :: l, rfl, rfl, by simp [spanLen, hc], ?_⟩
    by_cases h46 : c = 46
    · subst h46
      have hd : domCh 46 = true := by rw [domCh_eq]; rfl
      exact .inl ⟨l, rfl, by simp only [spanLen, if_pos hd, List.length_nil]; omega⟩
    · have hd : domCh c ≠ true := by rw [domCh_eq]; simp [hc, h46]
      exact .inr ⟨by intro t e; exact h46 (List.cons.inj e).1, by simp only [spanLen, if_neg hd, List.length_nil]⟩
theorem dom_law : ∀ n, ∀ l : List UInt8, l.length ≤ n → domP l = if labelsB (l.take (spanLen domCh l)) = true then some (spanLen domCh l) else none
 | n, l, hn => by
  obtain ⟨p, r, h1, h2, h3, h4⟩ := run_form l
  have hp : ∀ c ∈ p, c ≠ 46 := by
   intro c hc e
   have := List.all_eq_true.1 h2 c hc
   rw [e, labelB_dot] at this
   exact absurd this (by decide)
  have htk : l.take p.length = p := by rw [h1]; simp
  have hdr : l.drop p.length = r := by rw [h1]; simp
  have hrl : rlabelB p = labelOk p := by unfold rlabelB; rw [h2, Bool.true_and]
  unfold domP
  rw [h3, htk, hdr]
  rcases h4 with ⟨t, ht, h5⟩ | ⟨ht, h5⟩
  · have htn : t.length < n := by rw [h1, ht] at hn; simp at hn; omega
    have ih := dom_law (n - 1) t (by omega)
    have e1 : l.take (spanLen domCh l) = p ++ 46 :: t.take (spanLen domCh t) := by
     rw [h5, h1, ht, List.take_append, List.take_of_length_le (by omega), Nat.add_sub_cancel_left, Nat.add_comm 1, List.take_succ_cons]
    have e2 : labelsB (p ++ 46 :: t.take (spanLen domCh t)) = (labelOk p && labelsB (t.take (spanLen domCh t))) := by
     unfold labelsB; rw [split_run p _ hp, List.all_cons, hrl]
    have e3 : domT (46 :: t) = (domP t).map (1 + ·) := by
     rw [domT, if_pos rfl]
     unfold domP
     split
     · rw [Option.map_map]; congr 1; funext x; simp; omega
     · rfl
    rw [ht, e3, e1, e2, ih, h5]
    cases labelOk p <;> cases labelsB (t.take (spanLen domCh t)) <;> simp
  · have e1 : l.take (spanLen domCh l) = p := by rw [h5, htk]
    have e2 : labelsB p = labelOk p := by unfold labelsB; rw [split_one p hp]; simp [hrl]
    have e3 : domT r = some 0 := by
     cases r with
     | nil => rw [domT]
     | cons c t =>
      rw [domT, if_neg]
      intro e; exact ht t (by rw [e])
    rw [e3, e1, e2, h5]
    cases labelOk p <;> simp
termination_by n => n
decreasing_by omega
theorem split_dom : ∀ l : List UInt8, (∀ q ∈ splitP 46 l, q.all labelB = true) → l.all domCh = true
 | [], _ => rfl
 | x :: r, h => by
  rw [splitP] at h
  split at h
  · rename_i hx
    rw [List.all_cons, domCh_eq, hx, split_dom r (fun q hq => h q (by simp [hq]))]; rfl
  · cases hL : splitP 46 r with
    | nil => exact absurd hL (splitP_ne _ _)
    | cons a t =>
     rw [hL] at h
     have ha := h (x :: a) (by simp [prep])
     rw [List.all_cons, Bool.and_eq_true] at ha
     have hr := split_dom r (fun q hq => by
      rw [hL] at hq
      rcases List.mem_cons.1 hq with rfl | hq
      · exact ha.2
      · exact h q (by simp [prep, hq]))
     rw [List.all_cons, domCh_eq, ha.1, hr]; rfl
theorem span_all (f : UInt8 → Bool) : ∀ l : List UInt8, l.all f = true → spanLen f l = l.length
 | [], _ => rfl
 | c :: l, h => by
  rw [List.all_cons, Bool.and_eq_true] at h
  rw [spanLen, if_pos h.1, span_all f l h.2]; rfl
theorem labels_law (l : List UInt8) : domP l = some l.length ↔ labelsB l = true := by
 rw [dom_law l.length l (Nat.le_refl _)]
 constructor
 · intro h
   split at h
   · rename_i hl
     have e : spanLen domCh l = l.length := Option.some.inj h
     rwa [e, List.take_of_length_le (Nat.le_refl _)] at hl
   · cases h
 · intro h
   have e : spanLen domCh l = l.length := span_all _ _ (split_dom l (fun q hq => by
    have := List.all_eq_true.1 h q hq
    unfold rlabelB at this
    rw [Bool.and_eq_true] at this
    exact this.1))
   rw [e, List.take_of_length_le (Nat.le_refl _), if_pos h]
theorem domain_law (l : List UInt8) : domainB l = rdomB l := by
 unfold domainB rdomB
 congr 1
 rw [Bool.eq_iff_iff, ← labels_law]
 simp
end Go.Proofs.YtfbicbgdfcbhpaaGreatDoor
set_option maxRecDepth 20000
set_option linter.unusedVariables false
set_option linter.unusedSimpArgs false
set_option linter.unusedSectionVars false
namespace Go.Proofs.YtfbicbgdfcbhpaaGreatDoor
def atCh (c : UInt8) : Bool := atomB c || c == 46
theorem atomB_dot : atomB 46 = false := by decide
theorem atrun_form : ∀ l : List UInt8, ∃ p r, l = p ++ r ∧ p.all atomB = true ∧ spanLen atomB l = p.length ∧
 ((∃ t, r = 46 :: t ∧ spanLen atCh l = p.length + (1 + spanLen atCh t)) ∨ ((∀ t, r ≠ 46 :: t) ∧ spanLen atCh l = p.length))
 | [] => ⟨[], [], rfl, rfl, rfl, .inr ⟨by simp, rfl⟩⟩
 | c :: l => by
  by_cases hc : atomB c = true
  · obtain ⟨p, r, h1, h2, h3, h4⟩ := atrun_form l
    refine ⟨c :: p, r, by rw [h1]; rfl, by simp [hc, h2], by simp [spanLen, hc, h3], ?_⟩
    have hd : atCh c = true := by unfold atCh; rw [hc]; rfl
    rcases h4 with ⟨t, ht, h5⟩ | ⟨ht, h5⟩
    · exact .inl ⟨t, ht, by simp only [spanLen, if_pos hd, List.length_cons, h5]; omega⟩
    · exact .inr ⟨ht, by simp only [spanLen, if_pos hd, List.length_cons, h5]⟩
  · refine ⟨[], c :: l, rfl, rfl, by simp [spanLen, hc], ?_⟩
    by_cases h46 : c = 46
    · subst h46
      have hd : atCh 46 = true := by decide
      exact .inl ⟨l, rfl, by simp only [spanLen, if_pos hd, List.length_nil]; omega⟩
    · have hd : atCh c ≠ true := by unfold atCh; simp [hc, h46]
      exact .inr ⟨by intro t e; exact h46 (List.cons.inj e).1, by simp only [spanLen, if_neg hd, List.length_nil]⟩
theorem atoms_law : ∀ n, ∀ l : List UInt8, l.length ≤ n → atomsP l = if ratomsB (l.take (spanLen atCh l)) = true then some (spanLen atCh l) else none
 | n, l, hn => by
  obtain ⟨p, r, h1, h2, h3, h4⟩ := atrun_form l
  have hp : ∀ c ∈ p, c ≠ 46 := by
   intro c hc e
   have := List.all_eq_true.1 h2 c hc
   rw [e, atomB_dot] at this
   exact absurd this (by decide)
  have htk : l.take p.length = p := by rw [h1]; simp
  have hdr : l.drop p.length = r := by rw [h1]; simp
  have hrl : partB p = !decide (p.length = 0) := by unfold partB; rw [h2, Bool.true_and]; cases p <;> simp
  unfold atomsP
  rw [h3, hdr]
  rcases h4 with ⟨t, ht, h5⟩ | ⟨ht, h5⟩
  · have htn : t.length < n := by rw [h1, ht] at hn; simp at hn; omega
    have ih := atoms_law (n - 1) t (by omega)
    have e1 : l.take (spanLen atCh l) = p ++ 46 :: t.take (spanLen atCh t) := by
     rw [h5, h1, ht, List.take_append, List.take_of_length_le (by omega), Nat.add_sub_cancel_left, Nat.add_comm 1, List.take_succ_cons]
    have e2 : ratomsB (p ++ 46 :: t.take (spanLen atCh t)) = (!decide (p.length = 0) && ratomsB (t.take (spanLen atCh t))) := by
     unfold ratomsB; rw [split_run p _ hp, List.all_cons, hrl]
    have e3 : atomsT (46 :: t) = (atomsP t).map (1 + ·) := by
     rw [atomsT, if_pos rfl]
     unfold atomsP
     split
     · rfl
     · rw [Option.map_map]; congr 1; funext x; simp; omega
    rw [ht, e3, e1, e2, ih, h5]
    by_cases h0 : p.length = 0 <;> cases ratomsB (t.take (spanLen atCh t)) <;> simp [h0]
  · have e1 : l.take (spanLen atCh l) = p := by rw [h5, htk]
    have e2 : ratomsB p = !decide (p.length = 0) := by unfold ratomsB; rw [split_one p hp]; simp [hrl]
    have e3 : atomsT r = some 0 := by
     cases r with
     | nil => rw [atomsT]
     | cons c t =>
      rw [atomsT, if_neg]
      intro e; exact ht t (by rw [e])
    rw [e3, e1, e2, h5]
    by_cases h0 : p.length = 0 <;> simp [h0]
termination_by n => n
decreasing_by omega
end Go.Proofs.YtfbicbgdfcbhpaaGreatDoor
set_option maxRecDepth 20000
set_option linter.unusedVariables false
set_option linter.unusedSimpArgs false
set_option linter.unusedSectionVars false
namespace Go.Proofs.YtfbicbgdfcbhpaaGreatDoor
open Go.ChangeShapes Go.WideShapes Go.ChangeAt Go.RowKit
theorem atCh_int (c : UInt8) : atCh c = (atomB c || ((c.toNat : Int) == 46)) := by
 unfold atCh; congr 1; rw [Bool.eq_iff_iff]; simp; rw [← UInt8.toNat_inj]; simp; omega
def rlocA (s : ByteArray) : Nat := if ratomsB (s.data.toList.take (spanLen atCh s.data.toList)) = true then spanLen atCh s.data.toList else 0
set_option maxHeartbeats 4000000 in
theorem rlocal_plain (s : ByteArray) (hs : s.size ≤ 1000000000000) (h1 : 0 < s.size) (hq : ((s[0].toNat : Int) == 34) = false) (w : World) : Calls Tryz.prog 136 #[.string s] w fun r w' => r = .returned (.tuple #[.string (s.extract 0 (rlocA s)), .int .i64 (rlocA s : Int)]) ∧ Below w.heap.size w w' := by
 have hlen : s.data.toList.length = s.size := by simp
 have hst : Hid (spanLen atCh s.data.toList = 0 + spanLen atCh (s.data.toList.drop 0)) := by unfold Hid; rw [List.drop_zero, Nat.zero_add]
 have hxl : s.toList = s.data.toList := ByteArray.toList_mk s.data.toList
 have he2 : s.toList.isEmpty = false := by
  rw [hxl]
  cases h : s.data.toList with
  | nil => rw [h] at hlen; simp at hlen; omega
  | cons a b => rfl
 clear hxl
 have hq2 : ((s[0].toNat : Int) != 34) = true := by simp [bne, hq]
 go_enter Tryz.func136, Tryz.ntmps136
 go_wp2
 go_loop [4] (fun i => ∃ k : Nat, k ≤ s.size ∧ i = .int .i64 k ∧ Hid (spanLen atCh s.data.toList = k + spanLen atCh (s.data.toList.drop k))) (fun i => s.size - (intOf i).toNat)
 case atStart => exact ⟨0, by omega, rfl, hst⟩
 case round =>
  obtain ⟨k, hk, rfl, hr⟩ := hrel
  clear hst
  have hend : ∀ {G : Prop}, (Hid (spanLen atCh s.data.toList = k) → G) → spanLen atCh (s.data.toList.drop k) = 0 → G := fun h e => h (by unfold Hid; rw [hr.out, e, Nat.add_zero])
  have hex : s.extract 0 k = ⟨(s.data.toList.take k).toArray⟩ := by
   have := extract_list s 0 k
   rwa [Nat.zero_add, List.drop_zero] at this
  have hesz : (s.extract 0 k).size ≤ 1000000000000 := by rw [ByteArray.size_extract]; omega
  have hlc := ratoms_calls (s.extract 0 k) hesz
  have htl : (s.extract 0 k).data.toList = s.data.toList.take k := by rw [hex]
  rw [htl] at hlc
  clear hex htl
  replace hlc := Lib.hid hlc
  have hval : ∀ b, Hid (spanLen atCh s.data.toList = k) → ratomsB (s.data.toList.take k) = b → Hid (rlocA s = if b = true then k else 0) := by
   intro b h1 h2
   unfold Hid rlocA
   rw [h1.out, h2]
  replace hval := Lib.hid hval
  by_cases hlt : k < s.size
  · have had := spanLen_at atCh s.data.toList k (by omega)
    have hgk : s.data.toList[k]'(by omega) = s[k] := rfl
    rw [hgk] at had
    have hac := ratom_calls s[k]
    rw [atCh_int] at had
    cases hal : atomB s[k]
    · rw [hal] at hac had
      replace hac := Lib.hid hac
      cases h46 : ((s[k].toNat : Int) == 46)
      · have hsp : Hid (spanLen atCh s.data.toList = k) := by
         unfold Hid
         rw [h46] at had
         rw [hr.out, had]; rfl
        cases hL : ratomsB (s.data.toList.take k)
        · have hv := hval.out _ hsp hL
          have hlc2 := hlc.out
          rw [hL] at hlc2
          replace hlc2 := Lib.hid hlc2
          clear had hgk hal hr hend hval hL hsp hlc
          go_wp2_with (first | (go_at_call 144; ((with_reducible refine (hac.out _).mono ?_); rintro _ _ ⟨rfl, rfl⟩)) | (go_at_call 112; ((with_reducible refine (hlc2.out _).mono ?_); rintro _ w1 ⟨rfl, hbw⟩)))
          go_returns
          exact ⟨by rw [hv.out]; first | rfl | (simp; done) | (simp; rfl), hbw⟩
        · have hv := hval.out _ hsp hL
          have hlc2 := hlc.out
          rw [hL] at hlc2
          replace hlc2 := Lib.hid hlc2
          clear had hgk hal hr hend hval hL hsp hlc
          go_wp2_with (first | (go_at_call 144; ((with_reducible refine (hac.out _).mono ?_); rintro _ _ ⟨rfl, rfl⟩)) | (go_at_call 112; ((with_reducible refine (hlc2.out _).mono ?_); rintro _ w1 ⟨rfl, hbw⟩)))
          go_returns
          exact ⟨by rw [hv.out]; first | rfl | (simp; done) | (simp; rfl), hbw⟩
      · have hR : Hid (spanLen atCh s.data.toList = (k + 1) + spanLen atCh (s.data.toList.drop (k + 1))) := by
         unfold Hid
         rw [h46] at had
         rw [hr.out, had]; simp; omega
        clear had hgk hal hr hend hval hlc
        go_wp2_with (go_at_call 144; ((with_reducible refine (hac.out _).mono ?_); rintro _ _ ⟨rfl, rfl⟩))
        go_round
        case rel => exact ⟨k + 1, by omega, by go_num, hR⟩
        case measure => first | (simp [intOf]; done) | (simp [intOf]; omega)
    · rw [hal] at hac had
      replace hac := Lib.hid hac
      have hR : Hid (spanLen atCh s.data.toList = (k + 1) + spanLen atCh (s.data.toList.drop (k + 1))) := by
       unfold Hid
       rw [hr.out, had]; simp; omega
      clear had hgk hal hr hend hval hlc
      go_wp2_with (go_at_call 144; ((with_reducible refine (hac.out _).mono ?_); rintro _ _ ⟨rfl, rfl⟩))
      go_round
      case rel => exact ⟨k + 1, by omega, by go_num, hR⟩
      case measure => first | (simp [intOf]; done) | (simp [intOf]; omega)
  · have hke : k = s.size := by omega
    subst hke
    have hsp : Hid (spanLen atCh s.data.toList = s.size) := by unfold Hid; rw [hr.out, spanLen_end _ _ _ (by omega)]; rfl
    cases hL : ratomsB (s.data.toList.take s.size)
    · have hv := hval.out _ hsp hL
      have hlc2 := hlc.out
      rw [hL, show s.extract 0 s.size = s from ByteArray.extract_zero_size] at hlc2
      replace hlc2 := Lib.hid hlc2
      clear hr hend hval hL hsp hlc
      go_wp2_with (go_at_call 112; ((with_reducible refine (hlc2.out _).mono ?_); rintro _ w1 ⟨rfl, hbw⟩))
      go_returns
      exact ⟨by rw [hv.out]; first | rfl | (simp; done) | (simp; rfl), hbw⟩
    · have hv := hval.out _ hsp hL
      have hlc2 := hlc.out
      rw [hL, show s.extract 0 s.size = s from ByteArray.extract_zero_size] at hlc2
      replace hlc2 := Lib.hid hlc2
      clear hr hend hval hL hsp hlc
      go_wp2_with (go_at_call 112; ((with_reducible refine (hlc2.out _).mono ?_); rintro _ w1 ⟨rfl, hbw⟩))
      go_returns
      exact ⟨by rw [hv.out]; first | rfl | (simp; done) | (simp; rfl), hbw⟩
end Go.Proofs.YtfbicbgdfcbhpaaGreatDoor
