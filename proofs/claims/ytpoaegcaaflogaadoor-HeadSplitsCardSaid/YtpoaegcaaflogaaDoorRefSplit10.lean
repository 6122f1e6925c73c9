/-
  ref10.Split: what it gives.
-/
import Derived.Test.YtpoaegcaaflogaaDoorSplitRef
import Derived.Test.YtpoaegcaaflogaaDoorRefEnd10
namespace Go.Proofs.YtpoaegcaaflogaaDoor
open Go.ChangeShapes Go.WideShapes Go.ChangeAt Go.RowKit

theorem u8_neR (x y : UInt8) : ((x.toNat : Int) != (y.toNat : Int)) = !decide (x = y) := by
  rw [Bool.eq_iff_iff]; simp [← UInt8.toNat_inj]; omega
theorem own_baseN {w : World} {B B' sz : Nat} {e : TypeId} {v : Value} {n : Nat} {xs : List Value} (h : w.ownsRow B e sz v n xs) (hB : B' ≤ B) : w.ownsRow B' e sz v n xs := by
  refine ⟨h.1, ?_⟩
  rcases h.2 with h1 | ⟨g, cap, cur, h1, h2, h3⟩
  · exact .inl h1
  · exact .inr ⟨g, cap, cur, h1, by omega, h3⟩
theorem own_newN {X Y : World} {bs : Array Obj} {d e' : Nat} {B sz : Nat} {e : TypeId} {v : Value} {n : Nat} {xs : List Value} (h : (app X bs d).ownsRow B e sz v n xs) (hs : X.heap.size = Y.heap.size) (hB : X.heap.size ≤ B) : (app Y bs e').ownsRow B e sz v n xs := by
  refine ⟨h.1, ?_⟩
  rcases h.2 with h1 | ⟨g, cap, cur, h1, h2, h3, h4⟩
  · exact .inl h1
  · refine .inr ⟨g, cap, cur, h1, h2, ?_, h4⟩
    rw [← h3]
    show (Y.heap ++ bs)[g]? = (X.heap ++ bs)[g]?
    rw [Array.getElem?_append_right (by omega), Array.getElem?_append_right (by omega), hs]
def RSplitPost (R : Option (List LFld × List UInt8)) (w : World) (r : Ending) (w' : World) : Prop :=
  ((R = none ∧ r = .returned (.agg #[.slice none 0 0, .string ⟨#[]⟩, .bool false])) ∨
   (∃ fs body p c, R = some (fs, body) ∧ r = .returned (.agg #[.slice p fs.length c, .string ⟨body.toArray⟩, .bool true]) ∧
     w'.ownsRow w.heap.size 28 2 (.slice p fs.length c) fs.length (fieldCells fs))) ∧ Below w.heap.size w w'
set_option maxRecDepth 20000 in
set_option maxHeartbeats 16000000 in
theorem rsplit_calls {w : World} {q : Option Addr} {cap : Nat} {l : List UInt8} (hb : BytesAt w q cap l) (hs : l.length ≤ 10000000) : Calls Tryd.prog 16 #[.slice q l.length cap] w (RSplitPost (splitQ l) w) := by
  have ht := hb.textOf
  obtain ⟨i0, hi, hz0, hz1, hz2⟩ := info_parts infoField
  have ht1 := ht (w.alloc (.cells #[.slice none 0 0, .string ⟨#[]⟩, .bool false] 38)) (by (repeat' (first | (with_reducible exact Below.refl _ _) | (with_reducible refine Below.app ?_ ?_ _ _) | (with_reducible refine Below.alloc ?_ ?_ _) | (with_reducible refine Below.drew ?_) | (with_reducible refine Below.setCell ?_ ?_ _) | (with_reducible assumption) | omega | (simp; omega) | (simp; done))))
  by_cases h0 : l = []
  · have hx1 : (l == []) = true := by rw [h0]; rfl
    have hx2 : l.isEmpty = true := by rw [h0]; rfl
    have hR : Hid (splitQ l = some ([], [])) := by unfold Hid splitQ; rw [if_pos h0]
    clear h0 hb ht
    go_enter Tryd.func16, Tryd.ntmps16
    go_wp2
    go_returns
    exact ⟨.inr ⟨[], [], none, 0, hR.out, rfl, World.ownsRow_nil _ _ _ _⟩, by (repeat' (first | (with_reducible exact Below.refl _ _) | (with_reducible refine Below.app ?_ ?_ _ _) | (with_reducible refine Below.alloc ?_ ?_ _) | (with_reducible refine Below.drew ?_) | (with_reducible refine Below.setCell ?_ ?_ _) | (with_reducible assumption) | omega | (simp; omega) | (simp; done)))⟩
  · have hx1 : (l == []) = false := by simpa using h0
    have hx2 : l.isEmpty = false := by simpa using h0
    have hQ : Hid (splitQ l = loopQ [] (l.drop 0)) := by unfold Hid splitQ; rw [if_neg h0, List.drop_zero]
    have hsz : ∀ l : List UInt8, (⟨l.toArray⟩ : ByteArray).size = l.length := fun l => by show l.toArray.size = _; simp
    have hszl := hsz l
    replace hsz := Lib.hid hsz
    generalize splitQ l = Q at *
    clear h0 hb ht
    go_enter Tryd.func16, Tryd.ntmps16
    go_wp2
    go_loopw [4, 5] (fun v a wr => ∃ (acc : List LFld) (at0 : Nat), a = .int .i64 at0 ∧ at0 ≤ l.length ∧ acc.length ≤ at0 ∧ wr.ownsRow (w.heap.size + 1) 28 2 v acc.length (fieldCells acc) ∧ Below (w.alloc (.cells #[.slice none 0 0, .string ⟨#[]⟩, .bool false] 38)).heap.size (w.alloc (.cells #[.slice none 0 0, .string ⟨#[]⟩, .bool false] 38)) wr ∧ Hid (Q = loopQ acc (l.drop at0))) (fun _ a _ => l.length - (intOf a).toNat)
    case atStart => exact ⟨[], 0, rfl, by omega, by simp, World.ownsRow_nil _ _ _ _, Below.refl _ _, hQ⟩
    case round =>
      obtain ⟨acc, at0, rfl, hat, hal, hown, hbw, hr⟩ := hrel
      obtain ⟨p, c, rfl⟩ := own_lenN hown
      obtain ⟨bs, d, rfl⟩ := of_below hbw
      clear hQ ht1 hbw
      have hec := end10_calls l at0 (by omega) hat
      cases hen : endQ false (l.drop at0) with
      | none =>
        have hR : Hid (Q = none) := by unfold Hid; rw [hr.out, loopQ_end hen]
        rw [show endP l at0 = -1 by unfold endP; rw [hen]] at hec
        replace hec := Lib.hid hec
        clear hr hen
        go_wp2_with (go_at_call 32; ((refine (hec.out _).mono ?_); rintro _ _ ⟨rfl, rfl⟩))
        go_returns
        exact ⟨.inl ⟨hR.out, rfl⟩, by (repeat' (first | (with_reducible exact Below.refl _ _) | (with_reducible refine Below.app ?_ ?_ _ _) | (with_reducible refine Below.alloc ?_ ?_ _) | (with_reducible refine Below.drew ?_) | (with_reducible refine Below.setCell ?_ ?_ _) | (with_reducible assumption) | omega | (simp; omega) | (simp; done)))⟩
      | some n =>
        have hn2 := endQ_two_le _ _ hen
        have hn1 := (endQ_le _ _ _ hen).2
        rw [List.length_drop] at hn1
        obtain ⟨p0, rfl⟩ : ∃ p0, n = p0 + 2 := ⟨n - 2, by omega⟩
        rw [show endP l at0 = ((at0 + p0 : Nat) : Int) by unfold endP; rw [hen]; simp; omega] at hec
        by_cases h2 : p0 = 0
        · subst h2
          have hR : Hid (Q = some (acc, l.drop (at0 + 2))) := by unfold Hid; rw [hr.out, loopQ_two hen, List.drop_drop]
          have hde := drop_ext l (at0 + 2)
          rw [Nat.add_zero] at hec
          replace hec := Lib.hid hec
          clear hr hen
          generalize l.drop (at0 + 2) = body at *
          go_wp2_with (go_at_call 32; ((refine (hec.out _).mono ?_); rintro _ _ ⟨rfl, rfl⟩))
          go_returns
          exact ⟨.inr ⟨acc, body, p, c, hR.out, rfl, own_baseN (own_newN hown (by (first | rfl | omega | (simp; done) | (simp; omega))) (by (first | rfl | omega | (simp; done) | (simp; omega)))) (by omega)⟩, by (repeat' (first | (with_reducible exact Below.refl _ _) | (with_reducible refine Below.app ?_ ?_ _ _) | (with_reducible refine Below.alloc ?_ ?_ _) | (with_reducible refine Below.drew ?_) | (with_reducible refine Below.setCell ?_ ?_ _) | (with_reducible assumption) | omega | (simp; omega) | (simp; done)))⟩
        · have hQ1 : Hid (Q = ((contQ ((l.drop at0).take p0) (l.drop (at0 + p0 + 2))).bind fun x => (fieldOf x.1).map fun f => (f, x.2)).bind fun y => loopQ (acc ++ [y.1]) y.2) := by
            unfold Hid; rw [hr.out, loopQ_next hen (by omega), List.drop_drop, Nat.add_sub_cancel, Nat.add_assoc]
          have hext := ext_take l at0 p0
          have hne : (((at0 + p0 : Nat) : Int) == (at0 : Int)) = false := by simp; omega
          have hTl : ((l.drop at0).take p0).length = p0 := by rw [List.length_take, List.length_drop]; omega
          have hto : at0 + p0 + 2 ≤ l.length := by omega
          have hlow : at0 + p0 = at0 + p0 := rfl
          have htl : ((l.drop at0).take p0).length ≤ at0 + p0 := by omega
          have hlt0 : at0 < at0 + p0 := by omega
          generalize (l.drop at0).take p0 = txt0 at *
          generalize hgt : at0 + p0 = to at *
          clear hgt hr hen hTl hn1 hn2 hlow h2
          generalize hC : contQ txt0 (l.drop (to + 2)) = C at *
          replace hC := Lib.hid hC
          replace hec := Lib.hid hec
          go_wp2_with (go_at_call 32; ((refine (hec.out _).mono ?_); rintro _ _ ⟨rfl, rfl⟩))
          go_loop [5, 7] (fun a t => ∃ (b : Nat) (txt : List UInt8), a = .int .i64 b ∧ t = .string ⟨txt.toArray⟩ ∧ b ≤ l.length ∧ at0 + 2 ≤ b ∧ txt.length ≤ b ∧ Hid (contQ txt (l.drop b) = C)) (fun a _ => l.length - (intOf a).toNat)
          case atStart => exact ⟨to + 2, txt0, by go_num, rfl, hto, by omega, by omega, hC⟩
          case round =>
            obtain ⟨b, txt, rfl, rfl, hbl, hab, htb, hrb⟩ := hrel
            clear hC hec hext hne hlt0 hto htl
            by_cases hblt : b < l.length
            · have hblti : (b : Int) < l.length := by omega
              have gb : (⟨l.toArray⟩ : ByteArray)[b]'(by rw [hszl]; exact hblt) = l[b] := rfl
              have hhb : headBlank (l.drop b) = blankC l[b] := by rw [List.drop_eq_getElem_cons hblt, headBlank_cons]
              have hbc := rblank_calls l[b]
              generalize l[b] = cb at *
              cases hbk : blankC cb
              · have hE : Hid (C = some (txt, l.drop b)) := by unfold Hid; rw [← hrb.out, contQ_stop (hhb.trans hbk)]
                rw [hbk] at hbc
                replace hbc := Lib.hid hbc
                clear hrb hhb hbk
                have hC := hE
                go_wp2_with (go_at_call 33; ((refine (hbc.out _).mono ?_); rintro _ _ ⟨rfl, rfl⟩))
                have hQ2 : Hid (Q = ((fieldOf txt).map fun f => (f, l.drop b)).bind fun y => loopQ (acc ++ [y.1]) y.2) := by unfold Hid; rw [hQ1.out, hE.out]; rfl
                clear hQ1 hE hC
                have hszt := hsz.out txt
                go_loop [8] (fun i => ∃ k : Nat, k ≤ txt.length ∧ i = .int .i64 k ∧ Hid (∀ c ∈ txt.take k, c ≠ 58)) (fun i => txt.length - (intOf i).toNat)
                case atStart => exact ⟨0, by omega, rfl, by unfold Hid; simp⟩
                case round =>
                  obtain ⟨k, hk, rfl, hfree⟩ := hrel
                  by_cases hlt : k < txt.length
                  · have hlti : (k : Int) < txt.length := by omega
                    have g1 : (⟨txt.toArray⟩ : ByteArray)[k]'(by rw [hszt]; exact hlt) = txt[k] := rfl
                    have n58 : ((txt[k].toNat : Int) != 58) = !decide (txt[k] = 58) := u8_neR _ 58
                    have hke : ((k : Int) == (txt.length : Int)) = false := by simp; omega
                    by_cases e58 : txt[k] = 58
                    · rw [decide_eq_true e58] at n58
                      have hsplit : txt = txt.take k ++ 58 :: txt.drop (k + 1) := by rw [← e58, ← List.drop_eq_getElem_cons hlt, List.take_append_drop]
                      have hQ3 : Hid (Q = (if (nameB (txt.take k) && valueB (Lib.trimLeftS (txt.drop (k + 1)) [32, 9])) = true then some ((txt.take k, Lib.trimLeftS (txt.drop (k + 1)) [32, 9]), l.drop b) else none).bind fun y => loopQ (acc ++ [y.1]) y.2) := by
                        unfold Hid
                        have hfo := fieldOf_at (b := txt.drop (k + 1)) hfree.out
                        rw [← hsplit] at hfo
                        rw [hQ2.out, hfo]
                        split <;> rfl
                      have hnd := rnamed_calls ⟨(txt.take k).toArray⟩ (by show (txt.take k).toArray.size ≤ _; rw [List.size_toArray, List.length_take]; omega)
                      rw [show (⟨(txt.take k).toArray⟩ : ByteArray).data.toList = txt.take k from rfl] at hnd
                      have hte := take_ext txt k
                      have hk40 : Hid (Lib.trimLeftS (txt.drop (k + 1)) [32, 9] = Lib.trimLeftS (txt.drop (k + 1)) [32, 9]) := by unfold Hid; rfl
                      generalize txt.take k = nm at *
                      generalize hV0 : txt.drop (k + 1) = V0 at hQ3
                      rw [hV0] at hk40
                      have hk41 : Hid (Lib.trimLeftS V0 [32, 9] = Lib.trimLeftS (txt.drop (k + 1)) [32, 9]) := by rw [hV0]; exact hk40
                      clear hV0 hk40 hsplit hfree hQ2 e58
                      generalize txt[k] = c58 at *
                      go_wp2
                      go_loop [8] (fun i => ∃ k : Nat, k ≤ txt.length ∧ i = .int .i64 k ∧ Hid (Lib.trimLeftS V0 [32, 9] = Lib.trimLeftS (txt.drop k) [32, 9])) (fun i => txt.length - (intOf i).toNat)
                      case atStart => exact ⟨k + 1, by omega, by go_num, hk41⟩
                      case round =>
                        clear hk41 hke hlti g1 n58
                        clear hlt hte hk
                        obtain ⟨k, hk, rfl, hk4⟩ := hrel
                        by_cases hlt : k < txt.length
                        · have hlti : (k : Int) < txt.length := by omega
                          have g1 : (⟨txt.toArray⟩ : ByteArray)[k]'(by rw [hszt]; exact hlt) = txt[k] := rfl
                          have hdk := List.drop_eq_getElem_cons hlt
                          have hbc := rblank_calls txt[k]
                          cases hb : blankC txt[k]
                          · have hv3 : Lib.trimLeftS (txt.drop k) [32, 9] = txt.drop k := by rw [hdk]; exact trim_stop hb
                            rw [hb] at hbc
                            replace hbc := Lib.hid hbc
                            clear hdk hb
                            generalize txt[k] = ck at *
                            go_wp2_with (go_at_call 33; ((refine (hbc.out _).mono ?_); rintro _ _ ⟨rfl, rfl⟩))
                            replace hv3 := Lib.hid hv3
                            have hQ4 : Hid (Q = if (nameB nm && valueB (txt.drop k)) = true then loopQ (acc ++ [(nm, txt.drop k)]) (l.drop b) else none) := by
                              unfold Hid
                              rw [hQ3.out, ← hv3.out]
                              rw [show Lib.trimLeftS V0 [32, 9] = Lib.trimLeftS (txt.drop k) [32, 9] from hk4.out]
                              split <;> rfl
                            have hvd := rvalued_calls ⟨(txt.drop k).toArray⟩ (by show (txt.drop k).toArray.size ≤ _; rw [List.size_toArray, List.length_drop]; omega)
                            rw [show (⟨(txt.drop k).toArray⟩ : ByteArray).data.toList = txt.drop k from rfl] at hvd
                            have hde := drop_ext txt k
                            have hfc := Lib.hid (fieldCells_snoc acc (nm, txt.drop k))
                            generalize txt.drop k = VV at *
                            clear hk4 hv3 hQ3
                            cases hA : nameB nm
                            · have hR : Hid (Q = none) := by unfold Hid; rw [hQ4.out, hA]; rfl
                              rw [hA] at hnd
                              replace hnd := Lib.hid hnd
                              clear hQ4 hvd
                              go_wp2_with (go_at_call 23; ((refine (hnd.out _).mono ?_); rintro _ _ ⟨rfl, rfl⟩))
                              go_returns
                              exact ⟨.inl ⟨hR.out, rfl⟩, by (repeat' (first | (with_reducible exact Below.refl _ _) | (with_reducible refine Below.app ?_ ?_ _ _) | (with_reducible refine Below.alloc ?_ ?_ _) | (with_reducible refine Below.drew ?_) | (with_reducible refine Below.setCell ?_ ?_ _) | (with_reducible assumption) | omega | (simp; omega) | (simp; done)))⟩
                            · rw [hA] at hnd
                              replace hnd := Lib.hid hnd
                              cases hB : valueB VV
                              · have hR : Hid (Q = none) := by unfold Hid; rw [hQ4.out, hB, Bool.and_false]; rfl
                                rw [hB] at hvd
                                replace hvd := Lib.hid hvd
                                clear hQ4
                                go_wp2_with first
                                  | (go_at_call 23; ((refine (hnd.out _).mono ?_); rintro _ _ ⟨rfl, rfl⟩))
                                  | (go_at_call 24; ((refine (hvd.out _).mono ?_); rintro _ _ ⟨rfl, rfl⟩))
                                go_returns
                                exact ⟨.inl ⟨hR.out, rfl⟩, by (repeat' (first | (with_reducible exact Below.refl _ _) | (with_reducible refine Below.app ?_ ?_ _ _) | (with_reducible refine Below.alloc ?_ ?_ _) | (with_reducible refine Below.drew ?_) | (with_reducible refine Below.setCell ?_ ?_ _) | (with_reducible assumption) | omega | (simp; omega) | (simp; done)))⟩
                              · have hR : Hid (Q = loopQ (acc ++ [(nm, VV)]) (l.drop b)) := by unfold Hid; rw [hQ4.out, hA, hB]; rfl
                                rw [hB] at hvd
                                replace hvd := Lib.hid hvd
                                clear hQ4 hA hB
                                go_wp2_with first
                                  | (go_at_call 23; ((refine (hnd.out _).mono ?_); rintro _ _ ⟨rfl, rfl⟩))
                                  | (go_at_call 24; ((refine (hvd.out _).mono ?_); rintro _ _ ⟨rfl, rfl⟩))
                                  | (at_builtin; refine wpList_append_own _ rfl _ _ 22 rfl (w.heap.size + 1) 28 i0 (.agg #[.string ⟨#[]⟩, .string ⟨#[]⟩]) 2 32 Tryd.underlying22 hi hz0 hz1 hz2 rfl (by decide) _ _ _ rfl (own_belowN (w := app (w.alloc (.cells #[.slice none 0 0, .string ⟨#[]⟩, .bool false] 38)) bs d) hown ?c0) _ 1 1 [.string ⟨nm.toArray⟩, .string ⟨VV.toArray⟩] rfl rfl ?c1 ?c2 ?c3 ?c4 ?c5 ?_; (case c0 => (repeat' (first | (with_reducible exact Below.refl _ _) | (with_reducible refine Below.app ?_ ?_ _ _) | (with_reducible refine Below.alloc ?_ ?_ _) | (with_reducible refine Below.drew ?_) | (with_reducible refine Below.setCell ?_ ?_ _) | (with_reducible assumption) | omega | (simp; omega) | (simp; done)))); (case c1 => exact two_cells _ _ (by (first | rfl | omega | (simp; done) | (simp; omega))) _ _ _); (case c2 => (intro u hu; simp at hu; rcases hu with rfl | rfl <;> rfl)); (case c3 => (unfold maxLen; omega)); (case c4 => omega); (case c5 => (first | rfl | omega | (simp; done) | (simp; omega))); intro v2 w2 hown2 hg2 _; have hb2 := (show Below (w.alloc (.cells #[.slice none 0 0, .string ⟨#[]⟩, .bool false] 38)).heap.size (w.alloc (.cells #[.slice none 0 0, .string ⟨#[]⟩, .bool false] 38)) _ from (by (repeat' (first | (with_reducible exact Below.refl _ _) | (with_reducible refine Below.app ?_ ?_ _ _) | (with_reducible refine Below.alloc ?_ ?_ _) | (with_reducible refine Below.drew ?_) | (with_reducible refine Below.setCell ?_ ?_ _) | (with_reducible assumption) | omega | (simp; omega) | (simp; done))))).grown hg2 (by (first | rfl | omega | (simp; done) | (simp; omega))) (fun k hk => by have := (hown.lt k hk).1; (first | rfl | omega | (simp; done) | (simp; omega))); clear hg2)
                                obtain ⟨p2, c2, rfl⟩ := own_lenN hown2
                                go_roundw
                                case rel => exact ⟨acc ++ [(nm, VV)], b, rfl, by omega, by simp; omega, by rw [hfc.out]; simpa using hown2, hb2, hR⟩
                                case measure => first | (simp [intOf]; done) | (simp [intOf]; omega)
                          · have hk5 : Hid (Lib.trimLeftS V0 [32, 9] = Lib.trimLeftS (txt.drop (k + 1)) [32, 9]) := by unfold Hid; rw [hk4.out, hdk]; exact trim_go hb
                            rw [hb] at hbc
                            replace hbc := Lib.hid hbc
                            clear hdk hb hk4
                            generalize txt[k] = ck at *
                            go_wp2_with (go_at_call 33; ((refine (hbc.out _).mono ?_); rintro _ _ ⟨rfl, rfl⟩))
                            go_round
                            case rel => exact ⟨k + 1, by omega, by go_num, hk5⟩
                            case measure => first | (simp [intOf]; done) | (simp [intOf]; omega)
                        · have hlti : ¬ (k : Int) < txt.length := by omega
                          have hv3 : Lib.trimLeftS (txt.drop k) [32, 9] = txt.drop k := by rw [List.drop_of_length_le (by omega)]; rfl
                          replace hv3 := Lib.hid hv3
                          have hQ4 : Hid (Q = if (nameB nm && valueB (txt.drop k)) = true then loopQ (acc ++ [(nm, txt.drop k)]) (l.drop b) else none) := by
                            unfold Hid
                            rw [hQ3.out, ← hv3.out]
                            rw [show Lib.trimLeftS V0 [32, 9] = Lib.trimLeftS (txt.drop k) [32, 9] from hk4.out]
                            split <;> rfl
                          have hvd := rvalued_calls ⟨(txt.drop k).toArray⟩ (by show (txt.drop k).toArray.size ≤ _; rw [List.size_toArray, List.length_drop]; omega)
                          rw [show (⟨(txt.drop k).toArray⟩ : ByteArray).data.toList = txt.drop k from rfl] at hvd
                          have hde := drop_ext txt k
                          have hfc := Lib.hid (fieldCells_snoc acc (nm, txt.drop k))
                          generalize txt.drop k = VV at *
                          clear hk4 hv3 hQ3
                          cases hA : nameB nm
                          · have hR : Hid (Q = none) := by unfold Hid; rw [hQ4.out, hA]; rfl
                            rw [hA] at hnd
                            replace hnd := Lib.hid hnd
                            clear hQ4 hvd
                            go_wp2_with (go_at_call 23; ((refine (hnd.out _).mono ?_); rintro _ _ ⟨rfl, rfl⟩))
                            go_returns
                            exact ⟨.inl ⟨hR.out, rfl⟩, by (repeat' (first | (with_reducible exact Below.refl _ _) | (with_reducible refine Below.app ?_ ?_ _ _) | (with_reducible refine Below.alloc ?_ ?_ _) | (with_reducible refine Below.drew ?_) | (with_reducible refine Below.setCell ?_ ?_ _) | (with_reducible assumption) | omega | (simp; omega) | (simp; done)))⟩
                          · rw [hA] at hnd
                            replace hnd := Lib.hid hnd
                            cases hB : valueB VV
                            · have hR : Hid (Q = none) := by unfold Hid; rw [hQ4.out, hB, Bool.and_false]; rfl
                              rw [hB] at hvd
                              replace hvd := Lib.hid hvd
                              clear hQ4
                              go_wp2_with first
                                | (go_at_call 23; ((refine (hnd.out _).mono ?_); rintro _ _ ⟨rfl, rfl⟩))
                                | (go_at_call 24; ((refine (hvd.out _).mono ?_); rintro _ _ ⟨rfl, rfl⟩))
                              go_returns
                              exact ⟨.inl ⟨hR.out, rfl⟩, by (repeat' (first | (with_reducible exact Below.refl _ _) | (with_reducible refine Below.app ?_ ?_ _ _) | (with_reducible refine Below.alloc ?_ ?_ _) | (with_reducible refine Below.drew ?_) | (with_reducible refine Below.setCell ?_ ?_ _) | (with_reducible assumption) | omega | (simp; omega) | (simp; done)))⟩
                            · have hR : Hid (Q = loopQ (acc ++ [(nm, VV)]) (l.drop b)) := by unfold Hid; rw [hQ4.out, hA, hB]; rfl
                              rw [hB] at hvd
                              replace hvd := Lib.hid hvd
                              clear hQ4 hA hB
                              go_wp2_with first
                                | (go_at_call 23; ((refine (hnd.out _).mono ?_); rintro _ _ ⟨rfl, rfl⟩))
                                | (go_at_call 24; ((refine (hvd.out _).mono ?_); rintro _ _ ⟨rfl, rfl⟩))
                                | (at_builtin; refine wpList_append_own _ rfl _ _ 22 rfl (w.heap.size + 1) 28 i0 (.agg #[.string ⟨#[]⟩, .string ⟨#[]⟩]) 2 32 Tryd.underlying22 hi hz0 hz1 hz2 rfl (by decide) _ _ _ rfl (own_belowN (w := app (w.alloc (.cells #[.slice none 0 0, .string ⟨#[]⟩, .bool false] 38)) bs d) hown ?c0) _ 1 1 [.string ⟨nm.toArray⟩, .string ⟨VV.toArray⟩] rfl rfl ?c1 ?c2 ?c3 ?c4 ?c5 ?_; (case c0 => (repeat' (first | (with_reducible exact Below.refl _ _) | (with_reducible refine Below.app ?_ ?_ _ _) | (with_reducible refine Below.alloc ?_ ?_ _) | (with_reducible refine Below.drew ?_) | (with_reducible refine Below.setCell ?_ ?_ _) | (with_reducible assumption) | omega | (simp; omega) | (simp; done)))); (case c1 => exact two_cells _ _ (by (first | rfl | omega | (simp; done) | (simp; omega))) _ _ _); (case c2 => (intro u hu; simp at hu; rcases hu with rfl | rfl <;> rfl)); (case c3 => (unfold maxLen; omega)); (case c4 => omega); (case c5 => (first | rfl | omega | (simp; done) | (simp; omega))); intro v2 w2 hown2 hg2 _; have hb2 := (show Below (w.alloc (.cells #[.slice none 0 0, .string ⟨#[]⟩, .bool false] 38)).heap.size (w.alloc (.cells #[.slice none 0 0, .string ⟨#[]⟩, .bool false] 38)) _ from (by (repeat' (first | (with_reducible exact Below.refl _ _) | (with_reducible refine Below.app ?_ ?_ _ _) | (with_reducible refine Below.alloc ?_ ?_ _) | (with_reducible refine Below.drew ?_) | (with_reducible refine Below.setCell ?_ ?_ _) | (with_reducible assumption) | omega | (simp; omega) | (simp; done))))).grown hg2 (by (first | rfl | omega | (simp; done) | (simp; omega))) (fun k hk => by have := (hown.lt k hk).1; (first | rfl | omega | (simp; done) | (simp; omega))); clear hg2)
                              obtain ⟨p2, c2, rfl⟩ := own_lenN hown2
                              go_roundw
                              case rel => exact ⟨acc ++ [(nm, VV)], b, rfl, by omega, by simp; omega, by rw [hfc.out]; simpa using hown2, hb2, hR⟩
                              case measure => first | (simp [intOf]; done) | (simp [intOf]; omega)
                    · rw [decide_eq_false e58] at n58
                      have hfr : Hid (∀ c ∈ txt.take (k + 1), c ≠ 58) := by
                        intro c hc
                        rw [List.take_succ_eq_append_getElem hlt] at hc
                        rcases List.mem_append.1 hc with h | h
                        · exact hfree.out c h
                        · rw [List.mem_singleton] at h; subst h; exact e58
                      clear hfree e58
                      generalize txt[k] = c58 at *
                      go_wp2
                      go_round
                      case rel => exact ⟨k + 1, by omega, by go_num, hfr⟩
                      case measure => first | (simp [intOf]; done) | (simp [intOf]; omega)
                  · have hlti : ¬ (k : Int) < txt.length := by omega
                    obtain rfl : k = txt.length := by omega
                    have hR : Hid (Q = none) := by unfold Hid; rw [hQ2.out, fieldOf_none (by have := hfree.out; rwa [List.take_of_length_le (Nat.le_refl _)] at this)]; rfl
                    clear hfree hQ2
                    go_wp2
                    go_returns
                    exact ⟨.inl ⟨hR.out, rfl⟩, by (repeat' (first | (with_reducible exact Below.refl _ _) | (with_reducible refine Below.app ?_ ?_ _ _) | (with_reducible refine Below.alloc ?_ ?_ _) | (with_reducible refine Below.drew ?_) | (with_reducible refine Below.setCell ?_ ?_ _) | (with_reducible assumption) | omega | (simp; omega) | (simp; done)))⟩
              · rw [hbk] at hbc
                replace hbc := Lib.hid hbc
                have hec2 := end10_calls l b (by omega) hbl
                cases hen2 : endQ false (l.drop b) with
                | none =>
                  have hR : Hid (Q = none) := by unfold Hid; rw [hQ1.out, ← hrb.out, contQ_none (hhb.trans hbk) hen2]; rfl
                  rw [show endP l b = -1 by unfold endP; rw [hen2]] at hec2
                  replace hec2 := Lib.hid hec2
                  clear hrb hhb hbk hen2 hQ1
                  go_wp2_with first
                    | (go_at_call 33; ((refine (hbc.out _).mono ?_); rintro _ _ ⟨rfl, rfl⟩))
                    | (go_at_call 32; ((refine (hec2.out _).mono ?_); rintro _ _ ⟨rfl, rfl⟩))
                  go_returns
                  exact ⟨.inl ⟨hR.out, rfl⟩, by (repeat' (first | (with_reducible exact Below.refl _ _) | (with_reducible refine Below.app ?_ ?_ _ _) | (with_reducible refine Below.alloc ?_ ?_ _) | (with_reducible refine Below.drew ?_) | (with_reducible refine Below.setCell ?_ ?_ _) | (with_reducible assumption) | omega | (simp; omega) | (simp; done)))⟩
                | some n2 =>
                  have hm2 := endQ_two_le _ _ hen2
                  have hm1 := (endQ_le _ _ _ hen2).2
                  rw [List.length_drop] at hm1
                  obtain ⟨p2, rfl⟩ : ∃ p2, n2 = p2 + 2 := ⟨n2 - 2, by omega⟩
                  rw [show endP l b = ((b + p2 : Nat) : Int) by unfold endP; rw [hen2]; simp; omega] at hec2
                  have hE : Hid (contQ (txt ++ (l.drop b).take p2) (l.drop (b + p2 + 2)) = C) := by
                    unfold Hid; rw [← hrb.out, contQ_go (hhb.trans hbk) hen2, List.drop_drop, Nat.add_sub_cancel, Nat.add_assoc]
                  have hext := ext_take l b p2
                  have hcat := Lib.hid (cat_two txt ((l.drop b).take p2))
                  have hTl : ((l.drop b).take p2).length = p2 := by rw [List.length_take, List.length_drop]; omega
                  have hto : b + p2 + 2 ≤ l.length := by omega
                  have hlen2 : (txt ++ (l.drop b).take p2).length ≤ b + p2 := by rw [List.length_append, hTl]; omega
                  have hbp : b ≤ b + p2 := by omega
                  generalize (l.drop b).take p2 = txt1 at *
                  generalize hgt : b + p2 = to2 at *
                  rw [List.length_append] at hlen2
                  clear hgt hrb hhb hbk hen2 hTl hm1 hm2
                  replace hec2 := Lib.hid hec2
                  go_wp2_with first
                    | (go_at_call 33; ((refine (hbc.out _).mono ?_); rintro _ _ ⟨rfl, rfl⟩))
                    | (go_at_call 32; ((refine (hec2.out _).mono ?_); rintro _ _ ⟨rfl, rfl⟩))
                  go_round
                  case rel => exact ⟨to2 + 2, txt ++ txt1, by go_num, by rw [hcat.out], hto, by omega, by rw [List.length_append]; omega, hE⟩
                  case measure => first | (simp [intOf]; done) | (simp [intOf]; omega)
            · have hblti : ¬ (b : Int) < l.length := by omega
              have hE : Hid (C = some (txt, l.drop b)) := by unfold Hid; rw [← hrb.out, contQ_stop (by rw [List.drop_of_length_le (by omega)]; rfl)]
              clear hrb
              have hC := hE
              go_wp2
              have hQ2 : Hid (Q = ((fieldOf txt).map fun f => (f, l.drop b)).bind fun y => loopQ (acc ++ [y.1]) y.2) := by unfold Hid; rw [hQ1.out, hE.out]; rfl
              clear hQ1 hE hC
              have hszt := hsz.out txt
              go_loop [8] (fun i => ∃ k : Nat, k ≤ txt.length ∧ i = .int .i64 k ∧ Hid (∀ c ∈ txt.take k, c ≠ 58)) (fun i => txt.length - (intOf i).toNat)
              case atStart => exact ⟨0, by omega, rfl, by unfold Hid; simp⟩
              case round =>
                obtain ⟨k, hk, rfl, hfree⟩ := hrel
                by_cases hlt : k < txt.length
                · have hlti : (k : Int) < txt.length := by omega
                  have g1 : (⟨txt.toArray⟩ : ByteArray)[k]'(by rw [hszt]; exact hlt) = txt[k] := rfl
                  have n58 : ((txt[k].toNat : Int) != 58) = !decide (txt[k] = 58) := u8_neR _ 58
                  have hke : ((k : Int) == (txt.length : Int)) = false := by simp; omega
                  by_cases e58 : txt[k] = 58
                  · rw [decide_eq_true e58] at n58
                    have hsplit : txt = txt.take k ++ 58 :: txt.drop (k + 1) := by rw [← e58, ← List.drop_eq_getElem_cons hlt, List.take_append_drop]
                    have hQ3 : Hid (Q = (if (nameB (txt.take k) && valueB (Lib.trimLeftS (txt.drop (k + 1)) [32, 9])) = true then some ((txt.take k, Lib.trimLeftS (txt.drop (k + 1)) [32, 9]), l.drop b) else none).bind fun y => loopQ (acc ++ [y.1]) y.2) := by
                      unfold Hid
                      have hfo := fieldOf_at (b := txt.drop (k + 1)) hfree.out
                      rw [← hsplit] at hfo
                      rw [hQ2.out, hfo]
                      split <;> rfl
                    have hnd := rnamed_calls ⟨(txt.take k).toArray⟩ (by show (txt.take k).toArray.size ≤ _; rw [List.size_toArray, List.length_take]; omega)
                    rw [show (⟨(txt.take k).toArray⟩ : ByteArray).data.toList = txt.take k from rfl] at hnd
                    have hte := take_ext txt k
                    have hk40 : Hid (Lib.trimLeftS (txt.drop (k + 1)) [32, 9] = Lib.trimLeftS (txt.drop (k + 1)) [32, 9]) := by unfold Hid; rfl
                    generalize txt.take k = nm at *
                    generalize hV0 : txt.drop (k + 1) = V0 at hQ3
                    rw [hV0] at hk40
                    have hk41 : Hid (Lib.trimLeftS V0 [32, 9] = Lib.trimLeftS (txt.drop (k + 1)) [32, 9]) := by rw [hV0]; exact hk40
                    clear hV0 hk40 hsplit hfree hQ2 e58
                    generalize txt[k] = c58 at *
                    go_wp2
                    go_loop [8] (fun i => ∃ k : Nat, k ≤ txt.length ∧ i = .int .i64 k ∧ Hid (Lib.trimLeftS V0 [32, 9] = Lib.trimLeftS (txt.drop k) [32, 9])) (fun i => txt.length - (intOf i).toNat)
                    case atStart => exact ⟨k + 1, by omega, by go_num, hk41⟩
                    case round =>
                      clear hk41 hke hlti g1 n58
                      clear hlt hte hk
                      obtain ⟨k, hk, rfl, hk4⟩ := hrel
                      by_cases hlt : k < txt.length
                      · have hlti : (k : Int) < txt.length := by omega
                        have g1 : (⟨txt.toArray⟩ : ByteArray)[k]'(by rw [hszt]; exact hlt) = txt[k] := rfl
                        have hdk := List.drop_eq_getElem_cons hlt
                        have hbc := rblank_calls txt[k]
                        cases hb : blankC txt[k]
                        · have hv3 : Lib.trimLeftS (txt.drop k) [32, 9] = txt.drop k := by rw [hdk]; exact trim_stop hb
                          rw [hb] at hbc
                          replace hbc := Lib.hid hbc
                          clear hdk hb
                          generalize txt[k] = ck at *
                          go_wp2_with (go_at_call 33; ((refine (hbc.out _).mono ?_); rintro _ _ ⟨rfl, rfl⟩))
                          replace hv3 := Lib.hid hv3
                          have hQ4 : Hid (Q = if (nameB nm && valueB (txt.drop k)) = true then loopQ (acc ++ [(nm, txt.drop k)]) (l.drop b) else none) := by
                            unfold Hid
                            rw [hQ3.out, ← hv3.out]
                            rw [show Lib.trimLeftS V0 [32, 9] = Lib.trimLeftS (txt.drop k) [32, 9] from hk4.out]
                            split <;> rfl
                          have hvd := rvalued_calls ⟨(txt.drop k).toArray⟩ (by show (txt.drop k).toArray.size ≤ _; rw [List.size_toArray, List.length_drop]; omega)
                          rw [show (⟨(txt.drop k).toArray⟩ : ByteArray).data.toList = txt.drop k from rfl] at hvd
                          have hde := drop_ext txt k
                          have hfc := Lib.hid (fieldCells_snoc acc (nm, txt.drop k))
                          generalize txt.drop k = VV at *
                          clear hk4 hv3 hQ3
                          cases hA : nameB nm
                          · have hR : Hid (Q = none) := by unfold Hid; rw [hQ4.out, hA]; rfl
                            rw [hA] at hnd
                            replace hnd := Lib.hid hnd
                            clear hQ4 hvd
                            go_wp2_with (go_at_call 23; ((refine (hnd.out _).mono ?_); rintro _ _ ⟨rfl, rfl⟩))
                            go_returns
                            exact ⟨.inl ⟨hR.out, rfl⟩, by (repeat' (first | (with_reducible exact Below.refl _ _) | (with_reducible refine Below.app ?_ ?_ _ _) | (with_reducible refine Below.alloc ?_ ?_ _) | (with_reducible refine Below.drew ?_) | (with_reducible refine Below.setCell ?_ ?_ _) | (with_reducible assumption) | omega | (simp; omega) | (simp; done)))⟩
                          · rw [hA] at hnd
                            replace hnd := Lib.hid hnd
                            cases hB : valueB VV
                            · have hR : Hid (Q = none) := by unfold Hid; rw [hQ4.out, hB, Bool.and_false]; rfl
                              rw [hB] at hvd
                              replace hvd := Lib.hid hvd
                              clear hQ4
                              go_wp2_with first
                                | (go_at_call 23; ((refine (hnd.out _).mono ?_); rintro _ _ ⟨rfl, rfl⟩))
                                | (go_at_call 24; ((refine (hvd.out _).mono ?_); rintro _ _ ⟨rfl, rfl⟩))
                              go_returns
                              exact ⟨.inl ⟨hR.out, rfl⟩, by (repeat' (first | (with_reducible exact Below.refl _ _) | (with_reducible refine Below.app ?_ ?_ _ _) | (with_reducible refine Below.alloc ?_ ?_ _) | (with_reducible refine Below.drew ?_) | (with_reducible refine Below.setCell ?_ ?_ _) | (with_reducible assumption) | omega | (simp; omega) | (simp; done)))⟩
                            · have hR : Hid (Q = loopQ (acc ++ [(nm, VV)]) (l.drop b)) := by unfold Hid; rw [hQ4.out, hA, hB]; rfl
                              rw [hB] at hvd
                              replace hvd := Lib.hid hvd
                              clear hQ4 hA hB
                              go_wp2_with first
                                | (go_at_call 23; ((refine (hnd.out _).mono ?_); rintro _ _ ⟨rfl, rfl⟩))
                                | (go_at_call 24; ((refine (hvd.out _).mono ?_); rintro _ _ ⟨rfl, rfl⟩))
                                | (at_builtin; refine wpList_append_own _ rfl _ _ 22 rfl (w.heap.size + 1) 28 i0 (.agg #[.string ⟨#[]⟩, .string ⟨#[]⟩]) 2 32 Tryd.underlying22 hi hz0 hz1 hz2 rfl (by decide) _ _ _ rfl (own_belowN (w := app (w.alloc (.cells #[.slice none 0 0, .string ⟨#[]⟩, .bool false] 38)) bs d) hown ?c0) _ 1 1 [.string ⟨nm.toArray⟩, .string ⟨VV.toArray⟩] rfl rfl ?c1 ?c2 ?c3 ?c4 ?c5 ?_; (case c0 => (repeat' (first | (with_reducible exact Below.refl _ _) | (with_reducible refine Below.app ?_ ?_ _ _) | (with_reducible refine Below.alloc ?_ ?_ _) | (with_reducible refine Below.drew ?_) | (with_reducible refine Below.setCell ?_ ?_ _) | (with_reducible assumption) | omega | (simp; omega) | (simp; done)))); (case c1 => exact two_cells _ _ (by (first | rfl | omega | (simp; done) | (simp; omega))) _ _ _); (case c2 => (intro u hu; simp at hu; rcases hu with rfl | rfl <;> rfl)); (case c3 => (unfold maxLen; omega)); (case c4 => omega); (case c5 => (first | rfl | omega | (simp; done) | (simp; omega))); intro v2 w2 hown2 hg2 _; have hb2 := (show Below (w.alloc (.cells #[.slice none 0 0, .string ⟨#[]⟩, .bool false] 38)).heap.size (w.alloc (.cells #[.slice none 0 0, .string ⟨#[]⟩, .bool false] 38)) _ from (by (repeat' (first | (with_reducible exact Below.refl _ _) | (with_reducible refine Below.app ?_ ?_ _ _) | (with_reducible refine Below.alloc ?_ ?_ _) | (with_reducible refine Below.drew ?_) | (with_reducible refine Below.setCell ?_ ?_ _) | (with_reducible assumption) | omega | (simp; omega) | (simp; done))))).grown hg2 (by (first | rfl | omega | (simp; done) | (simp; omega))) (fun k hk => by have := (hown.lt k hk).1; (first | rfl | omega | (simp; done) | (simp; omega))); clear hg2)
                              obtain ⟨p2, c2, rfl⟩ := own_lenN hown2
                              go_roundw
                              case rel => exact ⟨acc ++ [(nm, VV)], b, rfl, by omega, by simp; omega, by rw [hfc.out]; simpa using hown2, hb2, hR⟩
                              case measure => first | (simp [intOf]; done) | (simp [intOf]; omega)
                        · have hk5 : Hid (Lib.trimLeftS V0 [32, 9] = Lib.trimLeftS (txt.drop (k + 1)) [32, 9]) := by unfold Hid; rw [hk4.out, hdk]; exact trim_go hb
                          rw [hb] at hbc
                          replace hbc := Lib.hid hbc
                          clear hdk hb hk4
                          generalize txt[k] = ck at *
                          go_wp2_with (go_at_call 33; ((refine (hbc.out _).mono ?_); rintro _ _ ⟨rfl, rfl⟩))
                          go_round
                          case rel => exact ⟨k + 1, by omega, by go_num, hk5⟩
                          case measure => first | (simp [intOf]; done) | (simp [intOf]; omega)
                      · have hlti : ¬ (k : Int) < txt.length := by omega
                        have hv3 : Lib.trimLeftS (txt.drop k) [32, 9] = txt.drop k := by rw [List.drop_of_length_le (by omega)]; rfl
                        replace hv3 := Lib.hid hv3
                        have hQ4 : Hid (Q = if (nameB nm && valueB (txt.drop k)) = true then loopQ (acc ++ [(nm, txt.drop k)]) (l.drop b) else none) := by
                          unfold Hid
                          rw [hQ3.out, ← hv3.out]
                          rw [show Lib.trimLeftS V0 [32, 9] = Lib.trimLeftS (txt.drop k) [32, 9] from hk4.out]
                          split <;> rfl
                        have hvd := rvalued_calls ⟨(txt.drop k).toArray⟩ (by show (txt.drop k).toArray.size ≤ _; rw [List.size_toArray, List.length_drop]; omega)
                        rw [show (⟨(txt.drop k).toArray⟩ : ByteArray).data.toList = txt.drop k from rfl] at hvd
                        have hde := drop_ext txt k
                        have hfc := Lib.hid (fieldCells_snoc acc (nm, txt.drop k))
                        generalize txt.drop k = VV at *
                        clear hk4 hv3 hQ3
                        cases hA : nameB nm
                        · have hR : Hid (Q = none) := by unfold Hid; rw [hQ4.out, hA]; rfl
                          rw [hA] at hnd
                          replace hnd := Lib.hid hnd
                          clear hQ4 hvd
                          go_wp2_with (go_at_call 23; ((refine (hnd.out _).mono ?_); rintro _ _ ⟨rfl, rfl⟩))
                          go_returns
                          exact ⟨.inl ⟨hR.out, rfl⟩, by (repeat' (first | (with_reducible exact Below.refl _ _) | (with_reducible refine Below.app ?_ ?_ _ _) | (with_reducible refine Below.alloc ?_ ?_ _) | (with_reducible refine Below.drew ?_) | (with_reducible refine Below.setCell ?_ ?_ _) | (with_reducible assumption) | omega | (simp; omega) | (simp; done)))⟩
                        · rw [hA] at hnd
                          replace hnd := Lib.hid hnd
                          cases hB : valueB VV
                          · have hR : Hid (Q = none) := by unfold Hid; rw [hQ4.out, hB, Bool.and_false]; rfl
                            rw [hB] at hvd
                            replace hvd := Lib.hid hvd
                            clear hQ4
                            go_wp2_with first
                              | (go_at_call 23; ((refine (hnd.out _).mono ?_); rintro _ _ ⟨rfl, rfl⟩))
                              | (go_at_call 24; ((refine (hvd.out _).mono ?_); rintro _ _ ⟨rfl, rfl⟩))
                            go_returns
                            exact ⟨.inl ⟨hR.out, rfl⟩, by (repeat' (first | (with_reducible exact Below.refl _ _) | (with_reducible refine Below.app ?_ ?_ _ _) | (with_reducible refine Below.alloc ?_ ?_ _) | (with_reducible refine Below.drew ?_) | (with_reducible refine Below.setCell ?_ ?_ _) | (with_reducible assumption) | omega | (simp; omega) | (simp; done)))⟩
                          · have hR : Hid (Q = loopQ (acc ++ [(nm, VV)]) (l.drop b)) := by unfold Hid; rw [hQ4.out, hA, hB]; rfl
                            rw [hB] at hvd
                            replace hvd := Lib.hid hvd
                            clear hQ4 hA hB
                            go_wp2_with first
                              | (go_at_call 23; ((refine (hnd.out _).mono ?_); rintro _ _ ⟨rfl, rfl⟩))
                              | (go_at_call 24; ((refine (hvd.out _).mono ?_); rintro _ _ ⟨rfl, rfl⟩))
                              | (at_builtin; refine wpList_append_own _ rfl _ _ 22 rfl (w.heap.size + 1) 28 i0 (.agg #[.string ⟨#[]⟩, .string ⟨#[]⟩]) 2 32 Tryd.underlying22 hi hz0 hz1 hz2 rfl (by decide) _ _ _ rfl (own_belowN (w := app (w.alloc (.cells #[.slice none 0 0, .string ⟨#[]⟩, .bool false] 38)) bs d) hown ?c0) _ 1 1 [.string ⟨nm.toArray⟩, .string ⟨VV.toArray⟩] rfl rfl ?c1 ?c2 ?c3 ?c4 ?c5 ?_; (case c0 => (repeat' (first | (with_reducible exact Below.refl _ _) | (with_reducible refine Below.app ?_ ?_ _ _) | (with_reducible refine Below.alloc ?_ ?_ _) | (with_reducible refine Below.drew ?_) | (with_reducible refine Below.setCell ?_ ?_ _) | (with_reducible assumption) | omega | (simp; omega) | (simp; done)))); (case c1 => exact two_cells _ _ (by (first | rfl | omega | (simp; done) | (simp; omega))) _ _ _); (case c2 => (intro u hu; simp at hu; rcases hu with rfl | rfl <;> rfl)); (case c3 => (unfold maxLen; omega)); (case c4 => omega); (case c5 => (first | rfl | omega | (simp; done) | (simp; omega))); intro v2 w2 hown2 hg2 _; have hb2 := (show Below (w.alloc (.cells #[.slice none 0 0, .string ⟨#[]⟩, .bool false] 38)).heap.size (w.alloc (.cells #[.slice none 0 0, .string ⟨#[]⟩, .bool false] 38)) _ from (by (repeat' (first | (with_reducible exact Below.refl _ _) | (with_reducible refine Below.app ?_ ?_ _ _) | (with_reducible refine Below.alloc ?_ ?_ _) | (with_reducible refine Below.drew ?_) | (with_reducible refine Below.setCell ?_ ?_ _) | (with_reducible assumption) | omega | (simp; omega) | (simp; done))))).grown hg2 (by (first | rfl | omega | (simp; done) | (simp; omega))) (fun k hk => by have := (hown.lt k hk).1; (first | rfl | omega | (simp; done) | (simp; omega))); clear hg2)
                            obtain ⟨p2, c2, rfl⟩ := own_lenN hown2
                            go_roundw
                            case rel => exact ⟨acc ++ [(nm, VV)], b, rfl, by omega, by simp; omega, by rw [hfc.out]; simpa using hown2, hb2, hR⟩
                            case measure => first | (simp [intOf]; done) | (simp [intOf]; omega)
                  · rw [decide_eq_false e58] at n58
                    have hfr : Hid (∀ c ∈ txt.take (k + 1), c ≠ 58) := by
                      intro c hc
                      rw [List.take_succ_eq_append_getElem hlt] at hc
                      rcases List.mem_append.1 hc with h | h
                      · exact hfree.out c h
                      · rw [List.mem_singleton] at h; subst h; exact e58
                    clear hfree e58
                    generalize txt[k] = c58 at *
                    go_wp2
                    go_round
                    case rel => exact ⟨k + 1, by omega, by go_num, hfr⟩
                    case measure => first | (simp [intOf]; done) | (simp [intOf]; omega)
                · have hlti : ¬ (k : Int) < txt.length := by omega
                  obtain rfl : k = txt.length := by omega
                  have hR : Hid (Q = none) := by unfold Hid; rw [hQ2.out, fieldOf_none (by have := hfree.out; rwa [List.take_of_length_le (Nat.le_refl _)] at this)]; rfl
                  clear hfree hQ2
                  go_wp2
                  go_returns
                  exact ⟨.inl ⟨hR.out, rfl⟩, by (repeat' (first | (with_reducible exact Below.refl _ _) | (with_reducible refine Below.app ?_ ?_ _ _) | (with_reducible refine Below.alloc ?_ ?_ _) | (with_reducible refine Below.drew ?_) | (with_reducible refine Below.setCell ?_ ?_ _) | (with_reducible assumption) | omega | (simp; omega) | (simp; done)))⟩
end Go.Proofs.YtpoaegcaaflogaaDoor
