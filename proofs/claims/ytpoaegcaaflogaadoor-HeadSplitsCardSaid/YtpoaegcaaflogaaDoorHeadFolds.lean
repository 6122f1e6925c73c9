/-
  head.HeadFolds answers true at every input: no line of a field that is written has more than 78 bytes, but where it has no blank to be folded at.
-/
import Derived.Test.YtpoaegcaaflogaaDoorHeadBack
import Derived.Test.YtpoaegcaaflogaaDoorHeadFoldLaw
import Derived.Test.YtpoaegcaaflogaaDoorRefHead1
namespace Go.Proofs.YtpoaegcaaflogaaDoor
open Go.ChangeMaps Go.ChangeShapes Go.WideShapes Go.ChangeAt Go.RowKit

theorem u8_ne (x y : UInt8) : ((x.toNat : Int) != (y.toNat : Int)) = !decide (x = y) := by
  rw [Bool.eq_iff_iff]; simp [← UInt8.toNat_inj]; omega
theorem u8_eq (x y : UInt8) : ((x.toNat : Int) == (y.toNat : Int)) = decide (x = y) := by
  rw [Bool.eq_iff_iff]; simp [← UInt8.toNat_inj]; omega
theorem blankC_cases (c : UInt8) : (blankC c = true ↔ c = 32 ∨ c = 9) := by
  unfold blankC
  simp [← UInt8.toNat_inj]
set_option maxHeartbeats 4000000 in
theorem solid_calls {w : World} {q : Option Addr} {cap : Nat} {l : List UInt8} (hb : BytesAt w q cap l) (hs : l.length ≤ 100000000) : Calls Tryd.prog 15 #[.slice q l.length cap] w fun r w' => r = .returned (.bool (solidB l)) ∧ w = w' := by
  have hcap := hb.cap
  have hv : Hid (solidB l = (l.drop 0).any fun c => !blankC c) := by unfold Hid solidB; rw [List.drop_zero]
  generalize solidB l = R at *
  replace hb := Lib.hid hb
  go_enter Tryd.func15, Tryd.ntmps15
  go_wp2
  go_loop [3] (fun i => ∃ j : Nat, j ≤ l.length ∧ i = .int .i64 j ∧ Hid (R = (l.drop j).any fun c => !blankC c)) (fun i => l.length - (intOf i).toNat)
  case atStart => exact ⟨0, by omega, rfl, hv⟩
  case round =>
    obtain ⟨j, hj, rfl, hr⟩ := hrel
    clear hv
    by_cases h3 : j < l.length
    · have h3i : (j : Int) < l.length := by omega
      have hst := any_at h3
      obtain ⟨bb, off, rfl, hbb, hc⟩ := hb.out.cell (by intro e; rw [e] at h3; simp at h3)
      have hcj := hc j h3
      have n1 : ((l[j].toNat : Int) != 32) = !decide (l[j] = 32) := u8_ne _ 32
      have n2 : ((l[j].toNat : Int) != 9) = !decide (l[j] = 9) := u8_ne _ 9
      have hbc := blankC_cases l[j]
      clear hc
      generalize l[j] = c at *
      cases hbl : blankC c
      · have hR : Hid (R = true) := by unfold Hid; rw [hr.out, hst, hbl]; rfl
        rw [decide_eq_false (fun e => by rw [hbc.2 (.inl e)] at hbl; cases hbl)] at n1
        rw [decide_eq_false (fun e => by rw [hbc.2 (.inr e)] at hbl; cases hbl)] at n2
        clear hr hst hbl hbc
        go_wp2
        go_returns
        exact ⟨rb hR.out.symm, rfl⟩
      · have hR : Hid (R = (l.drop (j + 1)).any fun c => !blankC c) := by unfold Hid; rw [hr.out, hst, hbl]; rfl
        rcases hbc.1 hbl with rfl | rfl
        · clear hr hst hbl hbc n1 n2
          go_wp2
          go_round
          case rel => exact ⟨j + 1, by omega, by go_num, hR⟩
          case measure => first | (simp [intOf]; done) | (simp [intOf]; omega)
        · clear hr hst hbl hbc n1 n2
          go_wp2
          go_round
          case rel => exact ⟨j + 1, by omega, by go_num, hR⟩
          case measure => first | (simp [intOf]; done) | (simp [intOf]; omega)
    · have h3i : ¬ (j : Int) < l.length := by omega
      have hR : Hid (R = false) := by unfold Hid; rw [hr.out, List.drop_of_length_le (by omega)]; rfl
      clear hr
      go_wp2
      go_returns
      exact ⟨rb hR.out.symm, rfl⟩
theorem fields_one {W : World} {g : Nat} {n v : ByteArray} (hg : g < W.heap.size) (h0 : W.cell? ⟨g, 0, none⟩ = some (.string n)) (h1 : W.cell? ⟨g, 1, none⟩ = some (.string v)) : FieldsAt W (some ⟨g, 0, none⟩) [(n, v)] := fun i hi => by
  obtain rfl : i = 0 := by simp at hi; exact hi
  refine ⟨g, 0, [.string n, .string v], rfl, hg, rfl, fun j hj => ?_, rfl⟩
  match j, hj with
  | 0, _ => simpa using h0
  | 1, _ => simpa using h1
theorem bytes_nil (W : World) : BytesAt W none 0 [] := ⟨fun _ => ⟨rfl, rfl⟩, Nat.le_refl _, fun h => absurd rfl h⟩
theorem build_one {n v : ByteArray} {O : List UInt8} (h : buildQ [(n, v)] [] = some O) : FoldAt n.size O 0 0 ∧ 2 ≤ O.length := by
  unfold buildQ at h
  rw [fieldsL, fieldsL] at h
  split at h
  · next hg =>
    simp at h
    subst h
    unfold goodQ goodF at hg
    rw [Bool.and_eq_true, Bool.and_eq_true] at hg
    have h1 := (name_free hg.1).2
    have h2 := value_free hg.2.1
    refine ⟨?_, by simp⟩
    refine FoldAt.zero fun hm => ?_
    simp only [List.mem_append, List.mem_cons, List.not_mem_nil, or_false] at hm
    rcases hm with hm | (hm | hm) | hm
    · exact h1 _ hm rfl
    · cases hm
    · cases hm
    · exact h2 _ hm rfl
  · cases h
theorem cut_at {w : World} {bb off cap : Nat} {l : List UInt8} (h : BytesAt w (some ⟨bb, off, none⟩) cap l) {k i : Nat} (hk : k < i) (hi : i ≤ l.length) : BytesAt w (some ⟨bb, off + k, none⟩) (cap - k) ((l.drop k).take (i - k)) := by
  have := h.cut (a := k) (t := i) (by omega) hi
  have hc := h.cap
  rw [if_neg (by omega)] at this
  rwa [show (some (⟨bb, off, none⟩ : Addr)).map (·.add k) = some ⟨bb, off + k, none⟩ by simp only [Option.map_some, Addr.add]; split <;> simp_all] at this
set_option maxRecDepth 20000 in
set_option maxHeartbeats 8000000 in
theorem headFolds_walk (n v : ByteArray) (w : World) (hn : n.size ≤ maxLen) (hv : v.size ≤ maxLen) (hmx : MaxLenAt w) :
    Calls Tryd.prog 5 #[.agg #[.string n, .string v]] w fun r w' => r = .returned (.bool true) ∧ Below w.heap.size w w' := by
  have haw := fun (W : World) (hW : Below w.heap.size w W) => awake10 (hmx.below hW)
  replace haw := Lib.hid haw
  have hfw := fun (W : World) (g : Nat) (hg : g < W.heap.size) (h0 : W.cell? ⟨g, 0, none⟩ = some (.string n)) (h1 : W.cell? ⟨g, 1, none⟩ = some (.string v)) => few_calls (cap := 1) (fields_one hg h0 h1) (by simp; exact ⟨hn, hv⟩) (by simp [maxLen])
  simp only [List.length_singleton] at hfw
  cases hfew : fewB [(n, v)]
  · rw [hfew] at hfw
    replace hfw := Lib.hid hfw
    clear hn hv hmx hfew
    go_enter Tryd.func5, Tryd.ntmps5
    go_wp2_with first
      | (go_at_call 7; ((refine (haw.out _ (by (repeat' (first | (with_reducible exact Below.refl _ _) | (with_reducible refine Below.app ?_ ?_ _ _) | (with_reducible refine Below.alloc ?_ ?_ _) | (with_reducible refine Below.drew ?_) | (with_reducible refine Below.setCell ?_ ?_ _) | (with_reducible assumption) | omega | (simp; omega) | (simp; done))))).mono ?_); rintro r w1 ⟨rfl, hb⟩; obtain ⟨b1, b1d, rfl⟩ := of_below hb; clear hb))
      | (go_at_call 8; refine (hfw.out _ _ ?z1 ?z2 ?z3).mono ?_; (case z1 => (first | rfl | omega | (simp; done) | (simp; omega))); (case z2 => simp [go_sem]); (case z3 => simp [go_sem]); rintro r w1 ⟨rfl, rfl⟩)
    all_goals (go_returns; exact ⟨rfl, by (repeat' (first | (with_reducible exact Below.refl _ _) | (with_reducible refine Below.app ?_ ?_ _ _) | (with_reducible refine Below.alloc ?_ ?_ _) | (with_reducible refine Below.drew ?_) | (with_reducible refine Below.setCell ?_ ?_ _) | (with_reducible assumption) | omega | (simp; omega) | (simp; done)))⟩)
  · have hfz := (few_bd hfew).2 (n, v) (List.mem_singleton.2 rfl)
    rw [hfew] at hfw
    replace hfw := Lib.hid hfw
    have cb := fun (W : World) (g : Nat) (hg : g < W.heap.size) (h0 : W.cell? ⟨g, 0, none⟩ = some (.string n)) (h1 : W.cell? ⟨g, 1, none⟩ = some (.string v)) => build_calls (cap := 1) (fields_one hg h0 h1) (bytes_nil W) (by simp; simp at hfz; omega) (by simp) (by simp)
    simp only [List.length_singleton, List.length_nil] at cb
    have cb1 := fun hq W g hg h0 h1 => (cb W g hg h0 h1).mono fun _ _ h => bp_none h hq
    have cb2 := fun O hq W g hg h0 h1 => (cb W g hg h0 h1).mono fun _ _ h => bp_some (O := O) h hq
    replace cb1 := Lib.hid cb1
    replace cb2 := Lib.hid cb2
    clear cb
    cases hQ : buildQ [(n, v)] [] with
    | none =>
      replace cb1 := Lib.hid (cb1.out hQ)
      clear cb2 hQ hn hv hmx hfew hfz
      go_enter Tryd.func5, Tryd.ntmps5
      go_wp2_with first
        | (go_at_call 7; ((refine (haw.out _ (by (repeat' (first | (with_reducible exact Below.refl _ _) | (with_reducible refine Below.app ?_ ?_ _ _) | (with_reducible refine Below.alloc ?_ ?_ _) | (with_reducible refine Below.drew ?_) | (with_reducible refine Below.setCell ?_ ?_ _) | (with_reducible assumption) | omega | (simp; omega) | (simp; done))))).mono ?_); rintro r w1 ⟨rfl, hb⟩; obtain ⟨b1, b1d, rfl⟩ := of_below hb; clear hb))
        | (go_at_call 8; refine (hfw.out _ _ ?z1 ?z2 ?z3).mono ?_; (case z1 => (first | rfl | omega | (simp; done) | (simp; omega))); (case z2 => simp [go_sem]); (case z3 => simp [go_sem]); rintro r w1 ⟨rfl, rfl⟩)
        | (go_at_call 11; refine (cb1.out _ _ ?y1 ?y2 ?y3).mono ?_; (case y1 => (first | rfl | omega | (simp; done) | (simp; omega))); (case y2 => simp [go_sem]); (case y3 => simp [go_sem]); rintro r w1 ⟨rfl, hb1⟩; obtain ⟨b2, d2, rfl⟩ := of_below hb1; clear hb1)
      go_returns; exact ⟨rfl, by (repeat' (first | (with_reducible exact Below.refl _ _) | (with_reducible refine Below.app ?_ ?_ _ _) | (with_reducible refine Below.alloc ?_ ?_ _) | (with_reducible refine Below.drew ?_) | (with_reducible refine Below.setCell ?_ ?_ _) | (with_reducible assumption) | omega | (simp; omega) | (simp; done)))⟩
    | some O =>
      have hOl := buildQ_len (fs := [(n, v)]) (by simp; simpa using hfz) hQ
      simp only [List.length_singleton, List.length_nil] at hOl
      have hnz : n.size ≤ 1000 := hfz.1
      obtain ⟨hz, hO2⟩ := build_one hQ
      replace hz := Lib.hid hz
      replace cb2 := Lib.hid (cb2.out O hQ)
      clear cb1 hQ hn hv hmx hfew hfz
      go_enter Tryd.func5, Tryd.ntmps5
      go_wp2_with first
        | (go_at_call 7; ((refine (haw.out _ (by (repeat' (first | (with_reducible exact Below.refl _ _) | (with_reducible refine Below.app ?_ ?_ _ _) | (with_reducible refine Below.alloc ?_ ?_ _) | (with_reducible refine Below.drew ?_) | (with_reducible refine Below.setCell ?_ ?_ _) | (with_reducible assumption) | omega | (simp; omega) | (simp; done))))).mono ?_); rintro r w1 ⟨rfl, hb⟩; obtain ⟨b1, b1d, rfl⟩ := of_below hb; clear hb))
        | (go_at_call 8; refine (hfw.out _ _ ?z1 ?z2 ?z3).mono ?_; (case z1 => (first | rfl | omega | (simp; done) | (simp; omega))); (case z2 => simp [go_sem]); (case z3 => simp [go_sem]); rintro r w1 ⟨rfl, rfl⟩)
        | (go_at_call 11; refine (cb2.out _ _ ?y1 ?y2 ?y3).mono ?_; (case y1 => (first | rfl | omega | (simp; done) | (simp; omega))); (case y2 => simp [go_sem]); (case y3 => simp [go_sem]); rintro r w1 ⟨p1, c1, rfl, hv1, hb1⟩; obtain ⟨b2, d2, rfl⟩ := of_below hb1; (try simp only [app_app] at hv1); replace hv1 := Lib.hid hv1; clear hb1)
      have hB := own_bytesAt hv1.out
      have hcp := hB.cap
      obtain ⟨bb, off, rfl, hbb, hcl⟩ := hB.cell (by intro e; rw [e] at hO2; simp at hO2)
      replace hB := Lib.hid hB
      replace hcl := Lib.hid hcl
      clear hv1
      go_loop [5, 6] (fun f i => ∃ a b : Nat, f = .int .i64 a ∧ i = .int .i64 b ∧ a ≤ O.length ∧ b ≤ O.length ∧ Hid (FoldAt n.size O b a)) (fun _ i => O.length - (intOf i).toNat)
      case atStart => exact ⟨0, 0, rfl, rfl, by omega, by omega, hz⟩
      case round =>
        obtain ⟨f, i, rfl, rfl, hf, hi, hr⟩ := hrel
        clear hz
        by_cases hlt : i + 1 < O.length
        · have hlt2 : (i : Int) + 1 < O.length := by omega
          have hci := hcl.out i (by omega)
          have hci1 := hcl.out (i + 1) hlt
          have n13 : ((O[i].toNat : Int) != 13) = !decide (O[i] = 13) := u8_ne _ 13
          have n10 : ((O[i + 1].toNat : Int) != 10) = !decide (O[i + 1] = 10) := u8_ne _ 10
          have hgo := fun hn => hr.out.go hlt hn
          have hhit := fun a b => hr.out.hit hlt a b
          clear hr
          by_cases e13 : O[i] = 13
          · rw [decide_eq_true e13] at n13
            by_cases e10 : O[i + 1] = 10
            · rw [decide_eq_true e10] at n10
              obtain ⟨hfi, hnx, hfine⟩ := hhit e13 e10
              replace hnx := Lib.hid hnx
              clear hhit hgo e13 e10
              generalize O[i] = x13 at *
              generalize O[i + 1] = x10 at *
              by_cases h78 : 78 < i - f
              · have h78i : 78 < (i : Int) - f := by omega
                replace hfine := hfine h78
                replace hfine := Lib.hid hfine
                by_cases hf0 : f = 0
                · subst hf0
                  go_wp2
                  go_loop [8] (fun k => ∃ j : Nat, k = .int .i64 j ∧ (n.size + 2) < j ∧ j ≤ 100000) (fun k => i - (intOf k).toNat)
                  case atStart => exact ⟨n.size + 3, by go_num, by omega, by omega⟩
                  case round =>
                    obtain ⟨k, rfl, hfk, hkl⟩ := hrel
                    by_cases hki : k < i
                    · have hkii : (k : Int) < i := by omega
                      have hck := hcl.out k (by omega)
                      have n32 : ((O[k].toNat : Int) == 32) = decide (O[k] = 32) := u8_eq _ 32
                      by_cases e32 : O[k] = 32
                      · rw [decide_eq_true e32] at n32
                        by_cases h2 : 2 ≤ k - 0
                        · have h2i : 2 ≤ (k : Int) := by omega
                          have hsol := solid_calls (cut_at hB.out hki (by omega)) (by rw [List.length_take, List.length_drop]; omega)
                          rw [hfine.out k (by simp; omega) hki e32 h2, show ((O.drop k).take (i - k)).length = i - k by rw [List.length_take, List.length_drop]; omega] at hsol
                          replace hsol := Lib.hid hsol
                          clear e32
                          generalize O[k] = x32 at *
                          go_wp2_with (go_at_call 15; ((refine (hsol.out).mono ?_); rintro _ _ ⟨rfl, rfl⟩))
                          go_round
                          case rel => exact ⟨k + 1, by go_num, by omega, by omega⟩
                          case measure => first | (simp [intOf]; done) | (simp [intOf]; omega)
                        · have h2i : ¬ 2 ≤ (k : Int) := by omega
                          clear e32
                          generalize O[k] = x32 at *
                          go_wp2
                          go_round
                          case rel => exact ⟨k + 1, by go_num, by omega, by omega⟩
                          case measure => first | (simp [intOf]; done) | (simp [intOf]; omega)
                      · rw [decide_eq_false e32] at n32
                        clear e32
                        generalize O[k] = x32 at *
                        go_wp2
                        go_round
                        case rel => exact ⟨k + 1, by go_num, by omega, by omega⟩
                        case measure => first | (simp [intOf]; done) | (simp [intOf]; omega)
                    · have hkii : ¬ (k : Int) < i := by omega
                      go_wp2
                      go_round
                      case rel => exact ⟨i + 2, i + 1, by go_num, by go_num, by omega, by omega, hnx⟩
                      case measure => first | (simp [intOf]; done) | (simp [intOf]; omega)
                · have hf0i : ((f : Int) == 0) = false := by simp; omega
                  go_wp2
                  go_loop [8] (fun k => ∃ j : Nat, k = .int .i64 j ∧ f < j ∧ j ≤ 100000) (fun k => i - (intOf k).toNat)
                  case atStart => exact ⟨f + 1, by go_num, by omega, by omega⟩
                  case round =>
                    obtain ⟨k, rfl, hfk, hkl⟩ := hrel
                    by_cases hki : k < i
                    · have hkii : (k : Int) < i := by omega
                      have hck := hcl.out k (by omega)
                      have n32 : ((O[k].toNat : Int) == 32) = decide (O[k] = 32) := u8_eq _ 32
                      by_cases e32 : O[k] = 32
                      · rw [decide_eq_true e32] at n32
                        by_cases h2 : 2 ≤ k - f
                        · have h2i : 2 ≤ (k : Int) - f := by omega
                          have hsol := solid_calls (cut_at hB.out hki (by omega)) (by rw [List.length_take, List.length_drop]; omega)
                          rw [hfine.out k (by rw [if_neg hf0]; omega) hki e32 h2, show ((O.drop k).take (i - k)).length = i - k by rw [List.length_take, List.length_drop]; omega] at hsol
                          replace hsol := Lib.hid hsol
                          clear e32
                          generalize O[k] = x32 at *
                          go_wp2_with (go_at_call 15; ((refine (hsol.out).mono ?_); rintro _ _ ⟨rfl, rfl⟩))
                          go_round
                          case rel => exact ⟨k + 1, by go_num, by omega, by omega⟩
                          case measure => first | (simp [intOf]; done) | (simp [intOf]; omega)
                        · have h2i : ¬ 2 ≤ (k : Int) - f := by omega
                          clear e32
                          generalize O[k] = x32 at *
                          go_wp2
                          go_round
                          case rel => exact ⟨k + 1, by go_num, by omega, by omega⟩
                          case measure => first | (simp [intOf]; done) | (simp [intOf]; omega)
                      · rw [decide_eq_false e32] at n32
                        clear e32
                        generalize O[k] = x32 at *
                        go_wp2
                        go_round
                        case rel => exact ⟨k + 1, by go_num, by omega, by omega⟩
                        case measure => first | (simp [intOf]; done) | (simp [intOf]; omega)
                    · have hkii : ¬ (k : Int) < i := by omega
                      go_wp2
                      go_round
                      case rel => exact ⟨i + 2, i + 1, by go_num, by go_num, by omega, by omega, hnx⟩
                      case measure => first | (simp [intOf]; done) | (simp [intOf]; omega)
              · have h78i : (i : Int) - f ≤ 78 := by omega
                clear hfine
                go_wp2
                go_round
                case rel => exact ⟨i + 2, i + 1, by go_num, by go_num, by omega, by omega, hnx⟩
                case measure => first | (simp [intOf]; done) | (simp [intOf]; omega)
            · rw [decide_eq_false e10] at n10
              have hR := Lib.hid (hgo fun h => e10 h.2)
              clear hhit hgo e13 e10
              generalize O[i] = x13 at *
              generalize O[i + 1] = x10 at *
              go_wp2
              go_round
              case rel => exact ⟨f, i + 1, rfl, by go_num, by omega, by omega, hR⟩
              case measure => first | (simp [intOf]; done) | (simp [intOf]; omega)
          · rw [decide_eq_false e13] at n13
            have hR := Lib.hid (hgo fun h => e13 h.1)
            clear hhit hgo e13 n10
            generalize O[i] = x13 at *
            go_wp2
            go_round
            case rel => exact ⟨f, i + 1, rfl, by go_num, by omega, by omega, hR⟩
            case measure => first | (simp [intOf]; done) | (simp [intOf]; omega)
        · have hlt2 : ¬ (i : Int) + 1 < O.length := by omega
          clear hr
          go_wp2
          go_returns; exact ⟨rfl, by (repeat' (first | (with_reducible exact Below.refl _ _) | (with_reducible refine Below.app ?_ ?_ _ _) | (with_reducible refine Below.alloc ?_ ?_ _) | (with_reducible refine Below.drew ?_) | (with_reducible refine Below.setCell ?_ ?_ _) | (with_reducible assumption) | omega | (simp; omega) | (simp; done)))⟩
section
variable {H : Type} {enc : TypeId × Value → H} {w : World} {base : Nat} {spare : Nat → Bool} {held : Bool}
theorem open_field {r : Reach} {b0 : Nat} {v : Value} {d : DataW H} {p : List MemPlace} (hv : Value.okWide Tryd.prog w r b0 28 v) (h : DataW.Trod enc Tryd.prog w base spare held 28 v d p) :
    ∃ x y : ByteArray, v = .agg #[.string x, .string y] ∧ x.size ≤ maxLen ∧ y.size ≤ maxLen := by
  obtain ⟨cs, rfl, hl, hf⟩ := open_agg Tryd.underlying28 hv h
  obtain ⟨m, y0, h0⟩ := hf 0 _ rfl 1 rfl
  obtain ⟨m1, y1, h1⟩ := hf 1 _ rfl 1 rfl
  obtain ⟨x, hx, hxs⟩ := isStr_of Tryd.underlying9 h0
  obtain ⟨y, hy, hys⟩ := isStr_of Tryd.underlying9 h1
  have hl2 : cs.length = 2 := hl
  match cs, hl2, hx, hy with
  | [a, b], _, hx, hy =>
    simp at hx hy
    subst hx hy
    exact ⟨x, y, rfl, hxs, hys⟩
end
theorem headFolds_law : LawWalk2 5 Tryd.f5 := by
  intro H enc W base args ds ps hA hval hsh
  rw [Tryd.params5] at hA hval
  obtain ⟨v0, vs0, d0, ds0, p0, q0, hargs, rfl, rfl, h0, r0⟩ := trodAll_cons hA
  obtain ⟨rfl, rfl, rfl⟩ := trodAll_nil r0
  obtain rfl : args = #[v0] := by cases args; simp_all
  obtain ⟨n, v, rfl, hn, hv⟩ := open_field (hval 0 _ _ rfl rfl) h0
  exact headFolds_walk n v W hn hv (MaxLenAt.of hsh)

set_option maxRecDepth 1000000 in
theorem headFolds_laid (os : Os) (args : Array Value) : laidMet Tryd.prog Rows.headFoldsRow.laid ((laidWorld os).forCall (fun _ _ => 0) ⟨#[], args, []⟩).memory :=
  laidMet_of_run' 8 (by kernel_rfl) (by kernel_rfl)
set_option maxRecDepth 100000 in
theorem headFolds_row : Rows.HeadFoldsSaid :=
  OpenClaim.holds_of_cond 5 Tryd.f5 rfl rfl rfl rfl rfl rfl rfl ⟨rfl, rfl, rfl, rfl, rfl⟩ rfl rfl rfl rfl rfl (by kernel_rfl) Tryd.func5 (by kernel_rfl)
    (of_decide_eq_true (by kernel_rfl)) (by unfold Func.isWrapper; first | (rw [if_pos (by decide +kernel)]; kernel_rfl) | (rw [if_neg (by decide +kernel)]; exact ⟨rfl, rfl⟩))
    (fun os started H enc _ F0 => by
      rw [OpenClaim.pre_eq_preRow]
      exact law_lift3 (s := Rows.headFoldsSpec) Tryd.func5 (by kernel_rfl) (by kernel_rfl) rfl (fun H ds hd => by match ds, hd with | [_], _ => rfl) (by kernel_rfl) os started H enc F0
        (witness_row_at (enc := enc) (C := Tryd.checked) false (laidWorld os) #[.agg #[.string ⟨#[]⟩, .string ⟨#[]⟩]] rfl (by kernel_rfl) (by kernel_rfl) (by kernel_rfl)
          (OpenSpec.preRow_of_B rfl 8 (by kernel_rfl) (by kernel_rfl) (headFolds_laid os _))) headFolds_law)
set_option maxRecDepth 100000 in
theorem headFolds_holds : Rows.HeadFoldsCardSaid :=
  Claim7.holds_tied_plain_at .later [] [.data, .sentinel, .pinned] true (true, "f0c79958befb71f7b1d04de155fbfc057129605939aca39700e0132fe2e50244") false
    headFolds_row (fun _ h => by cases h) (by kernel_rfl) (fun _ h => by cases h) headFolds_row_tie rfl ⟨rfl, rfl⟩ (by kernel_rfl) rfl
    (fun f fn hf hfn => by
      obtain rfl : f = 5 := Option.some.inj ((show Tryd.prog.funcNamed Rows.headFoldsRow.func = some 5 by kernel_rfl).symm.trans hf) |>.symm
      obtain rfl : fn = Tryd.f5 := (Option.some.inj (Tryd.func5.symm.trans hfn)).symm
      exact ⟨by kernel_rfl, fun j t ht => (wants_none (by kernel_rfl)) j t ht⟩)
    (by kernel_rfl)
#print axioms headFolds_holds
end Go.Proofs.YtpoaegcaaflogaaDoor
