/-
  ref08.number, Enhanced, fits: which texts are enhanced codes, by a scan.
-/
import Derived.Test.YtalkglheaadigaaDoorReplyEnh
import Derived.Test.YtalkglheaadigaaDoorStable
import Derived.Test.YtalkglheaadigaaDoorBytesOf
set_option maxRecDepth 20000
set_option linter.unusedVariables false
set_option linter.unusedSimpArgs false
set_option linter.unusedSectionVars false
namespace Go.Proofs.YtalkglheaadigaaDoor
open Go.ChangeShapes Go.WideShapes Go.ChangeAt Go.RowKit

theorem valN_snoc (c : UInt8) : ∀ (p : List UInt8) (acc : Nat), valN acc (p ++ [c]) = valN acc p * 10 + (c.toNat - 48)
  | [], _ => rfl
  | d :: r, acc => valN_snoc c r (acc * 10 + (d.toNat - 48))
theorem take_all {m : List UInt8} {j : Nat} (h : (m.take j).all digC = true) (hj : j < m.length) (hc : digC m[j] = true) : (m.take (j + 1)).all digC = true := by
  rw [List.take_succ_eq_append_getElem hj, List.all_append, h]; simp [hc]
theorem take_val {m : List UInt8} {j : Nat} (hj : j < m.length) : valN 0 (m.take (j + 1)) = valN 0 (m.take j) * 10 + (m[j].toNat - 48) := by
  rw [List.take_succ_eq_append_getElem hj, valN_snoc]
theorem digs_take {m : List UInt8} {j : Nat} (h : (m.take j).all digC = true) (hj : ∀ hl : j < m.length, digC m[j] = false) : digs m = m.take j := by
  have := digs_of (p := m.take j) (r := m.drop j) h (fun c t e => by
    by_cases hl : j < m.length
    · rw [List.drop_eq_getElem_cons hl] at e
      injection e with e1 _
      rw [← e1]; exact hj hl
    · rw [List.drop_of_length_le (by omega)] at e; cases e)
  rwa [List.take_append_drop] at this
theorem digs_four {m : List UInt8} (h : (m.take 4).all digC = true) (hl : 4 ≤ m.length) : canonB (digs m) = false := by
  cases hc : canonB (digs m) with
  | false => rfl
  | true =>
    exfalso
    have h3 := (canon_parts hc).2.2.1
    have hs := digs_split m
    have hlen := congrArg List.length hs
    rw [List.length_append] at hlen
    cases hx : m.drop (digs m).length with
    | nil => rw [hx] at hlen; simp at hlen; omega
    | cons c t =>
      have hk : (digs m).length < m.length := by
        have := congrArg List.length hx
        rw [List.length_drop] at this; simp at this; omega
      have hd : digC m[(digs m).length] = true := by
        have : m[(digs m).length] ∈ m.take 4 := by
          rw [List.mem_take_iff_getElem]
          exact ⟨(digs m).length, by omega, rfl⟩
        exact List.all_eq_true.1 h _ this
      have h5 := digs_of (p := digs m ++ [m[(digs m).length]]) (r := m.drop ((digs m).length + 1))
      have hst : (digs m).length = (m.takeWhile digC).length := rfl
      have hdw := drop_digs m
      rw [hx] at hdw
      have hmm : m[(digs m).length] = c := by
        have := List.drop_eq_getElem_cons hk
        rw [hx] at this; injection this with e _; exact e.symm
      rw [hmm] at hd
      have := List.head?_dropWhile_not (p := digC) (l := m)
      rw [← hdw] at this
      simp [hd] at this
/-- A number from a place on. -/
def numR (m : List UInt8) (at0 : Nat) : Value := if canonB (digs m) = true then .tuple #[.int .i64 (valN 0 (digs m) : Nat), .int .i64 ((at0 + (digs m).length : Nat) : Int)] else .tuple #[.int .i64 (-1), .int .i64 (at0 : Int)]
theorem numR_yes {m : List UInt8} {at0 j : Nat} (h : digs m = m.take j) (hj : (m.take j).length = j) (hc : canonB (m.take j) = true) : numR m at0 = .tuple #[.int .i64 (valN 0 (m.take j) : Nat), .int .i64 ((at0 : Int) + j)] := by
  unfold numR; rw [h, if_pos hc, hj]; simp
theorem numR_no {m : List UInt8} {at0 : Nat} (h : canonB (digs m) = false) : numR m at0 = .tuple #[.int .i64 (-1), .int .i64 (at0 : Int)] := by
  unfold numR; rw [if_neg (by rw [h]; simp)]
theorem canon_take {m : List UInt8} {j : Nat} (h : (m.take j).all digC = true) (hj : j ≤ m.length) (h3 : j ≤ 3) : canonB (m.take j) = (decide (1 ≤ j) && (decide (j = 1) || !decide (m.head? = some 48))) := by
  have hl : (m.take j).length = j := by rw [List.length_take]; omega
  unfold canonB
  rw [h, hl, Bool.true_and]
  cases m with
  | nil => simp at hj; subst hj; rfl
  | cons c t =>
    cases j with
    | zero => simp
    | succ j => simp [h3]
set_option maxHeartbeats 8000000 in
theorem number_calls (l : List UInt8) (at0 : Nat) (hl : l.length ≤ 100000000) (hat : at0 ≤ l.length) (w : World) : Calls Tryd.prog 53 #[.string ⟨l.toArray⟩, .int .i64 (at0 : Int)] w fun r w' => r = .returned (numR (l.drop at0) at0) ∧ w = w' := by
  have hsz : (⟨l.toArray⟩ : ByteArray).size = l.length := by show l.toArray.size = _; simp
  have hml : (l.drop at0).length = l.length - at0 := List.length_drop ..
  have hget : ∀ j (h : j < (l.drop at0).length) (h2 : at0 + j < (⟨l.toArray⟩ : ByteArray).size), (⟨l.toArray⟩ : ByteArray)[at0 + j] = (l.drop at0)[j] := fun j h h2 => by
    rw [List.getElem_drop]; rfl
  generalize l.drop at0 = m at *
  have hv : Hid (numR m at0 = numR m at0) := rfl
  generalize hRR : numR m at0 = R
  replace hRR := Lib.hid hRR
  clear hv
  go_enter Tryd.func53, Tryd.ntmps53
  go_wp2
  go_loop [6, 7] (fun n t => ∃ j : Nat, j ≤ 3 ∧ j ≤ m.length ∧ n = .int .i64 (valN 0 (m.take j) : Nat) ∧ t = .int .i64 ((at0 : Int) + j) ∧ Hid ((m.take j).all digC = true)) (fun _ t => l.length - (intOf t).toNat)
  case atStart => exact ⟨0, by omega, by omega, by rw [List.take_zero]; rfl, by simp, rfl⟩
  case round =>
    obtain ⟨j, hj3, hjm, rfl, rfl, hall⟩ := hrel
    have hvl := valN_lt (m.take j) 0 0 hall.out (by decide)
    have hvb : valN 0 (m.take j) < 1000 := Nat.lt_of_lt_of_le hvl (Nat.pow_le_pow_right (by omega) (by rw [List.length_take]; omega) : (10 : Nat) ^ (0 + (m.take j).length) ≤ 10 ^ 3)
    clear hvl
    by_cases hlt : j < m.length
    · have hlti : (at0 : Int) + j < l.length := by omega
      have hg := hget j hlt (by omega)
      by_cases hd : digC m[j] = true
      · have hdd := dig_ok hd
        have h48 : 48 ≤ (m[j].toNat : Int) := by omega
        have h57 : (m[j].toNat : Int) ≤ 57 := by omega
        have ha2 := Lib.hid (take_all hall.out hlt hd)
        have hv2 := take_val hlt
        have hv3 : ((valN 0 (m.take (j + 1)) : Nat) : Int) = 10 * (valN 0 (m.take j) : Nat) + m[j].toNat - 48 := by omega
        replace hv3 := Lib.hid hv3
        clear hv2 hd
        by_cases h4 : j = 3
        · subst h4
          have hN : Hid (R = .tuple #[.int .i64 (-1), .int .i64 (at0 : Int)]) := hRR.out.symm.trans (numR_no (digs_four ha2.out (by omega)))
          clear hall hget hRR ha2 hv3
          generalize m[3] = c3 at *
          generalize valN 0 (m.take 3) = vv at *
          go_wp2
          go_returns
          exact ⟨by rw [hN.out]; rfl, rfl⟩
        · generalize m[j] = cj at *
          generalize hvv : valN 0 (m.take j) = vv at *
          clear hvv hget
          go_wp2
          go_round
          case rel => exact ⟨j + 1, by omega, by omega, by rw [hv3.out], by go_num, ha2⟩
          case measure => first | (simp [intOf]; done) | (simp [intOf]; omega)
      · have hd2 : digC m[j] = false := by simpa using hd
        have hdg := digs_take hall.out (fun _ => hd2)
        unfold digC at hd
        rw [decide_eq_true_eq] at hd
        by_cases h48 : 48 ≤ (m[j].toNat : Int)
        · have h57 : ¬ (m[j].toNat : Int) ≤ 57 := by omega
          clear hd hd2
          generalize hcj : m[j] = cj at hg h48 h57
          clear hcj
          have hct := canon_take hall.out hjm hj3
          by_cases hj0 : j = 0
          · subst hj0
            have hlti0 : (at0 : Int) < l.length := by omega
            have hg00 : (⟨l.toArray⟩ : ByteArray)[at0]'(by omega) = cj := by simpa using hg
            have hN : Hid (R = .tuple #[.int .i64 (-1), .int .i64 (at0 : Int)]) := hRR.out.symm.trans (numR_no (by rw [hdg, hct]; rfl))
            clear hct hdg hall hget hRR
            go_wp2
            go_returns
            exact ⟨by rw [hN.out]; rfl, rfl⟩
          · have hj0i : (((at0 : Int) + j) == (at0 : Int)) = false := by simp; omega
            by_cases hj1 : j = 1
            · subst hj1
              have hN : Hid (R = .tuple #[.int .i64 (valN 0 (m.take 1) : Nat), .int .i64 ((at0 : Int) + 1)]) := hRR.out.symm.trans (numR_yes hdg (by rw [List.length_take]; omega) (by rw [hct]; rfl))
              clear hct hdg hall hget hRR
              go_wp2
              go_returns
              exact ⟨by rw [hN.out]; rfl, rfl⟩
            · have hj2i : 1 < (at0 : Int) + j - at0 := by omega
              have hg0 : (⟨l.toArray⟩ : ByteArray)[at0]'(by omega) = m[0] := by have := hget 0 (by omega) (by omega); simpa using this
              have hh : m.head? = some m[0] := by rw [List.head?_eq_getElem?, List.getElem?_eq_getElem (by omega)]
              by_cases h48 : m[0] = 48
              · have hN : Hid (R = .tuple #[.int .i64 (-1), .int .i64 (at0 : Int)]) := hRR.out.symm.trans (numR_no (by rw [hdg, hct, hh, h48]; simp [hj1]))
                have h48i : ((m[0].toNat : Int) == 48) = true := by rw [h48]; rfl
                clear hct hdg hall hget hRR hh h48
                generalize m[0] = c0 at *
                go_wp2
                go_returns
                exact ⟨by rw [hN.out]; rfl, rfl⟩
              · have hN : Hid (R = .tuple #[.int .i64 (valN 0 (m.take j) : Nat), .int .i64 ((at0 : Int) + j)]) := hRR.out.symm.trans (numR_yes hdg (by rw [List.length_take]; omega) (by rw [hct, hh]; simp [h48]; omega))
                have h48i : ((m[0].toNat : Int) == 48) = false := by
                  rw [beq_eq_false_iff_ne]; intro e; apply h48; rw [← UInt8.toNat_inj]; simp; omega
                clear hct hdg hall hget hRR hh h48
                generalize m[0] = c0 at *
                go_wp2
                go_returns
                exact ⟨by rw [hN.out]; rfl, rfl⟩
        · clear hd hd2
          generalize hcj : m[j] = cj at hg h48
          clear hcj
          have hct := canon_take hall.out hjm hj3
          by_cases hj0 : j = 0
          · subst hj0
            have hlti0 : (at0 : Int) < l.length := by omega
            have hg00 : (⟨l.toArray⟩ : ByteArray)[at0]'(by omega) = cj := by simpa using hg
            have hN : Hid (R = .tuple #[.int .i64 (-1), .int .i64 (at0 : Int)]) := hRR.out.symm.trans (numR_no (by rw [hdg, hct]; rfl))
            clear hct hdg hall hget hRR
            go_wp2
            go_returns
            exact ⟨by rw [hN.out]; rfl, rfl⟩
          · have hj0i : (((at0 : Int) + j) == (at0 : Int)) = false := by simp; omega
            by_cases hj1 : j = 1
            · subst hj1
              have hN : Hid (R = .tuple #[.int .i64 (valN 0 (m.take 1) : Nat), .int .i64 ((at0 : Int) + 1)]) := hRR.out.symm.trans (numR_yes hdg (by rw [List.length_take]; omega) (by rw [hct]; rfl))
              clear hct hdg hall hget hRR
              go_wp2
              go_returns
              exact ⟨by rw [hN.out]; rfl, rfl⟩
            · have hj2i : 1 < (at0 : Int) + j - at0 := by omega
              have hg0 : (⟨l.toArray⟩ : ByteArray)[at0]'(by omega) = m[0] := by have := hget 0 (by omega) (by omega); simpa using this
              have hh : m.head? = some m[0] := by rw [List.head?_eq_getElem?, List.getElem?_eq_getElem (by omega)]
              by_cases h48 : m[0] = 48
              · have hN : Hid (R = .tuple #[.int .i64 (-1), .int .i64 (at0 : Int)]) := hRR.out.symm.trans (numR_no (by rw [hdg, hct, hh, h48]; simp [hj1]))
                have h48i : ((m[0].toNat : Int) == 48) = true := by rw [h48]; rfl
                clear hct hdg hall hget hRR hh h48
                generalize m[0] = c0 at *
                go_wp2
                go_returns
                exact ⟨by rw [hN.out]; rfl, rfl⟩
              · have hN : Hid (R = .tuple #[.int .i64 (valN 0 (m.take j) : Nat), .int .i64 ((at0 : Int) + j)]) := hRR.out.symm.trans (numR_yes hdg (by rw [List.length_take]; omega) (by rw [hct, hh]; simp [h48]; omega))
                have h48i : ((m[0].toNat : Int) == 48) = false := by
                  rw [beq_eq_false_iff_ne]; intro e; apply h48; rw [← UInt8.toNat_inj]; simp; omega
                clear hct hdg hall hget hRR hh h48
                generalize m[0] = c0 at *
                go_wp2
                go_returns
                exact ⟨by rw [hN.out]; rfl, rfl⟩
    · have hlti : ¬ (at0 : Int) + j < l.length := by omega
      have hdg := digs_take hall.out (fun h => absurd h hlt)
      have hct := canon_take hall.out hjm hj3
      by_cases hj0 : j = 0
      · subst hj0
        have hlti0 : ¬ (at0 : Int) < l.length := by omega
        have hN : Hid (R = .tuple #[.int .i64 (-1), .int .i64 (at0 : Int)]) := hRR.out.symm.trans (numR_no (by rw [hdg, hct]; rfl))
        clear hct hdg hall hget hRR
        go_wp2
        go_returns
        exact ⟨by rw [hN.out]; rfl, rfl⟩
      · have hj0i : (((at0 : Int) + j) == (at0 : Int)) = false := by simp; omega
        by_cases hj1 : j = 1
        · subst hj1
          have hN : Hid (R = .tuple #[.int .i64 (valN 0 (m.take 1) : Nat), .int .i64 ((at0 : Int) + 1)]) := hRR.out.symm.trans (numR_yes hdg (by rw [List.length_take]; omega) (by rw [hct]; rfl))
          clear hct hdg hall hget hRR
          go_wp2
          go_returns
          exact ⟨by rw [hN.out]; rfl, rfl⟩
        · have hj2i : 1 < (at0 : Int) + j - at0 := by omega
          have hg0 : (⟨l.toArray⟩ : ByteArray)[at0]'(by omega) = m[0] := by have := hget 0 (by omega) (by omega); simpa using this
          have hh : m.head? = some m[0] := by rw [List.head?_eq_getElem?, List.getElem?_eq_getElem (by omega)]
          by_cases h48 : m[0] = 48
          · have hN : Hid (R = .tuple #[.int .i64 (-1), .int .i64 (at0 : Int)]) := hRR.out.symm.trans (numR_no (by rw [hdg, hct, hh, h48]; simp [hj1]))
            have h48i : ((m[0].toNat : Int) == 48) = true := by rw [h48]; rfl
            clear hct hdg hall hget hRR hh h48
            generalize m[0] = c0 at *
            go_wp2
            go_returns
            exact ⟨by rw [hN.out]; rfl, rfl⟩
          · have hN : Hid (R = .tuple #[.int .i64 (valN 0 (m.take j) : Nat), .int .i64 ((at0 : Int) + j)]) := hRR.out.symm.trans (numR_yes hdg (by rw [List.length_take]; omega) (by rw [hct, hh]; simp [h48]; omega))
            have h48i : ((m[0].toNat : Int) == 48) = false := by
              rw [beq_eq_false_iff_ne]; intro e; apply h48; rw [← UInt8.toNat_inj]; simp; omega
            clear hct hdg hall hget hRR hh h48
            generalize m[0] = c0 at *
            go_wp2
            go_returns
            exact ⟨by rw [hN.out]; rfl, rfl⟩
theorem step_cases (l : List UInt8) (at0 : Nat) (hat : at0 ≤ l.length) :
    (numR (l.drop at0) at0 = .tuple #[.int .i64 (-1), .int .i64 (at0 : Int)] ∧ stepQ (l.drop at0) = none ∧ canonB (digs (l.drop at0)) = false) ∨
    ∃ v x : Nat, v < 1000 ∧ x ≤ l.length ∧ at0 ≤ x ∧ numR (l.drop at0) at0 = .tuple #[.int .i64 (v : Int), .int .i64 (x : Int)] ∧ canonB (digs (l.drop at0)) = true ∧ v = valN 0 (digs (l.drop at0)) ∧
      (x = l.length ↔ (digs (l.drop at0)).length = (l.drop at0).length) ∧
      ((x = l.length ∧ stepQ (l.drop at0) = none) ∨ ∃ h : x < l.length, (l[x] ≠ 46 ∧ stepQ (l.drop at0) = none) ∨ (l[x] = 46 ∧ stepQ (l.drop at0) = some (v, l.drop (x + 1)))) := by
  have hml : (l.drop at0).length = l.length - at0 := List.length_drop ..
  have hsp := digs_split (l.drop at0)
  have hle : (digs (l.drop at0)).length ≤ (l.drop at0).length := by
    have := congrArg List.length hsp
    rw [List.length_append] at this; omega
  by_cases hc : canonB (digs (l.drop at0)) = true
  · right
    refine ⟨valN 0 (digs (l.drop at0)), at0 + (digs (l.drop at0)).length, (canon_atoi hc).2, by omega, by omega, by unfold numR; rw [if_pos hc], hc, rfl, by omega, ?_⟩
    have hdd : (l.drop at0).drop (digs (l.drop at0)).length = l.drop (at0 + (digs (l.drop at0)).length) := by rw [List.drop_drop]
    have hdd2 : (l.drop at0).drop ((digs (l.drop at0)).length + 1) = l.drop (at0 + (digs (l.drop at0)).length + 1) := by rw [List.drop_drop, Nat.add_assoc]
    by_cases he : at0 + (digs (l.drop at0)).length = l.length
    · left
      refine ⟨he, ?_⟩
      have hnil : (l.drop at0).drop (digs (l.drop at0)).length = [] := by rw [hdd]; exact List.drop_of_length_le (by omega)
      unfold stepQ
      rw [if_neg]
      rintro ⟨_, h2⟩
      rw [hnil] at h2; cases h2
    · right
      refine ⟨by omega, ?_⟩
      have hh : ((l.drop at0).drop (digs (l.drop at0)).length).head? = some (l[at0 + (digs (l.drop at0)).length]'(by omega)) := by
        rw [hdd, List.drop_eq_getElem_cons (by omega)]; rfl
      by_cases h46 : (l[at0 + (digs (l.drop at0)).length]'(by omega)) = 46
      · right
        refine ⟨h46, ?_⟩
        unfold stepQ
        rw [if_pos ⟨hc, by rw [hh, h46]⟩, hdd2]
      · left
        refine ⟨h46, ?_⟩
        unfold stepQ
        rw [if_neg]
        rintro ⟨_, h2⟩
        rw [hh] at h2
        injection h2 with h2
        exact h46 h2
  · left
    have hc : canonB (digs (l.drop at0)) = false := by simpa using hc
    refine ⟨numR_no hc, ?_, hc⟩
    unfold stepQ
    rw [if_neg (by rw [hc]; simp)]
/-- What ref08.Enhanced hands back. -/
def codeV (e : Option (Nat × Nat × Nat)) : Value := match e with
  | some (a, b, c) => .agg #[.int .i64 a, .int .i64 b, .int .i64 c, .bool true]
  | none => .agg #[.int .i64 0, .int .i64 0, .int .i64 0, .bool false]
set_option maxHeartbeats 8000000 in
theorem renh_calls (l : List UInt8) (hl : l.length ≤ 10000000) (w : World) : Calls Tryd.prog 26 #[.string ⟨l.toArray⟩] w fun r w' => r = .returned (codeV (enhQ l)) ∧ Below w.heap.size w w' := by
  have hsz : (⟨l.toArray⟩ : ByteArray).size = l.length := by show l.toArray.size = _; simp
  have hget : ∀ j (h : j < l.length) (h2 : j < (⟨l.toArray⟩ : ByteArray).size), (⟨l.toArray⟩ : ByteArray)[j] = l[j] := fun j h h2 => rfl
  have hnc := fun a (h : a ≤ l.length) W => number_calls l a (by omega) h W
  have hE := Lib.hid (enhQ_eq l)
  have hsc := fun a h => step_cases l a h
  unfold enhR at hE
  generalize enhQ l = E at *
  have h1 := hsc 0 (by omega)
  have n1 := hnc 0 (by omega)
  rw [List.drop_zero] at h1 n1
  rw [show ((0 : Nat) : Int) = 0 from rfl] at n1
  rcases h1 with ⟨e1, s1, _⟩ | ⟨a, x, ha, hx, _, e1, c1, va, _, h1⟩
  · have hE0 : Hid (E = none) := by unfold Hid; rw [hE.out, s1]
    rw [e1] at n1
    replace n1 := Lib.hid n1
    clear hE hnc hsc e1 s1 hget
    go_enter Tryd.func26, Tryd.ntmps26
    go_wp2_with (go_at_call 53; ((refine (n1.out _).mono ?_); rintro _ _ ⟨rfl, rfl⟩))
    go_returns
    exact ⟨by rw [hE0.out]; rfl, by (repeat' (first | (with_reducible exact Below.refl _ _) | (with_reducible refine Below.app ?_ ?_ _ _) | (with_reducible refine Below.alloc ?_ ?_ _) | (with_reducible refine Below.drew ?_) | (with_reducible refine Below.setCell ?_ ?_ _) | (with_reducible assumption) | omega | (simp; omega) | (simp; done)))⟩
  · rw [e1] at n1
    replace n1 := Lib.hid n1
    rcases h1 with ⟨hxe, s1⟩ | ⟨hxl, ⟨h46, s1⟩ | ⟨h46, s1⟩⟩
    · have hE0 : Hid (E = none) := by unfold Hid; rw [hE.out, s1]
      have hxi : (l.length : Int) ≤ x := by omega
      clear hE hnc hsc e1 s1 hget c1 va
      go_enter Tryd.func26, Tryd.ntmps26
      go_wp2_with (go_at_call 53; ((refine (n1.out _).mono ?_); rintro _ _ ⟨rfl, rfl⟩))
      go_returns
      exact ⟨by rw [hE0.out]; rfl, by (repeat' (first | (with_reducible exact Below.refl _ _) | (with_reducible refine Below.app ?_ ?_ _ _) | (with_reducible refine Below.alloc ?_ ?_ _) | (with_reducible refine Below.drew ?_) | (with_reducible refine Below.setCell ?_ ?_ _) | (with_reducible assumption) | omega | (simp; omega) | (simp; done)))⟩
    · have hE0 : Hid (E = none) := by unfold Hid; rw [hE.out, s1]
      have hxi : (x : Int) < l.length := by omega
      have hg := hget x hxl (by omega)
      have h46i : ((l[x].toNat : Int) != 46) = true := by simp; intro e; apply h46; rw [← UInt8.toNat_inj]; simp; omega
      clear hE hnc hsc e1 s1 hget h46 c1 va
      generalize l[x] = cx at *
      go_enter Tryd.func26, Tryd.ntmps26
      go_wp2_with (go_at_call 53; ((refine (n1.out _).mono ?_); rintro _ _ ⟨rfl, rfl⟩))
      go_returns
      exact ⟨by rw [hE0.out]; rfl, by (repeat' (first | (with_reducible exact Below.refl _ _) | (with_reducible refine Below.app ?_ ?_ _ _) | (with_reducible refine Below.alloc ?_ ?_ _) | (with_reducible refine Below.drew ?_) | (with_reducible refine Below.setCell ?_ ?_ _) | (with_reducible assumption) | omega | (simp; omega) | (simp; done)))⟩
    · have hx1 : (x : Int) < l.length := by omega
      have hg1 := hget x hxl (by omega)
      have b1 : ((l[x].toNat : Int) != 46) = false := by rw [h46]; rfl
      rw [s1] at hE
      simp only at hE
      have h2 := hsc (x + 1) (by omega)
      have n2 := hnc (x + 1) (by omega)
      rw [show ((x + 1 : Nat) : Int) = (x : Int) + 1 by omega] at n2 h2
      clear e1 s1 c1 va h46
      generalize l[x] = cx at hg1 b1
      rcases h2 with ⟨e2, s2, _⟩ | ⟨b, y, hb, hy, hxy, e2, c2, vb, _, h2⟩
      · have hE0 : Hid (E = none) := by unfold Hid; rw [hE.out, s2]
        rw [e2] at n2
        replace n2 := Lib.hid n2
        clear hE hnc hsc e2 s2 hget
        go_enter Tryd.func26, Tryd.ntmps26
        go_wp2_with first
          | (go_at_call 53; ((with_reducible refine (n1.out _).mono ?_); rintro _ _ ⟨rfl, rfl⟩))
          | (go_at_call 53; ((with_reducible refine (n2.out _).mono ?_); rintro _ _ ⟨rfl, rfl⟩))
        go_returns
        exact ⟨by rw [hE0.out]; rfl, by (repeat' (first | (with_reducible exact Below.refl _ _) | (with_reducible refine Below.app ?_ ?_ _ _) | (with_reducible refine Below.alloc ?_ ?_ _) | (with_reducible refine Below.drew ?_) | (with_reducible refine Below.setCell ?_ ?_ _) | (with_reducible assumption) | omega | (simp; omega) | (simp; done)))⟩
      · rw [e2] at n2
        replace n2 := Lib.hid n2
        rcases h2 with ⟨hye, s2⟩ | ⟨hyl, ⟨h46, s2⟩ | ⟨h46, s2⟩⟩
        · have hE0 : Hid (E = none) := by unfold Hid; rw [hE.out, s2]
          have hyi : (l.length : Int) ≤ y := by omega
          clear hE hnc hsc e2 s2 hget c2 vb
          go_enter Tryd.func26, Tryd.ntmps26
          go_wp2_with first
            | (go_at_call 53; ((with_reducible refine (n1.out _).mono ?_); rintro _ _ ⟨rfl, rfl⟩))
            | (go_at_call 53; ((with_reducible refine (n2.out _).mono ?_); rintro _ _ ⟨rfl, rfl⟩))
          go_returns
          exact ⟨by rw [hE0.out]; rfl, by (repeat' (first | (with_reducible exact Below.refl _ _) | (with_reducible refine Below.app ?_ ?_ _ _) | (with_reducible refine Below.alloc ?_ ?_ _) | (with_reducible refine Below.drew ?_) | (with_reducible refine Below.setCell ?_ ?_ _) | (with_reducible assumption) | omega | (simp; omega) | (simp; done)))⟩
        · have hE0 : Hid (E = none) := by unfold Hid; rw [hE.out, s2]
          have hyi : (y : Int) < l.length := by omega
          have hg2 := hget y hyl (by omega)
          have b2 : ((l[y].toNat : Int) != 46) = true := by simp; intro e; apply h46; rw [← UInt8.toNat_inj]; simp; omega
          clear hE hnc hsc e2 s2 hget h46 c2 vb
          generalize l[y] = cy at hg2 b2
          go_enter Tryd.func26, Tryd.ntmps26
          go_wp2_with first
            | (go_at_call 53; ((with_reducible refine (n1.out _).mono ?_); rintro _ _ ⟨rfl, rfl⟩))
            | (go_at_call 53; ((with_reducible refine (n2.out _).mono ?_); rintro _ _ ⟨rfl, rfl⟩))
          go_returns
          exact ⟨by rw [hE0.out]; rfl, by (repeat' (first | (with_reducible exact Below.refl _ _) | (with_reducible refine Below.app ?_ ?_ _ _) | (with_reducible refine Below.alloc ?_ ?_ _) | (with_reducible refine Below.drew ?_) | (with_reducible refine Below.setCell ?_ ?_ _) | (with_reducible assumption) | omega | (simp; omega) | (simp; done)))⟩
        · have hyi : (y : Int) < l.length := by omega
          have hg2 := hget y hyl (by omega)
          have b2 : ((l[y].toNat : Int) != 46) = false := by rw [h46]; rfl
          rw [s2] at hE
          simp only at hE
          have h3 := hsc (y + 1) (by omega)
          have n3 := hnc (y + 1) (by omega)
          rw [show ((y + 1 : Nat) : Int) = (y : Int) + 1 by omega] at n3 h3
          clear e2 s2 c2 vb h46 hget
          generalize l[y] = cy at hg2 b2
          rcases h3 with ⟨e3, _, c3⟩ | ⟨c, z, hc, hz, hyz, e3, c3, vc, hze, _⟩
          · have hE0 : Hid (E = none) := by unfold Hid; rw [hE.out, if_neg (by rw [c3]; simp)]
            rw [e3] at n3
            replace n3 := Lib.hid n3
            clear hE hnc hsc e3 c3
            go_enter Tryd.func26, Tryd.ntmps26
            go_wp2_with first
              | (go_at_call 53; ((with_reducible refine (n1.out _).mono ?_); rintro _ _ ⟨rfl, rfl⟩))
              | (go_at_call 53; ((with_reducible refine (n2.out _).mono ?_); rintro _ _ ⟨rfl, rfl⟩))
              | (go_at_call 53; ((with_reducible refine (n3.out _).mono ?_); rintro _ _ ⟨rfl, rfl⟩))
            go_returns
            exact ⟨by rw [hE0.out]; rfl, by (repeat' (first | (with_reducible exact Below.refl _ _) | (with_reducible refine Below.app ?_ ?_ _ _) | (with_reducible refine Below.alloc ?_ ?_ _) | (with_reducible refine Below.drew ?_) | (with_reducible refine Below.setCell ?_ ?_ _) | (with_reducible assumption) | omega | (simp; omega) | (simp; done)))⟩
          · rw [e3] at n3
            replace n3 := Lib.hid n3
            by_cases hzl : z = l.length
            · have hdl := hze.1 hzl
              have hzi : ((z : Int) != (l.length : Int)) = false := by simp; omega
              have hzj : ((z : Int) == (l.length : Int)) = true := by simp; omega
              by_cases h245 : a = 2 ∨ a = 4 ∨ a = 5
              · have hE0 : Hid (E = some (a, b, c)) := by unfold Hid; rw [hE.out, if_pos ⟨c3, hdl, h245⟩, ← vc]
                clear hE hnc hsc e3 c3 vc hze hdl hzl
                rcases h245 with rfl | rfl | rfl
                all_goals
                  go_enter Tryd.func26, Tryd.ntmps26
                  go_wp2_with first
                    | (go_at_call 53; ((with_reducible refine (n1.out _).mono ?_); rintro _ _ ⟨rfl, rfl⟩))
                    | (go_at_call 53; ((with_reducible refine (n2.out _).mono ?_); rintro _ _ ⟨rfl, rfl⟩))
                    | (go_at_call 53; ((with_reducible refine (n3.out _).mono ?_); rintro _ _ ⟨rfl, rfl⟩))
                  go_returns
                  exact ⟨by rw [hE0.out]; rfl, by (repeat' (first | (with_reducible exact Below.refl _ _) | (with_reducible refine Below.app ?_ ?_ _ _) | (with_reducible refine Below.alloc ?_ ?_ _) | (with_reducible refine Below.drew ?_) | (with_reducible refine Below.setCell ?_ ?_ _) | (with_reducible assumption) | omega | (simp; omega) | (simp; done)))⟩
              · have hE0 : Hid (E = none) := by unfold Hid; rw [hE.out, if_neg (fun h => h245 h.2.2)]
                have m2 : ((a : Int) != 2) = true := by simp; omega
                have m4 : ((a : Int) != 4) = true := by simp; omega
                have m5 : ((a : Int) != 5) = true := by simp; omega
                have p2 : ((a : Int) == 2) = false := by simp; omega
                have p4 : ((a : Int) == 4) = false := by simp; omega
                have p5 : ((a : Int) == 5) = false := by simp; omega
                clear hE hnc hsc e3 c3 vc hze hdl hzl h245
                go_enter Tryd.func26, Tryd.ntmps26
                go_wp2_with first
                  | (go_at_call 53; ((with_reducible refine (n1.out _).mono ?_); rintro _ _ ⟨rfl, rfl⟩))
                  | (go_at_call 53; ((with_reducible refine (n2.out _).mono ?_); rintro _ _ ⟨rfl, rfl⟩))
                  | (go_at_call 53; ((with_reducible refine (n3.out _).mono ?_); rintro _ _ ⟨rfl, rfl⟩))
                go_returns
                exact ⟨by rw [hE0.out]; rfl, by (repeat' (first | (with_reducible exact Below.refl _ _) | (with_reducible refine Below.app ?_ ?_ _ _) | (with_reducible refine Below.alloc ?_ ?_ _) | (with_reducible refine Below.drew ?_) | (with_reducible refine Below.setCell ?_ ?_ _) | (with_reducible assumption) | omega | (simp; omega) | (simp; done)))⟩
            · have hE0 : Hid (E = none) := by unfold Hid; rw [hE.out, if_neg (fun h => hzl (hze.2 h.2.1))]
              have hzi : ((z : Int) != (l.length : Int)) = true := by simp; omega
              have hzj : ((z : Int) == (l.length : Int)) = false := by simp; omega
              clear hE hnc hsc e3 c3 vc hze hzl
              go_enter Tryd.func26, Tryd.ntmps26
              go_wp2_with first
                | (go_at_call 53; ((with_reducible refine (n1.out _).mono ?_); rintro _ _ ⟨rfl, rfl⟩))
                | (go_at_call 53; ((with_reducible refine (n2.out _).mono ?_); rintro _ _ ⟨rfl, rfl⟩))
                | (go_at_call 53; ((with_reducible refine (n3.out _).mono ?_); rintro _ _ ⟨rfl, rfl⟩))
              go_returns
              exact ⟨by rw [hE0.out]; rfl, by (repeat' (first | (with_reducible exact Below.refl _ _) | (with_reducible refine Below.app ?_ ?_ _ _) | (with_reducible refine Below.alloc ?_ ?_ _) | (with_reducible refine Below.drew ?_) | (with_reducible refine Below.setCell ?_ ?_ _) | (with_reducible assumption) | omega | (simp; omega) | (simp; done)))⟩
end Go.Proofs.YtalkglheaadigaaDoor
