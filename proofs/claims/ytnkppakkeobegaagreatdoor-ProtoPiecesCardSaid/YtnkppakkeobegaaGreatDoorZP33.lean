/-
  ReplyGood.
-/
import Derived.Test.YtnkppakkeobegaaGreatDoorZP31
import Derived.Test.YtnkppakkeobegaaGreatDoorZP13
import Derived.Test.YtnkppakkeobegaaGreatDoorZP32
set_option maxRecDepth 20000
set_option linter.unusedVariables false
set_option linter.unusedSimpArgs false
set_option linter.unusedSectionVars false
namespace Go.Proofs.YtnkppakkeobegaaGreatDoor
open Go.ChangeShapes Go.WideShapes Go.ChangeAt Go.RowKit
def IsStr1 (_ : World) (cs : List Value) (s : ByteArray) : Prop := cs = [.string s]
theorem stays_str1 : Stays IsStr1 := fun _ h => h
abbrev StrsAt (w : World) (q : Option Addr) (ss : List ByteArray) : Prop := Shows w 1 IsStr1 q ss
theorem StrsAt.cell {w : World} {q : Option Addr} {ss : List ByteArray} (h : StrsAt w q ss) {i : Nat} (hi : i < ss.length) : ∃ b off, q = some ⟨b, off, none⟩ ∧ b < w.heap.size ∧ w.cell? ⟨b, off + i, none⟩ = some (.string ss[i]) := by
 obtain ⟨b, off, cs, h1, h2, h3, h4, h5⟩ := h i hi
 unfold IsStr1 at h5
 subst h5
 have := h4 0 (by omega)
 rw [Nat.mul_one, Nat.add_zero] at this
 exact ⟨b, off, h1, h2, this⟩
theorem StrsAt.later {w w' : World} {q : Option Addr} {ss : List ByteArray} (h : StrsAt w q ss) (hb : Below w.heap.size w w') : StrsAt w' q ss := h.below stays_str1 hb
theorem fitsB_none {l : List UInt8} {code : Int} (h : enhQ l = none) : fitsB l code = false := by unfold fitsB; rw [h]
theorem fitsB_some {l : List UInt8} {code : Int} {a b c : Nat} (h : enhQ l = some (a, b, c)) : fitsB l code = decide ((a : Int) = code.tdiv 100) := by unfold fitsB; rw [h]
theorem all_line {ss : List ByteArray} {k : Nat} (h : k < ss.length) : ((ss.drop k).all fun s => lineB s.data.toList) = (lineB ss[k].data.toList && (ss.drop (k + 1)).all fun s => lineB s.data.toList) := by
 rw [List.drop_eq_getElem_cons h, List.all_cons]
set_option maxHeartbeats 4000000 in
theorem fits_calls (l : List UInt8) (code : Int) (hl : l.length ≤ 10000000) (h0 : 0 ≤ code) (h1 : code ≤ 100000) {w : World} (hw : LibAt w) : Calls Tryz.prog 55 #[.string ⟨l.toArray⟩, .int .i64 code] w fun r w' => r = .returned (.bool (fitsB l code)) ∧ Below w.heap.size w w' := by
 have hc := enh_calls l hl hw
 have hv := @fitsB_none l code
 have hv2 := fun a b c => @fitsB_some l code a b c
 generalize fitsB l code = R at *
 cases hE : enhQ l with
 | none =>
  have hR : Hid (R = false) := hv hE
  rw [hE] at hc
  simp only [enhV] at hc
  replace hc := Lib.hid hc
  clear hv hv2 hE hw
  go_enter Tryz.func55, Tryz.ntmps55
  go_wp2_with (go_at_call 84; ((refine (hc.out).mono ?_); rintro r w1 ⟨rfl, hb⟩; obtain ⟨b1, b1d, rfl⟩ := of_below hb; clear hb))
  go_returns
  exact ⟨rb hR.out.symm, by (repeat' (first | (with_reducible exact Below.refl _ _) | (with_reducible refine Below.app ?_ ?_ _ _) | (with_reducible refine Below.alloc ?_ ?_ _) | (with_reducible refine Below.drew ?_) | (with_reducible refine Below.setCell ?_ ?_ _) | (with_reducible assumption) | omega | (simp; omega) | (simp; done)))⟩
 | some y =>
  obtain ⟨a, b, c⟩ := y
  have hR := hv2 a b c hE
  rw [hE] at hc
  simp only [enhV] at hc
  replace hc := Lib.hid hc
  have hq : code.tdiv 100 ≤ 1000 := by rw [Int.tdiv_eq_ediv_of_nonneg h0]; omega
  have hq0 : 0 ≤ code.tdiv 100 := by rw [Int.tdiv_eq_ediv_of_nonneg h0]; omega
  clear hv hv2 hE hw
  by_cases ha : (a : Int) = code.tdiv 100
  · rw [decide_eq_true ha] at hR
    replace hR := Lib.hid hR
    have hai : ((a : Int) == code.tdiv 100) = true := by simpa using ha
    go_enter Tryz.func55, Tryz.ntmps55
    go_wp2_with (go_at_call 84; ((refine (hc.out).mono ?_); rintro r w1 ⟨rfl, hb⟩; obtain ⟨b1, b1d, rfl⟩ := of_below hb; clear hb))
    all_goals (go_returns; exact ⟨rb hR.out.symm, by (repeat' (first | (with_reducible exact Below.refl _ _) | (with_reducible refine Below.app ?_ ?_ _ _) | (with_reducible refine Below.alloc ?_ ?_ _) | (with_reducible refine Below.drew ?_) | (with_reducible refine Below.setCell ?_ ?_ _) | (with_reducible assumption) | omega | (simp; omega) | (simp; done)))⟩)
  · rw [decide_eq_false ha] at hR
    replace hR := Lib.hid hR
    have hai : ((a : Int) == code.tdiv 100) = false := by simpa using ha
    go_enter Tryz.func55, Tryz.ntmps55
    go_wp2_with (go_at_call 84; ((refine (hc.out).mono ?_); rintro r w1 ⟨rfl, hb⟩; obtain ⟨b1, b1d, rfl⟩ := of_below hb; clear hb))
    all_goals (go_returns; exact ⟨rb hR.out.symm, by (repeat' (first | (with_reducible exact Below.refl _ _) | (with_reducible refine Below.app ?_ ?_ _ _) | (with_reducible refine Below.alloc ?_ ?_ _) | (with_reducible refine Below.drew ?_) | (with_reducible refine Below.setCell ?_ ?_ _) | (with_reducible assumption) | omega | (simp; omega) | (simp; done)))⟩)
set_option maxHeartbeats 8000000 in
theorem good_calls (code : Int) (e : List UInt8) (ss : List ByteArray) (cap : Nat) {p : Option Addr} {w : World} (hs : StrsAt w p ss) (hw : LibAt w) (he : e.length ≤ 10000000) (hn : ss.length ≤ 100000000) (hz : ∀ s ∈ ss, s.size ≤ 100000000) :
 Calls Tryz.prog 33 #[.agg #[.int .i64 code, .string ⟨e.toArray⟩, .slice p ss.length cap]] w fun r w' => r = .returned (.bool (goodR code e ss)) ∧ Below w.heap.size w w' := by
 have hcell := fun i (hi : i < ss.length) => hs.cell hi
 have hline := fun (s : ByteArray) (h : s ∈ ss) => isLine_calls s (hz s h)
 have hfc := fun (h0 : 0 ≤ code) (h1 : code ≤ 100000) (W : World) (hW : Below w.heap.size w W) => fits_calls e code he h0 h1 (hw.below hW)
 have hv : Hid (goodR code e ss = (codeB code && ((e.isEmpty || fitsB e code) && (!ss.isEmpty && ss.all fun s => lineB s.data.toList)))) := rfl
 generalize goodR code e ss = R at *
 replace hcell := Lib.hid hcell
 replace hline := Lib.hid hline
 have hsse : ss.isEmpty = ((ss.length : Int) == 0) := by cases ss <;> simp; omega
 clear hs hz hw
 have hco := isCode_calls code
 cases hcd : codeB code
 · have hR : Hid (R = false) := by unfold Hid; rw [hv.out, hcd]; rfl
   rw [hcd] at hco
   replace hco := Lib.hid hco
   clear hv hfc hcell hline hsse
   go_enter Tryz.func33, Tryz.ntmps33
   go_wp2_with (go_at_call 54; ((refine (hco.out _).mono ?_); rintro _ _ ⟨rfl, rfl⟩))
   go_returns
   exact ⟨rb hR.out.symm, by (repeat' (first | (with_reducible exact Below.refl _ _) | (with_reducible refine Below.app ?_ ?_ _ _) | (with_reducible refine Below.alloc ?_ ?_ _) | (with_reducible refine Below.drew ?_) | (with_reducible refine Below.setCell ?_ ?_ _) | (with_reducible assumption) | omega | (simp; omega) | (simp; done)))⟩
 · rw [hcd] at hco
   replace hco := Lib.hid hco
   have hcr : 0 ≤ code ∧ code ≤ 100000 := by unfold codeB at hcd; rw [decide_eq_true_eq] at hcd; omega
   replace hfc := hfc hcr.1 hcr.2
   by_cases hl0 : ss.length = 0
   · have hR : Hid (R = false) := by
      unfold Hid; rw [hv.out, hsse, show ((ss.length : Int) == 0) = true by rw [hl0]; rfl]; simp
     have hl0i : ((ss.length : Int) == 0) = true := by rw [hl0]; rfl
     clear hv hsse hcell hline
     by_cases h0 : e = []
     · have hx1 : (e == []) = true := by rw [h0]; rfl
       have hx2 : e.isEmpty = true := by rw [h0]; rfl
       clear h0 hfc
       go_enter Tryz.func33, Tryz.ntmps33
       go_wp2_with (go_at_call 54; ((refine (hco.out _).mono ?_); rintro _ _ ⟨rfl, rfl⟩))
       go_returns
       exact ⟨rb hR.out.symm, by (repeat' (first | (with_reducible exact Below.refl _ _) | (with_reducible refine Below.app ?_ ?_ _ _) | (with_reducible refine Below.alloc ?_ ?_ _) | (with_reducible refine Below.drew ?_) | (with_reducible refine Below.setCell ?_ ?_ _) | (with_reducible assumption) | omega | (simp; omega) | (simp; done)))⟩
     · have hx1 : (e == []) = false := by simpa using h0
       have hx2 : e.isEmpty = false := by simpa using h0
       clear h0
       generalize fitsB e code = f at *
       replace hfc := Lib.hid hfc
       cases f
       all_goals
        go_enter Tryz.func33, Tryz.ntmps33
        go_wp2_with first
         | (go_at_call 54; ((refine (hco.out _).mono ?_); rintro _ _ ⟨rfl, rfl⟩))
         | (go_at_call 55; ((refine (hfc.out _ (by (repeat' (first | (with_reducible exact Below.refl _ _) | (with_reducible refine Below.app ?_ ?_ _ _) | (with_reducible refine Below.alloc ?_ ?_ _) | (with_reducible refine Below.drew ?_) | (with_reducible refine Below.setCell ?_ ?_ _) | (with_reducible assumption) | omega | (simp; omega) | (simp; done))))).mono ?_); rintro r w1 ⟨rfl, hb⟩; obtain ⟨b1, b1d, rfl⟩ := of_below hb; clear hb))
        go_returns
        exact ⟨rb hR.out.symm, by (repeat' (first | (with_reducible exact Below.refl _ _) | (with_reducible refine Below.app ?_ ?_ _ _) | (with_reducible refine Below.alloc ?_ ?_ _) | (with_reducible refine Below.drew ?_) | (with_reducible refine Below.setCell ?_ ?_ _) | (with_reducible assumption) | omega | (simp; omega) | (simp; done)))⟩
   · have hl0i : ((ss.length : Int) == 0) = false := by rw [beq_eq_false_iff_ne]; omega
     rw [hsse, hl0i, hcd, Bool.true_and, Bool.not_false, Bool.true_and] at hv
     clear hsse
     by_cases h0 : e = []
     · have hx1 : (e == []) = true := by rw [h0]; rfl
       have hx2 : e.isEmpty = true := by rw [h0]; rfl
       rw [hx2, Bool.true_or, Bool.true_and] at hv
       have hR0 : Hid (R = (ss.drop 0).all fun s => lineB s.data.toList) := by unfold Hid; rw [List.drop_zero]; exact hv.out
       clear h0 hfc hv
       go_enter Tryz.func33, Tryz.ntmps33
       go_wp2_with (go_at_call 54; ((refine (hco.out _).mono ?_); rintro _ _ ⟨rfl, rfl⟩))
       go_loopw [31] (fun i wr => ∃ k : Nat, k ≤ ss.length ∧ i = .int .i64 k ∧ (∃ bs d, wr = app (w.alloc (.cells #[.int .i64 code, .string ⟨e.toArray⟩, .slice p ss.length cap] 39)) bs d) ∧ Hid (R = (ss.drop k).all fun s => lineB s.data.toList)) (fun i _ => ss.length - (intOf i).toNat)
       case atStart => exact ⟨0, by omega, rfl, ⟨#[], _, by first | rfl | exact (app_nil _).symm⟩, hR0⟩
       case round =>
        obtain ⟨k, hk, rfl, ⟨bs, d, rfl⟩, hr⟩ := hrel
        clear hR0
        by_cases hlt : k < ss.length
        · have hlti : (k : Int) < ss.length := by omega
          obtain ⟨bb, off, rfl, hbb, hcl⟩ := hcell.out k hlt
          have hst := all_line hlt
          have hil := hline.out ss[k] (List.getElem_mem hlt)
          generalize ss[k] = s at *
          cases hls : lineB s.data.toList
          · have hR : Hid (R = false) := by unfold Hid; rw [hr.out, hst, hls]; rfl
            rw [hls] at hil
            replace hil := Lib.hid hil
            clear hr hst hls
            go_wp2_with (go_at_call 56; ((refine (hil.out _).mono ?_); rintro r w1 ⟨rfl, hb⟩; obtain ⟨b3, b3d, rfl⟩ := of_below hb; clear hb))
            go_returns
            exact ⟨rb hR.out.symm, by (repeat' (first | (with_reducible exact Below.refl _ _) | (with_reducible refine Below.app ?_ ?_ _ _) | (with_reducible refine Below.alloc ?_ ?_ _) | (with_reducible refine Below.drew ?_) | (with_reducible refine Below.setCell ?_ ?_ _) | (with_reducible assumption) | omega | (simp; omega) | (simp; done)))⟩
          · have hR : Hid (R = (ss.drop (k + 1)).all fun s => lineB s.data.toList) := by unfold Hid; rw [hr.out, hst, hls]; rfl
            rw [hls] at hil
            replace hil := Lib.hid hil
            clear hr hst hls
            go_wp2_with (go_at_call 56; ((refine (hil.out _).mono ?_); rintro r w1 ⟨rfl, hb⟩; obtain ⟨b3, b3d, rfl⟩ := of_below hb; clear hb))
            go_roundw
            case rel => exact ⟨k + 1, by omega, by go_num, ⟨_, _, rfl⟩, hR⟩
            case measure => first | (simp [intOf]; done) | (simp [intOf]; omega)
        · have hlti : ¬ (k : Int) < ss.length := by omega
          have hR : Hid (R = true) := by unfold Hid; rw [hr.out, List.drop_of_length_le (by omega)]; rfl
          clear hr
          go_wp2
          go_returns
          exact ⟨rb hR.out.symm, by (repeat' (first | (with_reducible exact Below.refl _ _) | (with_reducible refine Below.app ?_ ?_ _ _) | (with_reducible refine Below.alloc ?_ ?_ _) | (with_reducible refine Below.drew ?_) | (with_reducible refine Below.setCell ?_ ?_ _) | (with_reducible assumption) | omega | (simp; omega) | (simp; done)))⟩
     · have hx1 : (e == []) = false := by simpa using h0
       have hx2 : e.isEmpty = false := by simpa using h0
       rw [hx2, Bool.false_or] at hv
       clear h0
       generalize fitsB e code = f at *
       replace hfc := Lib.hid hfc
       cases f
       · rw [Bool.false_and] at hv
         have hR : Hid (R = false) := hv
         clear hcell hline hv
         go_enter Tryz.func33, Tryz.ntmps33
         go_wp2_with first
          | (go_at_call 54; ((refine (hco.out _).mono ?_); rintro _ _ ⟨rfl, rfl⟩))
          | (go_at_call 55; ((refine (hfc.out _ (by (repeat' (first | (with_reducible exact Below.refl _ _) | (with_reducible refine Below.app ?_ ?_ _ _) | (with_reducible refine Below.alloc ?_ ?_ _) | (with_reducible refine Below.drew ?_) | (with_reducible refine Below.setCell ?_ ?_ _) | (with_reducible assumption) | omega | (simp; omega) | (simp; done))))).mono ?_); rintro r w1 ⟨rfl, hb⟩; obtain ⟨b1, b1d, rfl⟩ := of_below hb; clear hb))
         go_returns
         exact ⟨rb hR.out.symm, by (repeat' (first | (with_reducible exact Below.refl _ _) | (with_reducible refine Below.app ?_ ?_ _ _) | (with_reducible refine Below.alloc ?_ ?_ _) | (with_reducible refine Below.drew ?_) | (with_reducible refine Below.setCell ?_ ?_ _) | (with_reducible assumption) | omega | (simp; omega) | (simp; done)))⟩
       · rw [Bool.true_and] at hv
         have hR0 : Hid (R = (ss.drop 0).all fun s => lineB s.data.toList) := by unfold Hid; rw [List.drop_zero]; exact hv.out
         clear hv
         go_enter Tryz.func33, Tryz.ntmps33
         go_wp2_with first
          | (go_at_call 54; ((refine (hco.out _).mono ?_); rintro _ _ ⟨rfl, rfl⟩))
          | (go_at_call 55; ((refine (hfc.out _ (by (repeat' (first | (with_reducible exact Below.refl _ _) | (with_reducible refine Below.app ?_ ?_ _ _) | (with_reducible refine Below.alloc ?_ ?_ _) | (with_reducible refine Below.drew ?_) | (with_reducible refine Below.setCell ?_ ?_ _) | (with_reducible assumption) | omega | (simp; omega) | (simp; done))))).mono ?_); rintro r w1 ⟨rfl, hb⟩; obtain ⟨b1, b1d, rfl⟩ := of_below hb; clear hb))
         go_loopw [31] (fun i wr => ∃ k : Nat, k ≤ ss.length ∧ i = .int .i64 k ∧ (∃ bs d, wr = app (w.alloc (.cells #[.int .i64 code, .string ⟨e.toArray⟩, .slice p ss.length cap] 39)) bs d) ∧ Hid (R = (ss.drop k).all fun s => lineB s.data.toList)) (fun i _ => ss.length - (intOf i).toNat)
         case atStart => exact ⟨0, by omega, rfl, ⟨_, _, rfl⟩, hR0⟩
         case round =>
          obtain ⟨k, hk, rfl, ⟨bs, d, rfl⟩, hr⟩ := hrel
          clear hR0
          by_cases hlt : k < ss.length
          · have hlti : (k : Int) < ss.length := by omega
            obtain ⟨bb, off, rfl, hbb, hcl⟩ := hcell.out k hlt
            have hst := all_line hlt
            have hil := hline.out ss[k] (List.getElem_mem hlt)
            generalize ss[k] = s at *
            cases hls : lineB s.data.toList
            · have hR : Hid (R = false) := by unfold Hid; rw [hr.out, hst, hls]; rfl
              rw [hls] at hil
              replace hil := Lib.hid hil
              clear hr hst hls
              go_wp2_with (go_at_call 56; ((refine (hil.out _).mono ?_); rintro r w1 ⟨rfl, hb⟩; obtain ⟨b3, b3d, rfl⟩ := of_below hb; clear hb))
              go_returns
              exact ⟨rb hR.out.symm, by (repeat' (first | (with_reducible exact Below.refl _ _) | (with_reducible refine Below.app ?_ ?_ _ _) | (with_reducible refine Below.alloc ?_ ?_ _) | (with_reducible refine Below.drew ?_) | (with_reducible refine Below.setCell ?_ ?_ _) | (with_reducible assumption) | omega | (simp; omega) | (simp; done)))⟩
            · have hR : Hid (R = (ss.drop (k + 1)).all fun s => lineB s.data.toList) := by unfold Hid; rw [hr.out, hst, hls]; rfl
              rw [hls] at hil
              replace hil := Lib.hid hil
              clear hr hst hls
              go_wp2_with (go_at_call 56; ((refine (hil.out _).mono ?_); rintro r w1 ⟨rfl, hb⟩; obtain ⟨b3, b3d, rfl⟩ := of_below hb; clear hb))
              go_roundw
              case rel => exact ⟨k + 1, by omega, by go_num, ⟨_, _, rfl⟩, hR⟩
              case measure => first | (simp [intOf]; done) | (simp [intOf]; omega)
          · have hlti : ¬ (k : Int) < ss.length := by omega
            have hR : Hid (R = true) := by unfold Hid; rw [hr.out, List.drop_of_length_le (by omega)]; rfl
            clear hr
            go_wp2
            go_returns
            exact ⟨rb hR.out.symm, by (repeat' (first | (with_reducible exact Below.refl _ _) | (with_reducible refine Below.app ?_ ?_ _ _) | (with_reducible refine Below.alloc ?_ ?_ _) | (with_reducible refine Below.drew ?_) | (with_reducible refine Below.setCell ?_ ?_ _) | (with_reducible assumption) | omega | (simp; omega) | (simp; done)))⟩
end Go.Proofs.YtnkppakkeobegaaGreatDoor
