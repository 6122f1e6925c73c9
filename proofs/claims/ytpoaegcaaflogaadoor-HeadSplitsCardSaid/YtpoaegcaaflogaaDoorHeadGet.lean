/-
  head.Get, head.Without: which fields bear a name.
-/
import Derived.Test.YtpoaegcaaflogaaDoorHeadLower
import Derived.Test.YtpoaegcaaflogaaDoorHeadPlain
namespace Go.Proofs.YtpoaegcaaflogaaDoor
open Go.ChangeShapes Go.WideShapes Go.ChangeAt Go.RowKit

def sameNm (nm : ByteArray) (f : Fld) : Bool := (lowerS f.1).toList == (lowerS nm).toList
def strCells (ss : List ByteArray) : List Value := ss.map .string
theorem infoStrH : (Tryd.prog.info? 9).map (fun i => (i.zero, i.size, i.bytes)) = some (some (.string ⟨#[]⟩), 1, 16) := by kernel_rfl
theorem filter_take {α : Type} (p : α → Bool) (l : List α) (k : Nat) (h : k < l.length) : (l.take (k + 1)).filter p = (l.take k).filter p ++ if p l[k] = true then [l[k]] else [] := by
  rw [List.take_succ_eq_append_getElem h, List.filter_append, List.filter_cons, List.filter_nil]
theorem filter_len {α : Type} (p : α → Bool) (l : List α) (k : Nat) : ((l.take k).filter p).length ≤ k := Nat.le_trans (List.length_filter_le _ _) (by rw [List.length_take]; omega)
theorem bel_of_app {w : World} {bs : Array Obj} {d : Nat} : Below w.heap.size w (app w bs d) := (Below.refl _ _).app (Nat.le_refl _) _ _
set_option maxRecDepth 20000 in
set_option maxHeartbeats 8000000 in
theorem get_calls {w : World} {q : Option Addr} {cap : Nat} {fs : List Fld} (hf : FieldsAt w q fs) (nm : ByteArray) (hn : nm.size ≤ 100000000000) (hfs : ∀ f ∈ fs, f.1.size ≤ 100000000000) (hlen : fs.length ≤ 100000000) : Calls Tryd.prog 18 #[.slice q fs.length cap, .string nm] w fun r w' =>
    ∃ p c, r = .returned (.slice p (fs.filter (sameNm nm)).length c) ∧ w'.ownsRow w.heap.size 9 1 (.slice p (fs.filter (sameNm nm)).length c) (fs.filter (sameNm nm)).length (strCells ((fs.filter (sameNm nm)).map (·.2))) ∧ Below w.heap.size w w' := by
  obtain ⟨i0, hi, hz0, hz1, hz2⟩ := info_parts infoStrH
  have hln := fun W => hlower_calls nm (by omega) W
  replace hln := Lib.hid hln
  have hcell := fun (W : World) (hW : Below w.heap.size w W) => show FieldsAt W q fs from hf.below stays_field hW
  replace hcell := Lib.hid hcell
  replace hfs := Lib.hid hfs
  clear hf
  go_enter Tryd.func18, Tryd.ntmps18
  go_wp2
  go_loopw [5, 10] (fun v i wr => ∃ k : Nat, k ≤ fs.length ∧ i = .int .i64 k ∧ wr.ownsRow w.heap.size 9 1 v ((fs.take k).filter (sameNm nm)).length (strCells (((fs.take k).filter (sameNm nm)).map (·.2))) ∧ Below w.heap.size w wr) (fun _ i _ => fs.length - (intOf i).toNat)
  case atStart => exact ⟨0, by omega, rfl, World.ownsRow_nil _ _ _ _, Below.refl _ _⟩
  case round =>
    obtain ⟨k, hk, rfl, hown, hbw⟩ := hrel
    have hws := hbw.size
    by_cases hlt : k < fs.length
    · have hlti : (k : Int) < fs.length := by omega
      obtain ⟨bb, off, rfl, hbb, hc0, hc1⟩ := (hcell.out wr hbw).cell hlt
      have hsz := hfs.out _ (List.getElem_mem hlt)
      have hlf := fun W => hlower_calls fs[k].1 (by omega) W
      replace hlf := Lib.hid hlf
      have hfl := filter_len (sameNm nm) fs k
      have hft := filter_take (sameNm nm) fs k hlt
      have hsn : sameNm nm fs[k] = ((lowerS fs[k].1).toList == (lowerS nm).toList) := rfl
      generalize fs[k] = f at *
      obtain ⟨f1, f2⟩ := f
      simp only at hc0 hc1 hlf hsn
      generalize lowerS f1 = A at *
      generalize lowerS nm = Bm at *
      cases hs : (A.toList == Bm.toList)
      · rw [hsn, hs, if_neg (by simp), List.append_nil] at hft
        replace hft := Lib.hid hft
        clear hsn
        go_wp2_with first
          | (go_at_call 34; ((with_reducible refine (hlf.out _).mono ?_); rintro r w1 ⟨rfl, hb⟩; obtain ⟨b1, b1d, rfl⟩ := of_below hb; clear hb))
          | (go_at_call 34; ((with_reducible refine (hln.out _).mono ?_); rintro r w1 ⟨rfl, hb⟩; obtain ⟨b2, b2d, rfl⟩ := of_below hb; clear hb))
        go_roundw
        case rel => exact ⟨k + 1, by omega, by go_num, by rw [hft.out]; exact own_belowN hown (by (repeat' (first | (with_reducible exact Below.refl _ _) | (with_reducible refine Below.app ?_ ?_ _ _) | (with_reducible refine Below.alloc ?_ ?_ _) | (with_reducible refine Below.drew ?_) | (with_reducible refine Below.setCell ?_ ?_ _) | (with_reducible assumption) | omega | (simp; omega) | (simp; done)))), hbw.trans (Below.mono (B := wr.heap.size) (by (repeat' (first | (with_reducible exact Below.refl _ _) | (with_reducible refine Below.app ?_ ?_ _ _) | (with_reducible refine Below.alloc ?_ ?_ _) | (with_reducible refine Below.drew ?_) | (with_reducible refine Below.setCell ?_ ?_ _) | (with_reducible assumption) | omega | (simp; omega) | (simp; done)))) hws)⟩
        case measure => first | (simp [intOf]; done) | (simp [intOf]; omega)
      · rw [hsn, hs, if_pos rfl] at hft
        replace hft := Lib.hid hft
        clear hsn
        go_wp2_with first
          | (go_at_call 34; ((with_reducible refine (hlf.out _).mono ?_); rintro r w1 ⟨rfl, hb⟩; obtain ⟨b1, b1d, rfl⟩ := of_below hb; clear hb))
          | (go_at_call 34; ((with_reducible refine (hln.out _).mono ?_); rintro r w1 ⟨rfl, hb⟩; obtain ⟨b2, b2d, rfl⟩ := of_below hb; clear hb))
          | (at_builtin; refine wpList_append_own _ rfl _ _ 40 rfl w.heap.size 9 i0 (.string ⟨#[]⟩) 1 16 Tryd.underlying40 hi hz0 hz1 hz2 rfl (by decide) _ _ _ rfl (own_belowN (w := wr) hown ?c0) _ 1 1 [.string f2] rfl rfl ?c1 ?c2 ?c3 ?c4 ?c5 ?_; (case c0 => (repeat' (first | (with_reducible exact Below.refl _ _) | (with_reducible refine Below.app ?_ ?_ _ _) | (with_reducible refine Below.alloc ?_ ?_ _) | (with_reducible refine Below.drew ?_) | (with_reducible refine Below.setCell ?_ ?_ _) | (with_reducible assumption) | omega | (simp; omega) | (simp; done)))); (case c1 => exact one_new _ _ (by (first | rfl | omega | (simp; done) | (simp; omega))) _ _); (case c2 => (intro u hu; simp at hu; subst hu; rfl)); (case c3 => (unfold maxLen; omega)); (case c4 => omega); (case c5 => (first | rfl | omega | (simp; done) | (simp; omega))); intro v2 w2 hown2 hg2 _; have hb2 := (show Below w.heap.size w _ from hbw.trans (Below.mono (B := wr.heap.size) (by (repeat' (first | (with_reducible exact Below.refl _ _) | (with_reducible refine Below.app ?_ ?_ _ _) | (with_reducible refine Below.alloc ?_ ?_ _) | (with_reducible refine Below.drew ?_) | (with_reducible refine Below.setCell ?_ ?_ _) | (with_reducible assumption) | omega | (simp; omega) | (simp; done)))) hws)).grown hg2 (by (first | rfl | omega | (simp; done) | (simp; omega))) (fun k hk => (hown.lt k hk).1); clear hg2)
        go_roundw
        case rel => exact ⟨k + 1, by omega, by go_num, by rw [hft.out]; simpa [strCells] using hown2, hb2⟩
        case measure => first | (simp [intOf]; done) | (simp [intOf]; omega)
    · have hlti : ¬ (k : Int) < fs.length := by omega
      obtain rfl : k = fs.length := by omega
      rw [List.take_of_length_le (Nat.le_refl _)] at hown
      obtain ⟨p, c, rfl⟩ := own_lenN hown
      go_wp2
      go_returns
      exact ⟨p, c, rfl, hown, hbw⟩
def otherNm (nm : ByteArray) (f : Fld) : Bool := !((lowerS f.1).toList == (lowerS nm).toList)
set_option maxRecDepth 20000 in
set_option maxHeartbeats 8000000 in
theorem without_calls {w : World} {q : Option Addr} {cap : Nat} {fs : List Fld} (hf : FieldsAt w q fs) (nm : ByteArray) (hn : nm.size ≤ 100000000000) (hfs : ∀ f ∈ fs, f.1.size ≤ 100000000000) (hlen : fs.length ≤ 100000000) : Calls Tryd.prog 19 #[.slice q fs.length cap, .string nm] w fun r w' =>
    ∃ p c, r = .returned (.slice p (fs.filter (otherNm nm)).length c) ∧ w'.ownsRow w.heap.size 28 2 (.slice p (fs.filter (otherNm nm)).length c) (fs.filter (otherNm nm)).length (fieldCells ((fs.filter (otherNm nm)).map fldL)) ∧ Below w.heap.size w w' := by
  obtain ⟨i0, hi, hz0, hz1, hz2⟩ := info_parts infoField
  have hln := fun W => hlower_calls nm (by omega) W
  replace hln := Lib.hid hln
  have hcell := fun (W : World) (hW : Below w.heap.size w W) => show FieldsAt W q fs from hf.below stays_field hW
  replace hcell := Lib.hid hcell
  replace hfs := Lib.hid hfs
  clear hf
  go_enter Tryd.func19, Tryd.ntmps19
  go_wp2
  go_loopw [5, 10] (fun v i wr => ∃ k : Nat, k ≤ fs.length ∧ i = .int .i64 k ∧ wr.ownsRow w.heap.size 28 2 v ((fs.take k).filter (otherNm nm)).length (fieldCells (((fs.take k).filter (otherNm nm)).map fldL)) ∧ Below w.heap.size w wr) (fun _ i _ => fs.length - (intOf i).toNat)
  case atStart => exact ⟨0, by omega, rfl, World.ownsRow_nil _ _ _ _, Below.refl _ _⟩
  case round =>
    obtain ⟨k, hk, rfl, hown, hbw⟩ := hrel
    have hws := hbw.size
    by_cases hlt : k < fs.length
    · have hlti : (k : Int) < fs.length := by omega
      obtain ⟨bb, off, rfl, hbb, hc0, hc1⟩ := (hcell.out wr hbw).cell hlt
      have hsz := hfs.out _ (List.getElem_mem hlt)
      have hlf := fun W => hlower_calls fs[k].1 (by omega) W
      replace hlf := Lib.hid hlf
      have hfl := filter_len (otherNm nm) fs k
      have hft := filter_take (otherNm nm) fs k hlt
      have hsn : otherNm nm fs[k] = !((lowerS fs[k].1).toList == (lowerS nm).toList) := rfl
      generalize fs[k] = f at *
      obtain ⟨f1, f2⟩ := f
      simp only at hc0 hc1 hlf hsn
      generalize lowerS f1 = A at *
      generalize lowerS nm = Bm at *
      have hfc := Lib.hid (fieldCells_snoc (((fs.take k).filter (otherNm nm)).map fldL) (fldL (f1, f2)))
      cases hs : (A.toList == Bm.toList)
      · rw [hsn, hs, Bool.not_false, if_pos rfl] at hft
        replace hft := Lib.hid hft
        clear hsn
        go_wp2_with first
          | (go_at_call 34; ((with_reducible refine (hlf.out _).mono ?_); rintro r w1 ⟨rfl, hb⟩; obtain ⟨b1, b1d, rfl⟩ := of_below hb; clear hb))
          | (go_at_call 34; ((with_reducible refine (hln.out _).mono ?_); rintro r w1 ⟨rfl, hb⟩; obtain ⟨b2, b2d, rfl⟩ := of_below hb; clear hb))
          | (at_builtin; refine wpList_append_own _ rfl _ _ 22 rfl w.heap.size 28 i0 (.agg #[.string ⟨#[]⟩, .string ⟨#[]⟩]) 2 32 Tryd.underlying22 hi hz0 hz1 hz2 rfl (by decide) _ _ _ rfl (own_belowN (w := wr) hown ?c0) _ 1 1 [.string f1, .string f2] rfl rfl ?c1 ?c2 ?c3 ?c4 ?c5 ?_; (case c0 => (repeat' (first | (with_reducible exact Below.refl _ _) | (with_reducible refine Below.app ?_ ?_ _ _) | (with_reducible refine Below.alloc ?_ ?_ _) | (with_reducible refine Below.drew ?_) | (with_reducible refine Below.setCell ?_ ?_ _) | (with_reducible assumption) | omega | (simp; omega) | (simp; done)))); (case c1 => exact two_cells _ _ (by (first | rfl | omega | (simp; done) | (simp; omega))) _ _ _); (case c2 => (intro u hu; simp at hu; rcases hu with rfl | rfl <;> rfl)); (case c3 => (unfold maxLen; omega)); (case c4 => omega); (case c5 => (first | rfl | omega | (simp; done) | (simp; omega))); intro v2 w2 hown2 hg2 _; have hb2 := (show Below w.heap.size w _ from hbw.trans (Below.mono (B := wr.heap.size) (by (repeat' (first | (with_reducible exact Below.refl _ _) | (with_reducible refine Below.app ?_ ?_ _ _) | (with_reducible refine Below.alloc ?_ ?_ _) | (with_reducible refine Below.drew ?_) | (with_reducible refine Below.setCell ?_ ?_ _) | (with_reducible assumption) | omega | (simp; omega) | (simp; done)))) hws)).grown hg2 (by (first | rfl | omega | (simp; done) | (simp; omega))) (fun k hk => (hown.lt k hk).1); clear hg2)
        go_roundw
        case rel => exact ⟨k + 1, by omega, by go_num, by rw [hft.out, List.map_append, List.map_singleton, hfc.out, List.length_append]; exact hown2, hb2⟩
        case measure => first | (simp [intOf]; done) | (simp [intOf]; omega)
      · rw [hsn, hs, Bool.not_true, if_neg (by simp), List.append_nil] at hft
        replace hft := Lib.hid hft
        clear hsn
        go_wp2_with first
          | (go_at_call 34; ((with_reducible refine (hlf.out _).mono ?_); rintro r w1 ⟨rfl, hb⟩; obtain ⟨b1, b1d, rfl⟩ := of_below hb; clear hb))
          | (go_at_call 34; ((with_reducible refine (hln.out _).mono ?_); rintro r w1 ⟨rfl, hb⟩; obtain ⟨b2, b2d, rfl⟩ := of_below hb; clear hb))
        go_roundw
        case rel => exact ⟨k + 1, by omega, by go_num, by rw [hft.out]; exact own_belowN hown (by (repeat' (first | (with_reducible exact Below.refl _ _) | (with_reducible refine Below.app ?_ ?_ _ _) | (with_reducible refine Below.alloc ?_ ?_ _) | (with_reducible refine Below.drew ?_) | (with_reducible refine Below.setCell ?_ ?_ _) | (with_reducible assumption) | omega | (simp; omega) | (simp; done)))), hbw.trans (Below.mono (B := wr.heap.size) (by (repeat' (first | (with_reducible exact Below.refl _ _) | (with_reducible refine Below.app ?_ ?_ _ _) | (with_reducible refine Below.alloc ?_ ?_ _) | (with_reducible refine Below.drew ?_) | (with_reducible refine Below.setCell ?_ ?_ _) | (with_reducible assumption) | omega | (simp; omega) | (simp; done)))) hws)⟩
        case measure => first | (simp [intOf]; done) | (simp [intOf]; omega)
    · have hlti : ¬ (k : Int) < fs.length := by omega
      obtain rfl : k = fs.length := by omega
      rw [List.take_of_length_le (Nat.le_refl _)] at hown
      obtain ⟨p, c, rfl⟩ := own_lenN hown
      go_wp2
      go_returns
      exact ⟨p, c, rfl, hown, hbw⟩
end Go.Proofs.YtpoaegcaaflogaaDoor
