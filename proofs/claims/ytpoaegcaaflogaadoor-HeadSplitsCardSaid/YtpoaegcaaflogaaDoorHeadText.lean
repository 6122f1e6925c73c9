/-
  head.written: how a field is written.
-/
import Derived.Test.YtpoaegcaaflogaaDoorHeadFold
import Derived.Test.YtpoaegcaaflogaaDoorBuilder
import Derived.Test.YtpoaegcaaflogaaDoorBytesG
namespace Go.Proofs.YtpoaegcaaflogaaDoor
open Go.ChangeShapes Go.WideShapes Go.ChangeAt Go.RowKit

theorem downQ_le (p : Nat → Bool) : ∀ k, downQ p k ≤ k ∧ (downQ p k ≠ 0 → 2 ≤ downQ p k)
  | 0 => ⟨by simp [downQ], fun h => absurd rfl h⟩
  | 1 => ⟨by simp [downQ], fun h => absurd rfl h⟩
  | k + 2 => by
    have ih := downQ_le p (k + 1)
    rw [downQ]
    split
    · exact ⟨Nat.le_refl _, fun _ => by omega⟩
    · exact ⟨by omega, ih.2⟩
theorem upQ_lt (p : Nat → Bool) (n : Nat) : ∀ m k, n - k ≤ m → upQ p n k ≠ 0 → k ≤ upQ p n k ∧ upQ p n k < n
  | 0, k, h, hne => by rw [upQ_end (by omega)] at hne; exact absurd rfl hne
  | m + 1, k, h, hne => by
    by_cases hk : k < n
    · cases hp : p k
      · rw [upQ_no hk hp] at hne ⊢
        have := upQ_lt p n m (k + 1) (by omega) hne
        omega
      · rw [upQ_yes hk hp]; omega
    · rw [upQ_end hk] at hne; exact absurd rfl hne
theorem foldN_bd {l : List UInt8} {f : Nat} (h : foldN l f ≠ 0) : 2 ≤ foldN l f ∧ foldN l f < l.length := by
  unfold foldN at h ⊢
  by_cases h78 : l.length ≤ 78
  · rw [if_pos h78] at h; exact absurd rfl h
  · rw [if_neg h78] at h ⊢
    by_cases hd : downQ (mayB l f) 78 ≠ 0
    · rw [if_pos hd]
      have := downQ_le (mayB l f) 78
      exact ⟨this.2 hd, by omega⟩
    · rw [if_neg hd] at h ⊢
      have := upQ_lt (mayB l f) l.length _ 79 (Nat.le_refl _) h
      omega
/-- A field's line, folded. -/
def writtenL (l : List UInt8) (f : Nat) : List UInt8 :=
  if h : foldN l f = 0 then l ++ [13, 10] else (l.take (foldN l f) ++ [13, 10]) ++ writtenL (l.drop (foldN l f)) 0
termination_by l.length
decreasing_by
  have := foldN_bd h
  simp; omega
theorem writtenL_no {l : List UInt8} {f : Nat} (h : foldN l f = 0) : writtenL l f = l ++ [13, 10] := by rw [writtenL, dif_pos h]
theorem writtenL_yes {l : List UInt8} {f : Nat} (h : foldN l f ≠ 0) : writtenL l f = (l.take (foldN l f) ++ [13, 10]) ++ writtenL (l.drop (foldN l f)) 0 := by rw [writtenL, dif_neg h]
theorem builder_below {T e : TypeId} {B b : Nat} {bs : List Value} {w w' : World} (h : Lib.IsBuilder T e B b bs w) (hb : Below w.heap.size w w') : Lib.IsBuilder T e B b bs w' := by
  rcases h with ⟨h1, v, h2, h3, h4⟩ | ⟨h1, v, h2, h3, h4⟩
  · exact .inl ⟨h1, v, (hb.block b (Array.getElem?_eq_some_iff.1 h2).1).trans h2, own_below h3 hb, h4⟩
  · exact .inr ⟨h1, v, (hb.block b (Array.getElem?_eq_some_iff.1 h2).1).trans h2, own_below h3 hb, h4⟩
theorem take_ext (l : List UInt8) (k : Nat) : (⟨l.toArray⟩ : ByteArray).extract 0 k = ⟨(l.take k).toArray⟩ := by
  apply ByteArray.ext
  simp only [ByteArray.data_extract]
  apply Array.ext'
  rw [Array.toList_extract]
  simp
theorem drop_ext (l : List UInt8) (k : Nat) : (⟨l.toArray⟩ : ByteArray).extract k l.length = ⟨(l.drop k).toArray⟩ := by
  apply ByteArray.ext
  simp only [ByteArray.data_extract]
  apply Array.ext'
  rw [Array.toList_extract]
  simp [List.take_of_length_le]
def RelWt (l0 : List UInt8) (f0 : Nat) (w : World) (b : Nat) (s f : Value) (wr : World) : Prop := ∃ (l : List UInt8) (k : Nat) (out : List UInt8),
  s = .string ⟨l.toArray⟩ ∧ f = .int .i64 k ∧ k ≤ 100000000 ∧ l.length ≤ l0.length ∧ out.length ≤ 2 * (l0.length - l.length) ∧ Lib.IsBuilder 69 5 b b (Lib.byteCells out) wr ∧ Below w.heap.size w wr ∧ Hid (writtenL l0 f0 = out ++ writtenL l k)
set_option maxRecDepth 20000 in
set_option maxHeartbeats 8000000 in
theorem written_calls (n v : ByteArray) (hn : n.size ≤ 10000000) (hv : v.size ≤ 10000000) (w : World) : Calls Tryd.prog 26 #[.agg #[.string n, .string v]] w fun r w' => r = .returned (.string ⟨(writtenL (n.data.toList ++ ([58, 32] ++ v.data.toList)) (n.size + 2)).toArray⟩) ∧ Below w.heap.size w w' := by
  have hl0 : (n.data.toList ++ ([58, 32] ++ v.data.toList)).length ≤ 30000000 := by simp; omega
  have hs0 : n ++ ⟨#[58, 32]⟩ ++ v = ⟨(n.data.toList ++ ([58, 32] ++ v.data.toList)).toArray⟩ := by apply ByteArray.ext; simp
  have hfr := fun o : Obj => Lib.fresh_isBuilder 69 5 (w.alloc o)
  have hsz : ∀ l : List UInt8, (⟨l.toArray⟩ : ByteArray).size = l.length := fun l => by show l.toArray.size = _; simp
  generalize hL : n.data.toList ++ ([58, 32] ++ v.data.toList) = l0 at *
  clear hL
  have hf0 : ((n.size + 2 : Nat) : Int) = (n.size : Int) + 2 := by omega
  have hf1 : n.size + 2 ≤ 100000000 := by omega
  generalize n.size + 2 = f0 at *
  replace hf0 := Lib.hid hf0
  replace hfr := Lib.hid hfr
  replace hsz := Lib.hid hsz
  go_enter Tryd.func26, Tryd.ntmps26
  go_wp2
  have h0 : RelWt l0 f0 w (w.heap.size + 1) (.string ⟨l0.toArray⟩) (.int .i64 ((n.size : Int) + 2)) ((w.alloc (.cells #[.string n, .string v] 28)).alloc (.cells #[.pointer none, .slice none 0 0] 69)) :=
    ⟨l0, f0, [], rfl, by rw [hf0.out], hf1, Nat.le_refl _, by simp, by have := hfr.out (.cells #[.string n, .string v] 28); simpa [Lib.byteCells] using this, by (repeat' (first | (with_reducible exact Below.refl _ _) | (with_reducible refine Below.app ?_ ?_ _ _) | (with_reducible refine Below.alloc ?_ ?_ _) | (with_reducible refine Below.drew ?_) | (with_reducible refine Below.setCell ?_ ?_ _) | (with_reducible assumption) | omega | (simp; omega) | (simp; done))), by unfold Hid; rfl⟩
  have hb0 : w.heap.size ≤ w.heap.size + 1 := by omega
  generalize w.heap.size + 1 = b at *
  clear hs0
  go_loopw [3, 4] (fun s f wr => RelWt l0 f0 w b s f wr) (fun s _ _ => match s with | .string s => s.size | _ => 0)
  case atStart => exact h0
  case round =>
    obtain ⟨l, k, out, rfl, rfl, hk, hll, hol, hB, hb, hr⟩ := hrel
    clear h0
    have hszl := hsz.out l
    have hfc := fun w => fold_calls ⟨l.toArray⟩ k (by rw [hszl]; omega) w
    rw [show (⟨l.toArray⟩ : ByteArray).data.toList = l from rfl] at hfc
    have hbd := @foldN_bd l k
    by_cases h0 : foldN l k = 0
    · rw [h0] at hfc
      have hR : Hid (writtenL l0 f0 = out ++ (l ++ [13, 10])) := by unfold Hid; rw [hr.out, writtenL_no h0]
      replace hfc := Lib.hid hfc
      clear hbd h0 hr
      have hst := fun (W : World) (hW : Below wr.heap.size wr W) => Tryd.Builder_String_any b b out W (builder_below hB hW) (by have := hb.size; have := hW.size; have := hB.elim (fun h => h.lt) (fun h => h.lt); omega)
      replace hst := Lib.hid hst
      go_wp2_with first
        | (go_at_call 39; ((refine (hfc.out _).mono ?_); rintro r w1 ⟨rfl, hb1⟩))
        | (go_at_call 41; ((refine (hst.out _ hb1).mono ?_); rintro r w2 ⟨rfl, hb2⟩))
      go_returns
      exact ⟨rs (by rw [hR.out]; apply ByteArray.ext; simp), (hb.trans (hb1.mono hb.size)).trans (hb2.mono hb0)⟩
    · have hR : Hid (writtenL l0 f0 = (out ++ (l.take (foldN l k) ++ [13, 10])) ++ writtenL (l.drop (foldN l k)) 0) := by unfold Hid; rw [hr.out, writtenL_yes h0]; simp only [List.append_assoc]
      have hbd := hbd h0
      generalize foldN l k = F at *
      have hte := take_ext l F
      have hde := drop_ext l F
      have hF0 : ((F : Int) == 0) = false := by rw [beq_eq_false_iff_ne]; omega
      have hcells : Hid (Lib.byteCells out ++ Lib.strCells ((⟨(l.take F).toArray⟩ : ByteArray) ++ ⟨#[13, 10]⟩) = Lib.byteCells (out ++ (l.take F ++ [13, 10]))) := by
        unfold Hid Lib.byteCells Lib.strCells; simp
      have hln : Hid ((Lib.byteCells out).length + ((⟨(l.take F).toArray⟩ : ByteArray) ++ ⟨#[13, 10]⟩).size ≤ 140737488355328) := by
        unfold Hid Lib.byteCells; rw [ByteArray.size_append, hsz.out, List.length_map, List.length_take]; show _ + (_ + 2) ≤ _; omega
      have hwr := fun (W : World) (hW : Below wr.heap.size wr W) => writeString_calls b b (Lib.byteCells out) _ W (builder_below hB hW) hln.out (by have := hb.size; have := hW.size; have := hB.elim (fun h => h.lt) (fun h => h.lt); omega)
      rw [hcells.out] at hwr
      replace hwr := Lib.hid hwr
      replace hfc := Lib.hid hfc
      clear h0 hr hcells hln
      go_wp2_with first
        | (go_at_call 39; ((refine (hfc.out _).mono ?_); rintro r w1 ⟨rfl, hb1⟩))
        | (go_at_call 40; ((refine (hwr.out _ hb1).mono ?_); rintro r w2 ⟨rfl, hB2, hb2⟩))
      go_roundw
      case rel => exact ⟨l.drop F, 0, out ++ (l.take F ++ [13, 10]), rfl, rfl, by omega, by simp; omega, by simp; omega, .inr hB2, (hb.trans (hb1.mono hb.size)).trans (hb2.mono hb0), hR⟩
      case measure => (have h1 := hsz.out l; have h2 := hsz.out (l.drop F); simp only [h1, h2, List.length_drop]; omega)
end Go.Proofs.YtpoaegcaaflogaaDoor
