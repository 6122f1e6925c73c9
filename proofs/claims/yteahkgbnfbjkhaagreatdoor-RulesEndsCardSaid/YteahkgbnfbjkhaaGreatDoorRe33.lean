/-
  HeadText, HeadBuild.
-/
import Derived.Test.YteahkgbnfbjkhaaGreatDoorRe32
import Derived.Test.YteahkgbnfbjkhaaGreatDoorRe24
import Derived.Test.YteahkgbnfbjkhaaGreatDoorRe08
import Derived.Test.YteahkgbnfbjkhaaGreatDoorRe02
import Derived.Test.YteahkgbnfbjkhaaGreatDoorRe31
import Derived.Lib.Buffer
import Derived.Laws.IdiomCopy
set_option maxRecDepth 20000
set_option linter.unusedVariables false
set_option linter.unusedSimpArgs false
set_option linter.unusedSectionVars false
namespace Go.Proofs.YteahkgbnfbjkhaaGreatDoor
open Go.ChangeShapes Go.WideShapes Go.ChangeAt Go.RowKit
theorem downQ_le (p : Nat → Bool) : ∀ k, downQ p k ≤ k ∧ (downQ p k ≠ 0 → 2 ≤ downQ p k)
 | 0 => ⟨by simp [downQ], fun h => absurd rfl h⟩
 | 1 => ⟨by simp [downQ], fun h => absurd rfl h⟩
 | k + 2 => by
  have ih := downQ_le p (k + 1)
  rw [downQ]
  split
  · exact ⟨Nat.le_refl _, fun _ => by omega⟩
  · exact ⟨by omega, ih.2⟩
theorem upQ_lt (p : Nat → Bool) (n : Nat) : ∀ m k, n - k ≤ m → upQ p n k ≠ 0 → k ≤ upQ p n k ∧ upQ p n k < n
 | 0, k, h, hne => by rw [upQ_end (by omega)] at hne; exact absurd rfl hne
 | m + 1, k, h, hne => by
  by_cases hk : k < n
  · cases hp : p k
    · rw [upQ_no hk hp] at hne ⊢
      have := upQ_lt p n m (k + 1) (by omega) hne
      omega
    · rw [upQ_yes hk hp]; omega
  · rw [upQ_end hk] at hne; exact absurd rfl hne
theorem foldN_bd {l : List UInt8} {f : Nat} (h : foldN l f ≠ 0) : 2 ≤ foldN l f ∧ foldN l f < l.length := by
 unfold foldN at h ⊢
 by_cases h78 : l.length ≤ 78
 · rw [if_pos h78] at h; exact absurd rfl h
 · rw [if_neg h78] at h ⊢
   by_cases hd : downQ (mayB l f) 78 ≠ 0
   · rw [if_pos hd]
     have := downQ_le (mayB l f) 78
     exact ⟨this.2 hd, by omega⟩
   · rw [if_neg hd] at h ⊢
     have := upQ_lt (mayB l f) l.length _ 79 (Nat.le_refl _) h
     omega
def writtenL (l : List UInt8) (f : Nat) : List UInt8 :=
 if h : foldN l f = 0 then l ++ [13, 10] else (l.take (foldN l f) ++ [13, 10]) ++ writtenL (l.drop (foldN l f)) 0
termination_by l.length
decreasing_by
 have := foldN_bd h
 simp; omega
theorem writtenL_no {l : List UInt8} {f : Nat} (h : foldN l f = 0) : writtenL l f = l ++ [13, 10] := by rw [writtenL, dif_pos h]
theorem writtenL_yes {l : List UInt8} {f : Nat} (h : foldN l f ≠ 0) : writtenL l f = (l.take (foldN l f) ++ [13, 10]) ++ writtenL (l.drop (foldN l f)) 0 := by rw [writtenL, dif_neg h]
theorem builder_below {T e : TypeId} {B b : Nat} {bs : List Value} {w w' : World} (h : Lib.IsBuilder T e B b bs w) (hb : Below w.heap.size w w') : Lib.IsBuilder T e B b bs w' := by
 rcases h with ⟨h1, v, h2, h3, h4⟩ | ⟨h1, v, h2, h3, h4⟩
 · exact .inl ⟨h1, v, (hb.block b (Array.getElem?_eq_some_iff.1 h2).1).trans h2, own_below h3 hb, h4⟩
 · exact .inr ⟨h1, v, (hb.block b (Array.getElem?_eq_some_iff.1 h2).1).trans h2, own_below h3 hb, h4⟩
theorem take_ext (l : List UInt8) (k : Nat) : (⟨l.toArray⟩ : ByteArray).extract 0 k = ⟨(l.take k).toArray⟩ := by
 apply ByteArray.ext
 simp only [ByteArray.data_extract]
 apply Array.ext'
 rw [Array.toList_extract]
 simp
theorem drop_ext (l : List UInt8) (k : Nat) : (⟨l.toArray⟩ : ByteArray).extract k l.length = ⟨(l.drop k).toArray⟩ := by
 apply ByteArray.ext
 simp only [ByteArray.data_extract]
 apply Array.ext'
 rw [Array.toList_extract]
 simp [List.take_of_length_le]
def RelWt (l0 : List UInt8) (f0 : Nat) (w : World) (b : Nat) (s f : Value) (wr : World) : Prop := ∃ (l : List UInt8) (k : Nat) (out : List UInt8),
 s = .string ⟨l.toArray⟩ ∧ f = .int .i64 k ∧ k ≤ 100000000 ∧ l.length ≤ l0.length ∧ out.length ≤ 2 * (l0.length - l.length) ∧ Lib.IsBuilder 164 5 b b (Lib.byteCells out) wr ∧ Below w.heap.size w wr ∧ Hid (writtenL l0 f0 = out ++ writtenL l k)
set_option maxRecDepth 20000 in
set_option maxHeartbeats 8000000 in
theorem hwritten_calls (n v : ByteArray) (hn : n.size ≤ 10000000) (hv : v.size ≤ 10000000) (w : World) : Calls Tryz.prog 128 #[.agg #[.string n, .string v]] w fun r w' => r = .returned (.string ⟨(writtenL (n.data.toList ++ ([58, 32] ++ v.data.toList)) (n.size + 2)).toArray⟩) ∧ Below w.heap.size w w' := by
 have hl0 : (n.data.toList ++ ([58, 32] ++ v.data.toList)).length ≤ 30000000 := by simp; omega
 have hs0 : n ++ ⟨#[58, 32]⟩ ++ v = ⟨(n.data.toList ++ ([58, 32] ++ v.data.toList)).toArray⟩ := by apply ByteArray.ext; simp
 have hfr := fun o : Obj => Lib.fresh_isBuilder 164 5 (w.alloc o)
 have hsz : ∀ l : List UInt8, (⟨l.toArray⟩ : ByteArray).size = l.length := fun l => by show l.toArray.size = _; simp
 generalize hL : n.data.toList ++ ([58, 32] ++ v.data.toList) = l0 at *
 clear hL
 have hf0 : ((n.size + 2 : Nat) : Int) = (n.size : Int) + 2 := by omega
 have hf1 : n.size + 2 ≤ 100000000 := by omega
 generalize n.size + 2 = f0 at *
 replace hf0 := Lib.hid hf0
 replace hfr := Lib.hid hfr
 replace hsz := Lib.hid hsz
 go_enter Tryz.func128, Tryz.ntmps128
 go_wp2
 have h0 : RelWt l0 f0 w (w.heap.size + 1) (.string ⟨l0.toArray⟩) (.int .i64 ((n.size : Int) + 2)) ((w.alloc (.cells #[.string n, .string v] 103)).alloc (.cells #[.pointer none, .slice none 0 0] 164)) :=
  ⟨l0, f0, [], rfl, by rw [hf0.out], hf1, Nat.le_refl _, by simp, by have := hfr.out (.cells #[.string n, .string v] 103); simpa [Lib.byteCells] using this, by (repeat' (first | (with_reducible exact Below.refl _ _) | (with_reducible refine Below.app ?_ ?_ _ _) | (with_reducible refine Below.alloc ?_ ?_ _) | (with_reducible refine Below.drew ?_) | (with_reducible refine Below.setCell ?_ ?_ _) | (with_reducible assumption) | omega | (simp; omega) | (simp; done))), by unfold Hid; rfl⟩
 have hb0 : w.heap.size ≤ w.heap.size + 1 := by omega
 generalize w.heap.size + 1 = b at *
 clear hs0
 go_loopw [3, 4] (fun s f wr => RelWt l0 f0 w b s f wr) (fun s _ _ => match s with | .string s => s.size | _ => 0)
 case atStart => exact h0
 case round =>
  obtain ⟨l, k, out, rfl, rfl, hk, hll, hol, hB, hb, hr⟩ := hrel
  clear h0
  have hszl := hsz.out l
  have hfc := fun w => fold_calls ⟨l.toArray⟩ k (by rw [hszl]; omega) w
  rw [show (⟨l.toArray⟩ : ByteArray).data.toList = l from rfl] at hfc
  have hbd := @foldN_bd l k
  by_cases h0 : foldN l k = 0
  · rw [h0] at hfc
    have hR : Hid (writtenL l0 f0 = out ++ (l ++ [13, 10])) := by unfold Hid; rw [hr.out, writtenL_no h0]
    replace hfc := Lib.hid hfc
    clear hbd h0 hr
    have hst := fun (W : World) (hW : Below wr.heap.size wr W) => Tryz.Builder_String_any b b out W (builder_below hB hW) (by have := hb.size; have := hW.size; have := hB.elim (fun h => h.lt) (fun h => h.lt); omega)
    replace hst := Lib.hid hst
    go_wp2_with first
     | (go_at_call 178; ((refine (hfc.out _).mono ?_); rintro r w1 ⟨rfl, hb1⟩))
     | (go_at_call 125; ((refine (hst.out _ hb1).mono ?_); rintro r w2 ⟨rfl, hb2⟩))
    go_returns
    exact ⟨rs (by rw [hR.out]; apply ByteArray.ext; simp), (hb.trans (hb1.mono hb.size)).trans (hb2.mono hb0)⟩
  · have hR : Hid (writtenL l0 f0 = (out ++ (l.take (foldN l k) ++ [13, 10])) ++ writtenL (l.drop (foldN l k)) 0) := by unfold Hid; rw [hr.out, writtenL_yes h0]; simp only [List.append_assoc]
    have hbd := hbd h0
    generalize foldN l k = F at *
    have hte := take_ext l F
    have hde := drop_ext l F
    have hF0 : ((F : Int) == 0) = false := by rw [beq_eq_false_iff_ne]; omega
    have hcells : Hid (Lib.byteCells out ++ Lib.strCells ((⟨(l.take F).toArray⟩ : ByteArray) ++ ⟨#[13, 10]⟩) = Lib.byteCells (out ++ (l.take F ++ [13, 10]))) := by
     unfold Hid Lib.byteCells Lib.strCells; simp
    have hln : Hid ((Lib.byteCells out).length + ((⟨(l.take F).toArray⟩ : ByteArray) ++ ⟨#[13, 10]⟩).size ≤ 140737488355328) := by
     unfold Hid Lib.byteCells; rw [ByteArray.size_append, hsz.out, List.length_map, List.length_take]; show _ + (_ + 2) ≤ _; omega
    have hwr := fun (W : World) (hW : Below wr.heap.size wr W) => writeString_calls b b (Lib.byteCells out) _ W (builder_below hB hW) hln.out (by have := hb.size; have := hW.size; have := hB.elim (fun h => h.lt) (fun h => h.lt); omega)
    rw [hcells.out] at hwr
    replace hwr := Lib.hid hwr
    replace hfc := Lib.hid hfc
    clear h0 hr hcells hln
    go_wp2_with first
     | (go_at_call 178; ((refine (hfc.out _).mono ?_); rintro r w1 ⟨rfl, hb1⟩))
     | (go_at_call 124; ((refine (hwr.out _ hb1).mono ?_); rintro r w2 ⟨rfl, hB2, hb2⟩))
    go_roundw
    case rel => exact ⟨l.drop F, 0, out ++ (l.take F ++ [13, 10]), rfl, rfl, by omega, by simp; omega, by simp; omega, .inr hB2, (hb.trans (hb1.mono hb.size)).trans (hb2.mono hb0), hR⟩
    case measure => (have h1 := hsz.out l; have h2 := hsz.out (l.drop F); simp only [h1, h2, List.length_drop]; omega)
end Go.Proofs.YteahkgbnfbjkhaaGreatDoor
set_option maxRecDepth 20000
set_option linter.unusedVariables false
set_option linter.unusedSimpArgs false
set_option linter.unusedSectionVars false
namespace Go.Proofs.YteahkgbnfbjkhaaGreatDoor
open Go.ChangeShapes Go.WideShapes Go.ChangeAt Go.RowKit
theorem writtenL_len : ∀ (m : Nat) (l : List UInt8) (f : Nat), l.length ≤ m → (writtenL l f).length ≤ 2 * l.length + 2
 | 0, l, f, h => by
  by_cases h0 : foldN l f = 0
  · rw [writtenL_no h0]; simp; omega
  · have := foldN_bd h0; omega
 | m + 1, l, f, h => by
  by_cases h0 : foldN l f = 0
  · rw [writtenL_no h0]; simp; omega
  · have hb := foldN_bd h0
    have ih := writtenL_len m (l.drop (foldN l f)) 0 (by simp; omega)
    rw [writtenL_yes h0]
    simp only [List.length_append, List.length_take, List.length_drop, List.length_cons, List.length_nil] at ih ⊢
    omega
abbrev Fld := ByteArray × ByteArray
def fieldL (f : Fld) : List UInt8 := writtenL (f.1.data.toList ++ ([58, 32] ++ f.2.data.toList)) (f.1.size + 2)
def goodQ (f : Fld) : Bool := goodF f.1.data.toList f.2.data.toList
def fieldsL : List Fld → Option (List UInt8)
 | [] => some []
 | f :: r => if goodQ f = true then (fieldsL r).map (fieldL f ++ ·) else none
theorem fieldL_len (f : Fld) : (fieldL f).length ≤ 2 * (f.1.size + f.2.size) + 6 := by
 have h1 := writtenL_len _ (f.1.data.toList ++ ([58, 32] ++ f.2.data.toList)) (f.1.size + 2) (Nat.le_refl _)
 have e1 : f.1.data.toList.length = f.1.size := by simp
 have e2 : f.2.data.toList.length = f.2.size := by simp
 unfold fieldL
 simp only [List.length_append, List.length_cons, List.length_nil, e1, e2] at h1
 omega
def IsField (_ : World) (cs : List Value) (f : Fld) : Prop := cs = [.string f.1, .string f.2]
theorem stays_field : Stays IsField := fun _ h => h
abbrev FieldsAt (w : World) (q : Option Addr) (fs : List Fld) : Prop := Shows w 2 IsField q fs
theorem FieldsAt.cell {w : World} {q : Option Addr} {fs : List Fld} (h : FieldsAt w q fs) {i : Nat} (hi : i < fs.length) :
 ∃ b off, q = some ⟨b, off, none⟩ ∧ b < w.heap.size ∧ w.cell? ⟨b, off + i * 2, none⟩ = some (.string fs[i].1) ∧ w.cell? ⟨b, off + i * 2 + 1, none⟩ = some (.string fs[i].2) := by
 obtain ⟨b, off, cs, h1, h2, h3, h4, h5⟩ := h i hi
 unfold IsField at h5
 subst h5
 exact ⟨b, off, h1, h2, h4 0 (by omega), h4 1 (by omega)⟩
theorem buffer_set (w : World) (b : Nat) (c : Array Value) (T : TypeId) (hb : w.heap[b]? = some (.cells c T (0, 0))) (i : Nat) (u : Value) : (w.setCell ⟨b, i, none⟩ u).heap[b]? = some (.cells (c.setIfInBounds i u) T (0, 0)) := by
 simp [World.setCell, Array.getElem?_modify, hb]
theorem own_other {w : World} {B b i : Nat} {e : TypeId} {v u : Value} {n : Nat} {xs : List Value} (h : w.ownsRow B e 1 v n xs) (hne : v.ownBlock ≠ some b) : (w.setCell ⟨b, i, none⟩ u).ownsRow B e 1 v n xs :=
 h.kept (row := some b) ⟨rfl, rfl, rfl, by simp [World.setCell], fun k _ hk => by
  have : b ≠ k := fun e => hk (by rw [e])
  simp [World.setCell, Array.getElem?_modify, this]⟩ (.inr hne)
set_option maxRecDepth 20000 in
set_option maxHeartbeats 4000000 in
theorem writeNil_calls (B b : Nat) (bs : List Value) (q : Option Addr) (qc : Nat) (w : World) (h : Lib.IsBuffer 107 5 B b bs w) :
    Calls Tryz.prog 60 #[.pointer (some ⟨b, 0, none⟩), .slice q 0 qc] w fun e w' => e = .returned (.tuple #[.int .i64 0, .nilIface]) ∧ Lib.IsBuffer 107 5 B b bs w' ∧ Below B w w' := by
  obtain ⟨hB, v, lr, hb, hown, hne⟩ := h
  obtain ⟨ao, cap, rfl, hlc, hcm⟩ : ∃ ao cap, v = .slice ao bs.length cap ∧ bs.length ≤ cap ∧ cap ≤ maxLen := by
    rcases hown.2 with ⟨rfl, h0⟩ | ⟨g, cap, cur, rfl, _, _, h1, h2, _⟩
    · exact ⟨none, 0, by rw [h0], by omega, by unfold maxLen; omega⟩
    · exact ⟨_, cap, rfl, h1, h2⟩
  have hlt : b < w.heap.size := (Array.getElem?_eq_some_iff.1 hb).1
  have h1 := buffer_set w b _ _ hb 2 (.int .i8 0)
  have h2 := buffer_set _ b _ _ h1 0 (.slice ao bs.length cap)
  have c0 : (w.setCell ⟨b, 2, none⟩ (.int .i8 0)).cell? ⟨b, 0, none⟩ = some (.slice ao bs.length cap) := by rw [Lib.cell_of_heap h1]; rfl
  have f0 : (w.setCell ⟨b, 2, none⟩ (.int .i8 0)).frozen? ⟨b, 0, none⟩ = false := Lib.frozen_of_heap h1 0
  have k2 : w.cell? ⟨b, 2, none⟩ = some (.int .i8 lr) := by rw [Lib.cell_of_heap hb]; rfl
  have z2 : w.frozen? ⟨b, 2, none⟩ = false := Lib.frozen_of_heap hb 2
  have d0 : ((w.setCell ⟨b, 2, none⟩ (.int .i8 0)).setCell ⟨b, 0, none⟩ (.slice ao bs.length cap)).cell? ⟨b, 0, none⟩ = some (.slice ao bs.length cap) := by rw [Lib.cell_of_heap h2]; rfl
  have ht := Lib.hid (Tryz.Buffer_tryGrow_room b ao bs.length cap 0 _ c0 f0 hlc hcm (by omega))
  have hfin : Lib.IsBuffer 107 5 B b bs ((w.setCell ⟨b, 2, none⟩ (.int .i8 0)).setCell ⟨b, 0, none⟩ (.slice ao bs.length cap)) :=
    ⟨hB, .slice ao bs.length cap, 0, h2, own_other (own_other hown hne) hne, hne⟩
  have hbel : Below B w ((w.setCell ⟨b, 2, none⟩ (.int .i8 0)).setCell ⟨b, 0, none⟩ (.slice ao bs.length cap)) := ((Below.refl B w).setCell (p := ⟨b, 2, none⟩) hB _).setCell (p := ⟨b, 0, none⟩) hB _
  have hx : bs.length ≤ 9223372036854775807 := by unfold maxLen at hcm; omega
  unfold maxLen at hcm
  clear hown h1 h2 c0 f0 hb
  replace hfin := Lib.hid hfin
  generalize bs.length = l at *
  have kn := fun (w : World) (d : Option Addr) (m c : Nat) => run_copy_none (P := Tryz.prog) w 29 29 3 5 d q m c 0 qc Tryz.underlying29 (by kernel_rfl) (Nat.zero_min m)
  go_enter Tryz.func60, Tryz.ntmps60
  go_wp2_with (go_at_call 121; ((refine ht.out.mono ?_); rintro r w1 ⟨rfl, rfl⟩; simp only [Nat.add_zero]))
  all_goals
    go_ret2
    first
      | exact ⟨rfl, hfin.out, hbel⟩
      | (have hh : cap = l := by assumption
         subst hh
         exact ⟨rfl, hfin.out, hbel⟩)
end Go.Proofs.YteahkgbnfbjkhaaGreatDoor
