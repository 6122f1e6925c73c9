/-
  head.Build: the message of fields and a body.
-/
import Derived.Test.YtpoaegcaaflogaaDoorHeadText
import Derived.Test.YtpoaegcaaflogaaDoorOpen
import Derived.Lib.Buffer
import Derived.Laws.IdiomCopy
namespace Go.Proofs.YtpoaegcaaflogaaDoor
open Go.ChangeShapes Go.WideShapes Go.ChangeAt Go.RowKit

theorem writtenL_len : ∀ (m : Nat) (l : List UInt8) (f : Nat), l.length ≤ m → (writtenL l f).length ≤ 2 * l.length + 2
  | 0, l, f, h => by
    by_cases h0 : foldN l f = 0
    · rw [writtenL_no h0]; simp; omega
    · have := foldN_bd h0; omega
  | m + 1, l, f, h => by
    by_cases h0 : foldN l f = 0
    · rw [writtenL_no h0]; simp; omega
    · have hb := foldN_bd h0
      have ih := writtenL_len m (l.drop (foldN l f)) 0 (by simp; omega)
      rw [writtenL_yes h0]
      simp only [List.length_append, List.length_take, List.length_drop, List.length_cons, List.length_nil] at ih ⊢
      omega
abbrev Fld := ByteArray × ByteArray
def fieldL (f : Fld) : List UInt8 := writtenL (f.1.data.toList ++ ([58, 32] ++ f.2.data.toList)) (f.1.size + 2)
def goodQ (f : Fld) : Bool := goodF f.1.data.toList f.2.data.toList
def fieldsL : List Fld → Option (List UInt8)
  | [] => some []
  | f :: r => if goodQ f = true then (fieldsL r).map (fieldL f ++ ·) else none
theorem fieldL_len (f : Fld) : (fieldL f).length ≤ 2 * (f.1.size + f.2.size) + 6 := by
  have h1 := writtenL_len _ (f.1.data.toList ++ ([58, 32] ++ f.2.data.toList)) (f.1.size + 2) (Nat.le_refl _)
  have e1 : f.1.data.toList.length = f.1.size := by simp
  have e2 : f.2.data.toList.length = f.2.size := by simp
  unfold fieldL
  simp only [List.length_append, List.length_cons, List.length_nil, e1, e2] at h1
  omega
def IsField (_ : World) (cs : List Value) (f : Fld) : Prop := cs = [.string f.1, .string f.2]
theorem stays_field : Stays IsField := fun _ h => h
/-- A list of fields in memory. -/
abbrev FieldsAt (w : World) (q : Option Addr) (fs : List Fld) : Prop := Shows w 2 IsField q fs
theorem FieldsAt.cell {w : World} {q : Option Addr} {fs : List Fld} (h : FieldsAt w q fs) {i : Nat} (hi : i < fs.length) :
    ∃ b off, q = some ⟨b, off, none⟩ ∧ b < w.heap.size ∧ w.cell? ⟨b, off + i * 2, none⟩ = some (.string fs[i].1) ∧ w.cell? ⟨b, off + i * 2 + 1, none⟩ = some (.string fs[i].2) := by
  obtain ⟨b, off, cs, h1, h2, h3, h4, h5⟩ := h i hi
  unfold IsField at h5
  subst h5
  exact ⟨b, off, h1, h2, h4 0 (by omega), h4 1 (by omega)⟩
theorem buffer_below {T e : TypeId} {B b : Nat} {bs : List Value} {w w' : World} (h : Lib.IsBuffer T e B b bs w) (hb : Below w.heap.size w w') : Lib.IsBuffer T e B b bs w' := by
  obtain ⟨h1, v, lr, h2, h3, h4⟩ := h
  exact ⟨h1, v, lr, (hb.block b (Array.getElem?_eq_some_iff.1 h2).1).trans h2, own_below h3 hb, h4⟩
theorem one_bytes (l : List UInt8) : ∀ v ∈ Lib.byteCells l, v.oneCell' = true := fun v hv => by
  simp only [Lib.byteCells, List.mem_map] at hv
  obtain ⟨c, _, rfl⟩ := hv; rfl
theorem bytesCells_len (l : List UInt8) : (Lib.byteCells l).length = l.length := by simp [Lib.byteCells]
theorem bytesCells_app (a b : List UInt8) : Lib.byteCells a ++ Lib.byteCells b = Lib.byteCells (a ++ b) := by simp [Lib.byteCells]
theorem buffer_set (w : World) (b : Nat) (c : Array Value) (T : TypeId) (hb : w.heap[b]? = some (.cells c T (0, 0))) (i : Nat) (u : Value) : (w.setCell ⟨b, i, none⟩ u).heap[b]? = some (.cells (c.setIfInBounds i u) T (0, 0)) := by
  simp [World.setCell, Array.getElem?_modify, hb]
theorem own_other {w : World} {B b i : Nat} {e : TypeId} {v u : Value} {n : Nat} {xs : List Value} (h : w.ownsRow B e 1 v n xs) (hne : v.ownBlock ≠ some b) : (w.setCell ⟨b, i, none⟩ u).ownsRow B e 1 v n xs :=
  h.kept (row := some b) ⟨rfl, rfl, rfl, by simp [World.setCell], fun k _ hk => by
    have : b ≠ k := fun e => hk (by rw [e])
    simp [World.setCell, Array.getElem?_modify, this]⟩ (.inr hne)
set_option maxRecDepth 20000 in
set_option maxHeartbeats 4000000 in
/-- nothing is written -/
theorem writeNil_calls (B b : Nat) (bs : List Value) (q : Option Addr) (qc : Nat) (w : World) (h : Lib.IsBuffer 50 5 B b bs w) :
    Calls Tryd.prog 27 #[.pointer (some ⟨b, 0, none⟩), .slice q 0 qc] w fun e w' => e = .returned (.tuple #[.int .i64 0, .nilIface]) ∧ Lib.IsBuffer 50 5 B b bs w' ∧ Below B w w' := by
  obtain ⟨hB, v, lr, hb, hown, hne⟩ := h
  obtain ⟨ao, cap, rfl, hlc, hcm⟩ : ∃ ao cap, v = .slice ao bs.length cap ∧ bs.length ≤ cap ∧ cap ≤ maxLen := by
    rcases hown.2 with ⟨rfl, h0⟩ | ⟨g, cap, cur, rfl, _, _, h1, h2, _⟩
    · exact ⟨none, 0, by rw [h0], by omega, by unfold maxLen; omega⟩
    · exact ⟨_, cap, rfl, h1, h2⟩
  have hlt : b < w.heap.size := (Array.getElem?_eq_some_iff.1 hb).1
  have h1 := buffer_set w b _ _ hb 2 (.int .i8 0)
  have h2 := buffer_set _ b _ _ h1 0 (.slice ao bs.length cap)
  have c0 : (w.setCell ⟨b, 2, none⟩ (.int .i8 0)).cell? ⟨b, 0, none⟩ = some (.slice ao bs.length cap) := by rw [Lib.cell_of_heap h1]; rfl
  have f0 : (w.setCell ⟨b, 2, none⟩ (.int .i8 0)).frozen? ⟨b, 0, none⟩ = false := Lib.frozen_of_heap h1 0
  have k2 : w.cell? ⟨b, 2, none⟩ = some (.int .i8 lr) := by rw [Lib.cell_of_heap hb]; rfl
  have z2 : w.frozen? ⟨b, 2, none⟩ = false := Lib.frozen_of_heap hb 2
  have d0 : ((w.setCell ⟨b, 2, none⟩ (.int .i8 0)).setCell ⟨b, 0, none⟩ (.slice ao bs.length cap)).cell? ⟨b, 0, none⟩ = some (.slice ao bs.length cap) := by rw [Lib.cell_of_heap h2]; rfl
  have ht := Lib.hid (Tryd.Buffer_tryGrow_room b ao bs.length cap 0 _ c0 f0 hlc hcm (by omega))
  have hfin : Lib.IsBuffer 50 5 B b bs ((w.setCell ⟨b, 2, none⟩ (.int .i8 0)).setCell ⟨b, 0, none⟩ (.slice ao bs.length cap)) :=
    ⟨hB, .slice ao bs.length cap, 0, h2, own_other (own_other hown hne) hne, hne⟩
  have hbel : Below B w ((w.setCell ⟨b, 2, none⟩ (.int .i8 0)).setCell ⟨b, 0, none⟩ (.slice ao bs.length cap)) := ((Below.refl B w).setCell (p := ⟨b, 2, none⟩) hB _).setCell (p := ⟨b, 0, none⟩) hB _
  have hx : bs.length ≤ 9223372036854775807 := by unfold maxLen at hcm; omega
  unfold maxLen at hcm
  clear hown h1 h2 c0 f0 hb
  replace hfin := Lib.hid hfin
  generalize bs.length = l at *
  have kn := fun (w : World) (d : Option Addr) (m c : Nat) => run_copy_none (P := Tryd.prog) w 23 23 3 5 d q m c 0 qc Tryd.underlying23 (by kernel_rfl) (Nat.zero_min m)
  go_enter Tryd.func27, Tryd.ntmps27
  go_wp2_with (go_at_call 37; ((refine ht.out.mono ?_); rintro r w1 ⟨rfl, rfl⟩; simp only [Nat.add_zero]))
  all_goals
    go_ret2
    first
      | exact ⟨rfl, hfin.out, hbel⟩
      | (have hh : cap = l := by assumption
         subst hh
         exact ⟨rfl, hfin.out, hbel⟩)
end Go.Proofs.YtpoaegcaaflogaaDoor
