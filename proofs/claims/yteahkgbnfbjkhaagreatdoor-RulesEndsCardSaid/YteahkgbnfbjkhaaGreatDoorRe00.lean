/-
  Base, Row, Row2.
-/
import Derived.WalkKit
import Derived.ProofKit
import Derived.Handy
import Derived.Lib.Hide
import Derived.Deep.Light
import Derived.WalkLawsBesides
import Derived.WalkSpells
import Derived.Deep.RegionHeld3
import Derived.Test.YteahkgbnfbjkhaaGreatDoorRows
import Derived.HandedShaped
import Derived.Shelf.Vars
set_option maxRecDepth 20000
set_option linter.unusedVariables false
set_option linter.unusedSimpArgs false
set_option linter.unusedSectionVars false
namespace Go.Proofs.YteahkgbnfbjkhaaGreatDoor
open Go.ChangeShapes Go.WideShapes Go.ChangeAt Go.RowKit
theorem rb {a b : Bool} (h : a = b) : Ending.returned (.bool a) = .returned (.bool b) := by rw [h]
theorem ri {k : IntKind} {a b : Int} (h : a = b) : Ending.returned (.int k a) = .returned (.int k b) := by rw [h]
theorem rs {a b : ByteArray} (h : a = b) : Ending.returned (.string a) = .returned (.string b) := by rw [h]
theorem rbT {P : Prop} [Decidable P] (h : P) : Ending.returned (.bool true) = .returned (.bool (decide P)) := by rw [decide_eq_true h]
theorem rbF {P : Prop} [Decidable P] (h : ¬ P) : Ending.returned (.bool false) = .returned (.bool (decide P)) := by rw [decide_eq_false h]
theorem drop_step {α} (d : α) (l : List α) (k : Nat) (h : k < l.length) : l.drop k = l.getD k d :: l.drop (k+1) := by
 rw [List.drop_eq_getElem_cons h]; simp [List.getD, h]
def IntsAt (w : World) (p : Option Addr) (zs : List Int) : Prop := ∀ i, i < zs.length → ∃ b off, p = some ⟨b, off, none⟩ ∧ b < w.heap.size ∧ w.cell? ⟨b, off + i, none⟩ = some (.int .i64 (zs.getD i 0))
theorem IntsAt.below {B : Nat} {w w' : World} {p : Option Addr} {zs : List Int} (h : IntsAt w p zs) (hb : Below B w w') (hB : w.heap.size ≤ B) : IntsAt w' p zs := fun i hi => by
 obtain ⟨b, off, h1, h2, h3⟩ := h i hi
 exact ⟨b, off, h1, by have := hb.size; omega, (hb.cell (p := ⟨b, off + i, none⟩) (by show b < B; omega)).trans h3⟩
def app (w : World) (bs : Array Obj) (d : Nat) : World := { w with heap := w.heap ++ bs, drawn := d }
theorem app_heap (w : World) (bs : Array Obj) (d k : Nat) (h : k < w.heap.size) : (app w bs d).heap[k]? = w.heap[k]? := by
 show (w.heap ++ bs)[k]? = _
 rw [Array.getElem?_append_left h]
theorem app_size (w : World) (bs : Array Obj) (d : Nat) : (app w bs d).heap.size = w.heap.size + bs.size := by show (w.heap ++ bs).size = _; simp
theorem app_cell (w : World) (bs : Array Obj) (d k i : Nat) (h : k < w.heap.size) : (app w bs d).cell? ⟨k, i, none⟩ = w.cell? ⟨k, i, none⟩ := World.cell?_of_block (w := w) (app_heap w bs d k h)
theorem app_frozen (w : World) (bs : Array Obj) (d k i : Nat) (h : k < w.heap.size) : (app w bs d).frozen? ⟨k, i, none⟩ = w.frozen? ⟨k, i, none⟩ := World.frozen?_of_block (w := w) (app_heap w bs d k h)
theorem app_setCell (w : World) (bs : Array Obj) (d k i : Nat) (v : Value) (h : k < w.heap.size) : (app w bs d).setCell ⟨k, i, none⟩ v = app (w.setCell ⟨k, i, none⟩ v) bs d := by
 simp only [World.setCell, app]
 congr 1
 apply Array.ext_getElem?
 intro j
 simp only [Array.getElem?_modify, Array.getElem?_append, Array.size_modify]
 split <;> split <;> simp_all
theorem app_drew (w : World) (bs : Array Obj) (d : Nat) : (app w bs d).drew = app w bs (d + 1) := rfl
theorem drew_app (w : World) (bs : Array Obj) (d : Nat) : app w.drew bs d = app w bs d := rfl
theorem app_app (w : World) (cs bs : Array Obj) (d e : Nat) : app (app w cs d) bs e = app w (cs ++ bs) e := by simp [app, Array.append_assoc]
theorem lt_own1 (a x1 : Nat) : a < a + 1 + x1 := by omega
theorem lt_old1 (b a x1 : Nat) (h : b < a) : b < a + x1 := by omega
theorem lt_own2 (a x1 x2 : Nat) : a < a + 1 + x1 + x2 := by omega
theorem lt_old2 (b a x1 x2 : Nat) (h : b < a) : b < a + x1 + x2 := by omega
theorem lt_own3 (a x1 x2 x3 : Nat) : a < a + 1 + x1 + x2 + x3 := by omega
theorem lt_old3 (b a x1 x2 x3 : Nat) (h : b < a) : b < a + x1 + x2 + x3 := by omega
theorem lt_own4 (a x1 x2 x3 x4 : Nat) : a < a + 1 + x1 + x2 + x3 + x4 := by omega
theorem lt_old4 (b a x1 x2 x3 x4 : Nat) (h : b < a) : b < a + x1 + x2 + x3 + x4 := by omega
theorem lt_own5 (a x1 x2 x3 x4 x5 : Nat) : a < a + 1 + x1 + x2 + x3 + x4 + x5 := by omega
theorem lt_old5 (b a x1 x2 x3 x4 x5 : Nat) (h : b < a) : b < a + x1 + x2 + x3 + x4 + x5 := by omega
theorem lt_own6 (a x1 x2 x3 x4 x5 x6 : Nat) : a < a + 1 + x1 + x2 + x3 + x4 + x5 + x6 := by omega
theorem lt_old6 (b a x1 x2 x3 x4 x5 x6 : Nat) (h : b < a) : b < a + x1 + x2 + x3 + x4 + x5 + x6 := by omega
theorem lt_own7 (a x1 x2 x3 x4 x5 x6 x7 : Nat) : a < a + 1 + x1 + x2 + x3 + x4 + x5 + x6 + x7 := by omega
theorem lt_old7 (b a x1 x2 x3 x4 x5 x6 x7 : Nat) (h : b < a) : b < a + x1 + x2 + x3 + x4 + x5 + x6 + x7 := by omega
theorem lt_own8 (a x1 x2 x3 x4 x5 x6 x7 x8 : Nat) : a < a + 1 + x1 + x2 + x3 + x4 + x5 + x6 + x7 + x8 := by omega
theorem lt_old8 (b a x1 x2 x3 x4 x5 x6 x7 x8 : Nat) (h : b < a) : b < a + x1 + x2 + x3 + x4 + x5 + x6 + x7 + x8 := by omega
theorem lt_own9 (a x1 x2 x3 x4 x5 x6 x7 x8 x9 : Nat) : a < a + 1 + x1 + x2 + x3 + x4 + x5 + x6 + x7 + x8 + x9 := by omega
theorem lt_old9 (b a x1 x2 x3 x4 x5 x6 x7 x8 x9 : Nat) (h : b < a) : b < a + x1 + x2 + x3 + x4 + x5 + x6 + x7 + x8 + x9 := by omega
theorem lt_own10 (a x1 x2 x3 x4 x5 x6 x7 x8 x9 x10 : Nat) : a < a + 1 + x1 + x2 + x3 + x4 + x5 + x6 + x7 + x8 + x9 + x10 := by omega
theorem lt_old10 (b a x1 x2 x3 x4 x5 x6 x7 x8 x9 x10 : Nat) (h : b < a) : b < a + x1 + x2 + x3 + x4 + x5 + x6 + x7 + x8 + x9 + x10 := by omega
theorem of_below {w w1 : World} (h : Below w.heap.size w w1) : ∃ bs d, w1 = app w bs d := by
 refine ⟨w1.heap.extract w.heap.size w1.heap.size, w1.drawn, ?_⟩
 have hs := h.size
 have he : w1.heap = w.heap ++ w1.heap.extract w.heap.size w1.heap.size := by
  apply Array.ext_getElem?
  intro j
  rcases Nat.lt_or_ge j w.heap.size with hj | hj
  · rw [h.block j hj, Array.getElem?_append_left hj]
  · rw [Array.getElem?_append_right hj, Array.getElem?_extract]
    split
    · congr 1; omega
    · exact Array.getElem?_eq_none (by omega)
 obtain ⟨hp, tp, dr, os, out⟩ := w1
 have h1 := h.os; have h2 := h.tape; have h3 := h.output
 simp only at h1 h2 h3 he ⊢
 subst h1; subst h2; subst h3
 simp only [app]
 congr 1
theorem _root_.Go.RowKit.Below.app {B : Nat} {a w : World} (h : Below B a w) (hB : B ≤ w.heap.size) (bs : Array Obj) (d : Nat) : Below B a (app w bs d) :=
 h.trans ⟨rfl, rfl, rfl, by rw [app_size]; omega, fun k hk => app_heap _ _ _ _ (by omega)⟩
attribute [simp] app_size
attribute [go_sem] app_size app_cell app_frozen app_setCell app_drew drew_app app_app
attribute [go_sem] lt_own1 lt_old1 lt_own2 lt_old2 lt_own3 lt_old3 lt_own4 lt_old4 lt_own5 lt_old5 lt_own6 lt_old6 lt_own7 lt_old7 lt_own8 lt_old8 lt_own9 lt_old9 lt_own10 lt_old10
theorem app_cell_new {w v : World} {bs : Array Obj} {d e k i : Nat} (hs : w.heap.size = v.heap.size) (h : w.heap.size ≤ k) : (app w bs d).cell? ⟨k, i, none⟩ = (app v bs e).cell? ⟨k, i, none⟩ := by
 refine World.cell?_of_block (w := app v bs e) ?_
 show (w.heap ++ bs)[k]? = (v.heap ++ bs)[k]?
 rw [Array.getElem?_append_right h, Array.getElem?_append_right (by omega), hs]
theorem app_nil (w : World) : app w #[] w.drawn = w := by simp [app]
def Ext (w w' : World) : Prop := ∃ bs d, w' = app w bs d
theorem ext_of {w w' : World} (h : Below w.heap.size w w') : Ext w w' := of_below h
theorem bcell {W w1 : World} (hb : Below W.heap.size W w1) : (∀ b o, b < W.heap.size → w1.cell? ⟨b, o, none⟩ = W.cell? ⟨b, o, none⟩) ∧ (∀ b o, b < W.heap.size → w1.frozen? ⟨b, o, none⟩ = W.frozen? ⟨b, o, none⟩) :=
 ⟨fun b o h => hb.cell (p := ⟨b, o, none⟩) h, fun b o h => hb.frozen (p := ⟨b, o, none⟩) h⟩
theorem bthen {w0 w w1 : World} (hb : Below w.heap.size w w1) (h : Below w0.heap.size w0 w) : Below w0.heap.size w0 w1 := h.trans (hb.mono h.size)
section
variable {H : Type} {enc : TypeId × Value → H} {P : Program}
theorem post_of_below {f : Func} {s : ChangeSpec} {apart fresh handsOn again : Bool} {W W' : World} {args : Array Value} {v : Value} {ds gs : List (DataW H)} {before pa pv : List MemPlace}
 (hW : DataW.Whole enc P f.params.toList s.vars apart W args.toList ds gs before)
 (hres : ∀ (b : Nat) (sp : Nat → Bool) (hd : Bool), DataW.TrodAll enc P W' b sp hd f.resultTypes.toList (v.resultList f.resultTypes.size) (s.fn H (ds ++ gs)).results [])
 (hargs : ∀ sp : Nat → Bool, (∀ p ∈ before, sp p.block = true) → DataW.TrodAll enc P W' 0 sp true f.params.toList args.toList (s.fn H (ds ++ gs)).args pa)
 (hvars : ∀ sp : Nat → Bool, (∀ p ∈ before, sp p.block = true) → DataW.TrodVars enc P W' sp s.vars (s.fn H (ds ++ gs)).vars pv)
 (hps : before = pa ++ pv) (hb : Below W.heap.size W W')
 (hok : ∀ (j : Nat) (t : TypeId) (r : Value), f.resultTypes[j]? = some t → (v.resultList f.resultTypes.size)[j]? = some r → Value.okWide P W' .any 0 t r) :
 s.post enc P f apart fresh handsOn again W args v W' := by
 have hlt : ∀ p ∈ before, p.block < W.heap.size := fun p hp => hW.lt p hp
 have hold : ∀ p ∈ before, (fun b => decide (b < W.heap.size)) p.block = true := fun p hp => by simpa using hlt p hp
 refine ⟨ds, gs, before, [], pa, pv, hW, hres _ _ _, hargs _ hold, hvars _ hold, World.keptBut_mono (fun p hp => ⟨hp, ?_⟩) (hb.frame (· ∈ before)), fun _ => ?_⟩
 · rw [hps, List.mem_append] at hp
   exact Or.inr hp
 · obtain ⟨_, _, _, _, _, hz, hn⟩ := hW
   refine ⟨hok, _, _, ([] ++ pa) ++ pv, ⟨[] ++ pa, pv, trodAll_append (hargs _ (fun _ _ => rfl)) (hres _ _ _), hvars _ (fun _ _ => rfl), rfl, ?_, ?_⟩, ?_⟩
   · intro b off hp
     have hin : MemPlace.cell b off ∈ before := by rw [hps]; simpa using hp
     rw [hb.frozen (hlt _ hin)]
     exact hz b off hin
   · intro ha
     have := hn ha
     rw [hps] at this
     simpa using this
   · intro p hp _
     rw [hps]
     simpa using hp
end
end Go.Proofs.YteahkgbnfbjkhaaGreatDoor
set_option maxRecDepth 20000
set_option linter.unusedVariables false
set_option linter.unusedSimpArgs false
set_option linter.unusedSectionVars false
namespace Go.Proofs.YteahkgbnfbjkhaaGreatDoor
open Go.ChangeShapes Go.WideShapes Go.ChangeAt Go.RowKit
theorem own : ownKnob Tryz.prog.godebug = none := by kernel_rfl
theorem laid : laidOutB Tryz.prog = true := by kernel_rfl
theorem boolT : Tryz.prog.underlying 4 = some .bool := by kernel_rfl
section
variable {H : Type} {enc : TypeId × Value → H} {P : Program} {W W' : World}
theorem trodAll_below (hl : laidOutB P = true) (hb : Below W.heap.size W W') {sp : Nat → Bool} : ∀ {ts : List TypeId} {vs : List Value} {ds : List (DataW H)} {ps : List MemPlace},
 (ts.all fun t => P.readableRec t && decide (t < P.types.size)) = true → DataW.TrodAll enc P W 0 (fun _ => true) true ts vs ds ps → (∀ x ∈ ps, x.block < W.heap.size) → (∀ x ∈ ps, sp x.block = true) →
 DataW.TrodAll enc P W' 0 sp true ts vs ds ps
 | [], [], [], _, _, h, _, _ => h
 | t :: ts, v :: vs, d :: ds, ps, hr, h, hlt, hsp => by
  obtain ⟨p, q, h1, h2, rfl⟩ := h
  simp only [List.all_cons, Bool.and_eq_true, decide_eq_true_eq] at hr
  exact ⟨p, q, WideElems.Trod_stays hl hr.1.1 hr.1.2 h1 (fun x hx => hb.same (hlt x (by simp [hx]))) (fun x hx => hsp x (by simp [hx])),
   trodAll_below hl hb hr.2 h2 (fun x hx => hlt x (by simp [hx])) (fun x hx => hsp x (by simp [hx])), rfl⟩
 | [], _ :: _, _, _, _, h, _, _ => h.elim
 | [], [], _ :: _, _, _, h, _, _ => h.elim
 | _ :: _, [], _, _, _, h, _, _ => h.elim
 | _ :: _, _ :: _, [], _, _, h, _, _ => h.elim
theorem trodAll_length {base : Nat} {spare : Nat → Bool} {held : Bool} : ∀ {ts : List TypeId} {vs : List Value} {ds : List (DataW H)} {ps : List MemPlace},
 DataW.TrodAll enc P W base spare held ts vs ds ps → ds.length = ts.length
 | [], [], [], _, _ => rfl
 | t :: ts, v :: vs, d :: ds, ps, h => by
  obtain ⟨p, q, h1, h2, rfl⟩ := h
  simp [trodAll_length h2]
 | [], _ :: _, _, _, h => h.elim
 | [], [], _ :: _, _, h => h.elim
 | _ :: _, [], _, _, h => h.elim
 | _ :: _, _ :: _, [], _, h => h.elim
end
end Go.Proofs.YteahkgbnfbjkhaaGreatDoor
set_option maxRecDepth 20000
set_option linter.unusedVariables false
set_option linter.unusedSimpArgs false
set_option linter.unusedSectionVars false
namespace Go.Proofs.YteahkgbnfbjkhaaGreatDoor
open Go.ChangeShapes Go.WideShapes Go.ChangeAt Go.RowKit
def MaxLenAt (w : World) : Prop := ∃ m, w.cell? ⟨0, 0, none⟩ = some (.int .i64 m)
theorem MaxLenAt.of {W : World} (h : W.ShapedOpen Tryz.prog) : MaxLenAt W :=
 cell_of_shapedOpen_int (t := 3) (zero := #[.int .i64 0]) h (of_decide_eq_true (by kernel_rfl)) (by kernel_rfl) rfl (by kernel_rfl) (by kernel_rfl) (by kernel_rfl)
theorem MaxLenAt.below {w w' : World} (h : MaxLenAt w) (hb : Below w.heap.size w w') : MaxLenAt w' := by
 obtain ⟨m, hm⟩ := h
 exact ⟨m, (hb.cell (p := ⟨0, 0, none⟩) (World.block_lt_of_cell? w _ hm)).trans hm⟩
end Go.Proofs.YteahkgbnfbjkhaaGreatDoor
