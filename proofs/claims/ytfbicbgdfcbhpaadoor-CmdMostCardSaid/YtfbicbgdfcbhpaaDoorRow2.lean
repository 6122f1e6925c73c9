/-
  As Row, for laws whose code reads a variable of the library's own (bytes.Count, bytes.Index: internal/bytealg.MaxLen).
-/
import Derived.Test.YtfbicbgdfcbhpaaDoorRow
import Derived.HandedShaped
import Derived.Shelf.Vars
set_option maxRecDepth 20000
set_option linter.unusedVariables false
set_option linter.unusedSimpArgs false
set_option linter.unusedSectionVars false
namespace Go.Proofs.YtfbicbgdfcbhpaaDoor
open Go.ChangeShapes Go.WideShapes Go.ChangeAt Go.RowKit

def MaxLenAt (w : World) : Prop := ∃ m, w.cell? ⟨0, 0, none⟩ = some (.int .i64 m)
theorem MaxLenAt.of {W : World} (h : W.ShapedOpen Tryd.prog) : MaxLenAt W :=
  cell_of_shapedOpen_int (t := 3) (zero := #[.int .i64 0]) h (of_decide_eq_true (by kernel_rfl)) (by kernel_rfl) rfl (by kernel_rfl) (by kernel_rfl) (by kernel_rfl)
theorem MaxLenAt.below {w w' : World} (h : MaxLenAt w) (hb : Below w.heap.size w w') : MaxLenAt w' := by
  obtain ⟨m, hm⟩ := h
  exact ⟨m, (hb.cell (p := ⟨0, 0, none⟩) (World.block_lt_of_cell? w _ hm)).trans hm⟩
/-- What a law's walk owes where the library's own variables are read: the world has the program's shape. -/
def LawWalk2 (f : FuncId) (fn : Func) : Prop := ∀ (H : Type) (enc : TypeId × Value → H) (W : World) (base : Nat) (args : Array Value) (ds : List (DataW H)) (ps : List MemPlace),
  DataW.TrodAll enc Tryd.prog W 0 (fun _ => true) true fn.params.toList args.toList ds ps →
  (∀ (j : Nat) t v, fn.params[j]? = some t → args[j]? = some v → Value.okWide Tryd.prog W .any base t v) →
  W.ShapedOpen Tryd.prog →
  Calls Tryd.prog f args W fun r w' => r = .returned (.bool true) ∧ Below W.heap.size W w'

theorem law_lift2 {f : FuncId} {fn : Func} {s : ChangeSpec} (hfn : Tryd.prog.funcs[f]? = some fn) (hres : fn.resultTypes = #[4])
    (hread : (fn.params.toList.all fun t => Tryd.prog.readableRec t && decide (t < Tryd.prog.types.size)) = true) (hvars : s.vars = [])
    (hspec : ∀ (H : Type) (ds : List (DataW H)), ds.length = fn.params.size → s.fn H ds = { results := [.lit (.bool true)], args := ds })
    (noInit : Tryd.prog.inits.idxOf? f = none) (os : Os) (started : os.Started) (H : Type) (enc : TypeId × Value → H)
    (wit : ∃ (w : World) (tape : Tape) (i : Input), w.os = os ∧ (w.forCall tape i).Shaped Tryd.prog ∧ i.vars = [] ∧ Input.okWide Tryd.prog (w.forCall tape i) .any w.heap.size f i ∧
      s.pre6 enc Tryd.prog fn [] false (w.forCall tape i).memory i.args ∧ ({} : Assume).holds Tryd.prog (lone (Frame.enter Tryd.prog f i.args .normal) [] (w.forCall tape i)))
    (walk : LawWalk2 f fn) : ReturnsInHanded {} Tryd.checked os f .any (s.pre6 enc Tryd.prog fn [] false) (s.post enc Tryd.prog fn false true false false) := by
  refine returnsInHanded_of_change_shaped (C := Tryd.checked) own started noInit hfn wit ?_
  intro W base args ds gs before hval hW _ _ hsh _
  have hW' := hW
  obtain ⟨p, q, hA, hV, rfl, hfz, hnd⟩ := hW
  rw [hvars] at hV
  obtain ⟨rfl, rfl⟩ := trodVars_none hV
  rw [List.append_nil] at hW'
  have hlen := trodAll_length hA
  have hs := hspec H ds (by simpa using hlen)
  refine (walk H enc W base args ds p hA hval hsh).mono fun e W' ⟨he, hb⟩ => ?_
  subst he
  refine ⟨_, rfl, post_of_below (pa := p) (pv := []) hW' (fun b sp hd => ?_) (fun sp hsp => ?_) (fun sp _ => ?_) (by simp) hb ?_⟩
  · rw [List.append_nil, hs, hres]
    exact trodAll_mk1 (shut_bool boolT true)
  · rw [List.append_nil, hs]
    exact trodAll_below laid hb hread hA (fun x hx => hW'.lt x hx) hsp
  · rw [List.append_nil, hs, hvars]
    rfl
  · exact ok_one hres rfl (okWide_bool_mk boolT true)
end Go.Proofs.YtfbicbgdfcbhpaaDoor
