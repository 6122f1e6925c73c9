/-
  As Row2, for the tied cards: the row lists package-level variables.
-/
import Derived.Test.YtfbicbgdfcbhpaaDoorRow2
import Derived.Test.YtfbicbgdfcbhpaaDoorCards
import Derived.Test.YtfbicbgdfcbhpaaDoorTie
import Derived.SevenTiedAt
import Derived.JoinedCond
import Derived.Deep.DeepHandedRow
import Derived.LaidLaws
import Derived.Lib.LaidU8
set_option maxRecDepth 20000
set_option linter.unusedVariables false
set_option linter.unusedSimpArgs false
set_option linter.unusedSectionVars false
namespace Go.Proofs.YtfbicbgdfcbhpaaDoor
open Go.ChangeShapes Go.WideShapes Go.ChangeAt Go.RowKit

theorem wants_none {ts : Array TypeId} (h : (ts.all fun t => !Tryd.prog.wantsStandIn t) = true) : ∀ (j : Nat) (t : TypeId), ts[j]? = some t → Tryd.prog.wantsStandIn t = false := fun j t ht => by
  rw [Array.all_eq_true] at h
  obtain ⟨hj, rfl⟩ := Array.getElem?_eq_some_iff.1 ht
  simpa using h j hj
noncomputable def lowN : Nat := (World.holding Tryd.prog default ⟨#[], #[], []⟩).heap.size
def putCells (h : Array Obj) (g : Nat) (cs : Array Value) : Array Obj := h.modify g fun
  | .cells _ t frozen => .cells cs t frozen
  | o => o
/-- A world that meets the condition: the settled one, each listed variable holding what its initialiser lays. -/
noncomputable def laidWorld (os : Os) : World :=
  let w0 := World.holding Tryd.prog os ⟨#[.cells #[.string ⟨#[118, 97, 108, 117, 101, 32, 111, 117, 116, 32, 111, 102, 32, 114, 97, 110, 103, 101]⟩] 172, .cells #[.string ⟨#[105, 110, 118, 97, 108, 105, 100, 32, 115, 121, 110, 116, 97, 120]⟩] 172], #[], []⟩
  { w0 with heap := putCells (putCells (putCells (putCells (putCells (putCells (putCells (w0.heap) 6 #[.int .u8 0, .int .u8 1, .int .u8 28, .int .u8 2, .int .u8 29, .int .u8 14, .int .u8 24, .int .u8 3, .int .u8 30, .int .u8 22, .int .u8 20, .int .u8 15, .int .u8 25, .int .u8 17, .int .u8 4, .int .u8 8, .int .u8 31, .int .u8 27, .int .u8 13, .int .u8 23, .int .u8 21, .int .u8 19, .int .u8 16, .int .u8 7, .int .u8 26, .int .u8 12, .int .u8 18, .int .u8 6, .int .u8 11, .int .u8 5, .int .u8 10, .int .u8 9]) 7 #[.int .u8 0, .int .u8 1, .int .u8 56, .int .u8 2, .int .u8 57, .int .u8 49, .int .u8 28, .int .u8 3, .int .u8 61, .int .u8 58, .int .u8 42, .int .u8 50, .int .u8 38, .int .u8 29, .int .u8 17, .int .u8 4, .int .u8 62, .int .u8 47, .int .u8 59, .int .u8 36, .int .u8 45, .int .u8 43, .int .u8 51, .int .u8 22, .int .u8 53, .int .u8 39, .int .u8 33, .int .u8 30, .int .u8 24, .int .u8 18, .int .u8 12, .int .u8 5, .int .u8 63, .int .u8 55, .int .u8 48, .int .u8 27, .int .u8 60, .int .u8 41, .int .u8 37, .int .u8 16, .int .u8 46, .int .u8 35, .int .u8 44, .int .u8 21, .int .u8 52, .int .u8 32, .int .u8 23, .int .u8 11, .int .u8 54, .int .u8 26, .int .u8 40, .int .u8 15, .int .u8 34, .int .u8 20, .int .u8 31, .int .u8 10, .int .u8 25, .int .u8 14, .int .u8 19, .int .u8 9, .int .u8 13, .int .u8 8, .int .u8 7, .int .u8 6]) 1 #[.int .u64 1, .int .u64 10, .int .u64 100, .int .u64 1000, .int .u64 10000, .int .u64 100000, .int .u64 1000000, .int .u64 10000000, .int .u64 100000000, .int .u64 1000000000, .int .u64 10000000000, .int .u64 100000000000, .int .u64 1000000000000, .int .u64 10000000000000, .int .u64 100000000000000, .int .u64 1000000000000000, .int .u64 10000000000000000, .int .u64 100000000000000000, .int .u64 1000000000000000000, .int .u64 10000000000000000000]) 3 #[.int .u8 128, .int .u8 191, .int .u8 160, .int .u8 191, .int .u8 128, .int .u8 159, .int .u8 144, .int .u8 191, .int .u8 128, .int .u8 143, .int .u8 0, .int .u8 0, .int .u8 0, .int .u8 0, .int .u8 0, .int .u8 0, .int .u8 0, .int .u8 0, .int .u8 0, .int .u8 0, .int .u8 0, .int .u8 0, .int .u8 0, .int .u8 0, .int .u8 0, .int .u8 0, .int .u8 0, .int .u8 0, .int .u8 0, .int .u8 0, .int .u8 0, .int .u8 0]) 5 #[.iface 170 (.pointer (some ⟨lowN + 0, 0, none⟩))]) 4 #[.iface 170 (.pointer (some ⟨lowN + 1, 0, none⟩))]) 2 (Lib.firstTab.map fun z => Value.int .u8 z).toArray }
set_option maxRecDepth 100000 in
theorem law_lift3 {f : FuncId} {fn : Func} {s : ChangeSpec} {ls : List (String × DataW Unit)} (hfn : Tryd.prog.funcs[f]? = some fn) (hres : fn.resultTypes = #[4])
    (hread : (fn.params.toList.all fun t => Tryd.prog.readableRec t && decide (t < Tryd.prog.types.size)) = true) (hvars : s.vars = [])
    (hspec : ∀ (H : Type) (ds : List (DataW H)), ds.length = fn.params.size → s.fn H ds = { results := [.lit (.bool true)], args := ds })
    (noInit : Tryd.prog.inits.idxOf? f = none) (os : Os) (started : os.Started) (H : Type) (enc : TypeId × Value → H) (F : Stop.Interp)
    (wit : ∃ (w : World) (tape : Tape) (i : Input), w.os = os ∧ (w.forCall tape i).Shaped Tryd.prog ∧ i.vars = [] ∧ Input.okWide Tryd.prog (w.forCall tape i) .any w.heap.size f i ∧
      (OpenSpec.ofChange s).preRow enc Tryd.prog fn [] false ls (w.forCall tape i).memory i.args ∧ ({} : Assume).holds Tryd.prog (lone (Frame.enter Tryd.prog f i.args .normal) [] (w.forCall tape i)))
    (walk : LawWalk2 f fn) : ReturnsInHanded {} Tryd.checked os f .any ((OpenSpec.ofChange s).preRow enc Tryd.prog fn [] false ls) (((OpenSpec.ofChange s).at F).post enc Tryd.prog fn false true false false) := by
  refine returnsInHanded_of_row (C := Tryd.checked) (s := OpenSpec.ofChange s) own started noInit hfn wit ?_
  intro W base args ds gs before hval hW _ _ _ _ hsh _
  have hW : DataW.Whole enc Tryd.prog fn.params.toList s.vars false W args.toList ds gs before := hW
  have hW' := hW
  obtain ⟨p, q, hA, hV, rfl, hfz, hnd⟩ := hW
  rw [hvars] at hV
  obtain ⟨rfl, rfl⟩ := trodVars_none hV
  rw [List.append_nil] at hW'
  have hlen := trodAll_length hA
  have hs := hspec H ds (by simpa using hlen)
  refine (walk H enc W base args ds p hA hval hsh).mono fun e W' ⟨he, hb⟩ => ?_
  subst he
  show ∃ v, _ = Ending.returned v ∧ s.post enc Tryd.prog fn false true false false W args v W'
  refine ⟨_, rfl, post_of_below (pa := p) (pv := []) hW' (fun b sp hd => ?_) (fun sp hsp => ?_) (fun sp _ => ?_) (by simp) hb ?_⟩
  · rw [List.append_nil, hs, hres]
    exact trodAll_mk1 (shut_bool boolT true)
  · rw [List.append_nil, hs]
    exact trodAll_below laid hb hread hA (fun x hx => hW'.lt x hx) hsp
  · rw [List.append_nil, hs, hvars]
    rfl
  · exact ok_one hres rfl (okWide_bool_mk boolT true)
end Go.Proofs.YtfbicbgdfcbhpaaDoor
