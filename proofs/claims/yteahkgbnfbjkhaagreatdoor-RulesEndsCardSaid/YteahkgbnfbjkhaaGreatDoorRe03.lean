/-
  Row4.
-/
import Derived.Test.YteahkgbnfbjkhaaGreatDoorRe01
import Derived.Test.YteahkgbnfbjkhaaGreatDoorRe02
import Derived.Stop.LaidErr
import Derived.Lib.AppendIntMem
set_option maxRecDepth 20000
set_option linter.unusedVariables false
set_option linter.unusedSimpArgs false
set_option linter.unusedSectionVars false
namespace Go.Proofs.YteahkgbnfbjkhaaGreatDoor
open Go.ChangeShapes Go.WideShapes Go.ChangeAt Go.RowKit
structure LibAt (w : World) : Prop where
 max : MaxLenAt w
 syn : ∃ ev, w.cell? ⟨2, 0, none⟩ = some ev ∧ (ev = .nilIface ∨ ∃ te pe, ev = .iface te pe)
 rng : ∃ ev, w.cell? ⟨3, 0, none⟩ = some ev ∧ (ev = .nilIface ∨ ∃ te pe, ev = .iface te pe)
 pow : Lib.TabIs Tryz.prog w "internal/strconv.uint64pow10" .u64 Lib.pow10Tab
theorem LibAt.below {w w' : World} (h : LibAt w) (hb : Below w.heap.size w w') : LibAt w' := by
 obtain ⟨e1, h1, k1⟩ := h.syn
 obtain ⟨e2, h2, k2⟩ := h.rng
 exact ⟨h.max.below hb, ⟨e1, (hb.cell (p := ⟨2, 0, none⟩) (World.block_lt_of_cell? w _ h1)).trans h1, k1⟩,
  ⟨e2, (hb.cell (p := ⟨3, 0, none⟩) (World.block_lt_of_cell? w _ h2)).trans h2, k2⟩, (Lib.tabBelow_of_tabIs h.pow).on hb |>.here⟩
theorem err_reads {W : World} {n nm : String} {d : DataW Unit} {g : Nat} {ms : Array (String × TypeId)} (hg : Tryz.prog.globalNamed n = some g) (ht : (Tryz.prog.globals[g]?).map (·.type) = some 109) (hi : Tryz.prog.underlying 109 = some (.interface ms))
 (h : Lib.VarReads Tryz.prog W n (.iface nm d)) : ∃ ev, W.cell? ⟨g, 0, none⟩ = some ev ∧ (ev = .nilIface ∨ ∃ te pe, ev = .iface te pe) := by
 obtain ⟨g2, t, cs, fuel, p, h1, h2, h3, h4⟩ := h
 obtain rfl := Option.some.inj (hg.symm.trans h1)
 obtain rfl := Option.some.inj (ht.symm.trans h2)
 obtain ⟨f2, u, v, h5, _, _⟩ := iface_of_trod hi h4
 refine ⟨.iface u v, ?_, .inr ⟨u, v, rfl⟩⟩
 rw [World.var?_cell hg h3 0]
 have : cs = #[.iface u v] := by
  apply Array.ext'
  simpa using h5
 rw [this]; rfl
theorem LibAt.of {W : World} {a b c d e f : String × DataW Unit} {r : List (String × DataW Unit)} {x y : DataW Unit} {nx ny : String} (hc : c = ("internal/strconv.uint64pow10", Lib.tabData .u64 Lib.pow10Tab)) (he : e = ("strconv.ErrRange", .iface nx x)) (hf : f = ("strconv.ErrSyntax", .iface ny y))
 (h : laidMet Tryz.prog (a :: b :: c :: d :: e :: f :: r) W) (hsh : W.ShapedOpen Tryz.prog) : LibAt W := by
 subst hc he hf
 refine ⟨MaxLenAt.of hsh, ?_, ?_, ?_⟩
 · exact err_reads (by kernel_rfl) (by kernel_rfl) Tryz.underlying109 (Lib.laidMet.reads h (n := "strconv.ErrSyntax") (d := .iface ny y) (by simp))
 · exact err_reads (by kernel_rfl) (by kernel_rfl) Tryz.underlying109 (Lib.laidMet.reads h (n := "strconv.ErrRange") (d := .iface nx x) (by simp))
 · exact Lib.tabIs_of_head (g := 4) (by kernel_rfl) (by kernel_rfl) Tryz.underlying246 Tryz.underlying229 (by kernel_rfl) (by kernel_rfl) h.tail.tail
def LawWalk4 (f : FuncId) (fn : Func) : Prop := ∀ (H : Type) (enc : TypeId × Value → H) (W : World) (base : Nat) (args : Array Value) (ds : List (DataW H)) (ps : List MemPlace),
 DataW.TrodAll enc Tryz.prog W 0 (fun _ => true) true fn.params.toList args.toList ds ps →
 (∀ (j : Nat) t v, fn.params[j]? = some t → args[j]? = some v → Value.okWide Tryz.prog W .any base t v) →
 LibAt W →
 Calls Tryz.prog f args W fun r w' => r = .returned (.bool true) ∧ Below W.heap.size W w'
set_option maxRecDepth 100000 in
theorem law_lift4 {f : FuncId} {fn : Func} {s : ChangeSpec} {ls : List (String × DataW Unit)} (hfn : Tryz.prog.funcs[f]? = some fn) (hres : fn.resultTypes = #[4])
 (hread : (fn.params.toList.all fun t => Tryz.prog.readableRec t && decide (t < Tryz.prog.types.size)) = true) (hvars : s.vars = [])
 (hspec : ∀ (H : Type) (ds : List (DataW H)), ds.length = fn.params.size → s.fn H ds = { results := [.lit (.bool true)], args := ds })
 (noInit : Tryz.prog.inits.idxOf? f = none) (os : Os) (started : os.Started) (H : Type) (enc : TypeId × Value → H) (F : Stop.Interp)
 (wit : ∃ (w : World) (tape : Tape) (i : Input), w.os = os ∧ (w.forCall tape i).Shaped Tryz.prog ∧ i.vars = [] ∧ Input.okWide Tryz.prog (w.forCall tape i) .any w.heap.size f i ∧
  (OpenSpec.ofChange s).preRow enc Tryz.prog fn [] false ls (w.forCall tape i).memory i.args ∧ ({} : Assume).holds Tryz.prog (lone (Frame.enter Tryz.prog f i.args .normal) [] (w.forCall tape i)))
 (hlib : ∀ W : World, laidMetH Tryz.prog ls W → W.ShapedOpen Tryz.prog → LibAt W)
 (walk : LawWalk4 f fn) : ReturnsInHanded {} Tryz.checked os f .any ((OpenSpec.ofChange s).preRow enc Tryz.prog fn [] false ls) (((OpenSpec.ofChange s).at F).post enc Tryz.prog fn false true false false) := by
 refine returnsInHanded_of_row (C := Tryz.checked) (s := OpenSpec.ofChange s) own started noInit hfn wit ?_
 intro W base args ds gs before hval hW _ _ _ hL hsh _
 have hW : DataW.Whole enc Tryz.prog fn.params.toList s.vars false W args.toList ds gs before := hW
 have hW' := hW
 obtain ⟨p, q, hA, hV, rfl, hfz, hnd⟩ := hW
 rw [hvars] at hV
 obtain ⟨rfl, rfl⟩ := trodVars_none hV
 rw [List.append_nil] at hW'
 have hlen := trodAll_length hA
 have hs := hspec H ds (by simpa using hlen)
 refine (walk H enc W base args ds p hA hval (hlib W hL hsh)).mono fun e W' ⟨he, hb⟩ => ?_
 subst he
 show ∃ v, _ = Ending.returned v ∧ s.post enc Tryz.prog fn false true false false W args v W'
 refine ⟨_, rfl, post_of_below (pa := p) (pv := []) hW' (fun b sp hd => ?_) (fun sp hsp => ?_) (fun sp _ => ?_) (by simp) hb ?_⟩
 · rw [List.append_nil, hs, hres]
   exact trodAll_mk1 (shut_bool boolT true)
 · rw [List.append_nil, hs]
   exact trodAll_below laid hb hread hA (fun x hx => hW'.lt x hx) hsp
 · rw [List.append_nil, hs, hvars]
   rfl
 · exact ok_one hres rfl (okWide_bool_mk boolT true)
end Go.Proofs.YteahkgbnfbjkhaaGreatDoor
