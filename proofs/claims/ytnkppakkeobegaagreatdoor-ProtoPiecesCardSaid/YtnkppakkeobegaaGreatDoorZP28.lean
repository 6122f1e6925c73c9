/-
  Row4, LwBase.
-/
import Derived.Test.YtnkppakkeobegaaGreatDoorZP27
import Derived.Test.YtnkppakkeobegaaGreatDoorZP08
import Derived.Stop.LaidErr
import Derived.Lib.AppendIntMem
import Derived.Test.YtnkppakkeobegaaGreatDoorZP13
set_option maxRecDepth 20000
set_option linter.unusedVariables false
set_option linter.unusedSimpArgs false
set_option linter.unusedSectionVars false
namespace Go.Proofs.YtnkppakkeobegaaGreatDoor
open Go.ChangeShapes Go.WideShapes Go.ChangeAt Go.RowKit
structure LibAt (w : World) : Prop where
 max : MaxLenAt w
 syn : ∃ ev, w.cell? ⟨3, 0, none⟩ = some ev ∧ (ev = .nilIface ∨ ∃ te pe, ev = .iface te pe)
 rng : ∃ ev, w.cell? ⟨4, 0, none⟩ = some ev ∧ (ev = .nilIface ∨ ∃ te pe, ev = .iface te pe)
 pow : Lib.TabIs Tryz.prog w "internal/strconv.uint64pow10" .u64 Lib.pow10Tab
theorem LibAt.below {w w' : World} (h : LibAt w) (hb : Below w.heap.size w w') : LibAt w' := by
 obtain ⟨e1, h1, k1⟩ := h.syn
 obtain ⟨e2, h2, k2⟩ := h.rng
 exact ⟨h.max.below hb, ⟨e1, (hb.cell (p := ⟨3, 0, none⟩) (World.block_lt_of_cell? w _ h1)).trans h1, k1⟩,
  ⟨e2, (hb.cell (p := ⟨4, 0, none⟩) (World.block_lt_of_cell? w _ h2)).trans h2, k2⟩, (Lib.tabBelow_of_tabIs h.pow).on hb |>.here⟩
theorem err_reads {W : World} {n nm : String} {d : DataW Unit} {g : Nat} {ms : Array (String × TypeId)} (hg : Tryz.prog.globalNamed n = some g) (ht : (Tryz.prog.globals[g]?).map (·.type) = some 126) (hi : Tryz.prog.underlying 126 = some (.interface ms))
 (h : Lib.VarReads Tryz.prog W n (.iface nm d)) : ∃ ev, W.cell? ⟨g, 0, none⟩ = some ev ∧ (ev = .nilIface ∨ ∃ te pe, ev = .iface te pe) := by
 obtain ⟨g2, t, cs, fuel, p, h1, h2, h3, h4⟩ := h
 obtain rfl := Option.some.inj (hg.symm.trans h1)
 obtain rfl := Option.some.inj (ht.symm.trans h2)
 obtain ⟨f2, u, v, h5, _, _⟩ := iface_of_trod hi h4
 refine ⟨.iface u v, ?_, .inr ⟨u, v, rfl⟩⟩
 rw [World.var?_cell hg h3 0]
 have : cs = #[.iface u v] := by
  apply Array.ext'
  simpa using h5
 rw [this]; rfl
theorem LibAt.of {W : World} {a b c d e f : String × DataW Unit} {r : List (String × DataW Unit)} {x y : DataW Unit} {nx ny : String} (hc : c = ("internal/strconv.uint64pow10", Lib.tabData .u64 Lib.pow10Tab)) (he : e = ("strconv.ErrRange", .iface nx x)) (hf : f = ("strconv.ErrSyntax", .iface ny y))
 (h : laidMet Tryz.prog (a :: b :: c :: d :: e :: f :: r) W) (hsh : W.ShapedOpen Tryz.prog) : LibAt W := by
 subst hc he hf
 refine ⟨MaxLenAt.of hsh, ?_, ?_, ?_⟩
 · exact err_reads (by kernel_rfl) (by kernel_rfl) Tryz.underlying126 (Lib.laidMet.reads h (n := "strconv.ErrSyntax") (d := .iface ny y) (by simp))
 · exact err_reads (by kernel_rfl) (by kernel_rfl) Tryz.underlying126 (Lib.laidMet.reads h (n := "strconv.ErrRange") (d := .iface nx x) (by simp))
 · exact Lib.tabIs_of_head (g := 2) (by kernel_rfl) (by kernel_rfl) Tryz.underlying217 Tryz.underlying172 (by kernel_rfl) (by kernel_rfl) h.tail.tail
def LawWalk4 (f : FuncId) (fn : Func) : Prop := ∀ (H : Type) (enc : TypeId × Value → H) (W : World) (base : Nat) (args : Array Value) (ds : List (DataW H)) (ps : List MemPlace),
 DataW.TrodAll enc Tryz.prog W 0 (fun _ => true) true fn.params.toList args.toList ds ps →
 (∀ (j : Nat) t v, fn.params[j]? = some t → args[j]? = some v → Value.okWide Tryz.prog W .any base t v) →
 LibAt W →
 Calls Tryz.prog f args W fun r w' => r = .returned (.bool true) ∧ Below W.heap.size W w'
set_option maxRecDepth 100000 in
theorem law_lift4 {f : FuncId} {fn : Func} {s : ChangeSpec} {ls : List (String × DataW Unit)} (hfn : Tryz.prog.funcs[f]? = some fn) (hres : fn.resultTypes = #[4])
 (hread : (fn.params.toList.all fun t => Tryz.prog.readableRec t && decide (t < Tryz.prog.types.size)) = true) (hvars : s.vars = [])
 (hspec : ∀ (H : Type) (ds : List (DataW H)), ds.length = fn.params.size → s.fn H ds = { results := [.lit (.bool true)], args := ds })
 (noInit : Tryz.prog.inits.idxOf? f = none) (os : Os) (started : os.Started) (H : Type) (enc : TypeId × Value → H) (F : Stop.Interp)
 (wit : ∃ (w : World) (tape : Tape) (i : Input), w.os = os ∧ (w.forCall tape i).Shaped Tryz.prog ∧ i.vars = [] ∧ Input.okWide Tryz.prog (w.forCall tape i) .any w.heap.size f i ∧
  (OpenSpec.ofChange s).preRow enc Tryz.prog fn [] false ls (w.forCall tape i).memory i.args ∧ ({} : Assume).holds Tryz.prog (lone (Frame.enter Tryz.prog f i.args .normal) [] (w.forCall tape i)))
 (hlib : ∀ W : World, laidMetH Tryz.prog ls W → W.ShapedOpen Tryz.prog → LibAt W)
 (walk : LawWalk4 f fn) : ReturnsInHanded {} Tryz.checked os f .any ((OpenSpec.ofChange s).preRow enc Tryz.prog fn [] false ls) (((OpenSpec.ofChange s).at F).post enc Tryz.prog fn false true false false) := by
 refine returnsInHanded_of_row (C := Tryz.checked) (s := OpenSpec.ofChange s) own started noInit hfn wit ?_
 intro W base args ds gs before hval hW _ _ _ hL hsh _
 have hW : DataW.Whole enc Tryz.prog fn.params.toList s.vars false W args.toList ds gs before := hW
 have hW' := hW
 obtain ⟨p, q, hA, hV, rfl, hfz, hnd⟩ := hW
 rw [hvars] at hV
 obtain ⟨rfl, rfl⟩ := trodVars_none hV
 rw [List.append_nil] at hW'
 have hlen := trodAll_length hA
 have hs := hspec H ds (by simpa using hlen)
 refine (walk H enc W base args ds p hA hval (hlib W hL hsh)).mono fun e W' ⟨he, hb⟩ => ?_
 subst he
 show ∃ v, _ = Ending.returned v ∧ s.post enc Tryz.prog fn false true false false W args v W'
 refine ⟨_, rfl, post_of_below (pa := p) (pv := []) hW' (fun b sp hd => ?_) (fun sp hsp => ?_) (fun sp _ => ?_) (by simp) hb ?_⟩
 · rw [List.append_nil, hs, hres]
   exact trodAll_mk1 (shut_bool boolT true)
 · rw [List.append_nil, hs]
   exact trodAll_below laid hb hread hA (fun x hx => hW'.lt x hx) hsp
 · rw [List.append_nil, hs, hvars]
   rfl
 · exact ok_one hres rfl (okWide_bool_mk boolT true)
end Go.Proofs.YtnkppakkeobegaaGreatDoor
set_option maxRecDepth 20000
set_option linter.unusedVariables false
set_option linter.unusedSimpArgs false
set_option linter.unusedSectionVars false
namespace Go.Proofs.YtnkppakkeobegaaGreatDoor
open Go.ChangeShapes Go.WideShapes Go.ChangeAt Go.RowKit
namespace AX
instance libInv : Inv := ⟨LibAt, fun _ _ h hb => h.below hb⟩
theorem baOf_size (l : List UInt8) : (baOf l).size = l.length := by show l.toArray.size = _; simp
theorem baOf_list (l : List UInt8) : (baOf l).data.toList = l := by simp [baOf]
theorem two_rv {g : Gh} {w : World} {a b : Value} {x y : V1} (h1 : Rv1 g w a x) (h2 : Rv1 g w b y) : Rv g w (.tuple #[a, b]) (.tup [x, y]) :=
 ⟨_, rfl, rfl, fun i v x hv hx => by
  match i, hv, hx with
  | 0, hv, hx => cases hv; cases hx; exact h1
  | 1, hv, hx => cases hv; cases hx; exact h2
  | n + 2, hv, _ => simp at hv⟩
theorem three_rv {g : Gh} {w : World} {a b c : Value} {x y z : V1} (h1 : Rv1 g w a x) (h2 : Rv1 g w b y) (h3 : Rv1 g w c z) : Rv g w (.tuple #[a, b, c]) (.tup [x, y, z]) :=
 ⟨_, rfl, rfl, fun i v x hv hx => by
  match i, hv, hx with
  | 0, hv, hx => cases hv; cases hx; exact h1
  | 1, hv, hx => cases hv; cases hx; exact h2
  | 2, hv, hx => cases hv; cases hx; exact h3
  | n + 3, hv, _ => simp at hv⟩
theorem same_grow {M : Mem} {w w' : World} (hl : ∀ b j, M b j → b < w.heap.size) (hb : Below w.heap.size w w') : Grow ⟨M, [], fun _ => none⟩ w M w' := ⟨hb, fun _ _ h => h, fun _ _ _ h => h, fun b j h => Nat.lt_of_lt_of_le (hl b j h) hb.size, rfl, rfl⟩
theorem bif_some {β : Type} {c : Bool} {x r : β} (h : (bif c then some x else none) = some r) : c = true ∧ x = r := by
 cases c with
 | true => exact ⟨rfl, by simpa using h⟩
 | false => cases h
theorem alloc_strs {M : Mem} {w : World} {t : TypeId} (hl : ∀ b j, M b j → b < w.heap.size) (ls : List (List UInt8)) :
 ∃ M', Grow ⟨M, [], fun _ => none⟩ w M' (w.alloc (.cells (ls.map fun x => Value.string ⟨x.toArray⟩).toArray t)) ∧ Rd M' (w.alloc (.cells (ls.map fun x => Value.string ⟨x.toArray⟩).toArray t)) (.slice (some ⟨w.heap.size, 0, none⟩) ls.length ls.length) (.sl none 1 (ls.map .str)) := by
 refine ⟨⟨fun k j => M k j ∨ (k = w.heap.size ∧ j < ls.length), M.gx, M.gw⟩, ⟨(Below.refl _ _).alloc (Nat.le_refl _) _, fun _ _ h => .inl h, fun k j hk h => h.elim id fun h => by omega, fun k j h => h.elim (fun h => by have := hl k j h; simp; omega) fun h => by simp; omega, rfl, rfl⟩, ?_⟩
 refine .sl w.heap.size 0 ls.length ls.length 1 (fun i => (ls.map fun x => Value.string ⟨x.toArray⟩).getD i undef) _ (by decide) (by simp) (Nat.le_refl _) (fun i hi => ⟨.inr ⟨rfl, by simpa using hi⟩, ?_⟩) fun i c hc => ?_
 · have hi' : i < ls.length := by simpa using hi
   rw [Nat.zero_add, World.cell?_alloc_at _ _ _ _ rfl]
   simp [hi', List.getD]
 · have hi' : i < ls.length := by have := (List.getElem?_eq_some_iff.1 hc).1; simpa using this
   simp [hi'] at hc
   subst hc
   simp [List.getD, hi']
   exact .str _
end AX
end Go.Proofs.YtnkppakkeobegaaGreatDoor
