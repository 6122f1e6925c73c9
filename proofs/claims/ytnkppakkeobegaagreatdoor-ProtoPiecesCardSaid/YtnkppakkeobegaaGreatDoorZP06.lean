/-
  AW18.
-/
import Derived.Test.YtnkppakkeobegaaGreatDoorZP05
import Derived.ScopeJumps
import Derived.WalkMore
set_option maxRecDepth 20000
set_option linter.unusedVariables false
set_option linter.unusedSimpArgs false
set_option linter.unusedSectionVars false
namespace Go.Proofs.YtnkppakkeobegaaGreatDoor
namespace AX
variable [Inv]
open Go.RowKit
variable {P : Program} {R : Type}
omit [Inv] in
theorem castI_bind {kd : IntKind} {c : Cell} {k : Int → Option R} : castI kd c k = (castI kd c some).bind k := by
 unfold castI; split
 · split <;> rfl
 · rfl
omit [Inv] in
theorem castD_bind {t : TI} {c : Cell} {k : Cell → Option R} : castD t c k = (castD t c some).bind k := by
 unfold castD; split
 · unfold castI; split
   · split <;> rfl
   · rfl
 · unfold castB; split <;> rfl
 · unfold castS; split <;> rfl
 · rename_i sz; unfold castL; split
   · rename_i s cs; cases Nat.beq s sz || Nat.beq s 0 <;> rfl
   · rfl
 · unfold castE; split <;> rfl
 · split <;> rfl
 · split <;> rfl
 · split <;> rfl
 · rfl
omit [Inv] in
theorem castD_bare (t : TI) (c : Cell) : castD t c.bare some = castD t c some := by
 cases c <;> rfl
omit [Inv] in
theorem castC_bind {t : TI} {c : Cell} {k : Cell → Option R} : castC t c k = (castC t c some).bind k := by
 unfold castC; split
 · rename_i sz; unfold castL; split
   · rename_i s cs; cases Nat.beq s sz || Nat.beq s 0 <;> rfl
   · rfl
 · split <;> rfl
 · split <;> rfl
 · exact castD_bind
omit [Inv] in
theorem castDs_bind : ∀ (ts : List TI) (cs : List Cell) {R : Type} {k : List Cell → Option R}, castDs ts cs k = (castDs ts cs some).bind k
 | [], cs, _, k => rfl
 | t :: ts, [], _, k => rfl
 | t :: ts, c :: cs, _, k => by
  simp only [castDs]
  rw [castD_bind, castD_bind (k := fun c' => castDs ts cs fun r' => some (c' :: r'))]
  cases castD t c some with
  | none => rfl
  | some c' =>
   simp only [Option.bind_some]
   rw [castDs_bind ts cs, castDs_bind ts cs (k := fun r' => some (c' :: r'))]
   cases castDs ts cs some <;> rfl
omit [Inv] in
theorem castCs_bind : ∀ (ts : List TI) (cs : List Cell) {R : Type} {k : List Cell → Option R}, castCs ts cs k = (castCs ts cs some).bind k
 | [], cs, _, k => rfl
 | t :: ts, [], _, k => rfl
 | t :: ts, c :: cs, _, k => by
  simp only [castCs]
  rw [castC_bind, castC_bind (k := fun c' => castCs ts cs fun r' => some (c' :: r'))]
  cases castC t c some with
  | none => rfl
  | some c' =>
   simp only [Option.bind_some]
   rw [castCs_bind ts cs, castCs_bind ts cs (k := fun r' => some (c' :: r'))]
   cases castCs ts cs some <;> rfl
omit [Inv] in
theorem castXs_bind : ∀ (ts : List TI) (cs : List Cell) {R : Type} {k : List Cell → Option R}, castXs ts cs k = (castXs ts cs some).bind k
 | [], [], _, k => rfl
 | [], c :: cs, _, k => rfl
 | t :: ts, [], _, k => rfl
 | t :: ts, c :: cs, _, k => by
  simp only [castXs]
  rw [castC_bind, castC_bind (k := fun c' => castXs ts cs fun r' => some (c' :: r'))]
  cases castC t c some with
  | none => rfl
  | some c' =>
   simp only [Option.bind_some]
   rw [castXs_bind ts cs, castXs_bind ts cs (k := fun r' => some (c' :: r'))]
   cases castXs ts cs some <;> rfl
omit [Inv] in
theorem castV1_bind {t : TI} {v : V1} {k : V1 → Option R} : castV1 t v k = (castV1 t v some).bind k := by
 have hx : ∀ (l : List TI) (cs : List Cell), castXs l cs (fun cs' => k (.agg cs')) = (castXs l cs fun cs' => some (V1.agg cs')).bind k := fun l cs => by
  rw [castXs_bind, castXs_bind l cs (k := fun cs' => some (V1.agg cs'))]; cases castXs l cs some <;> rfl
 have hc : ∀ (t : TI) (c : Cell), castC t c (fun c' => k (.one c')) = (castC t c fun c' => some (V1.one c')).bind k := fun t c => by
  rw [castC_bind, castC_bind (t := t) (c := c) (k := fun c' => some (V1.one c'))]; cases castC t c some <;> rfl
 cases t <;> cases v <;> first | rfl | exact hx _ _ | (simp only [castV1]; exact hc _ _)
omit [Inv] in
theorem castVs_bind : ∀ (ts : List TI) (cs : List V1) {R : Type} {k : List V1 → Option R}, castVs ts cs k = (castVs ts cs some).bind k
 | [], [], _, k => rfl
 | [], c :: cs, _, k => rfl
 | t :: ts, [], _, k => rfl
 | t :: ts, c :: cs, _, k => by
  simp only [castVs]
  rw [castV1_bind, castV1_bind (k := fun c' => castVs ts cs fun r' => some (c' :: r'))]
  cases castV1 t c some with
  | none => rfl
  | some c' =>
   simp only [Option.bind_some]
   rw [castVs_bind ts cs, castVs_bind ts cs (k := fun r' => some (c' :: r'))]
   cases castVs ts cs some <;> rfl
theorem castV_bind {t : TI} {v : AV} {k : AV → Option R} : castV t v k = (castV t v some).bind k := by
 have hx : ∀ (l : List TI) (cs : List V1), castVs l cs (fun cs' => k (.tup cs')) = (castVs l cs fun cs' => some (AV.tup cs')).bind k := fun l cs => by
  rw [castVs_bind, castVs_bind l cs (k := fun cs' => some (AV.tup cs'))]; cases castVs l cs some <;> rfl
 have hc : ∀ (t : TI) (c : V1), castV1 t c (fun c' => k c'.av) = (castV1 t c fun c' => some c'.av).bind k := fun t c => by
  rw [castV1_bind, castV1_bind (t := t) (v := c) (k := fun c' => some c'.av)]; cases castV1 t c some <;> rfl
 cases t <;> cases v <;> first | rfl | exact hx _ _ | (simp only [castV]; exact hc _ _)
omit [Inv] in
theorem packK_bind {t : TI} {l : List Cell} {k : AV → Option R} : packK t l k = (packK t l some).bind k := by
 unfold packK
 cases t.isAgg with
 | true => rfl
 | false => simp only [condA_false]; split <;> rfl
omit [Inv] in
theorem loadR_bind {t : TI} {cs : List Cell} {o : Nat} {k : AV → Option R} : loadR t cs o k = (loadR t cs o some).bind k := by
 unfold loadR
 cases Nat.beq t.leaves.length 1 with
 | true =>
  simp only [condA_true, rowAt]
  cases cs[o]? with
  | none => rfl
  | some c =>
   show castDs t.leaves [c] (fun l => packK t l k) = (castDs t.leaves [c] fun l => packK t l some).bind k
   rw [castDs_bind (k := fun l => packK t l k), castDs_bind (k := fun l => packK t l some)]
   cases castDs t.leaves [c] some with
   | none => rfl
   | some l => exact packK_bind
 | false =>
  simp only [condA_false]
  cases Nat.ble (o + t.leaves.length) cs.length with
  | false => rfl
  | true =>
   simp only [condA_true]
   rw [castDs_bind (k := fun l => packK t l k), castDs_bind (k := fun l => packK t l some)]
   cases castDs t.leaves (cs.drop o) some with
   | none => rfl
   | some l => exact packK_bind
omit [Inv] in
theorem castG_bind {t : TI} {c : Cell} {k : Cell → Option R} : castG t c k = (castG t c some).bind k := by
 unfold castG; split
 · rename_i sz; unfold castGL; split
   · rename_i s l; cases Nat.beq s sz <;> rfl
   · rename_i s l; cases Nat.beq s sz || Nat.beq s 0 <;> rfl
   · rfl
 · exact castD_bind
omit [Inv] in
theorem castGs_bind {R : Type} : ∀ (ts : List TI) (cs : List Cell) (k : List Cell → Option R), castGs ts cs k = (castGs ts cs some).bind k
 | [], cs, k => rfl
 | t :: ts, [], k => rfl
 | t :: ts, c :: r, k => by
  simp only [castGs]
  rw [castG_bind, castG_bind (k := fun c' => castGs ts r fun r' => some (c' :: r'))]
  cases castG t c some with
  | none => rfl
  | some c' =>
   show castGs ts r (fun r' => k (c' :: r')) = (castGs ts r fun r' => some (c' :: r')).bind k
   rw [castGs_bind ts r (fun r' => k (c' :: r')), castGs_bind ts r (fun r' => some (c' :: r'))]
   cases castGs ts r some <;> rfl
omit [Inv] in
theorem loadG_bind {t : TI} {cs : List Cell} {o : Nat} {k : AV → Option R} : loadG t cs o k = (loadG t cs o some).bind k := by
 have hb : ∀ {R : Type} (ts : List TI) (cs : List Cell) (k : List Cell → Option R), castGs ts cs k = (castGs ts cs some).bind k := fun ts cs k => castGs_bind ts cs k
 unfold loadG
 cases Nat.beq t.leaves.length 1 with
 | true =>
  simp only [condA_true, rowAt]
  cases cs[o]? with
  | none => rfl
  | some c =>
   show castGs t.leaves [c] (fun l => packK t l k) = (castGs t.leaves [c] fun l => packK t l some).bind k
   rw [hb _ _ (fun l => packK t l k), hb _ _ (fun l => packK t l some)]
   cases castGs t.leaves [c] some with
   | none => rfl
   | some l => exact packK_bind
 | false =>
  simp only [condA_false]
  cases Nat.ble (o + t.leaves.length) cs.length with
  | false => rfl
  | true =>
   simp only [condA_true]
   rw [hb _ _ (fun l => packK t l k), hb _ _ (fun l => packK t l some)]
   cases castGs t.leaves (cs.drop o) some with
   | none => rfl
   | some l => exact packK_bind
omit [Inv] in
theorem loadK_bind {t : TI} {st : St} {p : AV} {k : AV → Option R} : loadK t st p k = (loadK t st p some).bind k := by
 unfold loadK; split
 · rename_i b o
   split
   · rename_i cs _
     cases Nat.ble (o + t.leaves.length) cs.length with
     | false => rfl
     | true =>
      simp only [condA_true]
      rw [castCs_bind, castCs_bind t.leaves (cs.drop o) (k := fun l => packK t l some)]
      cases castCs t.leaves (cs.drop o) some with
      | none => rfl
      | some l => exact packK_bind
   · rfl
 · rename_i cs
   rw [castDs_bind, castDs_bind t.leaves cs (k := fun l => packK t l some)]
   cases castDs t.leaves cs some with
   | none => rfl
   | some l => exact packK_bind
 · rfl
omit [Inv] in
theorem bytesK_bind : ∀ (cs : List Cell) {R : Type} {k : List UInt8 → Option R}, bytesK cs k = (bytesK cs some).bind k
 | [], _, k => rfl
 | c :: cs, _, k => by
  simp only [bytesK]
  rw [castI_bind, castI_bind (k := fun n => bytesK cs fun l => some (UInt8.ofNat n.toNat :: l))]
  cases castI .u8 c some with
  | none => rfl
  | some n =>
   simp only [Option.bind_some]
   rw [bytesK_bind cs, bytesK_bind cs (k := fun l => some (UInt8.ofNat n.toNat :: l))]
   cases bytesK cs some <;> rfl
omit [Inv] in
theorem dataK_bind : ∀ (cs : List Cell) {R : Type} {k : List Cell → Option R}, dataK cs k = (dataK cs some).bind k
 | [], _, k => rfl
 | c :: cs, _, k => by
  simp only [dataK]
  cases hasPtr c with
  | true => rfl
  | false =>
   simp only [condA_false]
   rw [dataK_bind cs, dataK_bind cs (k := fun r' => some (c.bare :: r'))]
   cases dataK cs some <;> rfl
omit [Inv] in
theorem lookK_bind {key z : Cell} {ks : List (Cell × Cell × Nat)} {k : Cell → Bool → Option R} : lookK key ks z k = (lookK key ks z fun c t => some (c, t)).bind fun p => k p.1 p.2 := by
 unfold lookK; split <;> rfl
omit [Inv] in
theorem updK_bind {key v : Cell} {ck : Nat} {ks : List (Cell × Cell × Nat)} {k : Nat → List (Cell × Cell × Nat) → Option R} : updK key v ck ks k = (updK key v ck ks fun a b => some (a, b)).bind fun p => k p.1 p.2 := by
 unfold updK; split <;> rfl
omit [Inv] in
theorem putR_bind {cs new : List Cell} {o : Nat} {k : List Cell → Option R} : putR cs o new k = (putR cs o new some).bind k := by
 unfold putR
 split
 · rename_i c; cases Nat.blt o cs.length <;> rfl
 · cases Nat.ble (o + new.length) cs.length <;> rfl
omit [Inv] in
theorem partsK_bind : ∀ (ps : List (Nat × AV)) {R : Type} {k : List (Nat × AV) → Option R}, partsK ps k = (partsK ps some).bind k
 | [], _, k => rfl
 | (i, v) :: ps, _, k => by
  simp only [partsK]
  cases v.cells? with
  | none => rfl
  | some cs =>
   simp only []
   rw [dataK_bind, dataK_bind (k := fun cs' => partsK ps fun r' => some ((i, .agg cs') :: r'))]
   cases dataK cs some with
   | none => rfl
   | some cs' =>
    simp only [Option.bind_some]
    rw [partsK_bind ps, partsK_bind ps (k := fun r' => some ((i, .agg cs') :: r'))]
    cases partsK ps some <;> rfl
omit [Inv] in
theorem bind_some_inv {α : Type} {x : Option α} {k : α → Option R} {r : R} (h : x.bind k = some r) : ∃ y, x = some y ∧ k y = some r := by
 cases x with
 | none => cases h
 | some y => exact ⟨y, rfl, h⟩
end AX
end Go.Proofs.YtnkppakkeobegaaGreatDoor
namespace Go.Proofs.YtnkppakkeobegaaGreatDoor
namespace AX
variable [Inv]
open Go.RowKit
variable {P : Program} {R : Type}
structure StEq (st st' : St) : Prop where
 fr : ∀ s, lk st'.fr s = lk st.fr s
 H : st'.H = st.H
 G : st'.G = st.G
omit [Inv] in
theorem StEq.refl (st : St) : StEq st st := ⟨fun _ => rfl, rfl, rfl⟩
theorem Sim.eqv {B : Base} {g : Gh} {st st' : St} {a : Act} {w : World} (S : Sim P B g st a w) (h : StEq st st') : Sim P B g st' a w :=
 ⟨fun s v hs => S.frame s v (by rw [← h.fr]; exact hs), S.size, S.defers, S.live, by rw [h.H]; exact S.bx, S.ow, S.fr, S.bxB, S.owB, S.pre, by rw [h.G]; exact S.gk⟩
omit [Inv] in
theorem fix_eq {st : St} {x : Operand} {b : Bool} (h : ev st x = some (.one (.bool b))) : StEq st (st.fix x b) := by
 cases x with
 | tmp t =>
  refine ⟨fun s => ?_, rfl, rfl⟩
  simp only [St.fix, St.put, lk, lk_rm]
  cases hb : Nat.beq t s with
  | true => have := Nat.eq_of_beq_eq_true hb; subst this; exact h.symm
  | false =>
   have hne : t ≠ s := fun e => by subst e; rw [Nat.beq_refl] at hb; cases hb
   simp [hne]
 | _ => exact StEq.refl _
omit [Inv] in
theorem tyN_some {T : List (Nat × TI)} {t : Nat} {ti : TI} (h : tyN T t = some ti) : ty T t = some ti ∧ ∀ ts, ti ≠ .tup ts := by
 unfold tyN at h
 split at h
 · cases h
 · rename_i hn
   exact ⟨h, fun ts e => hn ts (by rw [h, e])⟩
omit [Inv] in
theorem RvA.single {g : Gh} {w : World} {us : Array Value} {c : Cell} (h : RvA g w us [c]) : ∃ u, us = #[u] ∧ Rc g w u c := by
 obtain ⟨h1, h2⟩ := h
 have h1 : us.size = 1 := h1
 refine ⟨us[0], ?_, h2 0 _ c (Array.getElem?_eq_getElem (by omega)) rfl⟩
 apply Array.ext
 · simpa using h1
 · intro i hi hi2
   have : i = 0 := by omega
   subst this
   rfl
structure PrimOk (P : Program) (f : FuncId) (p : List AV → Option AV) : Prop where
 ok : ∀ args v, p args = some v → ∀ (M : Mem) (w : World) (vals : List Value), Inv.I w → (∀ b j, M b j → b < w.heap.size) → All2 (fun a u => Rv ⟨M, [], fun _ => none⟩ w u a) args vals →
  Calls P f vals.toArray w fun e w' => ∃ u M', e = .returned u ∧ Grow ⟨M, [], fun _ => none⟩ w M' w' ∧ Rv ⟨M', [], fun _ => none⟩ w' u v
 fn : ∃ fn, P.funcs[f]? = some fn ∧ fn.body.isSome = true ∧ fn.name ≠ "runtime.NumGoroutine"
structure PrimHOk (P : Program) (f : FuncId) (p : List AV → List Cell → Option (AV × List Cell)) : Prop where
 ok : ∀ b args old v new, p (.one (.ptr b 0) :: args) old = some (v, new) → ∀ (B : Base) (g : Gh) (st : St) (a : Act) (w : World) (vals : List Value) (blk : Nat), Sim P B g st a w → st.H[b]? = some old → g.bx[b]? = some blk → All2 (fun a u => Rv ⟨g.M, [], fun _ => none⟩ w u a) args vals →
  Calls P f (Value.pointer (some ⟨blk, 0, none⟩) :: vals).toArray w fun e w' => ∃ u g', e = .returned u ∧ Rv g' w' u v ∧ Sim P B g' ⟨strikeFr (namesIn old) st.fr, (strikeH (namesIn old) st.H).set b new, st.G⟩ a w'
 fn : ∃ fn, P.funcs[f]? = some fn ∧ fn.body.isSome = true ∧ fn.name ≠ "runtime.NumGoroutine"
structure PrimSOk (P : Program) (f : FuncId) (p : List AV → List Cell → Option AV) : Prop where
 ok : ∀ b args old v, p (.one (.ptr b 0) :: args) old = some v → ∀ (B : Base) (g : Gh) (st : St) (a : Act) (w : World) (vals : List Value) (blk : Nat), Sim P B g st a w → st.H[b]? = some old → g.bx[b]? = some blk → All2 (fun a u => Rv ⟨g.M, [], fun _ => none⟩ w u a) args vals →
  Calls P f (Value.pointer (some ⟨blk, 0, none⟩) :: vals).toArray w fun e w' => ∃ u g', e = .returned u ∧ Rv g' w' u v ∧ Sim P B g' (st.strike (namesIn old)) a w'
 fn : ∃ fn, P.funcs[f]? = some fn ∧ fn.body.isSome = true ∧ fn.name ≠ "runtime.NumGoroutine"
structure PrimGOk (P : Program) (f : FuncId) (p : List AV → List (List Cell) → Option AV) : Prop where
 ok : ∀ args G v, p args G = some v → ∀ (g : Gh) (w : World) (vals : List Value), Inv.I w → (∀ b j, g.M b j → b < w.heap.size) → GOk P g G w → All2 (fun a u => Rv ⟨g.M, [], fun _ => none⟩ w u a) args vals →
  Calls P f vals.toArray w fun e w' => ∃ u M', e = .returned u ∧ Grow ⟨g.M, [], fun _ => none⟩ w M' w' ∧ Rv ⟨M', [], fun _ => none⟩ w' u v
 fn : ∃ fn, P.funcs[f]? = some fn ∧ fn.body.isSome = true ∧ fn.name ≠ "runtime.NumGoroutine"
def GIn (P : Program) (b : Bool) (g : Gh) (D : Nat → Prop) (H : Heap) (w : World) : Prop := b = true → GOk P g H w ∧ ∀ k, Pb g.M k → D k
structure CallOk (P : Program) (E : Env) (call : CallF) : Prop where
 ok : ∀ f args H v H', call f args H = some (v, H') → ∀ (g : Gh) (D : Nat → Prop) (w : World) (vals : List Value),
  (∀ w' : World, w'.os = w.os → w'.tape = w.tape → w'.output = w.output → w.heap.size ≤ w'.heap.size → (∀ k, k < w.heap.size → ¬ D k → w'.heap[k]? = w.heap[k]?) → Inv.I w') →
  (∀ b j, g.M b j → b < w.heap.size) → BxOk (inH (E.isG f) H) g w → OwOk P g w → (∀ blk ∈ g.bx, D blk) → (∀ L v b, g.ow L = some v → v.ob = some b → D b) → GIn P (E.isG f) g D H w →
  All2 (fun a u => Rv g w u a) args vals →
  Calls P f vals.toArray w fun e w' => ∃ u g' B fr HH GG a', e = .returned u ∧ B.w0 = w ∧ B.M0 = g.M ∧ B.D = D ∧ B.bx0 = g.bx ∧ B.gm = E.isG f ∧ Sim P B g' ⟨fr, HH, GG⟩ a' w' ∧ Rv g' w' u v ∧ H' = outH (inH (E.isG f) H).length HH GG
 fn : ∀ f args H v H', call f args H = some (v, H') → ∃ fn, P.funcs[f]? = some fn ∧ fn.body.isSome = true ∧ fn.name ≠ "runtime.NumGoroutine"
theorem CallOk.plain {E : Env} {call : CallF} (hC : CallOk P E call) {f : FuncId} (hfg : E.isG f = false) {args : List AV} {v : AV} {H' : Heap} (h : call f args [] = some (v, H')) {M : Mem} {w : World} {vals : List Value} (hI : Inv.I w) (hl : ∀ b j, M b j → b < w.heap.size) (hA : All2 (fun a u => Rv ⟨M, [], fun _ => none⟩ w u a) args vals) :
 Calls P f vals.toArray w fun e w' => ∃ u M' bx ow, e = .returned u ∧ Grow ⟨M, [], fun _ => none⟩ w M' w' ∧ Rv ⟨M', bx, ow⟩ w' u v ∧ OwOk P ⟨M', bx, ow⟩ w' ∧ ∀ L x b, ow L = some x → x.ob = some b → w.heap.size ≤ b := by
 have ok := hC.ok f args [] v H' h ⟨M, [], fun _ => none⟩ (fun _ => False) w vals (fun w' h1 h2 h3 h4 h5 => Inv.below w w' hI ⟨h1, h2, h3, h4, fun k hk => h5 k hk id⟩) hl
 rw [hfg] at ok
 refine (ok ⟨rfl, List.nodup_nil, fun blk hb => (by simp at hb), fun L v b h => (by cases h), fun i cs h => (by simp [inH] at h)⟩ ⟨fun L v h => (by cases h), fun L L' v v' _ h => (by cases h)⟩ (fun blk hb => by simp at hb) (fun L v b h => by cases h) (fun h => by cases h) hA).mono fun e w' ⟨u, g', B, fr, HH, GG, a', he, h1, h2, h3, h4, h5, S', hr, _⟩ => ?_
 obtain ⟨w0, M0, D0, nt, bx0, gm, kI⟩ := B
 simp only at h1 h2 h3 h4 h5
 subst h1 h2 h3 h4 h5
 have hs := S'.gk
 cases GG with
 | some G => exact absurd hs.1 (by simp)
 | none =>
 have hs := hs.2
 refine ⟨u, g'.M, g'.bx, g'.ow, he, ⟨⟨S'.fr.os, S'.fr.tape, S'.fr.output, S'.fr.size, fun k hk => S'.fr.block k hk (fun h => h)⟩, fun b j hm => (S'.fr.kp b j hm).1, fun b j hb hm => S'.fr.old b j hb (fun h => h) hm, S'.live, hs⟩, hr, ⟨S'.ow.row, S'.ow.ne⟩, fun L x b h hb => ?_⟩
 rcases S'.owB L x b h hb with h | h
 · exact h.elim
 · exact h
structure EnvOk (P : Program) (E : Env) : Prop where
 T : tysOk P E.T = true
 eqs : ∀ t ∈ E.eqs, P.stoodInHeld t = false ∧ P.eqGuardType P.depth t = false ∧ ∀ f ∈ (P.fieldsOf t).toList, f.name ≠ "_"
 prim : ∀ f p, E.prim f = some p → PrimOk P f p
 primH : ∀ f p, E.primH f = some p → PrimHOk P f p
 primS : ∀ f p, E.primS f = some p → PrimSOk P f p
 primG : ∀ f p, E.primG f = some p → PrimGOk P f p
def OpS (P : Program) (B : Base) (_g : Gh) (w : World) (a : Act) (o : Oper) (av : AV) (st' : St) : Prop :=
 ∀ (K : Act → World → Prop) (Q : Exit → Act → World → Prop), (∀ v w' g', Rv g' w' v av → Sim P B g' st' a w' → K (a.put o.dst v) w') → o.wp P a w K Q
structure Res (P : Program) (o : Oper) (full : Bool) (st : St) (av : AV) (st' : St) : Prop where
 eff : ∀ B g a w, Sim P B g st a w → OpS P B g w a o av st'
 still : full = false → StEq st st' ∧ ∀ B g a w, Sim P B g st a w → PureS P g w a o av
theorem Res.pure {o : Oper} {full : Bool} {st st' : St} {av : AV} (he : StEq st st') (h : ∀ B g a w, Sim P B g st a w → PureS P g w a o av) : Res P o full st av st' :=
 ⟨fun B g a w S K Q hK => h B g a w S K Q fun v w' _M' hG hv => hK v w' _ hv ((S.grow hG).eqv he), fun _ => ⟨he, h⟩⟩
theorem Res.eff1 {o : Oper} {st st' : St} {av : AV} (h : ∀ B g a w, Sim P B g st a w → OpS P B g w a o av st') : Res P o true st av st' := ⟨h, fun e => by cases e⟩
section
variable {E : Env} {call : CallF} (hE : EnvOk P E)
include hE
theorem not_tup {t : TypeId} {ti : TI} (h : ty E.T t = some ti) (hn : ∀ ts, ti ≠ .tup ts) : TyIs P t ti := tyIs_of (ty_ok hE.T h) hn
omit hE in
theorem born_sound {full : Bool} {o : Oper} {e : TypeId} {sz : Nat} {cs : List Cell} {st : St} {k : AV → St → Option R} {r : R} (hsz : P.cellsOf e = sz) (h : born full o.dst e sz cs st k = some r)
 (hp : ∀ B g a w, Sim P B g st a w → ∀ (K : Act → World → Prop) (Q : Exit → Act → World → Prop), (∀ v w' M', Grow g w M' w' → Rd M' w' v (.sl none sz cs) → (∃ n xs, w'.ownsAt 0 e sz v n xs ∧ ∀ b j, v.ob = some b → M' b j → j < v.offOf + n * sz) → (∀ b, v.ob = some b → w.heap.size ≤ b) → K (a.put o.dst v) w') → o.wp P a w K Q) :
 ∃ av st', k av st' = some r ∧ Res P o full st av st' := by
 cases full with
 | false =>
  refine ⟨_, st, h, .pure (StEq.refl st) fun B g a w S K Q hK => hp B g a w S K Q fun v w' M' hG hv _ _ => hK v w' M' hG (.data hv)⟩
 | true =>
  unfold born at h
  simp only [condA_true] at h
  split at h
  · rename_i d hd
    refine ⟨_, _, h, .eff1 fun B g a w S K Q hK => hp B g a w S K Q fun v w' M' hG hv hown hnew => ?_⟩
    obtain ⟨n, xs, hrow, hMb⟩ := hown
    have S1 := S.grow hG
    have hbxlt : ∀ blk ∈ g.bx, blk < w.heap.size := fun blk hb => by
     obtain ⟨i, hi⟩ := List.getElem?_of_mem hb
     have hlt : i < st.H.length := by rw [← S.bx.len]; exact (List.getElem?_eq_some_iff.1 hi).1
     obtain ⟨blk', h1, h2⟩ := S.bx.box i _ (List.getElem?_eq_getElem hlt)
     rw [hi] at h1; cases h1
     exact h2.lt
    have S2 := S1.born (d := d) (e := e) 0 (by rw [hsz]; exact hrow) (fun b j hb hm => by rw [hsz]; exact hMb b j hb hm) (fun b hb => by
     have hge := hnew b hb
     refine ⟨fun hm => by have := hbxlt b hm; omega, fun L v' hL hb' => ?_, .inr (Nat.le_trans S.fr.size hge), fun ho => by have := S.gk.olt (b := b) ⟨ho.1, (Pb.same hG.same).1 ho.2⟩; omega⟩
     obtain ⟨n', xs', h1, _⟩ := S.ow.row L v' hL
     have := (h1.lt b hb').2
     omega)
    refine hK v w' _ ?_ S2
    exact .own ⟨d, 0, e⟩ ((give_here (L := ⟨d, 0, e⟩) rfl).trans (by simp [nameIs])) hv
  · cases h
theorem aop_move {full : Bool} {o : Oper} {x : Operand} {st : St} {k : AV → St → Option R} {r : R}
    (h : (match x with
     | .const (.slice none 0 0) =>
       (match ty E.T o.type with
        | some (.slice e sz) => born full o.dst e sz [] st k
        | _ => none)
     | x => (match ev st x with
       | some v => k v st
       | none => none)) = some r) (ho : ∀ a : Act, execOp a.eval o = (pure (.value (a.eval x)) : Sem Next)) : ∃ av st', k av st' = some r ∧ Res P o full st av st' := by
  split at h
  · split at h
    · rename_i e sz ht
      have hT := not_tup hE ht (by simp)
      obtain ⟨_, hsz, hz0, _⟩ := hT.is_slice
      refine born_sound hsz h fun B g a w S K Q hK => ?_
      unfold Oper.wp
      rw [‹∀ a : Act, execOp a.eval o = _› a]
      exact hK _ w g.M (Grow.refl S.live) (.slN sz) ⟨0, [], World.ownsAt_nil _ _ _ _, fun b j h => by cases h⟩ (fun b h => by cases h)
    · cases h
  · split at h
    · rename_i v hv
      exact ⟨v, st, h, .pure (StEq.refl st) fun B g a w S => pure_same S (v := a.eval x) (by rw [ho]; rfl) (S.ev hv)⟩
    · cases h
omit hE in
theorem aop_pick {full : Bool} {o : Oper} {c x y : Operand} {st : St} {k : AV → St → Option R} {r : R} (ho : o.op = .pick c x y) (h : aop E call full o st k = some r) : ∃ av st', k av st' = some r ∧ Res P o full st av st' := by
 unfold aop at h
 simp only [ho] at h
 split at h
 · rename_i t ht
   cases t with
   | true =>
    simp only [] at h
    split at h
    · rename_i v hv
      refine ⟨v, _, h, .pure (fix_eq ht) fun B g a w S => pure_same S (v := a.eval x) ?_ (S.ev hv)⟩
      have := (S.ev ht).bool_inv
      simp [execOp, ho, this, asBool]
    · cases h
   | false =>
    simp only [] at h
    split at h
    · rename_i v hv
      refine ⟨v, _, h, .pure (fix_eq ht) fun B g a w S => pure_same S (v := a.eval y) ?_ (S.ev hv)⟩
      have := (S.ev ht).bool_inv
      simp [execOp, ho, this, asBool]
    · cases h
 · cases h
omit hE in
omit [Inv] in
theorem binK_some {t : Option TI} {yc : Bool} {op : BinOp} {a b : AV} {k : Cell → Option R} {r : R} (h : binK t yc op a b k = some r) : ∃ c, binA t yc op a b = some c ∧ k c = some r := by
 unfold binK at h
 split at h
 · rename_i x y
   by_cases hc : x.length + y.length ≤ strLim
   · rw [decide_eq_true hc] at h; exact ⟨_, by simp [binA, strOp, hc], h⟩
   · rw [decide_eq_false hc] at h; cases h
 · rename_i kd x kd' y
   split at h
   · rename_i hk
     by_cases hc : y = 0
     · rw [decide_eq_true hc] at h; cases h
     · rw [decide_eq_false hc] at h; exact ⟨_, by simp [binA, intOp, hc, hk], h⟩
   · cases h
 · rename_i kd x kd' y
   split at h
   · rename_i hk
     by_cases hc : y = 0
     · rw [decide_eq_true hc] at h; cases h
     · rw [decide_eq_false hc] at h; exact ⟨_, by simp [binA, intOp, hc, hk], h⟩
   · cases h
 · rename_i kd x kd' y
   by_cases hc : y < 0
   · rw [decide_eq_true hc] at h; cases h
   · rw [decide_eq_false hc] at h; exact ⟨_, by simp [binA, shOp, hc], h⟩
 · rename_i kd x kd' y
   by_cases hc : y < 0
   · rw [decide_eq_true hc] at h; cases h
   · rw [decide_eq_false hc] at h; exact ⟨_, by simp [binA, shOp, hc], h⟩
 · split at h
   · exact ⟨_, ‹_›, h⟩
   · cases h
omit hE in
omit [Inv] in
theorem binE_some {t : Nat} {yc : Bool} {op : BinOp} {a b : AV} {k : Cell → Option R} {r : R} (h : binE E t yc op a b k = some r) :
 (∃ c, binA (ty E.T t) yc op a b = some c ∧ k c = some r) ∨ ∃ xs ys q l fs, a = .agg xs ∧ b = .agg ys ∧ tyN E.T t = some (.struct l fs) ∧ eqT E.T E.eqs 8 t xs ys = some q ∧ ((op = .eql ∧ k (.bool q) = some r) ∨ (op = .neq ∧ k (.bool (!q)) = some r)) := by
 unfold binE at h
 split at h
 · rename_i xs ys
   split at h
   · rename_i l fs ht
     split at h
     · rename_i q hq
       split at h
       · exact .inr ⟨xs, ys, q, l, fs, rfl, rfl, ht, hq, .inl ⟨rfl, h⟩⟩
       · exact .inr ⟨xs, ys, q, l, fs, rfl, rfl, ht, hq, .inr ⟨rfl, h⟩⟩
       · cases h
     · cases h
   · cases h
 · exact .inl (binK_some h)
 · cases h
omit hE in
omit [Inv] in
theorem RvA.part {g : Gh} {w : World} {us : Array Value} {xs : List Cell} (h : RvA g w us xs) (o n : Nat) : RvA g w (us.extract o (o + n)) ((xs.drop o).take n) := by
 have e : (us.extract o (o + n)).toList = (us.toList.drop o).take n := by
  rw [Array.toList_extract]; simp [List.extract_eq_take_drop]
 refine ⟨?_, fun i v c hv hc => ?_⟩
 · rw [← Array.length_toList, e]; simp [h.1]
 · rw [← Array.getElem?_toList, e, List.getElem?_take] at hv
   rw [List.getElem?_take] at hc
   split at hv
   · rename_i hi
     rw [if_pos hi] at hc
     rw [List.getElem?_drop] at hv hc
     exact h.2 _ v c (by simpa using hv) hc
   · cases hv
theorem eqT_sound {g : Gh} {w : World} : ∀ (d : Nat) (t : Nat) (xs ys : List Cell) (q : Bool) (us vs : Array Value) (e : Nat), eqT E.T E.eqs d t xs ys = some q → RvA g w us xs → RvA g w vs ys →
 ((isAgg t).run P w = .ok true w → (Op.equalIn (d + e) t (.agg us) (.agg vs)).run P w = .ok q w) ∧ ((isAgg t).run P w = .ok false w → ∃ u v, us = #[u] ∧ vs = #[v] ∧ (Op.equalIn (d + e) t u v).run P w = .ok q w)
 | 0, t, xs, ys, q, us, vs, e, h, _, _ => by cases h
 | d + 1, t, xs, ys, q, us, vs, e, h, hu, hv => by
  rw [show d + 1 + e = d + e + 1 by omega]
  simp only [eqT] at h
  split at h
  · rename_i l fs ht
    obtain ⟨ht1, hnt⟩ := tyN_some ht
    have hT := tyIs_of (ty_ok hE.T ht1) hnt
    obtain ⟨fields, hf, hfo⟩ := hT.is_struct
    refine ⟨fun _ => ?_, fun hag => ?_⟩
    · cases hok : E.eqs.any (Nat.beq t) with
      | false => rw [hok] at h; cases h
      | true =>
       rw [hok, condA_true] at h
       rw [List.any_eq_true] at hok
       obtain ⟨t', hm, hb⟩ := hok
       have := Nat.eq_of_beq_eq_true hb
       subst this
       obtain ⟨h1, _, h3⟩ := hE.eqs t hm
       have hfl : P.fieldsOf t = fields := by simp [Program.fieldsOf, hf]
       rw [run_equalIn_struct w (d + e) t us vs (by rw [hfl]; exact hf) h1]
       rw [hfl] at h3 ⊢
       clear hf hfl ht ht1 hnt hT
       revert h hfo h3
       generalize fields.toList = L
       intro h hfo h3
       induction L generalizing fs q with
       | nil =>
        cases fs with
        | nil => simp only [eqFs, Option.some.injEq] at h; subst h; rfl
        | cons x r => simp [fieldsOk] at hfo
       | cons f L ih =>
        cases fs with
        | nil => simp [fieldsOk] at hfo
        | cons x r =>
         obtain ⟨o, n, t2⟩ := x
         simp only [fieldsOk, Bool.and_eq_true] at hfo
         obtain ⟨⟨⟨⟨⟨ho, hn⟩, ht2⟩, hn0⟩, _⟩, hfo⟩ := hfo
         have ho := Nat.eq_of_beq_eq_true ho
         have hn := Nat.eq_of_beq_eq_true hn
         have ht2 := Nat.eq_of_beq_eq_true ht2
         simp only [eqFs] at h
         split at h
         · rename_i a ha
           split at h
           · rename_i b hb
             simp only [Option.some.injEq] at h
             subst h
             have ih2 := ih _ _ hb hfo fun f hf => h3 f (List.mem_cons_of_mem _ hf)
             have hA := eqT_sound (g := g) d t2 _ _ a _ _ e ha (hu.part o n) (hv.part o n)
             have hpos : 0 < n := Nat.lt_of_lt_of_le (Nat.lt_of_lt_of_le Nat.zero_lt_one (Nat.le_of_ble_eq_true hn0)) (Nat.le_refl _)
             simp only [Op.eqFields, if_pos (h3 f List.mem_cons_self), Sem.run_bind]
             have key : ∃ A B, (part f.type us f.offset).run P w = .ok A w ∧ (part f.type vs f.offset).run P w = .ok B w ∧ (Op.equalIn (d + e) f.type A B).run P w = .ok a w := by
              rw [ht2, ho]
              obtain ⟨ti, htt⟩ : ∃ ti, tyN E.T t2 = some ti := by
               cases d with
               | zero => cases ha
               | succ d =>
                simp only [eqT] at ha
                cases hx : tyN E.T t2 with
                | none => rw [hx] at ha; cases ha
                | some ti => exact ⟨ti, rfl⟩
              obtain ⟨hs1, hs2⟩ := tyN_some htt
              have hT2 := tyIs_of (ty_ok hE.T hs1) hs2
              have hcs := hT2.cells
              rw [← ht2, hn] at hcs
              cases hag : ti.isAgg with
              | true =>
               have h5 := hT2.agg (w := w)
               rw [hag] at h5
               refine ⟨.agg (us.extract o (o + n)), .agg (vs.extract o (o + n)), ?_, ?_, hA.1 h5⟩
               · simp [part, h5, hT2.size, hcs]
               · simp [part, h5, hT2.size, hcs]
              | false =>
               have h5 := hT2.agg (w := w)
               rw [hag] at h5
               obtain ⟨u, v, h6, h7, h8⟩ := hA.2 h5
               have h1n : n = 1 := by
                cases ti <;> first | (simp [TI.isAgg] at hag; done) | exact hcs
               subst h1n
               have g1 : us[o]? = some u := by
                have := congrArg (fun a : Array Value => a[0]?) h6
                exact (by simpa [Array.getElem?_extract] using this : _ ∧ us[o]? = some u).2
               have g2 : vs[o]? = some v := by
                have := congrArg (fun a : Array Value => a[0]?) h7
                exact (by simpa [Array.getElem?_extract] using this : _ ∧ vs[o]? = some v).2
               exact ⟨u, v, by simp [part, h5, g1], by simp [part, h5, g2], h8⟩
             obtain ⟨A, B, k1, k2, k3⟩ := key
             rw [k1, Result.andThen_ok, k2, Result.andThen_ok, k3, Result.andThen_ok]
             cases a with
             | true => simpa using ih2
             | false => simp
           · cases h
         · cases h
    · rw [hT.agg] at hag; cases hag
  · rename_i k ht
    obtain ⟨ht1, hnt⟩ := tyN_some ht
    have hT := tyIs_of (ty_ok hE.T ht1) hnt
    refine ⟨fun hag => (by rw [hT.agg] at hag; cases hag), fun _ => ?_⟩
    split at h
    · rename_i k1 a k2 b
      split at h
      · rename_i hk
        obtain ⟨rfl, rfl⟩ := hk
        simp only [Option.some.injEq] at h
        subst h
        obtain ⟨u, rfl, h1⟩ := hu.single
        obtain ⟨v, rfl, h2⟩ := hv.single
        obtain rfl := Rc.int_inv h1
        obtain rfl := Rc.int_inv h2
        exact ⟨_, _, rfl, rfl, run_equalIn_int w (d + e) t _ _ a b hT.is_int⟩
      · cases h
    · cases h
  · rename_i ht
    obtain ⟨ht1, hnt⟩ := tyN_some ht
    have hT := tyIs_of (ty_ok hE.T ht1) hnt
    refine ⟨fun hag => (by rw [hT.agg] at hag; cases hag), fun _ => ?_⟩
    split at h
    · rename_i a b
      simp only [Option.some.injEq] at h
      subst h
      obtain ⟨u, rfl, h1⟩ := hu.single
      obtain ⟨v, rfl, h2⟩ := hv.single
      obtain rfl := Rc.str_inv h1
      obtain rfl := Rc.str_inv h2
      refine ⟨_, _, rfl, rfl, ?_⟩
      rw [run_equalIn_string w (d + e) t _ _ hT.is_str]
      simp [ByteArray.toList_eq]
    · cases h
  · rename_i ht
    obtain ⟨ht1, hnt⟩ := tyN_some ht
    have hT := tyIs_of (ty_ok hE.T ht1) hnt
    refine ⟨fun hag => (by rw [hT.agg] at hag; cases hag), fun _ => ?_⟩
    split at h
    · rename_i a b
      simp only [Option.some.injEq] at h
      subst h
      obtain ⟨u, rfl, h1⟩ := hu.single
      obtain ⟨v, rfl, h2⟩ := hv.single
      obtain rfl := Rc.bool_inv h1
      obtain rfl := Rc.bool_inv h2
      exact ⟨_, _, rfl, rfl, run_equalIn_bool' w (d + e) t a b hT.is_bool⟩
    · cases h
  · cases h
theorem aop_binOp {full : Bool} {o : Oper} {op : BinOp} {t u : TypeId} {x y : Operand} {st : St} {k : AV → St → Option R} {r : R} (ho : o.op = .binOp op t x y u) (h : aop E call full o st k = some r) : ∃ av st', k av st' = some r ∧ Res P o full st av st' := by
 unfold aop at h
 simp only [ho] at h
 split at h
 · rename_i a b ha hb
   rcases binE_some h with ⟨c, hc, h⟩ | ⟨xs, ys, q, l, fs, rfl, rfl, ht, hq, h⟩
   · refine ⟨_, st, h, .pure (StEq.refl st) fun B g a w S => ?_⟩
     obtain ⟨v, h1, h2⟩ := binA_sound hE.T (x := x) (y := y) hc (S.ev ha) (S.ev hb)
     exact pure_same_v S (by simp only [execOp, ho]) h1 h2
   · have hm : t ∈ E.eqs := by
      have hq2 := hq
      simp only [eqT, ht] at hq2
      cases hok : E.eqs.any (Nat.beq t) with
      | false => rw [hok] at hq2; cases hq2
      | true =>
       rw [List.any_eq_true] at hok
       obtain ⟨t', hm, hb⟩ := hok
       rw [Nat.eq_of_beq_eq_true hb]; exact hm
     obtain ⟨hs1, hs2⟩ := tyN_some ht
     have hT := tyIs_of (ty_ok hE.T hs1) hs2
     obtain ⟨_, hgd, _⟩ := hE.eqs t hm
     have eqr : ∀ B g a w, Sim P B g st a w → ∃ us vs, a.eval x = .agg us ∧ a.eval y = .agg vs ∧ (Op.equalIn 10000 t (.agg us) (.agg vs)).run P w = .ok q w := fun B g a w S => by
      obtain ⟨us, e1, h1⟩ := S.ev ha
      obtain ⟨vs, e2, h2⟩ := S.ev hb
      exact ⟨us, vs, e1, e2, (eqT_sound hE 8 t xs ys q us vs 9992 hq h1 h2).1 (by rw [hT.agg]; rfl)⟩
     rcases h with ⟨rfl, h3⟩ | ⟨rfl, h3⟩
     · refine ⟨_, st, h3, .pure (StEq.refl st) fun B g a w S => ?_⟩
       obtain ⟨us, vs, e1, e2, h3⟩ := eqr B g a w S
       have hrun : (do eqGuard .eql t x y (a.eval x) (a.eval y); binOp .eql t (a.eval x) (a.eval y) : Sem Value).run P w = .ok (.bool q) w := by
        rw [e1, e2, Sem.run_bind, run_eqGuard_agg w .eql t x y us vs hgd, Result.andThen_ok, run_eql_struct, h3]; rfl
       exact pure_same_v S (by simp only [execOp, ho]) hrun (.data (.bool _))
     · refine ⟨_, st, h3, .pure (StEq.refl st) fun B g a w S => ?_⟩
       obtain ⟨us, vs, e1, e2, h3⟩ := eqr B g a w S
       have hrun : (do eqGuard .neq t x y (a.eval x) (a.eval y); binOp .neq t (a.eval x) (a.eval y) : Sem Value).run P w = .ok (.bool (!q)) w := by
        rw [e1, e2, Sem.run_bind, run_eqGuard_agg w .neq t x y us vs hgd, Result.andThen_ok, run_neq_struct, h3]; rfl
       exact pure_same_v S (by simp only [execOp, ho]) hrun (.data (.bool _))
 · cases h
omit hE in
theorem aop_unOp {full : Bool} {o : Oper} {op : UnOp} {t : TypeId} {x : Operand} {st : St} {k : AV → St → Option R} {r : R} (ho : o.op = .unOp op t x) (h : aop E call full o st k = some r) : ∃ av st', k av st' = some r ∧ Res P o full st av st' := by
 unfold aop at h
 simp only [ho] at h
 split at h
 · rename_i a ha
   split at h
   · rename_i c hc
     refine ⟨_, st, h, .pure (StEq.refl st) fun B g a w S => ?_⟩
     obtain ⟨v, h1, h2⟩ := unA_sound (P := P) hc (S.ev ha)
     exact pure_same_v S (by simp only [execOp, ho]) h1 h2
   · cases h
 · cases h
theorem aop_build {full : Bool} {o : Oper} {t : TypeId} {parts : Array (Nat × Operand)} {st : St} {k : AV → St → Option R} {r : R} (ho : o.op = .build t parts) (h : aop E call full o st k = some r) : ∃ av st', k av st' = some r ∧ Res P o full st av st' := by
 unfold aop at h
 simp only [ho] at h
 split at h
 · rename_i l fs ht
   split at h
   · rename_i d hfd
     cases full with
     | false => cases hfd
     | true =>
      split at h
      · rename_i ps hps
        split at h
        · rename_i cs hcs
          refine ⟨_, _, h, .eff1 fun B g a w S K Q hK => ?_⟩
          have S1 : Sim P B (g.give d fun _ => some (.slice none 0 0)) (st.clear d) a w := S.nils
          obtain ⟨vs, h1, h2⟩ := build_sound S1 (not_tup hE ht (by simp)) (fun zs hz => zeros_own hz fun L hL => give_here hL) hps hcs
          exact wp_value (by simp only [execOp, ho]; exact run_v h1) (hK _ w _ ⟨vs, rfl, h2⟩ S1)
        · cases h
      · cases h
   · split at h
     · rename_i ps hps
       split at h
       · rename_i cs hcs
         refine ⟨_, st, h, .pure (StEq.refl st) fun B g a w S => ?_⟩
         obtain ⟨vs, h1, h2⟩ := build_sound S (not_tup hE ht (by simp)) (fun zs hz => zerosU_rel hz) hps hcs
         exact pure_same_v S (by simp only [execOp, ho]) h1 ⟨vs, rfl, h2⟩
       · cases h
     · cases h
 · cases h
theorem aop_load {full : Bool} {o : Oper} {t : TypeId} {x : Operand} {st : St} {k : AV → St → Option R} {r : R} (ho : o.op = .load t x) (h : aop E call full o st k = some r) : ∃ av st', k av st' = some r ∧ Res P o full st av st' := by
 unfold aop at h
 simp only [ho] at h
 split at h
 · rename_i ti p ht hp
   split at h
   · rename_i b oo
     obtain ⟨xs, hb, h⟩ := rowK_some h
     rw [loadR_bind] at h
     obtain ⟨av, h1, h2⟩ := bind_some_inv h
     refine ⟨av, st, h2, .pure (StEq.refl st) fun B g a w S => ?_⟩
     obtain ⟨av', u, h3, h4, h5⟩ := loadR_sound S (ty_ok hE.T ht) (S.ev hp) hb h1
     cases h3
     exact pure_same_v S (by simp only [execOp, ho]) h4 h5
   · rename_i b oo
     obtain ⟨H, cs, hG, hb, h⟩ := gobj_some h
     cases ht2 : inL E.tak o.dst with
     | true =>
      rw [ht2, condA_true] at h
      cases full with
      | false => cases h
      | true =>
       rw [condA_true] at h
       unfold takeG at h
       split at h
       · rename_i d e sz hd ht3
         unfold rowAt at h
         split at h
         · rename_i c hc
           have h : castOwn e sz c (fun l => k (.one (.sl (some ⟨d, 0, e⟩) sz l)) ⟨(st.clear d).fr, (st.clear d).H, some (H.set b (cs.set oo (.sl none sz l)))⟩) = some r := h
           obtain ⟨l, rfl, h9⟩ := castOwn_some h
           clear h
           refine ⟨_, _, h9, .eff1 fun B g a w S K Q hK => ?_⟩
           obtain ⟨u, g', h1, h2, h3⟩ := takeG_sound (d := d) S (ty_ok hE.T ht) (S.ev hp) hG hb hc
           exact wp_value (by simp only [execOp, ho]; exact run_v h1) (hK u w g' h2 h3)
         · cases h
       · cases h
     | false =>
      rw [ht2, condA_false, loadG_bind] at h
      obtain ⟨av, h1, h2⟩ := bind_some_inv h
      refine ⟨av, st, h2, .pure (StEq.refl st) fun B g a w S => ?_⟩
      obtain ⟨av', u, h3, h4, h5⟩ := loadG_sound S (ty_ok hE.T ht) (S.ev hp) hG hb h1
      cases h3
      exact pure_same_v S (by simp only [execOp, ho]) h4 h5
   rw [loadK_bind] at h
   obtain ⟨av, h1, h2⟩ := bind_some_inv h
   refine ⟨av, st, h2, .pure (StEq.refl st) fun B g a w S => ?_⟩
   obtain ⟨av', u, h3, h4, h5⟩ := loadK_sound S (ty_ok hE.T ht) (S.ev hp) h1
   cases h3
   exact pure_same_v S (by simp only [execOp, ho]) h4 h5
 · cases h
theorem aop_slice {full : Bool} {o : Oper} {t : TypeId} {x : Operand} {lo hi : Option Operand} {st : St} {k : AV → St → Option R} {r : R} (ho : o.op = .slice t x lo hi none) (h : aop E call full o st k = some r) : ∃ av st', k av st' = some r ∧ Res P o full st av st' := by
 unfold aop at h
 simp only [ho] at h
 have bnd : ∀ {Q : Type} {kk : Option Int → Option Int → Option Q} {q : Q}, boundsK st lo hi kk = some q → ∃ a b, kk a b = some q ∧ ∀ B g ac w, Sim P B g st ac w → BoundIs ac lo a ∧ BoundIs ac hi b := by
  intro Q kk q hq
  unfold boundsK boundK at hq
  have one : ∀ (y : Operand) (n : Int), asInt? (ev st y) = some n → ∀ B g ac w, Sim P B g st ac w → BoundIs ac (some y) (some n) := fun y n hn B g ac w S => by
   unfold asInt? at hn
   split at hn
   · rename_i kd n' he
     simp only [Option.some.injEq] at hn
     subst hn
     exact .inr ⟨y, n', kd, rfl, rfl, (S.ev he).int_inv⟩
   · cases hn
  split at hq
  · split at hq
    · exact ⟨none, none, hq, fun B g ac w S => ⟨.inl ⟨rfl, rfl⟩, .inl ⟨rfl, rfl⟩⟩⟩
    · split at hq
      · rename_i n hn
        exact ⟨none, some n, hq, fun B g ac w S => ⟨.inl ⟨rfl, rfl⟩, one _ n hn B g ac w S⟩⟩
      · cases hq
  · split at hq
    · rename_i m hm
      split at hq
      · exact ⟨some m, none, hq, fun B g ac w S => ⟨one _ m hm B g ac w S, .inl ⟨rfl, rfl⟩⟩⟩
      · split at hq
        · rename_i n hn
          exact ⟨some m, some n, hq, fun B g ac w S => ⟨one _ m hm B g ac w S, one _ n hn B g ac w S⟩⟩
        · cases hq
    · cases hq
 split at h
 · rename_i l ht hx
   obtain ⟨a', b', h1, h2⟩ := bnd h
   obtain ⟨p, q, h3, h4, h5, h6, h7⟩ := cutK_some h1
   refine ⟨_, st, h3, .pure (StEq.refl st) fun B g a w S => ?_⟩
   obtain ⟨hl, hh⟩ := h2 B g a w S
   have hT := (not_tup hE ht (by simp)).is_str
   exact pure_same_v S (by simp only [execOp, ho]; rfl) (sliceStr_sound hT (S.ev hx) hl hh h4 h5 h6 h7) (.data (.str _))
 · rename_i e sz nm s cs ht hx
   cases hs : Nat.beq s sz || Nat.beq s 0 with
   | false => rw [hs] at h; cases h
   | true =>
    rw [hs] at h
    simp only [condA_true] at h
    have hs' : s = sz ∨ s = 0 := by
     rw [Bool.or_eq_true] at hs
     exact hs.imp Nat.eq_of_beq_eq_true Nat.eq_of_beq_eq_true
    cases htk : inL E.tak o.dst with
    | true =>
     rw [htk, condA_true] at h
     cases full with
     | false => cases h
     | true =>
      rw [condA_true] at h
      unfold cutOwn at h
      split at h
      · rename_i d L hd
        cases hel : Nat.beq L.elem e with
        | false => rw [hel] at h; cases h
        | true =>
         rw [hel, condA_true] at h
         have hB : ∃ m, cutK (cs.length / sz) m none (fun p _ => k (.one (.sl (some ⟨d, 0, e⟩) sz (cs.drop (p * sz)))) ((st.strike (isNm L)).clear d)) = some r ∧ ∀ B g a w, Sim P B g st a w → BoundIs a lo m := by
          unfold boundK at h
          split at h
          · exact ⟨none, h, fun B g a w S => .inl ⟨rfl, rfl⟩⟩
          · rename_i y
            split at h
            · rename_i n hn
              refine ⟨some n, h, fun B g a w S => .inr ⟨y, n, ?_⟩⟩
              unfold asInt? at hn
              split at hn
              · rename_i kd n' he
                simp only [Option.some.injEq] at hn
                subst hn
                exact ⟨kd, rfl, rfl, (S.ev he).int_inv⟩
              · cases hn
            · cases h
         obtain ⟨m, hm, hbd⟩ := hB
         obtain ⟨p, q, h3, h4, h5, h6, _⟩ := cutK_some hm
         refine ⟨_, _, h3, .eff1 fun B g a w S K Q hK => ?_⟩
         obtain ⟨u, g', h8, h9, h10⟩ := cutOwn_sound (d := d) S (not_tup hE ht (by simp)) (S.ev hx) hs' (Nat.eq_of_beq_eq_true hel) (hbd B g a w S) h6 (Nat.le_trans h4 h5)
         exact wp_value (by simp only [execOp, ho]; exact run_v h8) (hK u w g' h9 h10)
      · cases h
    | false =>
    rw [htk, condA_false] at h
    obtain ⟨a', b', h1, h2⟩ := bnd h
    obtain ⟨p, q, h3, h4, h5, h6, h7⟩ := cutK_some h1
    refine ⟨_, st, h3, .pure (StEq.refl st) fun B g a w S => ?_⟩
    obtain ⟨hl, hh⟩ := h2 B g a w S
    obtain ⟨u, h8, h9⟩ := sliceSl_sound (not_tup hE ht (by simp)) (S.ev hx) hs' hl hh h4 h5 h6 h7
    exact pure_same_v S (by simp only [execOp, ho]; rfl) h8 (.data h9)
 · cases h
end
end AX
end Go.Proofs.YtnkppakkeobegaaGreatDoor
namespace Go.Proofs.YtnkppakkeobegaaGreatDoor
namespace AX
variable [Inv]
open Go.RowKit
variable {P : Program} {R : Type}
section
variable {E : Env} {call : CallF} (hE : EnvOk P E)
omit [Inv] in
theorem size_or {s sz : Nat} (h : (Nat.beq s sz || Nat.beq s 0) = true) : s = sz ∨ s = 0 := by
 rw [Bool.or_eq_true] at h
 exact h.imp Nat.eq_of_beq_eq_true Nat.eq_of_beq_eq_true
include hE
theorem aop_buildSlice {full : Bool} {o : Oper} {t : TypeId} {len : Nat} {parts : Array (Nat × Operand)} {st : St} {k : AV → St → Option R} {r : R} (ho : o.op = .buildSlice t len parts) (h : aop E call full o st k = some r) : ∃ av st', k av st' = some r ∧ Res P o full st av st' := by
 unfold aop at h
 simp only [ho] at h
 split at h
 · rename_i e sz ps ht hps
   split at h
   · rename_i ti hti
     rw [partsK_bind] at h
     obtain ⟨ps', h1, h2⟩ := bind_some_inv h
     cases hc : Nat.blt 0 (len * sz) && Nat.ble (len * sz) 1000000 with
     | false => rw [hc] at h2; cases h2
     | true =>
      rw [hc] at h2
      simp only [condA_true] at h2
      rw [Bool.and_eq_true] at hc
      have hpos : 0 < len * sz := Nat.lt_of_lt_of_le Nat.zero_lt_one (by simpa [Nat.blt] using hc.1)
      have hle : len * sz ≤ 1000000 := Nat.le_of_ble_eq_true hc.2
      split at h2
      · rename_i cs hcs
        have hT := not_tup hE ht (by simp)
        obtain ⟨hti, hnt⟩ := tyN_some hti
        have hE2 := not_tup hE hti hnt
        obtain ⟨_, hsz, hz0, _⟩ := hT.is_slice
        refine born_sound hsz h2 fun B g a w S K Q hK => ?_
        obtain ⟨cs', vs, h3, h4, h5, h6⟩ := buildSlice_sound (k := some) S hT hE2 hps hpos hle (by rw [partsK_bind, h1]; simp only [Option.bind_some, hcs]; rfl)
        cases h3
        have hcl : cs.length = len * sz := by rw [← h5.1, h6]
        obtain ⟨hG, hR⟩ := fresh_row (g := g) (w := w) (w' := w.alloc (.cells vs e)) (cs := cs) (f := fun j => vs.getD j undef) (len := len) (cap := len) (sz := sz) S.live ((Below.refl _ _).alloc (Nat.le_refl _) _) (by show w.heap.size < (w.heap.push _).size; simp) (fun j hj => by
         rw [cell_of_row _ _ j vs e (0, 0) (heap_alloc_new w _)]
         have : j < vs.size := by rw [h6, ← hcl]; exact hj
         rw [Array.getElem?_eq_getElem this]; simp [Array.getD, this]) (fun j c hc => by
         have hj : j < vs.size := by rw [h6, ← hcl]; exact (List.getElem?_eq_some_iff.1 hc).1
         exact h5.2 j _ c (by simp [Array.getD, hj]) hc) hcl hz0 (Nat.le_refl _)
        refine wp_value (o := o) (v := .slice (some ⟨w.heap.size, 0, none⟩) len len) (w' := w.alloc (.cells vs e)) ?_ (hK _ _ _ hG hR ⟨len, vs.toList, World.ownsRow.at ⟨by simp [h6], .inr ⟨w.heap.size, len, vs, rfl, Nat.zero_le _, heap_alloc_new w _, Nat.le_refl _, ?_, h6, List.take_of_length_le (by rw [Array.length_toList, h6]; exact Nat.le_refl _)⟩⟩, fun b j hb hm => ?_⟩ fun b hb => ?_)
        · simp only [execOp, ho]; exact run_v h4
        · unfold maxLen
          have : len ≤ len * sz := Nat.le_mul_of_pos_right _ hz0
          omega
        · have hb := ob_own hb
          simp only [Value.ownBlock, Option.some.injEq] at hb
          subst hb
          rcases hm with hm | ⟨_, hm⟩
          · have := S.live _ j hm; omega
          · show j < 0 + len * sz
            rw [← hcl]; omega
        · have hb := ob_own hb
          simp only [Value.ownBlock, Option.some.injEq] at hb
          omega
      · cases h2
   · cases h
 · cases h
omit hE in
theorem convOwn_sound {B : Base} {g : Gh} {st : St} {a : Act} {w : World} {src e : TypeId} {s : Nat} {L : Nm} {cs : List Cell} {x : Value} (S : Sim P B g st a w) (hu : P.underlying src = some (.slice e))
 (hi : P.underlying e = some (.int .u8)) (hv : Rc g w x (.sl (some L) s cs)) (hc : 0 < cs.length) :
 ∃ w' g', (convert src src x).run P w = .ok x w' ∧ Rc g' w' x (.sl none s cs) ∧ Sim P B g' (st.strike (isNm L)) a w' := by
 obtain ⟨hown, hR⟩ : g.ow L = some x ∧ Rd g.M w x (.sl none s cs) := by
  cases hv with
  | data h => cases h
  | own _ h1 h2 => exact ⟨h1, h2⟩
 obtain ⟨n, xs, hrow, hMb⟩ := S.ow.row L x hown
 rcases hrow.2 with ⟨rfl, rfl | ⟨q, rfl⟩⟩ | ⟨g0, off, cap, cur, rfl, hcap, hg0, _⟩
 · cases hR; simp at hc
 · cases hR <;> simp_all
 have hob : (Value.slice (some ⟨g0, off, none⟩) n cap).ob = some g0 := by simp only [Value.ob]; rw [if_neg (by omega)]
 let w' := w.freeze ⟨g0, cur.size, none⟩ 1
 have hoth : ∀ k, k ≠ g0 → w'.heap[k]? = w.heap[k]? := fun k hk => by
  show (w.heap.modify g0 _)[k]? = _
  rw [Array.getElem?_modify, if_neg (Ne.symm hk)]
 have hcell : ∀ k j, w'.cell? ⟨k, j, none⟩ = w.cell? ⟨k, j, none⟩ := fun k j => by
  show World.cell? (w.freeze ⟨g0, cur.size, none⟩ 1) _ = _
  simp only [World.freeze, World.cell?]
  rw [if_neg (by decide)]
  simp only [Array.getElem?_modify]
  by_cases e : g0 = k
  · subst e
    rw [if_pos rfl, hg0]
    rfl
  · rw [if_neg e]
 have hsz : w'.heap.size = w.heap.size := by show (w.heap.modify g0 _).size = _; simp
 have hk : Kp g.M w g.M w' := ⟨fun b j h => ⟨h, hcell b j⟩, List.prefix_refl _⟩
 have hs : ∀ {M : Nm} {u : Value}, (if M = L then none else g.ow M) = some u → M ≠ L ∧ g.ow M = some u := fun {M u} h => by
  by_cases hL : M = L
  · rw [if_pos hL] at h; cases h
  · rw [if_neg hL] at h; exact ⟨hL, h⟩
 refine ⟨w', ⟨g.M, g.bx, fun M => if M = L then none else g.ow M⟩, ?_, .data (hR.kept hk), ?_⟩
 · have hmk : (markStringish ⟨g0, off, none⟩).run P w = .ok () w' := by
    simp only [markStringish, Sem.run_bind, run_shape, World.shape?, hg0, Result.andThen_ok]
    rfl
   unfold convert
   simp only [Sem.run_bind, run_underlying hu, run_underlying hi, Result.andThen_ok, beq_self_eq_true, hmk, Sem.run_pure]
 · refine S.move (g' := ⟨g.M, g.bx, fun M => if M = L then none else g.ow M⟩) hk rfl (fun blk hb => hoth blk fun e => S.bx.ow L _ g0 hown hob (by rw [← e]; exact hb)) (fun blk hb j => S.bx.M blk hb j) (fun M u hp hx => ?_)
    ⟨fun M u hx => ?_, fun M M' u u' hM hx hx' => S.ow.ne M M' u u' hM (hs hx).2 (hs hx').2⟩ (fun M u b hx hb => S.bx.ow M u b (hs hx).2 hb) (fun M u b hx hb => S.owB M u b (hs hx).2 hb)
    ⟨S.fr.os, S.fr.tape, S.fr.output, by rw [hsz]; exact S.fr.size, fun k hk1 hk2 => ?_, S.fr.kp.trans hk, S.fr.old⟩ (fun b j hm => by rw [hsz]; exact S.live b j hm)
    (S.gk.keep ⟨rfl, rfl⟩ hk (fun b hb => hoth b fun e => S.gk.oow L _ g0 hown hob (by rw [← e]; exact hb)) (fun _ _ _ h => h) S.gk.obx fun M u b hx hb => S.gk.oow M u b (hs hx).2 hb)
   · have hne : M ≠ L := fun e => by
      subst e
      rw [isNm_same] at hp; cases hp
     show (if M = L then none else g.ow M) = some u
     rw [if_neg hne]; exact hx
   · obtain ⟨hne, hx2⟩ := hs hx
     obtain ⟨m, ys, h1, h2⟩ := S.ow.row M u hx2
     exact ⟨m, ys, ownsRow_block h1 fun b hb => hoth b fun e => by
      rcases S.ow.ne M L u _ hne hx2 hown with h | h
      · rw [h] at hb; cases hb
      · exact h (by rw [hb, hob, e]), h2⟩
   · rw [hoth k fun e => by
      subst e
      rcases S.owB L _ k hown hob with h | h
      · exact hk2 h
      · omega]
     exact S.fr.block k hk1 hk2
theorem aop_convert {full : Bool} {o : Oper} {src dst : TypeId} {x : Operand} {st : St} {k : AV → St → Option R} {r : R} (ho : o.op = .convert src dst x) (h : aop E call full o st k = some r) : ∃ av st', k av st' = some r ∧ Res P o full st av st' := by
 unfold aop at h
 simp only [ho] at h
 split at h
 · rename_i k1 kd k2 n hs hd hx
   refine ⟨_, st, h, .pure (StEq.refl st) fun B g a w S => ?_⟩
   have e := (S.ev hx).int_inv
   have h1 := (not_tup hE hs (by simp)).is_int
   have h2 := (not_tup hE hd (by simp)).is_int
   refine pure_same_v S (v := .int kd (kd.wrap n)) (by simp only [execOp, ho]; rfl) ?_ (.data (.int _ _))
   rw [e]
   simp [convert, run_underlying h1, run_underlying h2, Conv.intToInt]
 · rename_i e sz l hs hd hx
   cases hc : Nat.beq sz 1 with
   | false => rw [hc] at h; cases h
   | true =>
    rw [hc] at h
    simp only [condA_true] at h
    split at h
    · rename_i he
      have h1 := (not_tup hE hs (by simp)).is_str
      obtain ⟨h2, _⟩ := (not_tup hE hd (by simp)).is_slice
      have h3 := (not_tup hE he (by simp)).is_int
      cases hbx : isBoxed E o.dst with
      | true =>
       rw [hbx] at h
       simp only [condA_true] at h
       cases full with
       | false => cases h
       | true =>
       simp only [condA_true] at h
       refine ⟨_, _, h, .eff1 fun B g a w S K Q hK => ?_⟩
       obtain ⟨u, w', g', h4, h5, h6⟩ := convRow_sound S h1 h2 h3 (S.ev hx)
       exact wp_value (by simp only [execOp, ho]; exact run_v h4) (hK _ _ _ h5 h6)
      | false =>
      rw [hbx] at h
      simp only [condA_false] at h
      refine ⟨_, st, h, .pure (StEq.refl st) fun B g a w S K Q hK => ?_⟩
      obtain ⟨u, w', h4, h5, h6⟩ := convSB_sound S.live h1 h2 h3 (S.ev hx)
      exact wp_value (by simp only [execOp, ho]; exact run_v h4) (hK _ _ _ h5 (.data h6))
    · cases h
 · rename_i e sz b sz' n hs hd hx
   cases hc : Nat.beq sz 1 with
   | false => rw [hc] at h; cases h
   | true =>
    rw [hc] at h
    simp only [condA_true] at h
    split at h
    · rename_i he
      obtain ⟨xs, hb, h⟩ := rowK_some h
      cases hnl : Nat.ble n xs.length with
      | false => rw [hnl] at h; cases h
      | true =>
      rw [hnl] at h
      simp only [condA_true] at h
      rw [bytesK_bind] at h
      obtain ⟨l, h1, h2⟩ := bind_some_inv h
      refine ⟨_, st, h2, .pure (StEq.refl st) fun B g a w S => ?_⟩
      obtain ⟨l', h3, h4⟩ := rowStr_sound (k := some) S (not_tup hE hs (by simp)).is_slice.1 (not_tup hE hd (by simp)).is_str (not_tup hE he (by simp)).is_int (S.ev hx) hb h1 (Nat.le_of_ble_eq_true hnl)
      cases h3
      exact pure_same_v S (by simp only [execOp, ho]) h4 (.data (.str _))
    · cases h
 · rename_i e sz nm s cs hs hd hx
   cases hc : Nat.beq sz 1 && (Nat.beq s sz || Nat.beq s 0) with
   | false => rw [hc] at h; cases h
   | true =>
    rw [hc] at h
    simp only [condA_true] at h
    rw [Bool.and_eq_true] at hc
    split at h
    · rename_i he
      rw [bytesK_bind] at h
      obtain ⟨l, h1, h2⟩ := bind_some_inv h
      refine ⟨_, st, h2, .pure (StEq.refl st) fun B g a w S => ?_⟩
      obtain ⟨l', h3, h4⟩ := convBS_sound (not_tup hE hs (by simp)) (not_tup hE hd (by simp)).is_str (not_tup hE he (by simp)).is_int (Nat.eq_of_beq_eq_true hc.1) (S.ev hx) (size_or hc.2) h1
      cases h3
      exact pure_same_v S (by simp only [execOp, ho]) h4 (.data (.str _))
    · cases h
 · rename_i e sz e2 sz2 L s cs hs hd hx
   cases full with
   | false => cases h
   | true =>
    rw [condA_true] at h
    cases hc : Nat.beq src dst && (Nat.beq s sz || Nat.beq s 0) && Nat.blt 0 cs.length with
    | false => rw [hc] at h; cases h
    | true =>
     rw [hc, condA_true] at h
     simp only [Bool.and_eq_true] at hc
     obtain ⟨⟨h1, _⟩, h3⟩ := hc
     have h1 := Nat.eq_of_beq_eq_true h1
     subst h1
     rw [Nat.blt_eq] at h3
     split at h
     · rename_i he
       refine ⟨_, _, h, .eff1 fun B g a w S K Q hK => ?_⟩
       obtain ⟨w', g', h4, h5, h6⟩ := convOwn_sound S (not_tup hE hs (by simp)).is_slice.1 (not_tup hE he (by simp)).is_int (S.ev hx) h3
       exact wp_value (by simp only [execOp, ho]; exact run_v h4) (hK _ _ _ h5 h6)
     · cases h
 · cases h
theorem aop_fieldAddr {full : Bool} {o : Oper} {t : TypeId} {x : Operand} {f : Nat} {st : St} {k : AV → St → Option R} {r : R} (ho : o.op = .fieldAddr t x f) (h : aop E call full o st k = some r) : ∃ av st', k av st' = some r ∧ Res P o full st av st' := by
 unfold aop at h
 simp only [ho] at h
 split at h
 · rename_i l fs b oo ht hx
   split at h
   · rename_i o' n t' hf
     refine ⟨_, st, h, .pure (StEq.refl st) fun B g a w S => ?_⟩
     obtain ⟨u, h1, h2⟩ := fieldAddr_sound (not_tup hE ht (by simp)) hf (S.ev hx) (.inl ⟨b, oo, rfl, rfl⟩)
     exact pure_same_v S (by simp only [execOp, ho]) h1 h2
   · cases h
 · rename_i l fs cs ht hx
   split at h
   · rename_i o' n t' hf
     refine ⟨_, st, h, .pure (StEq.refl st) fun B g a w S => ?_⟩
     obtain ⟨u, h1, h2⟩ := fieldAddr_sound (not_tup hE ht (by simp)) hf (S.ev hx) (.inr ⟨cs, rfl, rfl⟩)
     exact pure_same_v S (by simp only [execOp, ho]) h1 h2
   · cases h
 · rename_i l fs b oo ht hx
   split at h
   · rename_i o' n t' hf
     refine ⟨_, st, h, .pure (StEq.refl st) fun B g a w S => ?_⟩
     obtain ⟨blk, he, hb⟩ := (S.ev hx).bptr_inv
     obtain ⟨u, h1, h2⟩ := fieldAddr_sound (g := g) (w := w) (v := a.eval x) (c := .ptr b (oo + o')) (not_tup hE ht (by simp)) hf (by rw [he]; exact .ptr b oo blk hb) (.inl ⟨b, oo, rfl, rfl⟩)
     refine pure_same_v S (by simp only [execOp, ho]) h1 ?_
     obtain ⟨blk', rfl, hb'⟩ := h2.ptr_inv
     exact .bptr _ _ _ hb'
   · cases h
 · rename_i l fs b oo ht hx
   split at h
   · rename_i o' n t' hf
     refine ⟨_, st, h, .pure (StEq.refl st) fun B g a w S => ?_⟩
     obtain ⟨blk, he, hb⟩ := Rc.gptr_inv (S.ev hx)
     have h1 := fieldAt_run (P := P) (w := w) (blk := blk) (p := oo) (not_tup hE ht (by simp)) hf
     rw [← he] at h1
     exact pure_same_v S (by simp only [execOp, ho]) h1 (.data (.gptr b _ blk hb))
   · cases h
 · cases h
theorem aop_field {full : Bool} {o : Oper} {t : TypeId} {x : Operand} {f : Nat} {st : St} {k : AV → St → Option R} {r : R} (ho : o.op = .field t x f) (h : aop E call full o st k = some r) : ∃ av st', k av st' = some r ∧ Res P o full st av st' := by
 unfold aop at h
 simp only [ho] at h
 split at h
 · rename_i l fs cs ht hx
   split at h
   · rename_i o' n t' hf
     split at h
     · rename_i ti hti
       obtain ⟨hti, hnt⟩ := tyN_some hti
       cases hA : ti.isAgg with
       | true =>
        rw [hA] at h
        simp only [condA_true] at h
        refine ⟨_, st, h, .pure (StEq.refl st) fun B g a w S => ?_⟩
        obtain ⟨u, h1, h2⟩ := (field_sound (not_tup hE ht (by simp)) hf (not_tup hE hti hnt) (S.ev hx)).1 hA
        exact pure_same_v S (by simp only [execOp, ho]) h1 h2
       | false =>
        rw [hA] at h
        simp only [condA_false] at h
        split at h
        · rename_i c hc
          refine ⟨_, st, h, .pure (StEq.refl st) fun B g a w S => ?_⟩
          obtain ⟨u, h1, h2⟩ := (field_sound (not_tup hE ht (by simp)) hf (not_tup hE hti hnt) (S.ev hx)).2 hA c hc
          exact pure_same_v S (by simp only [execOp, ho]) h1 h2
        · cases h
     · cases h
   · cases h
 · cases h
omit [Inv] hE in
theorem splitI_some {i : Int} {k : Nat → Option R} {r : R} : ∀ {m j : Nat}, splitI m j i k = some r → ∃ q, q < j + m ∧ i = (q : Int) ∧ k q = some r
 | 0, _, h => by cases h
 | m + 1, j, h => by
  simp only [splitI] at h
  cases hc : decide (i = (j : Int)) with
  | true => rw [hc, condA_true] at h; exact ⟨j, by omega, of_decide_eq_true hc, h⟩
  | false =>
   rw [hc, condA_false] at h
   obtain ⟨q, h1, h2, h3⟩ := splitI_some h
   exact ⟨q, by omega, h2, h3⟩
theorem aop_indexAddr {full : Bool} {o : Oper} {t : TypeId} {x i : Operand} {st : St} {k : AV → St → Option R} {r : R} (ho : o.op = .indexAddr t x i) (h : aop E call full o st k = some r) : ∃ av st', k av st' = some r ∧ Res P o full st av st' := by
 unfold aop at h
 simp only [ho] at h
 split at h
 · rename_i e sz nm s cs kd n ht hx hi
   cases hc : Nat.beq s sz || Nat.beq s 0 with
   | false => rw [hc] at h; cases h
   | true =>
    rw [hc] at h
    simp only [condA_true] at h
    have hs := size_or hc
    cases h1 : Nat.beq sz 1 with
    | true =>
     rw [h1] at h
     simp only [condA_true] at h
     have e1 := Nat.eq_of_beq_eq_true h1
     subst e1
     obtain ⟨c, h0, h2, h3⟩ := itemK_some h
     have hlt : n.toNat < cs.length := (List.getElem?_eq_some_iff.1 h2).1
     refine ⟨_, st, h3, .pure (StEq.refl st) fun B g a w S => ?_⟩
     obtain ⟨u, h4, h5⟩ := indexSl_sound (kd := kd) (not_tup hE ht (by simp)) (S.ev hx) hs h0 (by omega)
     have e2 : (cs.drop (n.toNat * 1)).take 1 = [c] := by
      have h6 : cs[n.toNat] = c := (List.getElem?_eq_some_iff.1 h2).2
      rw [Nat.mul_one, List.drop_eq_getElem_cons hlt, h6]
      rfl
     rw [e2] at h5
     rw [← (S.ev hi).int_inv] at h4
     exact pure_same_v S (by simp only [execOp, ho]) h4 h5
    | false =>
     rw [h1] at h
     simp only [condA_false] at h
     obtain ⟨hb, h2⟩ := guardB_some h
     rw [Bool.and_eq_true, decide_eq_true_eq, decide_eq_true_eq] at hb
     refine ⟨_, st, h2, .pure (StEq.refl st) fun B g a w S => ?_⟩
     obtain ⟨u, h4, h5⟩ := indexSl_sound (kd := kd) (not_tup hE ht (by simp)) (S.ev hx) hs hb.1 hb.2
     rw [← (S.ev hi).int_inv] at h4
     exact pure_same_v S (by simp only [execOp, ho]) h4 h5
 · rename_i e sz b sz' m kd n ht hx hi
   obtain ⟨hb, h2⟩ := guardB_some h
   rw [Bool.and_eq_true, decide_eq_true_eq, decide_eq_true_eq] at hb
   refine ⟨_, st, h2, .pure (StEq.refl st) fun B g a w S => ?_⟩
   obtain ⟨blk, cap, he, hbx, _, _⟩ := (S.ev hx).bsl_inv
   have h4 := indexRow_run (kd := kd) (blk := blk) (cap := cap) (w := w) (not_tup hE ht (by simp)) hb.1 hb.2
   rw [← he, ← (S.ev hi).int_inv] at h4
   exact pure_same_v S (by simp only [execOp, ho]) h4 (.bptr _ _ _ hbx)
 · rename_i l len sz e b oo kd n ht hx hi
   obtain ⟨hb, h2⟩ := guardB_some h
   rw [Bool.and_eq_true, decide_eq_true_eq, decide_eq_true_eq] at hb
   refine ⟨_, st, h2, .pure (StEq.refl st) fun B g a w S => ?_⟩
   obtain ⟨blk, he, hbx⟩ := Rc.gptr_inv (S.ev hx)
   have h4 := indexArr_run (P := P) (kd := kd) (blk := blk) (o := oo) (w := w) (not_tup hE ht (by simp)) hb.1 hb.2
   rw [← he, ← (S.ev hi).int_inv] at h4
   exact pure_same_v S (by simp only [execOp, ho]) h4 (.data (.gptr b _ blk hbx))
 · rename_i l len sz e b oo kd n ht hx hi
   cases hco : isConstO i with
   | true =>
    rw [hco, condA_true] at h
    obtain ⟨hb, h2⟩ := guardB_some h
    rw [Bool.and_eq_true, decide_eq_true_eq, decide_eq_true_eq] at hb
    refine ⟨_, st, h2, .pure (StEq.refl st) fun B g a w S => ?_⟩
    obtain ⟨u, h4, h5⟩ := indexArr_sound (kd := kd) (not_tup hE ht (by simp)) (S.ev hx) hb.1 hb.2
    rw [← (S.ev hi).int_inv] at h4
    exact pure_same_v S (by simp only [execOp, ho]) h4 h5
   | false =>
    rw [hco, condA_false] at h
    obtain ⟨j, hj, hn, h2⟩ := splitI_some h
    subst hn
    refine ⟨_, st, h2, .pure (StEq.refl st) fun B g a w S => ?_⟩
    obtain ⟨u, h4, h5⟩ := indexArr_sound (kd := kd) (n := (j : Int)) (not_tup hE ht (by simp)) (S.ev hx) (by omega) (by omega)
    rw [← (S.ev hi).int_inv] at h4
    exact pure_same_v S (by simp only [execOp, ho]) h4 (by rw [Int.toNat_natCast] at h5; exact h5)
 · cases h
theorem aop_len {full : Bool} {o : Oper} {args : Array Operand} {argTypes : Array TypeId} {st : St} {k : AV → St → Option R} {r : R} (ho : o.op = .call ⟨.builtin .len, args, argTypes⟩) (h : aop E call full o st k = some r) : ∃ av st', k av st' = some r ∧ Res P o full st av st' := by
 unfold aop at h
 simp only [ho] at h
 split at h
 · rename_i t x hts hxs
   have hta : argTypes = #[t] := by
    apply Array.toList_inj.1; rw [hts]
   obtain ⟨y, hy⟩ : ∃ y, args = #[y] := by
    cases hl : args.toList with
    | nil => rw [hl] at hxs; cases hxs
    | cons y l => cases l with
     | nil => exact ⟨y, by apply Array.toList_inj.1; rw [hl]⟩
     | cons z l =>
      rw [hl] at hxs
      simp only [evl] at hxs
      split at hxs
      · rename_i v l2 _ h2
        split at h2
        · cases h2; cases hxs
        · cases h2
      · cases hxs
   subst hta; subst hy
   have hev : ev st y = some x := by
    simp only [evl] at hxs
    split at hxs
    · rename_i v l hv hl
      cases hl; cases hxs; exact hv
    · cases hxs
   have hx : ∀ (a : Act), execOp a.eval o = (do pure (Next.value (← Builtin.len_ #[t] o.type #[a.eval y])) : Sem Next) := fun a => by
    simp [execOp, ho, resolve, invoke, builtin]
   split at h
   · rename_i l ht
     refine ⟨_, st, h, .pure (StEq.refl st) fun B g a w S => ?_⟩
     exact pure_same_v S (hx a) (len_sound (n := (l.length : Int)) rfl (S.ev hev) (.inl ⟨l, rfl, (not_tup hE ht (by simp)).is_str⟩)) (.data (.int _ _))
   · rename_i e sz' nm s cs ht
     refine ⟨_, st, h, .pure (StEq.refl st) fun B g a w S => ?_⟩
     obtain ⟨hu, _⟩ := (not_tup hE ht (by simp)).is_slice
     exact pure_same_v S (hx a) (len_sound (n := ((cs.length / s : Nat) : Int)) rfl (S.ev hev) (.inr ⟨nm, s, cs, e, rfl, hu⟩)) (.data (.int _ _))
   · rename_i e sz' b s n ht
     refine ⟨_, st, h, .pure (StEq.refl st) fun B g a w S => ?_⟩
     obtain ⟨hu, _⟩ := (not_tup hE ht (by simp)).is_slice
     obtain ⟨blk, cap, he, _, _, _⟩ := (S.ev hev).bsl_inv
     exact pure_same_v S (hx a) (by rw [he]; exact lenRow_run hu) (.data (.int _ _))
   · cases h
 · cases h
end
end AX
end Go.Proofs.YtnkppakkeobegaaGreatDoor
namespace Go.Proofs.YtnkppakkeobegaaGreatDoor
namespace AX
variable [Inv]
open Go.RowKit
variable {P : Program} {R : Type}
omit [Inv] in
theorem All2.get {α β : Type} {C : α → β → Prop} {l : List α} {m : List β} (h : All2 C l m) : l.length = m.length := by induction h with | nil => rfl | cons _ _ ih => simp [ih]
omit [Inv] in
theorem All2.imp {α β γ : Type} {C : α → β → Prop} {D : γ → β → Prop} {f : α → γ} {l : List α} {m : List β} (h : All2 C l m) (hi : ∀ a b, a ∈ l → C a b → D (f a) b) : All2 D (l.map f) m := by
 induction h with
 | nil => exact .nil
 | cons h1 _ ih => exact .cons (hi _ _ List.mem_cons_self h1) (ih fun a b ha => hi a b (List.mem_cons_of_mem _ ha))
omit [Inv] in
theorem Rv.toBare {g g' : Gh} {w : World} {v : Value} {x : AV} (h : Rv g w v x) (hp : x.hasPtr = false) (hM : g'.M = g.M) : Rv g' w v x.bare := by
 have hc : ∀ v c, Rc g w v c → hasPtr c = false → Rc g' w v c.bare := fun v c h hp => .data (by rw [hM]; exact h.toData hp)
 have hA : ∀ vs cs, RvA g w vs cs → cs.any hasPtr = false → RvA g' w vs (cs.map Cell.bare) := fun vs cs h hp => by
  refine ⟨by rw [List.length_map]; exact h.1, fun i v c hv hcc => ?_⟩
  rw [List.getElem?_map] at hcc
  cases hi : cs[i]? with
  | none => rw [hi] at hcc; cases hcc
  | some c0 =>
   rw [hi] at hcc; cases hcc
   refine hc _ _ (h.2 i v c0 hv hi) ?_
   rw [List.any_eq_false] at hp
   have := hp c0 (List.mem_of_getElem? hi)
   simpa using this
 cases x with
 | one c => exact hc _ _ h hp
 | agg cs => obtain ⟨vs, rfl, h⟩ := h; exact ⟨vs, rfl, hA vs cs h hp⟩
 | tup xs =>
  obtain ⟨vs, rfl, h1, h2⟩ := h
  refine ⟨vs, rfl, by rw [List.length_map]; exact h1, fun i u x hu hx => ?_⟩
  rw [List.getElem?_map] at hx
  cases hi : xs[i]? with
  | none => rw [hi] at hx; cases hx
  | some x0 =>
   rw [hi] at hx; cases hx
   have hp0 : x0.hasPtr = false := by
    have hp' : xs.any V1.hasPtr = false := hp
    rw [List.any_eq_false] at hp'
    have := hp' x0 (List.mem_of_getElem? hi)
    simpa using this
   have hr := h2 i u x0 hu hi
   cases x0 with
   | one c => exact hc _ _ hr (by simpa [V1.hasPtr, V1.cells] using hp0)
   | agg cs => obtain ⟨vs', rfl, hr⟩ := hr; exact ⟨vs', rfl, hA vs' cs hr hp0⟩
 | undef => exact h
omit [Inv] in
theorem castV1_sound {g : Gh} {w : World} {u : Value} {t : TI} {v v' : V1} (h : castV1 t v some = some v') (hv : Rv1 g w u v) : Rv1 g w u v' := by
 have hx : ∀ (l : List TI) (cs : List Cell), castXs l cs (fun cs' => some (V1.agg cs')) = some v' → (∃ vs, u = .agg vs ∧ RvA g w vs cs) → Rv1 g w u v' := fun l cs h hv => by
  obtain ⟨vs, rfl, hA⟩ := hv
  obtain ⟨cs', h1, h2⟩ := castXs_sound l _ cs h hA.toL
  cases h1
  exact ⟨vs, rfl, by simpa using h2.1, fun i v c hv hc => h2.2 i v c (by simpa using hv) hc⟩
 have hc : ∀ (t : TI) (c : Cell), castC t c (fun c' => some (V1.one c')) = some v' → Rc g w u c → Rv1 g w u v' := fun t c h hv => by
  obtain ⟨c', h1, h2⟩ := castC_sound h hv
  cases h1
  exact h2
 cases t <;> cases v <;> first
  | (cases h; done)
  | exact hx _ _ h hv
  | (simp only [castV1] at h; exact hc _ _ h hv)
theorem castVs_sound {g : Gh} {w : World} : ∀ (ts : List TI) (us : List Value) (vs vs' : List V1), castVs ts vs some = some vs' → us.length = vs.length → (∀ (i : Nat) u x, us[i]? = some u → vs[i]? = some x → Rv1 g w u x) →
 us.length = vs'.length ∧ ∀ (i : Nat) u x, us[i]? = some u → vs'[i]? = some x → Rv1 g w u x
 | [], us, [], vs', h, hl, hR => by cases h; exact ⟨hl, hR⟩
 | [], us, v :: vs, vs', h, hl, hR => by cases h
 | t :: ts, us, [], vs', h, hl, hR => by cases h
 | t :: ts, [], v :: vs, vs', h, hl, hR => by simp at hl
 | t :: ts, u :: us, v :: vs, vs', h, hl, hR => by
  simp only [castVs] at h
  rw [castV1_bind] at h
  obtain ⟨v', h1, h2⟩ := bind_some_inv h
  rw [castVs_bind] at h2
  obtain ⟨vs2, h3, h4⟩ := bind_some_inv h2
  cases h4
  obtain ⟨h5, h6⟩ := castVs_sound ts us vs vs2 h3 (by simpa using hl) (fun i u x hu hx => hR (i + 1) u x hu hx)
  refine ⟨by simp [h5], fun i u' x hu hx => ?_⟩
  cases i with
  | zero => simp at hu hx; subst hu; subst hx; exact castV1_sound h1 (hR 0 u v rfl rfl)
  | succ i => exact h6 i u' x (by simpa using hu) (by simpa using hx)
theorem castV_sound {g : Gh} {w : World} {u : Value} {t : TI} {v v' : AV} (h : castV t v some = some v') (hv : Rv g w u v) : Rv g w u v' := by
 have hc : ∀ (t : TI) (x : V1), castV1 t x (fun c' => some c'.av) = some v' → Rv1 g w u x → Rv g w u v' := fun t x h hv => by
  rw [castV1_bind] at h
  obtain ⟨x', h1, h2⟩ := bind_some_inv h
  cases h2
  exact (castV1_sound h1 hv).av
 have ht : ∀ (ts : List TI) (vs : List V1), castVs ts vs (fun vs' => some (AV.tup vs')) = some v' → Rv g w u (.tup vs) → Rv g w u v' := fun ts vs h hv => by
  rw [castVs_bind] at h
  obtain ⟨vs', h1, h2⟩ := bind_some_inv h
  cases h2
  obtain ⟨us, rfl, h3, h4⟩ := hv
  obtain ⟨h5, h6⟩ := castVs_sound ts us.toList vs vs' h1 (by simpa using h3) (fun i u x hu hx => h4 i u x (by simpa using hu) hx)
  exact ⟨us, rfl, by simpa using h5, fun i u x hu hx => h6 i u x (by simpa using hu) hx⟩
 cases t <;> cases v <;> first
  | (cases h; done)
  | exact ht _ _ h hv
  | (simp only [castV] at h; exact hc _ (.one _) h hv)
  | (simp only [castV] at h; exact hc _ (.agg _) h hv)
omit [Inv] in
theorem wp_callV {o : Oper} {a : Act} {w : World} {K : Act → World → Prop} {Q : Exit → Act → World → Prop} {f : FuncId} {x : Operand} {args : Array Operand} {tys : Array TypeId} {fn : Func} {first captured : Array Value} (ho : o.op = .call ⟨.value x, args, tys⟩) (hx : a.eval x = .func (.func f) first captured) (hf : P.funcs[f]? = some fn) (hb : fn.body.isSome = true) (hn : fn.name ≠ "runtime.NumGoroutine")
 (hc : Calls P f (first ++ args.map a.eval ++ captured) w fun e w' => ∃ u, e = .returned u ∧ K (a.put o.dst u) w') : o.wp P a w K Q := by
 have hrun : (execOp a.eval o).run P w = .ok (.enter f (first ++ args.map a.eval ++ captured)) w := by
  have hb2 : ¬ fn.body = none := by cases hx : fn.body with | none => rw [hx] at hb; cases hb | some _ => simp
  simp [execOp, ho, hx, resolve, Deferred.ofValue, invoke, callFunc, hf, hb2, hn]
 unfold Oper.wp
 rw [hrun]
 show Calls P f _ w _
 refine hc.mono fun e w' h => ?_
 obtain ⟨u, rfl, h⟩ := h
 exact h
omit [Inv] in
theorem castClo_some {c : Cell} {k : FuncId → Nat → List Cell → Option R} {r : R} (h : castClo c k = some r) : ∃ f n cs, c = .clo f n cs ∧ k f n cs = some r := by
 unfold castClo at h
 split at h
 · exact ⟨_, _, _, rfl, h⟩
 · cases h
omit [Inv] in
theorem Rc.clo_inv {g : Gh} {w : World} {v : Value} {f : FuncId} {n : Nat} {cs : List Cell} (h : Rc g w v (.clo f n cs)) : ∃ first captured : Array Value, v = .func (.func f) first captured ∧ n = first.size ∧ RdL g.M w (first.toList ++ captured.toList) cs := by
 cases h with
 | data h => cases h with | clo _ first captured _ h1 h2 => exact ⟨first, captured, rfl, rfl, h1, h2⟩
omit [Inv] in
theorem All2.app {α β : Type} {C : α → β → Prop} {l l2 : List α} {m m2 : List β} (h : All2 C l m) (h2 : All2 C l2 m2) : All2 C (l ++ l2) (m ++ m2) := by
 induction h with
 | nil => exact h2
 | cons h1 _ ih => exact .cons h1 ih
omit [Inv] in
theorem RdL.all2 {g : Gh} {w : World} : ∀ {vs : List Value} {cs : List Cell}, RdL g.M w vs cs → All2 (fun x u => Rv g w u x) (cs.map AV.one) vs
 | [], [], _ => .nil
 | v :: vs, c :: cs, h => .cons (.data (h.2 0 v c rfl rfl)) (RdL.all2 ⟨by have := h.1; simpa using this, fun i u d hu hd => h.2 (i + 1) u d (by simpa using hu) (by simpa using hd)⟩)
 | [], _ :: _, h => by have := h.1; simp at this
 | _ :: _, [], h => by have := h.1; simp at this
omit [Inv] in
theorem clo_rel {g : Gh} {w : World} {first captured : Array Value} {n : Nat} {cs : List Cell} (hn : n = first.size) (h : RdL g.M w (first.toList ++ captured.toList) cs) : All2 (fun x u => Rv g w u x) ((cs.take n).map AV.one) first.toList ∧ All2 (fun x u => Rv g w u x) ((cs.drop n).map AV.one) captured.toList := by
 have hl := h.1
 rw [List.length_append, Array.length_toList, Array.length_toList] at hl
 refine ⟨RdL.all2 ⟨by rw [List.length_take, Array.length_toList]; omega, fun i v c hv hc => ?_⟩, RdL.all2 ⟨by rw [List.length_drop, Array.length_toList]; omega, fun i v c hv hc => ?_⟩⟩
 · have hi : i < first.size := by have := (List.getElem?_eq_some_iff.1 hv).1; simpa using this
   rw [List.getElem?_take, if_pos (by omega)] at hc
   exact h.2 i v c (by rw [List.getElem?_append_left (by simpa using hi)]; exact hv) hc
 · rw [List.getElem?_drop] at hc
   exact h.2 (n + i) v c (by rw [List.getElem?_append_right (by simp; omega), Array.length_toList, hn, Nat.add_sub_cancel_left]; exact hv) hc
omit [Inv] in
theorem cloCells_some : ∀ (vs : List AV) {k : List Cell → Option R} {r : R}, cloCells vs k = some r → ∃ cs, k cs = some r ∧ ∀ (g : Gh) (w : World) (us : List Value), All2 (fun x u => Rv g w u x) vs us → RdL g.M w us cs
 | [], k, r, h => ⟨[], h, fun g w us hu => by cases hu; exact ⟨rfl, fun i v c hv => by simp at hv⟩⟩
 | v :: vs, k, r, h => by
  simp only [cloCells] at h
  split at h
  · rename_i c
    cases hp : hasPtr c with
    | true => rw [hp] at h; cases h
    | false =>
     rw [hp, condA_false] at h
     obtain ⟨cs, h1, h2⟩ := cloCells_some vs h
     refine ⟨_, h1, fun g w us hu => ?_⟩
     cases hu with
     | cons h3 h4 =>
      obtain ⟨h5, h6⟩ := h2 g w _ h4
      refine ⟨by simp [h5], fun i v d hv hd => ?_⟩
      cases i with
      | zero => simp at hv hd; subst hv; subst hd; exact Rc.toData h3 hp
      | succ i => exact h6 i v d (by simpa using hv) (by simpa using hd)
  · cases h
omit [Inv] in
theorem wp_callF {o : Oper} {a : Act} {w : World} {K : Act → World → Prop} {Q : Exit → Act → World → Prop} {f : FuncId} {args : Array Operand} {tys : Array TypeId} {fn : Func} (ho : o.op = .call ⟨.value (.func f), args, tys⟩) (hf : P.funcs[f]? = some fn) (hb : fn.body.isSome = true) (hn : fn.name ≠ "runtime.NumGoroutine")
 (hc : Calls P f (args.map a.eval) w fun e w' => ∃ u, e = .returned u ∧ K (a.put o.dst u) w') : o.wp P a w K Q := by
 have hrun : (execOp a.eval o).run P w = .ok (.enter f (args.map a.eval)) w := by
  have hb2 : ¬ fn.body = none := by cases hx : fn.body with | none => rw [hx] at hb; cases hb | some _ => simp
  simp [execOp, ho, resolve, Deferred.ofValue, Act.eval, invoke, callFunc, hf, hb2, hn]
 unfold Oper.wp
 rw [hrun]
 show Calls P f (args.map a.eval) w _
 refine hc.mono fun e w' h => ?_
 obtain ⟨u, rfl, h⟩ := h
 exact h
section
variable {E : Env} {call : CallF} (hE : EnvOk P E) (hC : CallOk P E call)
include hE
theorem aop_index {full : Bool} {o : Oper} {t : TypeId} {x i : Operand} {st : St} {k : AV → St → Option R} {r : R} (ho : o.op = .index t x i) (h : aop E call full o st k = some r) : ∃ av st', k av st' = some r ∧ Res P o full st av st' := by
 unfold aop at h
 simp only [ho] at h
 split at h
 · rename_i l kd n ht hx hi
   obtain ⟨c, h0, h1, h2⟩ := itemK_some h
   refine ⟨_, st, h2, .pure (StEq.refl st) fun B g a w S => ?_⟩
   have h4 := indexStr_sound (P := P) (kd := kd) (not_tup hE ht (by simp)).is_str (S.ev hx) h0 h1
   rw [← (S.ev hi).int_inv] at h4
   exact pure_same_v S (by simp only [execOp, ho]) h4 (.data (.int _ _))
 · cases h
theorem aop_store {full : Bool} {o : Oper} {t : TypeId} {x y : Operand} {st : St} {k : AV → St → Option R} {r : R} (ho : o.op = .store t x y) (h : aop E call full o st k = some r) : ∃ av st', k av st' = some r ∧ Res P o full st av st' := by
 unfold aop at h
 simp only [ho] at h
 cases full with
 | false => cases h
 | true =>
  simp only [condA_true] at h
  cases hnr : !(notNilRow y) && isGp st x with
  | true =>
   rw [hnr, condA_true] at h
   rw [Bool.and_eq_true] at hnr
   obtain ⟨hny, _⟩ := hnr
   have hy : ∀ a : Act, a.eval y = .slice none 0 0 := fun a => by
    unfold notNilRow at hny
    split at hny
    · rfl
    · cases hny
   split at h
   · rename_i e sz b oo ht hx
     obtain ⟨H, cs, hG, hb, h⟩ := gobj_some h
     rw [putR_bind] at h
     obtain ⟨cs1, hq, h⟩ := bind_some_inv h
     refine ⟨_, _, h, .eff1 fun B g a w S K Q hK => ?_⟩
     have hT := not_tup hE ht (by simp)
     have S1 := S.nils (d := nilSlot)
     have hv : Rc (g.give nilSlot fun _ => some (.slice none 0 0)) w (a.eval y) (.sl (some ⟨nilSlot, 0, e⟩) sz []) := by
      rw [hy a]
      exact .own ⟨nilSlot, 0, e⟩ (give_here rfl) (.slN sz)
     obtain ⟨cs2, w', g', h0, h1, h2⟩ := storeG_sound (k := some) S1 hG (t := t) hT.size (S1.ev hx) (x := .one (.sl (some ⟨nilSlot, 0, e⟩) sz [])) hv rfl rfl hb hq
     cases h0
     unfold Oper.wp
     have hrun : (execOp a.eval o).run P w = .ok .skip w' := by simp [execOp, ho, h1]
     rw [hrun]
     exact hK undef w' g' rfl h2
   · cases h
  | false =>
  rw [hnr, condA_false] at h
  split at h
  · rename_i ti b oo v ht hx hy
    obtain ⟨ht, hnt⟩ := tyN_some ht
    split at h
    · rename_i cs hcs
      cases hc : Nat.beq cs.length ti.leaves.length with
      | false => rw [hc] at h; cases h
      | true =>
       rw [hc] at h
       simp only [condA_true] at h
       split at h
       · rename_i H' hH
         refine ⟨_, _, h, .eff1 fun B g a w S K Q hK => ?_⟩
         obtain ⟨w', h1, h2⟩ := store_sound S (t := t) (by rw [Nat.eq_of_beq_eq_true hc]; exact (not_tup hE ht hnt).size) (S.ev hx) (S.ev hy) hcs hH
         unfold Oper.wp
         have hrun : (execOp a.eval o).run P w = .ok .skip w' := by simp [execOp, ho, h1]
         rw [hrun]
         exact hK undef w' g rfl h2
       · cases h
    · cases h
  · rename_i ti b oo v ht hx hy
    obtain ⟨ht, hnt⟩ := tyN_some ht
    split at h
    · rename_i new hcs
      cases hc : Nat.beq new.length ti.leaves.length && okG new with
      | false => rw [hc] at h; cases h
      | true =>
       rw [hc, condA_true] at h
       rw [Bool.and_eq_true] at hc
       obtain ⟨H, cs, hG, hb, h⟩ := gobj_some h
       rw [putR_bind] at h
       obtain ⟨cs1, hq, h⟩ := bind_some_inv h
       refine ⟨_, _, h, .eff1 fun B g a w S K Q hK => ?_⟩
       obtain ⟨cs2, w', g', h0, h1, h2⟩ := storeG_sound (k := some) S hG (t := t) (by rw [Nat.eq_of_beq_eq_true hc.1]; exact (not_tup hE ht hnt).size) (S.ev hx) (S.ev hy) hcs hc.2 hb hq
       cases h0
       unfold Oper.wp
       have hrun : (execOp a.eval o).run P w = .ok .skip w' := by simp [execOp, ho, h1]
       rw [hrun]
       exact hK undef w' g' rfl h2
    · cases h
  · rename_i ti b oo v ht hx hy
    obtain ⟨ht, hnt⟩ := tyN_some ht
    split at h
    · rename_i cs hcs
      cases hc : Nat.beq cs.length ti.leaves.length with
      | false => rw [hc] at h; cases h
      | true =>
       rw [hc] at h
       simp only [condA_true] at h
       rw [dataK_bind] at h
       obtain ⟨cs', hd, h⟩ := bind_some_inv h
       obtain ⟨xs, hb, h⟩ := rowK_some h
       rw [putR_bind] at h
       obtain ⟨xs', hq, h⟩ := bind_some_inv h
       refine ⟨_, _, h, .eff1 fun B g a w S K Q hK => ?_⟩
       obtain ⟨xs2, w', h0, h1, h2⟩ := storeR_sound (k := some) S (t := t) (by rw [Nat.eq_of_beq_eq_true hc]; exact (not_tup hE ht hnt).size) (S.ev hx) (S.ev hy) hcs hb (by rw [dataK_bind, hd]; exact hq)
       cases h0
       unfold Oper.wp
       have hrun : (execOp a.eval o).run P w = .ok .skip w' := by simp [execOp, ho, h1]
       rw [hrun]
       exact hK undef w' g rfl h2
    · cases h
  · cases h
omit [Inv] hE in
theorem flatten_rep {l : List Cell} {sz : Nat} (hl : l.length = sz) (h0 : 0 < sz) : ∀ (n j : Nat), j < n * sz → (List.replicate n l).flatten[j]? = l[j % sz]?
 | 0, j, h => by simp at h
 | n + 1, j, h => by
  rw [List.replicate_succ, List.flatten_cons, List.getElem?_append]
  split
  · rename_i hlt
    rw [Nat.mod_eq_of_lt (by omega)]
  · rename_i hge
    have h2 : (n + 1) * sz = n * sz + sz := by rw [Nat.add_mul, Nat.one_mul]
    subst hl
    rw [flatten_rep rfl h0 n (j - l.length) (by omega), ← Nat.mod_eq_sub_mod (by omega : l.length ≤ j)]
theorem aop_makeMap {full : Bool} {o : Oper} {t : TypeId} {x : Option Operand} {st : St} {k : AV → St → Option R} {r : R} (ho : o.op = .makeMap t x) (h : aop E call full o st k = some r) : ∃ av st', k av st' = some r ∧ Res P o full st av st' := by
 unfold aop at h
 simp only [ho] at h
 cases full with
 | false => cases h
 | true =>
  simp only [condA_true] at h
  split at h
  · refine ⟨_, _, h, .eff1 fun B g a w S K Q hK => ?_⟩
    obtain ⟨g', h1, h2⟩ := newMap_sound S
    refine wp_value (v := .map (some w.heap.size)) (w' := w.alloc (.map #[] 0)) ?_ (hK _ _ g' h1 h2)
    simp only [execOp, ho]
    exact run_v (by simp [Instr.makeMap])
  · cases h
theorem aop_lookup {full : Bool} {o : Oper} {t : TypeId} {x y : Operand} {ok : Bool} {st : St} {k : AV → St → Option R} {r : R} (ho : o.op = .lookup t x y ok) (h : aop E call full o st k = some r) : ∃ av st', k av st' = some r ∧ Res P o full st av st' := by
 unfold aop at h
 simp only [ho] at h
 split at h
 · rename_i kt et b key ht hx hy
   split at h
   · rename_i kti eti hkt het
     obtain ⟨hkt, hn1⟩ := tyN_some hkt
     obtain ⟨het, hn2⟩ := tyN_some het
     cases hc : keyT kti && (!eti.isAgg && !hasPtr key) with
     | false => rw [hc] at h; cases h
     | true =>
      rw [hc] at h
      simp only [condA_true] at h
      simp only [Bool.and_eq_true, Bool.not_eq_true'] at hc
      obtain ⟨hc1, hc2, hc3⟩ := hc
      rw [castD_bind] at h
      obtain ⟨key', hk, h⟩ := bind_some_inv h
      obtain ⟨ck, ks, hb, h⟩ := mapK_some h
      rw [lookK_bind] at h
      obtain ⟨⟨c, there⟩, hl, h⟩ := bind_some_inv h
      simp only at h
      rw [castD_bind] at h
      obtain ⟨c', hcc, h⟩ := bind_some_inv h
      have hTm := not_tup hE ht (by simp)
      have hTk := not_tup hE hkt hn1
      have hTe := not_tup hE het hn2
      have main : ∀ (B : Base) g a w, Sim P B g st a w → ∃ v, (Instr.lookup t (a.eval x) (a.eval y) ok).run P w = .ok (if ok then .tuple #[v, .bool there] else v) w ∧ Rd g.M w v c' := fun B g a w S => by
       have hy2 : Rd g.M w (a.eval y) key.bare := Rc.toData (S.ev hy) hc3
       have hk2 : castD kti key.bare some = some key' := by
        cases kti <;> simp only [keyT, Bool.false_eq_true] at hc1 <;> cases key <;> first | exact hk | (simp [castD, castI, castB, castS] at hk)
       obtain ⟨v, h1, h2⟩ := lookup_sound (ok := ok) S hTm hTk hTe hc1 hc2 (S.ev hx) hy2 hk2 hb hl
       obtain ⟨c2, h3, h4⟩ := castD_sound hcc h2
       cases h3
       exact ⟨v, h1, h4⟩
      cases ok with
      | true =>
       simp only [condA_true] at h
       refine ⟨_, st, h, .pure (StEq.refl st) fun B g a w S => ?_⟩
       obtain ⟨v, h1, h2⟩ := main B g a w S
       refine pure_same_v S (by simp only [execOp, ho]) h1 ⟨_, rfl, rfl, fun i u z hu hz => ?_⟩
       match i, hu, hz with
       | 0, hu, hz => cases hu; cases hz; exact .data h2
       | 1, hu, hz => cases hu; cases hz; exact .data (.bool _)
       | n + 2, hu, _ => simp at hu
      | false =>
       simp only [condA_false] at h
       refine ⟨_, st, h, .pure (StEq.refl st) fun B g a w S => ?_⟩
       obtain ⟨v, h1, h2⟩ := main B g a w S
       exact pure_same_v S (by simp only [execOp, ho]) h1 (.data h2)
   · cases h
 · cases h
theorem update_run {full : Bool} {o : Oper} {t : TypeId} {m x y : Operand} {st : St} {k : AV → St → Option R} {r : R} (hx0 : ∀ a : Act, ∀ w w', (Instr.mapUpdate t (a.eval m) (a.eval x) (a.eval y)).run P w = .ok () w' → (execOp a.eval o).run P w = .ok .skip w')
    (h : condA (full) (
    (match ty E.T t, ev st m, ev st x, ev st y with
     | some (.map kt et), some (.one (.mapr b)), some (.one key), some (.one v) =>
       (match tyN E.T kt, tyN E.T et with
        | some kti, some eti =>
          condA (keyT kti && (!eti.isAgg && (!hasPtr key && !hasPtr v))) (castD kti key fun key' => castD eti v fun v' => mapK st.H b fun ck ks => updK key' v' ck ks fun ck' ks' => k .undef ⟨st.fr, st.H.set b [.map ck' ks'], st.G⟩) none
        | _, _ => none)
     | _, _, _, _ => none)) none = some r) : ∃ av st', k av st' = some r ∧ Res P o full st av st' := by
  cases full with
  | false => cases h
  | true =>
    simp only [condA_true] at h
    split at h
    · rename_i kt et b key v ht hm hx hy
      split at h
      · rename_i kti eti hkt het
        obtain ⟨hkt, hn1⟩ := tyN_some hkt
        obtain ⟨het, hn2⟩ := tyN_some het
        cases hc : keyT kti && (!eti.isAgg && (!hasPtr key && !hasPtr v)) with
        | false => rw [hc] at h; cases h
        | true =>
          rw [hc] at h
          simp only [condA_true] at h
          simp only [Bool.and_eq_true, Bool.not_eq_true'] at hc
          obtain ⟨hc1, hc2, hc3, hc4⟩ := hc
          rw [castD_bind] at h
          obtain ⟨key', hk, h⟩ := bind_some_inv h
          rw [castD_bind] at h
          obtain ⟨v', hv, h⟩ := bind_some_inv h
          obtain ⟨ck, ks, hb, h⟩ := mapK_some h
          rw [updK_bind] at h
          obtain ⟨⟨ck', ks'⟩, hu, h⟩ := bind_some_inv h
          refine ⟨_, _, h, .eff1 fun B g a w S K Q hK => ?_⟩
          have hy2 : Rd g.M w (a.eval x) key.bare := Rc.toData (S.ev hx) hc3
          have hk2 : castD kti key.bare some = some key' := by
            cases kti <;> simp only [keyT, Bool.false_eq_true] at hc1 <;> cases key <;> first | exact hk | (simp [castD, castI, castB, castS] at hk)
          have hv2 : Rd g.M w (a.eval y) v' := by
            have h5 : Rd g.M w (a.eval y) v.bare := Rc.toData (S.ev hy) hc4
            have h6 : castD eti v.bare some = some v' := by rw [← hv]; exact castD_bare eti v
            obtain ⟨c2, h3, h4⟩ := castD_sound h6 h5
            cases h3
            exact h4
          obtain ⟨w', h1, h2⟩ := update_sound S (not_tup hE ht (by simp)) (not_tup hE hkt hn1) hc1 (S.ev hm) hy2 hv2 hk2 hb hu
          unfold Oper.wp
          rw [hx0 a w w' h1]
          exact hK undef w' g rfl h2
      · cases h
    · cases h
theorem aop_mapUpdate {full : Bool} {o : Oper} {t : TypeId} {m x y : Operand} {st : St} {k : AV → St → Option R} {r : R} (ho : o.op = .mapUpdate t m x y) (h : aop E call full o st k = some r) : ∃ av st', k av st' = some r ∧ Res P o full st av st' :=
 update_run (t := t) (m := m) (x := x) (y := y) hE (fun a w w' hr => by simp [execOp, ho, hr]) (by unfold aop at h; simp only [ho] at h; exact h)
theorem aop_insert {full : Bool} {o : Oper} {t : TypeId} {m x y : Operand} {st : St} {k : AV → St → Option R} {r : R} (ho : o.op = .insert t m x y) (h : aop E call full o st k = some r) : ∃ av st', k av st' = some r ∧ Res P o full st av st' :=
 update_run (t := t) (m := m) (x := x) (y := y) hE (fun a w w' hr => by simp [execOp, ho, hr]) (by unfold aop at h; simp only [ho] at h; exact h)
theorem aop_makeSlice {full : Bool} {o : Oper} {t : TypeId} {x y : Operand} {st : St} {k : AV → St → Option R} {r : R} (ho : o.op = .makeSlice t x y) (h : aop E call full o st k = some r) : ∃ av st', k av st' = some r ∧ Res P o full st av st' := by
 unfold aop at h
 simp only [ho] at h
 cases full with
 | false => cases h
 | true =>
  simp only [condA_true] at h
  split at h
  · rename_i e sz kx n ky m ht hx hy
    split at h
    · rename_i ti hti
      obtain ⟨hti, hnt⟩ := tyN_some hti
      cases hc : decide (kx = .i64) && decide (ky = .i64) && decide (n = m) && decide (0 ≤ n) && decide (n.toNat * sz ≤ 1000000) with
      | false => rw [hc] at h; cases h
      | true =>
       rw [hc] at h
       simp only [condA_true] at h
       simp only [Bool.and_eq_true, decide_eq_true_eq] at hc
       obtain ⟨⟨⟨⟨rfl, rfl⟩, rfl⟩, h0⟩, hle⟩ := hc
       have hT := not_tup hE ht (by simp)
       obtain ⟨hu, hsz, hz0, hby⟩ := hT.is_slice
       have hTe := not_tup hE hti hnt
       refine ⟨_, _, h, .eff1 fun B g a w S K Q hK => ?_⟩
       obtain ⟨i, d, z, hi, hd, his, hds, hz, hzl⟩ := hTe.ex
       have hcz : P.cellsOf e = i.size := by unfold Program.cellsOf; rw [hi]; rfl
       have hzs : z.cells.size = sz := by
        have := leavesOk_len _ _ hzl
        rw [← hsz, hcz, his]; simpa using this
       have hnn : n.toNat ≤ n.toNat * sz := Nat.le_mul_of_pos_right _ hz0
       have hbi : i.bytes ≤ 1000 := by
        have h9 := hby
        unfold Program.bytesOf at h9
        rw [hi] at h9
        simpa using h9
       have hrun := run_makeSlice w t e i z hu hi hz .i64 .i64 n n h0 (Int.le_refl _) (by rw [← hcz, hsz]; omega) (by
        have : (i.bytes : Int) * n ≤ 1000 * n := Int.mul_le_mul_of_nonneg_right (by omega) h0
        omega) (by omega)
       rw [← hcz, hsz] at hrun
       have hms : (madeCells z.cells (n.toNat * sz)).size = n.toNat * sz := by simp [madeCells]
       have hzr := zeros_data (M := g.M) (w := w) ti.leaves z.cells.toList hzl
       have hlen : (List.replicate n.toNat (zerosU ti.leaves)).flatten.length = n.toNat * sz := by
        rw [List.length_flatten, List.map_replicate, List.sum_replicate_nat, hzr.1]; simp [hzs]
       have hRR : ∀ (j : Nat) v c, (madeCells z.cells (n.toNat * sz))[j]? = some v → (List.replicate n.toNat (zerosU ti.leaves)).flatten[j]? = some c → Rd g.M w v c := fun j v c hv hc => by
        have hj : j < n.toNat * sz := by rw [← hlen]; exact (List.getElem?_eq_some_iff.1 hc).1
        have e1 : (zerosU ti.leaves)[j % sz]? = some c := by
         rw [← flatten_rep (by rw [hzr.1]; simpa using hzs) hz0 n.toNat j hj]; exact hc
        have e2 : z.cells.toList[j % sz]? = some v := by
         have hjm : j % sz < z.cells.size := by rw [hzs]; exact Nat.mod_lt _ hz0
         simp only [madeCells] at hv
         rw [Array.getElem?_map, Array.getElem?_range, if_pos hj] at hv
         simp only [Option.map_some, Option.some.injEq] at hv
         subst hv
         rw [hzs, getElem!_pos z.cells (j % sz) hjm]
         simp [hjm]
        exact hzr.2 _ v c e2 e1
       obtain ⟨g', h5, h6⟩ := newRow_sound (xs := (List.replicate n.toNat (zerosU ti.leaves)).flatten) (n := n.toNat) (sz := sz) (cap := n.toNat) S ((Below.refl _ w).alloc (Nat.le_refl _) (.cells (madeCells z.cells (n.toNat * sz)) e)) (by simp) (heap_alloc_new w _) (.inl rfl) (by rw [hlen, hms]; exact Nat.le_refl _) hRR hz0 (Nat.le_refl _)
       have hex : (execOp a.eval o).run P w = .ok (.value (.slice (some ⟨w.heap.size, 0, none⟩) n.toNat n.toNat)) (w.alloc (.cells (madeCells z.cells (n.toNat * sz)) e)) := by
        simp only [execOp, ho]
        rw [Rc.int_inv (S.ev hx), Rc.int_inv (S.ev hy)]
        exact run_v hrun
       exact wp_value hex (hK _ _ _ h5 h6)
    · cases h
  · cases h
theorem aop_alloc {full : Bool} {o : Oper} {t : TypeId} {st : St} {k : AV → St → Option R} {r : R} (ho : o.op = .alloc t) (h : aop E call full o st k = some r) : ∃ av st', k av st' = some r ∧ Res P o full st av st' := by
 unfold aop at h
 simp only [ho] at h
 cases full with
 | false => cases h
 | true =>
  simp only [condA_true] at h
  cases hgal : inL E.gal o.dst with
  | true =>
   rw [hgal, condA_true] at h
   split at h
   · rename_i d ti hd ht
     obtain ⟨ht, hnt⟩ := tyN_some ht
     obtain ⟨G, hG, h⟩ := galloc_some h
     refine ⟨_, _, h, .eff1 fun B g a w S K Q hK => ?_⟩
     obtain ⟨i, dd, z, h1, h2, h3, h4, h5, h6⟩ := (not_tup hE ht hnt).ex
     have S1 := S.nils (d := d)
     have hz := zeros_own (g := g.give d fun _ => some (.slice none 0 0)) (w := w) (sl := d) h6 fun L hL => give_here hL
     obtain ⟨g', h7, h8⟩ := galloc_sound (t := t) S1 hG hz (zeros_okG d ti.leaves (fun lf hlf => zero_noPtr _ _ _))
     have hrun : (Instr.alloc t true (.tuple #[])).run P w = .ok (.pointer (some ⟨w.heap.size, 0, none⟩)) (w.alloc (.cells z.cells t)) := by simp [Instr.alloc, zeroValue, typeInfo, h1, h5, newVar, newRow]
     exact wp_value (by simp only [execOp, ho]; exact run_v hrun) (hK _ _ g' h7 h8)
   · cases h
  | false =>
  rw [hgal, condA_false] at h
  split at h
  · rename_i ti ht
    obtain ⟨ht, hnt⟩ := tyN_some ht
    refine ⟨_, _, h, .eff1 fun B g a w S K Q hK => ?_⟩
    obtain ⟨v, w', g', h1, h2, h3⟩ := alloc_sound S (not_tup hE ht hnt) (E.selfs.any (Nat.beq t))
    exact wp_value (by simp only [execOp, ho]; exact run_v h1) (hK v w' g' h2 h3)
  · cases h
omit hE in
theorem aop_box {full : Bool} {o : Oper} {t : TypeId} {x : Operand} {st : St} {k : AV → St → Option R} {r : R} (ho : o.op = .box t x) (h : aop E call full o st k = some r) : ∃ av st', k av st' = some r ∧ Res P o full st av st' := by
 unfold aop at h
 simp only [ho] at h
 cases full with
 | false => cases h
 | true =>
  simp only [condA_true] at h
  cases hgal : inL E.gal o.dst with
  | true =>
   rw [hgal, condA_true] at h
   split at h
   · rename_i ti v ht hv
     split at h
     · rename_i cs hcs
       cases hc : Nat.beq cs.length ti.leaves.length && okG cs with
       | false => rw [hc] at h; cases h
       | true =>
        rw [hc, condA_true] at h
        rw [Bool.and_eq_true] at hc
        obtain ⟨G, hG, h⟩ := galloc_some h
        refine ⟨_, _, h, .eff1 fun B g a w S K Q hK => ?_⟩
        obtain ⟨g', h7, h8⟩ := galloc_sound (t := t) S hG (cells_rel (S.ev hv) hcs) hc.2
        have hrun : (Instr.box t (a.eval x)).run P w = .ok (.pointer (some ⟨w.heap.size, 0, none⟩)) (w.alloc (.cells (a.eval x).cells t)) := by simp [Instr.box, newVar, newRow]
        exact wp_value (by simp only [execOp, ho]; exact run_v hrun) (hK _ _ g' h7 h8)
     · cases h
   · cases h
  | false =>
  rw [hgal, condA_false] at h
  split at h
  · rename_i ti v ht hv
    split at h
    · rename_i cs hcs
      cases hc : Nat.beq cs.length ti.leaves.length with
      | false => rw [hc] at h; cases h
      | true =>
       rw [hc] at h
       refine ⟨_, _, h, .eff1 fun B g a w S K Q hK => ?_⟩
       obtain ⟨v, w', g', h1, h2, h3⟩ := box_sound (t := t) S hv hcs
       exact wp_value (by simp only [execOp, ho]; exact run_v h1) (hK v w' g' h2 h3)
    · cases h
  · cases h
omit hE in
theorem aop_extract {full : Bool} {o : Oper} {x : Operand} {i : Nat} {st : St} {k : AV → St → Option R} {r : R} (ho : o.op = .extract x i) (h : aop E call full o st k = some r) : ∃ av st', k av st' = some r ∧ Res P o full st av st' := by
 unfold aop at h
 simp only [ho] at h
 split at h
 · rename_i vs hx
   split at h
   · rename_i v hv
     refine ⟨_, st, h, .pure (StEq.refl st) fun B g a w S => ?_⟩
     obtain ⟨us, h1, h2, h3⟩ := S.ev hx
     have hi : i < us.size := by rw [h2]; exact (List.getElem?_eq_some_iff.1 hv).1
     refine pure_same_v S (v := us[i]) (by simp only [execOp, ho]; rfl) ?_ (h3 i _ v (Array.getElem?_eq_getElem hi) hv).av
     rw [h1]
     simp [Instr.extract, hi]
   · cases h
 · cases h
omit hE in
theorem aop_nilCheck {full : Bool} {o : Oper} {x : Operand} {st : St} {k : AV → St → Option R} {r : R} (ho : o.op = .nilCheck x) (h : aop E call full o st k = some r) : ∃ av st', k av st' = some r ∧ Res P o full st av st' := by
 unfold aop at h
 simp only [ho] at h
 split at h
 · rename_i b oo hx
   refine ⟨_, st, h, .pure (StEq.refl st) fun B g a w S => ?_⟩
   have hr := S.ev hx
   obtain ⟨blk, he, _⟩ := hr.ptr_inv
   exact pure_same S (v := a.eval x) (by simp only [execOp, ho, he]; rfl) hr
 · rename_i cs hx
   refine ⟨_, st, h, .pure (StEq.refl st) fun B g a w S => ?_⟩
   have hr := S.ev hx
   have he : ∃ A, a.eval x = .pointer (some A) := by
    have hr' : Rc g w (a.eval x) (.eptr cs) := hr
    generalize a.eval x = v at hr'
    cases hr' with
    | data h => cases h
    | eptr => exact ⟨_, rfl⟩
   obtain ⟨A, he⟩ := he
   exact pure_same S (v := a.eval x) (by simp only [execOp, ho, he]; rfl) hr
 · rename_i b oo hx
   refine ⟨_, st, h, .pure (StEq.refl st) fun B g a w S => ?_⟩
   have hr := S.ev hx
   obtain ⟨blk, he, _⟩ := hr.bptr_inv
   exact pure_same S (v := a.eval x) (by simp only [execOp, ho, he]; rfl) hr
 · rename_i b oo hx
   refine ⟨_, st, h, .pure (StEq.refl st) fun B g a w S => ?_⟩
   have hr := S.ev hx
   obtain ⟨blk, he, _⟩ := Rc.gptr_inv hr
   exact pure_same S (v := a.eval x) (by simp only [execOp, ho, he]; rfl) hr
 · cases h
omit [Inv] hE in
theorem two_args0 {st : St} {args : Array Operand} {s x : AV} (h : evl st args.toList = some [s, x]) : ∃ p q, args = #[p, q] ∧ ev st p = some s ∧ ev st q = some x := by
 cases hl : args.toList with
 | nil => rw [hl] at h; cases h
 | cons y l =>
  rw [hl] at h
  simp only [evl] at h
  split at h
  · rename_i v l1 hv hl1
    cases h
    cases l with
    | nil => cases hl1
    | cons z l =>
     simp only [evl] at hl1
     split at hl1
     · rename_i v2 l2 hv2 hl2
       cases hl1
       cases l with
       | nil => exact ⟨y, z, by apply Array.toList_inj.1; rw [hl], hv, hv2⟩
       | cons u l =>
        simp only [evl] at hl2
        split at hl2
        · cases hl2
        · cases hl2
     · cases hl1
  · cases h
omit hE in
theorem aop_max {full : Bool} {o : Oper} {args : Array Operand} {argTypes : Array TypeId} {st : St} {k : AV → St → Option R} {r : R} (ho : o.op = .call ⟨.builtin .max, args, argTypes⟩) (h : aop E call full o st k = some r) : ∃ av st', k av st' = some r ∧ Res P o full st av st' := by
 unfold aop at h
 simp only [ho] at h
 split at h
 · rename_i kd x kd' y hxs
   obtain ⟨p, q, rfl, hp, hq⟩ := two_args0 hxs
   cases hk : decide (kd = kd') with
   | false => rw [hk] at h; cases h
   | true =>
    rw [hk, condA_true] at h
    have hk := of_decide_eq_true hk
    subst hk
    refine ⟨_, st, h, .pure (StEq.refl st) fun B g a w S => ?_⟩
    refine pure_same_v S (v := .int kd (maxI x y)) (by simp only [execOp, ho]; simp [resolve, invoke, builtin]; rfl) ?_ (.data (.int _ _))
    rw [(S.ev hp).int_inv, (S.ev hq).int_inv]
    unfold maxI
    simp only [Builtin.max_, List.foldlM]
    by_cases hc : x < y <;> simp [Builtin.max2, hc, condA]
 · cases h
omit hE in
theorem aop_min {full : Bool} {o : Oper} {args : Array Operand} {argTypes : Array TypeId} {st : St} {k : AV → St → Option R} {r : R} (ho : o.op = .call ⟨.builtin .min, args, argTypes⟩) (h : aop E call full o st k = some r) : ∃ av st', k av st' = some r ∧ Res P o full st av st' := by
 unfold aop at h
 simp only [ho] at h
 split at h
 · rename_i kd x kd' y hxs
   obtain ⟨p, q, rfl, hp, hq⟩ := two_args0 hxs
   cases hk : decide (kd = kd') with
   | false => rw [hk] at h; cases h
   | true =>
    rw [hk, condA_true] at h
    have hk := of_decide_eq_true hk
    subst hk
    refine ⟨_, st, h, .pure (StEq.refl st) fun B g a w S => ?_⟩
    refine pure_same_v S (v := .int kd (minI x y)) (by simp only [execOp, ho]; simp [resolve, invoke, builtin]; rfl) ?_ (.data (.int _ _))
    rw [(S.ev hp).int_inv, (S.ev hq).int_inv]
    unfold minI
    simp only [Builtin.min_, List.foldlM]
    by_cases hc : y < x <;> simp [Builtin.min2, hc, condA]
 · cases h
omit [Inv] hE in
theorem two_args {st : St} {args : Array Operand} {s x : AV} (h : evl st args.toList = some [s, x]) : ∃ p q, args = #[p, q] ∧ ev st p = some s ∧ ev st q = some x := by
 cases hl : args.toList with
 | nil => rw [hl] at h; cases h
 | cons y l =>
  rw [hl] at h
  simp only [evl] at h
  split at h
  · rename_i v l1 hv hl1
    cases h
    cases l with
    | nil => cases hl1
    | cons z l =>
     simp only [evl] at hl1
     split at hl1
     · rename_i v2 l2 hv2 hl2
       cases hl1
       cases l with
       | nil => exact ⟨y, z, by apply Array.toList_inj.1; rw [hl], hv, hv2⟩
       | cons u l =>
        simp only [evl] at hl2
        split at hl2
        · cases hl2
        · cases hl2
     · cases hl1
  · cases h
theorem aop_append {full : Bool} {o : Oper} {args : Array Operand} {argTypes : Array TypeId} {st : St} {k : AV → St → Option R} {r : R} (ho : o.op = .call ⟨.builtin .append, args, argTypes⟩) (h : aop E call full o st k = some r) : ∃ av st', k av st' = some r ∧ Res P o full st av st' := by
 unfold aop at h
 simp only [ho] at h
 split at h
 · rename_i t t' s x hts hxs
   have hta : argTypes = #[t, t'] := by apply Array.toList_inj.1; rw [hts]
   obtain ⟨p, q, rfl, hp, hq⟩ := two_args hxs
   subst hta
   split at h
   · rename_i e sz e' sz' ht ht'
     split at h
     · rename_i nm' s' new
       cases hc : Nat.beq t t' && (Nat.beq s' sz || Nat.beq s' 0) with
       | false => rw [hc] at h; cases h
       | true =>
        rw [hc] at h
        simp only [condA_true] at h
        rw [Bool.and_eq_true] at hc
        have htt := Nat.eq_of_beq_eq_true hc.1
        subst htt
        cases full with
        | false => cases h
        | true =>
         unfold appendK at h
         simp only [condA_true] at h
         split at h
         · rename_i N s2 cs d hd
           cases hc2 : (Nat.beq s2 sz || Nat.beq s2 0) && Nat.beq N.elem e with
           | false => rw [hc2] at h; cases h
           | true =>
            rw [hc2] at h
            simp only [condA_true] at h
            rw [Bool.and_eq_true] at hc2
            obtain ⟨hlim, h⟩ := guardB_some h
            rw [decide_eq_true_eq] at hlim
            have hT := not_tup hE ht (by simp)
            obtain ⟨hu, hsz, hz0, hby, i, hi⟩ := hT.is_slice
            refine ⟨_, _, h, .eff1 fun B g a w S K Q hK => ?_⟩
            obtain ⟨z, hz, hzs⟩ : ∃ z, i.zero = some z ∧ z.cells.size = sz := hT.elem_zero hi
            obtain ⟨v', w', g', h1, h2, h3⟩ := append_sound (d := d) (ty := o.type) S hT hi hz hzs (S.ev hp) (size_or hc2.1) (Nat.eq_of_beq_eq_true hc2.2) (S.ev hq) (size_or hc.2) hlim
            refine wp_value (w' := w') (v := v') ?_ (hK v' w' g' h2 h3)
            have hx : execOp a.eval o = (do pure (Next.value (← Builtin.append_ #[t, t] o.type #[a.eval p, a.eval q])) : Sem Next) := by
             simp [execOp, ho, resolve, invoke, builtin]
            rw [hx]; exact run_v h1
         · cases h
     · cases h
   · cases h
 · cases h
end
end AX
end Go.Proofs.YtnkppakkeobegaaGreatDoor
namespace Go.Proofs.YtnkppakkeobegaaGreatDoor
namespace AX
variable [Inv]
open Go.RowKit
variable {P : Program} {R : Type}
section
variable {E : Env} {call : CallF} (hE : EnvOk P E) (hC : CallOk P E call)
omit [Inv] in
theorem args_vals (a : Act) (args : Array Operand) : args.map a.eval = (args.toList.map a.eval).toArray := by
 apply Array.toList_inj.1; simp
omit [Inv] in
theorem any_false {args : List AV} (h : args.any AV.hasPtr = false) : ∀ a ∈ args, a.hasPtr = false := fun a ha => by
 rw [List.any_eq_false] at h; simpa using h a ha
omit [Inv] in
theorem castN_some {e : TypeId} {sz : Nat} {c : Cell} {k : List Cell → Option R} {r : R} (h : castN e sz c k = some r) : ∃ (n : Nm) (cs : List Cell), ∃ s, c = .sl (some n) s cs ∧ (s = sz ∨ s = 0) ∧ n.elem = e ∧ k cs = some r := by
 unfold castN at h
 split at h
 · rename_i n s cs
   cases hb : (Nat.beq s sz || Nat.beq s 0) && Nat.beq n.elem e with
   | false => rw [hb] at h; cases h
   | true =>
    rw [hb] at h
    rw [Bool.and_eq_true] at hb
    exact ⟨n, cs, s, rfl, size_or hb.1, Nat.eq_of_beq_eq_true hb.2, h⟩
 · cases h
theorem call_named0 {B : Base} {g : Gh} {st : St} {a : Act} {w' : World} {M' : Mem} {bx : List Nat} {ow : Nm → Option Value} {u : Value} {v : AV} {d : Nat} (S1 : Sim P B ⟨M', g.bx, g.ow⟩ st a w') (hv : Rv ⟨M', bx, ow⟩ w' u v) (hp : v.hasPtr = false)
 (hO : OwOk P ⟨M', bx, ow⟩ w') (hN : ∀ L x b, ow L = some x → x.ob = some b → b ∉ g.bx ∧ (∀ L' v', g.ow L' = some v' → v'.ob ≠ some b) ∧ (B.D b ∨ B.w0.heap.size ≤ b) ∧ ¬ Og st.G M' b) : ∃ g', Rv g' w' u (reNameV d v) ∧ Sim P B g' (st.clear d) a w' := by
 have plain : ∃ g', (∀ v c, Rd M' w' v c → Rc g' w' v c) ∧ g'.M = M' ∧ Sim P B g' (st.clear d) a w' := by
  refine ⟨_, fun v c h => .data h, rfl, S1.give (d := d) (f := fun _ => none) (fun L v _ h => by cases h) (fun L L' v v' _ _ _ h _ => by cases h) (fun L v b _ h _ => by cases h)⟩
 have bareA : ∀ (g' : Gh), (∀ v c, Rd M' w' v c → Rc g' w' v c) → ∀ vs cs, RvA ⟨M', bx, ow⟩ w' vs cs → cs.any hasPtr = false → RvA g' w' vs (cs.map Cell.bare) := fun g' hg vs cs h hp => by
  refine ⟨by rw [List.length_map]; exact h.1, fun i v c hv hcc => ?_⟩
  rw [List.getElem?_map] at hcc
  cases hi : cs[i]? with
  | none => rw [hi] at hcc; cases hcc
  | some c0 =>
   rw [hi] at hcc; cases hcc
   refine hg _ _ ((h.2 i v c0 hv hi).toData ?_)
   rw [List.any_eq_false] at hp
   simpa using hp c0 (List.mem_of_getElem? hi)
 have bare1 : ∀ (g' : Gh), (∀ v c, Rd M' w' v c → Rc g' w' v c) → ∀ v x, Rv1 ⟨M', bx, ow⟩ w' v x → x.hasPtr = false → Rv1 g' w' v (x.map Cell.bare) := fun g' hg v x h hp => by
  cases x with
  | one c => exact hg _ _ (Rc.toData h (by simpa [V1.hasPtr, V1.cells] using hp))
  | agg cs => obtain ⟨vs, rfl, h⟩ := h; exact ⟨vs, rfl, bareA g' hg vs cs h hp⟩
 -- one cell
 have one : ∀ (v : Value) (c : Cell), Rc ⟨M', bx, ow⟩ w' v c → hasPtr c = false → ∃ g', (∀ v c, Rd M' w' v c → Rc g' w' v c) ∧ Rc g' w' v (reName1 d c) ∧ Sim P B g' (st.clear d) a w' := fun v c h hp => by
  cases h with
  | data h =>
   obtain ⟨g', h1, h2, h3⟩ := plain
   refine ⟨g', h1, ?_, h3⟩
   have : reName1 d c = c := by cases h <;> rfl
   rw [this]; exact h1 _ _ h
  | own L h1 h2 =>
   obtain ⟨n, xs, hrow, hMb⟩ := hO.row L v h1
   refine ⟨_, fun v c h => .data h, ?_, S1.born (d := d) (e := L.elem) 0 hrow hMb (fun b hb => hN L v b h1 hb)⟩
   exact .own ⟨d, 0, L.elem⟩ ((give_here (L := ⟨d, 0, L.elem⟩) rfl).trans (by simp [nameIs])) h2
  | ptr => cases hp
  | eptr => cases hp
  | bsl => cases hp
  | bptr => cases hp
  | mapr => cases hp
 cases v with
 | one c =>
  obtain ⟨g', _, h2, h3⟩ := one u c hv hp
  exact ⟨g', h2, h3⟩
 | agg cs =>
  obtain ⟨g', h1, h2, h3⟩ := plain
  obtain ⟨vs, rfl, h⟩ := hv
  exact ⟨g', ⟨vs, rfl, bareA g' h1 vs cs h hp⟩, h3⟩
 | undef =>
  obtain ⟨g', h1, h2, h3⟩ := plain
  exact ⟨g', hv, h3⟩
 | tup xs =>
  obtain ⟨vs, rfl, h4, h5⟩ := hv
  have hp' : ∀ x ∈ xs, x.hasPtr = false := fun x hx => by
   have hp2 : xs.any V1.hasPtr = false := hp
   rw [List.any_eq_false] at hp2; simpa using hp2 x hx
  have all : ∀ (g' : Gh), (∀ v c, Rd M' w' v c → Rc g' w' v c) → ∀ (i : Nat) u x, vs[i]? = some u → (xs.map (V1.map Cell.bare))[i]? = some x → Rv1 g' w' u x := fun g' hg i u x hu hx => by
   rw [List.getElem?_map] at hx
   cases hi : xs[i]? with
   | none => rw [hi] at hx; cases hx
   | some x0 =>
    rw [hi] at hx; cases hx
    exact bare1 g' hg u x0 (h5 i u x0 hu hi) (hp' x0 (List.mem_of_getElem? hi))
  cases xs with
  | nil =>
   obtain ⟨g', h1, h2, h3⟩ := plain
   exact ⟨g', ⟨vs, rfl, h4, all g' h1⟩, h3⟩
  | cons x xs =>
   cases x with
   | agg cs =>
    obtain ⟨g', h1, h2, h3⟩ := plain
    exact ⟨g', ⟨vs, rfl, by simpa [reNameV] using h4, all g' h1⟩, h3⟩
   | one c =>
    have h0 : 0 < vs.size := by rw [h4]; simp
    obtain ⟨g', h1, h2, h3⟩ := one vs[0] c (h5 0 _ (.one c) (Array.getElem?_eq_getElem h0) rfl) (by simpa [V1.hasPtr, V1.cells] using hp' (.one c) List.mem_cons_self)
    refine ⟨g', ⟨vs, rfl, by simpa [reNameV] using h4, fun i u x hu hx => ?_⟩, h3⟩
    cases i with
    | zero =>
     simp only [List.getElem?_cons_zero, Option.some.injEq] at hx
     subst hx
     rw [Array.getElem?_eq_getElem h0] at hu
     cases hu
     exact h2
    | succ i => exact all g' h1 (i + 1) u x hu (by simpa using hx)
theorem call_named {B : Base} {g : Gh} {st : St} {a : Act} {w w' : World} {M' : Mem} {bx : List Nat} {ow : Nm → Option Value} {u : Value} {v : AV} {d : Nat} (S : Sim P B g st a w) (hG : Grow ⟨g.M, [], fun _ => none⟩ w M' w') (hv : Rv ⟨M', bx, ow⟩ w' u v) (hp : v.hasPtr = false)
 (hO : OwOk P ⟨M', bx, ow⟩ w') (hN : ∀ L x b, ow L = some x → x.ob = some b → w.heap.size ≤ b) : ∃ g', Rv g' w' u (reNameV d v) ∧ Sim P B g' (st.clear d) a w' := by
 have hG2 : Grow g w M' w' := ⟨hG.below, hG.sub, hG.old, hG.live, hG.same⟩
 have hbxlt : ∀ blk ∈ g.bx, blk < w.heap.size := fun blk hb => by
  obtain ⟨i, hi⟩ := List.getElem?_of_mem hb
  have hlt : i < st.H.length := by rw [← S.bx.len]; exact (List.getElem?_eq_some_iff.1 hi).1
  obtain ⟨blk', h1, h2⟩ := S.bx.box i _ (List.getElem?_eq_getElem hlt)
  rw [hi] at h1; cases h1
  exact h2.lt
 refine call_named0 (S.grow hG2) hv hp hO fun L x b hL hb => ?_
 have hge := hN L x b hL hb
 refine ⟨fun hm => by have := hbxlt b hm; omega, fun L' v' hL hb' => ?_, .inr (Nat.le_trans S.fr.size hge), fun ho => by have := S.gk.olt (b := b) ⟨ho.1, (Pb.same hG.same).1 ho.2⟩; omega⟩
 obtain ⟨n', xs', h3, _⟩ := S.ow.row L' v' hL
 have := (h3.lt b hb').2
 omega
theorem call_glob {E : Env} {call : CallF} (hC : CallOk P E call) {f : FuncId} (hfg : E.isG f = true) {B : Base} {g : Gh} {st : St} {a : Act} {w : World} (S : Sim P B g st a w) {G G' : Heap} (hG : st.G = some G) {args : List AV} {vals : List Value} {v : AV} (hv : call f args G = some (v, G')) (hA : All2 (fun a u => Rv ⟨g.M, [], fun _ => none⟩ w u a) args vals) :
 Calls P f vals.toArray w fun e w' => ∃ u M' bx ow, e = .returned u ∧ Rv ⟨M', bx, ow⟩ w' u v ∧ Sim P B ⟨M', g.bx, g.ow⟩ ⟨st.fr, st.H, some G'⟩ a w' ∧ OwOk P ⟨M', bx, ow⟩ w' ∧ ∀ L x b, ow L = some x → x.ob = some b → b ∉ g.bx ∧ (∀ L' v', g.ow L' = some v' → v'.ob ≠ some b) ∧ (B.D b ∨ B.w0.heap.size ≤ b) ∧ ¬ Og (some G') M' b := by
 have hgk := S.gk
 rw [hG] at hgk
 obtain ⟨hgm, hO, hD⟩ := hgk
 have ok := hC.ok f args G v G' hv ⟨g.M, [], fun _ => none⟩ (Pb g.M) w vals (fun w' h1 h2 h3 h4 h5 => B.keepI w' (h1.trans S.fr.os) (h2.trans S.fr.tape) (h3.trans S.fr.output) (Nat.le_trans S.fr.size h4) fun k hk hnD => by
  rw [h5 k (Nat.lt_of_lt_of_le hk S.fr.size) fun hp => (hD k hp).elim hnD fun h => by omega]
  exact S.fr.block k hk hnD) S.live
 rw [hfg] at ok
 refine (ok ⟨rfl, List.nodup_nil, fun blk hb => (by simp at hb), fun L v b h => (by cases h), fun i cs h => (by simp [inH] at h)⟩ ⟨fun L v h => (by cases h), fun L L' v v' _ h => (by cases h)⟩ (fun blk hb => by simp at hb) (fun L v b h => by cases h)
  (fun _ => ⟨⟨hO.len, hO.nodup, hO.obj, hO.out, hO.row, hO.rne, fun b _ hb => (by simp at hb), fun L u b h => (by cases h)⟩, fun k hk => hk⟩) hA).mono fun e w' ⟨u, g', B', fr, HH, GG, a', he, e1, e2, e3, e4, e5, S', hr, hH1⟩ => ?_
 obtain ⟨w0, M0, D0, nt, bx0, gm, kI⟩ := B'
 simp only at e1 e2 e3 e4 e5
 subst e1 e2 e3 e4 e5
 have hk2 := S'.gk
 cases GG with
 | none => exact absurd hk2.1 (by simp)
 | some G2 =>
 have hH1 : G' = G2 := hH1
 subst hH1
 obtain ⟨_, hO2, hD2⟩ := hk2
 have hbxlt : ∀ blk ∈ g.bx, blk < w0.heap.size := fun blk hb => by
  obtain ⟨i, hi⟩ := List.getElem?_of_mem hb
  have hlt : i < st.H.length := by rw [← S.bx.len]; exact (List.getElem?_eq_some_iff.1 hi).1
  obtain ⟨blk', h1, h2⟩ := S.bx.box i _ (List.getElem?_eq_getElem hlt)
  rw [hi] at h1; cases h1
  exact h2.lt
 have holt : ∀ L v b, g.ow L = some v → v.ob = some b → b < w0.heap.size := fun L v b hL hb => by
  obtain ⟨n, xs, h1, _⟩ := S.ow.row L v hL
  exact (h1.lt b hb).2
 have hkp : Kp g.M w0 g'.M w' := S'.fr.kp
 have hblk : ∀ q, q < w0.heap.size → ¬ Pb g.M q → w'.heap[q]? = w0.heap[q]? := S'.fr.block
 have hMold : ∀ b j, b < w0.heap.size → ¬ Pb g.M b → g'.M b j → g.M b j := S'.fr.old
 have hsz : w0.heap.size ≤ w'.heap.size := S'.fr.size
 have notP : ∀ k, k < B.w0.heap.size → ¬ B.D k → ¬ Pb g.M k := fun k hk hnD hp => (hD k hp).elim hnD fun h => by omega
 have hc : ∀ v c, Rc g w0 v c → Rc ⟨g'.M, g.bx, g.ow⟩ w' v c := fun v c h => h.kept hkp (fun _ _ h => h) (fun _ _ h => h)
 refine ⟨u, g'.M, g'.bx, g'.ow, he, hr, ?_, ⟨S'.ow.row, S'.ow.ne⟩, fun L x b hL hb => ⟨fun hm => ?_, fun L' v' hL' hb' => ?_, ?_, fun ho => hO2.ow L x b hL hb ho.2⟩⟩
 · refine ⟨fun s y hs => (S.frame s y hs).kept hkp (fun _ _ h => h) (fun _ _ h => h), S.size, S.defers, S'.live, ⟨S.bx.len, S.bx.nodup, fun blk hb j hm => ?_, S.bx.ow, fun i cs hi => ?_⟩, ⟨fun L x hx => ?_, S.ow.ne⟩, ⟨S'.fr.os.trans S.fr.os, S'.fr.tape.trans S.fr.tape, S'.fr.output.trans S.fr.output, Nat.le_trans S.fr.size hsz, fun k hk hnD => ?_, S.fr.kp.trans hkp, fun b j hb hnD hm => ?_⟩, S.bxB, S.owB, S.pre, hgm, ⟨hO2.len, hO2.nodup, hO2.obj, hO2.out, hO2.row, hO2.rne, fun b hp hb => ?_, fun L x b hL hb hp => ?_⟩, fun b hp => ?_⟩
   · exact S.bx.M blk hb j (hMold blk j (hbxlt blk hb) (fun hp => hO.bx blk hp hb) hm)
   · obtain ⟨blk, h1, h2⟩ := S.bx.box i cs hi
     exact ⟨blk, h1, h2.same (hblk blk h2.lt (fun hp => hO.bx blk hp (List.mem_of_getElem? h1))) hkp hc⟩
   · obtain ⟨n, xs, h1, h2⟩ := S.ow.row L x hx
     exact ⟨n, xs, ownsRow_block h1 fun b hb => hblk b (h1.lt b hb).2 (hO.ow L x b hx hb), fun b j hb hm => h2 b j hb (hMold b j (h1.lt b hb).2 (hO.ow L x b hx hb) hm)⟩
   · exact (hblk k (Nat.lt_of_lt_of_le hk S.fr.size) (notP k hk hnD)).trans (S.fr.block k hk hnD)
   · exact S.fr.old b j hb hnD (hMold b j (Nat.lt_of_lt_of_le hb S.fr.size) (notP b hb hnD) hm)
   · rcases hD2 b hp with h | h
     · exact hO.bx b h hb
     · have := hbxlt b hb
       have h : w0.heap.size ≤ b := h
       omega
   · rcases hD2 b hp with h | h
     · exact hO.ow L x b hL hb h
     · have := holt L x b hL hb
       have h : w0.heap.size ≤ b := h
       omega
   · rcases hD2 b hp with h | h
     · exact hD b h
     · exact .inr (Nat.le_trans S.fr.size h)
 · rcases S'.owB L x b hL hb with h | h
   · exact hO.bx b h hm
   · have := hbxlt b hm
     have h : w0.heap.size ≤ b := h
     omega
 · rcases S'.owB L x b hL hb with h | h
   · exact hO.ow L' v' b hL' hb' h
   · have := holt L' v' b hL' hb'
     have h : w0.heap.size ≤ b := h
     omega
 · rcases S'.owB L x b hL hb with h | h
   · exact hD b h
   · exact .inr (Nat.le_trans S.fr.size h)
section
omit [Inv] in
theorem refsOf_spec : ∀ (l : List AV) (acc bs : List Nat), refsOf l acc = some bs → acc.Nodup → bs.Nodup ∧ (∀ b ∈ acc, b ∈ bs) ∧ ∀ a ∈ l, (∃ b o, a = .one (.ptr b o) ∧ b ∈ bs) ∨ a.hasPtr = false ∧ refArg bs a = a.bare
 | [], acc, bs, h, hn => by
  simp only [refsOf, Option.some.injEq] at h; subst h
  exact ⟨hn, fun _ h => h, fun _ h => by simp at h⟩
 | a :: r, acc, bs, h, hn => by
  simp only [refsOf] at h
  split at h
  · rename_i b o
    have hn2 : (condA (acc.any (Nat.beq b)) (acc) <| acc ++ [b]).Nodup := by
     cases hx : acc.any (Nat.beq b) with
     | true => exact hn
     | false =>
      rw [condA_false, List.nodup_append]
      refine ⟨hn, by simp, fun x hx' y hy => ?_⟩
      simp at hy; subst hy
      intro e; subst e
      rw [List.any_eq_false] at hx
      exact hx x hx' (Nat.beq_refl x)
    obtain ⟨h1, h2, h3⟩ := refsOf_spec r _ bs h hn2
    have hb : b ∈ bs := h2 b (by
     cases hx : acc.any (Nat.beq b) with
     | true =>
      rw [List.any_eq_true] at hx
      obtain ⟨x, hx1, hx2⟩ := hx
      rw [Nat.eq_of_beq_eq_true hx2, condA_true]; exact hx1
     | false => rw [condA_false]; simp)
    refine ⟨h1, fun x hx => h2 x (by
     cases acc.any (Nat.beq b) with
     | true => exact hx
     | false => rw [condA_false]; simp [hx]), fun x hx => ?_⟩
    rcases List.mem_cons.1 hx with rfl | hx
    · exact .inl ⟨b, o, rfl, hb⟩
    · exact h3 x hx
  · rename_i hne
    cases hp : a.hasPtr with
    | true => rw [hp] at h; cases h
    | false =>
     rw [hp] at h
     obtain ⟨h1, h2, h3⟩ := refsOf_spec r acc bs h hn
     refine ⟨h1, h2, fun x hx => ?_⟩
     rcases List.mem_cons.1 hx with rfl | hx
     · refine .inr ⟨hp, ?_⟩
       unfold refArg
       split
       · rename_i b o; exact absurd rfl (hne b o)
       · rfl
     · exact h3 x hx
omit [Inv] in
theorem ixOf_get : ∀ {bs : List Nat} {b : Nat}, b ∈ bs → bs[ixOf bs b]? = some b
 | c :: r, b, h => by
  simp only [ixOf]
  cases hb : Nat.beq c b with
  | true => rw [condA_true, Nat.eq_of_beq_eq_true hb]; rfl
  | false =>
   rw [condA_false, List.getElem?_cons_succ]
   refine ixOf_get ((List.mem_cons.1 h).resolve_left fun e => ?_)
   subst e; rw [Nat.beq_refl] at hb; cases hb
omit [Inv] in
theorem Rc.own_inv {g : Gh} {w : World} {v : Value} {L : Nm} {sz : Nat} {cs : List Cell} (h : Rc g w v (.sl (some L) sz cs)) : g.ow L = some v ∧ Rd g.M w v (.sl none sz cs) := by
 cases h with
 | data h => cases h
 | own _ h1 h2 => exact ⟨h1, h2⟩
omit [Inv] in
theorem pairwise_two {es : List (Nm × Nm)} (h : es.Pairwise fun a b => a.1 ≠ b.1 ∧ a.2 ≠ b.2) {p q : Nm × Nm} (hp : p ∈ es) (hq : q ∈ es) (hne : p ≠ q) : p.2 ≠ q.2 := by
 induction es with
 | nil => cases hp
 | cons x r ih =>
  rw [List.pairwise_cons] at h
  rcases List.mem_cons.1 hp with rfl | hp' <;> rcases List.mem_cons.1 hq with rfl | hq'
  · exact absurd rfl hne
  · exact (h.1 q hq').2
  · exact fun e => (h.1 p hp').2 e.symm
  · exact ih h.2 hp' hq'
def CellIn (es : List (Nm × Nm)) (c c' : Cell) : Prop := hasPtr c = false ∧ ((∃ L N sz xs, c = .sl (some L) sz xs ∧ c' = .sl (some N) sz xs ∧ (N, L) ∈ es) ∨ c' = c.bare)
structure EntOk (es : List (Nm × Nm)) : Prop where
 pw : es.Pairwise fun a b => a.1 ≠ b.1 ∧ a.2 ≠ b.2
 elem : ∀ p ∈ es, p.1.elem = p.2.elem
omit [Inv] in
theorem enterCells_spec {own : List (Nat × Nat)} {i : Nat} : ∀ (cs : List Cell) (j : Nat) (es : List (Nm × Nm)) (cs' : List Cell) (es' : List (Nm × Nm)), enterCells own i j cs es = some (cs', es') → EntOk es →
 EntOk es' ∧ (∀ p ∈ es, p ∈ es') ∧ cs'.length = cs.length ∧ ∀ (k : Nat) c, cs[k]? = some c → ∃ c', cs'[k]? = some c' ∧ CellIn es' c c'
 | [], j, es, cs', es', h, he => by
  simp only [enterCells, Option.some.injEq, Prod.mk.injEq] at h
  obtain ⟨rfl, rfl⟩ := h
  exact ⟨he, fun _ h => h, rfl, fun k c hc => by simp at hc⟩
 | c :: r, j, es, cs', es', h, he => by
  simp only [enterCells] at h
  cases hp : hasPtr c with
  | true => rw [hp] at h; cases h
  | false =>
   rw [hp, condA_false] at h
   cases ho : ownAt own i j with
   | true =>
    rw [ho, condA_true] at h
    split at h
    · rename_i L sz xs
      cases ha : es.any (fun p => isNm L p.2 || isNm ⟨boxSlot i, j, L.elem⟩ p.1) with
      | true => rw [ha] at h; cases h
      | false =>
       rw [ha, condA_false] at h
       split at h
       · rename_i r' es2 hr
         simp only [Option.some.injEq, Prod.mk.injEq] at h
         obtain ⟨rfl, rfl⟩ := h
         rw [List.any_eq_false] at ha
         have hpw : ∀ p ∈ es, (⟨boxSlot i, j, L.elem⟩ : Nm) ≠ p.1 ∧ L ≠ p.2 := fun p hp => by
          have := ha p hp
          rw [Bool.or_eq_true, not_or] at this
          refine ⟨fun e => this.2 ?_, fun e => this.1 ?_⟩
          · rw [← e]; simp [isNm, Nat.beq_refl]
          · rw [← e]; simp [isNm, Nat.beq_refl]
         obtain ⟨h1, h2, h3, h4⟩ := enterCells_spec r (j + 1) _ r' _ hr ⟨List.pairwise_cons.2 ⟨hpw, he.pw⟩, fun p hp => (List.mem_cons.1 hp).elim (fun e => by rw [e]) (he.elem p)⟩
         refine ⟨h1, fun p hp => h2 p (List.mem_cons_of_mem _ hp), by simp [h3], fun k c hc => ?_⟩
         cases k with
         | zero => simp at hc; subst hc; exact ⟨_, rfl, hp, .inl ⟨L, _, sz, xs, rfl, rfl, h2 _ List.mem_cons_self⟩⟩
         | succ k => simpa using h4 k c (by simpa using hc)
       · cases h
    · cases h
   | false =>
    rw [ho, condA_false] at h
    split at h
    · rename_i r' es2 hr
      simp only [Option.some.injEq, Prod.mk.injEq] at h
      obtain ⟨rfl, rfl⟩ := h
      obtain ⟨h1, h2, h3, h4⟩ := enterCells_spec r (j + 1) _ r' _ hr he
      refine ⟨h1, h2, by simp [h3], fun k c' hc => ?_⟩
      cases k with
      | zero => simp at hc; subst hc; exact ⟨_, rfl, hp, .inr rfl⟩
      | succ k => simpa using h4 k c' (by simpa using hc)
    · cases h
omit [Inv] in
theorem CellIn.mono {es es' : List (Nm × Nm)} {c c' : Cell} (h : CellIn es c c') (hs : ∀ p ∈ es, p ∈ es') : CellIn es' c c' :=
 ⟨h.1, h.2.imp (fun ⟨L, N, sz, xs, h1, h2, h3⟩ => ⟨L, N, sz, xs, h1, h2, hs _ h3⟩) id⟩
omit [Inv] in
theorem enterH_spec {own : List (Nat × Nat)} {H : Heap} : ∀ (bs : List Nat) (i : Nat) (es : List (Nm × Nm)) (H0 : Heap) (es' : List (Nm × Nm)), enterH own H i bs es = some (H0, es') → EntOk es →
 EntOk es' ∧ (∀ p ∈ es, p ∈ es') ∧ H0.length = bs.length ∧ ∀ (m b : Nat), bs[m]? = some b → ∃ cs cs', H[b]? = some cs ∧ H0[m]? = some cs' ∧ cs'.length = cs.length ∧ ∀ (k : Nat) c, cs[k]? = some c → ∃ c', cs'[k]? = some c' ∧ CellIn es' c c'
 | [], i, es, H0, es', h, he => by
  simp only [enterH, Option.some.injEq, Prod.mk.injEq] at h
  obtain ⟨rfl, rfl⟩ := h
  exact ⟨he, fun _ h => h, rfl, fun m b hb => by simp at hb⟩
 | b :: bs, i, es, H0, es', h, he => by
  simp only [enterH] at h
  split at h
  · cases h
  · rename_i cs hcs
    split at h
    · cases h
    · rename_i cs' es2 hc
      split at h
      · cases h
      · rename_i H2 l hr
        simp only [Option.some.injEq, Prod.mk.injEq] at h
        obtain ⟨rfl, rfl⟩ := h
        obtain ⟨h1, h2, h3, h4⟩ := enterCells_spec cs 0 es cs' es2 hc he
        obtain ⟨h5, h6, h7, h8⟩ := enterH_spec bs (i + 1) es2 H2 l hr h1
        refine ⟨h5, fun p hp => h6 p (h2 p hp), by simp [h7], fun m b' hb => ?_⟩
        cases m with
        | zero =>
         simp at hb; subst hb
         exact ⟨cs, cs', hcs, rfl, h3, fun k c hk => by
          obtain ⟨c', h9, h10⟩ := h4 k c hk
          exact ⟨c', h9, h10.mono h6⟩⟩
        | succ m => simpa using h8 m b' (by simpa using hb)
def rowy : Cell → Bool
 | .row _ => true
 | .map _ _ => true
 | .selfp _ => true
 | _ => false
omit [Inv] in
theorem castLike_some {c d : Cell} {k : Cell → Option R} {r : R} (h : castLike c d k = some r) : ∃ c', k c' = some r ∧ rowy d = false ∧ ∀ (g : Gh) w v, Rc g w v d → Rd g.M w v c' := by
 unfold castLike at h
 split at h
 · obtain ⟨n, rfl, h2⟩ := castI_some h; exact ⟨_, h2, rfl, fun g w v hv => by cases hv; assumption⟩
 · obtain ⟨n, rfl, h2⟩ := castB_some h; exact ⟨_, h2, rfl, fun g w v hv => by cases hv; assumption⟩
 · obtain ⟨n, rfl, h2⟩ := castS_some h; exact ⟨_, h2, rfl, fun g w v hv => by cases hv; assumption⟩
 · obtain ⟨nm, s, cs, rfl, hs, h2⟩ := castL_some h
   exact ⟨_, h2, rfl, fun g w v hv => ((hv.sized hs).toData rfl)⟩
 · obtain ⟨n, rfl, h2⟩ := castE_some h; exact ⟨_, h2, rfl, fun g w v hv => by cases hv; assumption⟩
 · cases h
omit [Inv] in
theorem likeCells_some : ∀ (old new : List Cell) {k : List Cell → Option R} {r : R}, likeCells old new k = some r → ∃ new', k new' = some r ∧ new'.length = new.length ∧
 ∀ (i : Nat) d, new[i]? = some d → ∃ c', new'[i]? = some c' ∧ (rowy d = false ∨ ∃ t, d = .selfp t ∧ c' = .selfp t) ∧ ∀ (g : Gh) w v, Rc g w v d → Rc g w v c'
 | [], [], k, r, h => ⟨[], h, rfl, fun i d hd => by simp at hd⟩
 | [], _ :: _, k, r, h => by cases h
 | c :: old, [], k, r, h => by cases h
 | c :: old, d :: new, k, r, h => by
  have step : ∀ (c' : Cell) (k' : List Cell → Option R), (rowy d = false ∨ ∃ t, d = .selfp t ∧ c' = .selfp t) → (∀ (g : Gh) w v, Rc g w v d → Rc g w v c') → likeCells old new (fun r' => k (c' :: r')) = some r → ∃ new', k new' = some r ∧ new'.length = (d :: new).length ∧
   ∀ (i : Nat) e, (d :: new)[i]? = some e → ∃ c', new'[i]? = some c' ∧ (rowy e = false ∨ ∃ t, e = .selfp t ∧ c' = .selfp t) ∧ ∀ (g : Gh) w v, Rc g w v e → Rc g w v c' := fun c' _ hr hc h => by
   obtain ⟨new', h1, h2, h3⟩ := likeCells_some old new h
   refine ⟨_, h1, by simp [h2], fun i e he => ?_⟩
   cases i with
   | zero => simp at he; subst he; exact ⟨c', rfl, hr, hc⟩
   | succ i => simpa using h3 i e (by simpa using he)
  simp only [likeCells] at h
  split at h
  · rename_i L sz xs
    unfold castNm at h
    split at h
    · rename_i n s cs
      cases hb : (Nat.beq s sz || Nat.beq s 0) && (isNm n L && Nat.beq n.elem L.elem) with
      | false => rw [hb] at h; cases h
      | true =>
       rw [hb] at h
       simp only [condA_true] at h
       rw [Bool.and_eq_true, Bool.and_eq_true] at hb
       obtain ⟨hs, hn, he⟩ := hb
       have hnL : n = L := by
        unfold isNm at hn
        rw [Bool.and_eq_true] at hn
        cases n; cases L
        simp only [Nm.mk.injEq]
        exact ⟨Nat.eq_of_beq_eq_true hn.1, Nat.eq_of_beq_eq_true hn.2, Nat.eq_of_beq_eq_true he⟩
       subst hnL
       exact step _ k (.inl rfl) (fun g w v hv => hv.sized (size_or hs)) h
    · cases h
  · rename_i b
    unfold castSp at h
    split at h
    · rename_i b'
      cases hb : Nat.beq b' b with
      | false => rw [hb] at h; cases h
      | true =>
       rw [hb] at h
       simp only [condA_true] at h
       have := Nat.eq_of_beq_eq_true hb
       subst this
       exact step _ k (.inr ⟨_, rfl, rfl⟩) (fun g w v hv => hv) h
    · cases h
  · obtain ⟨c', h, hr, hc⟩ := castLike_some h
    exact step c' k (.inl hr) (fun g w v hv => .data (hc g w v hv)) h
theorem Sim.like {B : Base} {g : Gh} {fr : List (Nat × AV)} {H : Heap} {b : Nat} {new new' : List Cell} {a : Act} {w : World} {G : Option Heap} (S : Sim P B g ⟨fr, H.set b new, G⟩ a w) (hl : new'.length = new.length)
 (h : ∀ (i : Nat) d, new[i]? = some d → ∃ c', new'[i]? = some c' ∧ (rowy d = false ∨ ∃ t, d = .selfp t ∧ c' = .selfp t) ∧ ∀ (g : Gh) w v, Rc g w v d → Rc g w v c') : Sim P B g ⟨fr, H.set b new', G⟩ a w := by
 refine ⟨S.frame, S.size, S.defers, S.live, ⟨by have := S.bx.len; simpa using this, S.bx.nodup, S.bx.M, S.bx.ow, fun i cs hi => ?_⟩, S.ow, S.fr, S.bxB, S.owB, S.pre, S.gk⟩
 have hi : (H.set b new')[i]? = some cs := hi
 rw [List.getElem?_set] at hi
 by_cases hib : b = i
 · subst hib
   rw [if_pos rfl] at hi
   by_cases hlt : b < H.length
   · rw [if_pos hlt] at hi
     cases hi
     obtain ⟨blk, h1, h2⟩ := S.bx.box b new (by show (H.set b new)[b]? = _; rw [List.getElem?_set_self hlt])
     refine ⟨blk, h1, ?_⟩
     have hnr : ∀ c r, new = c :: r → rowy c = true → (∀ t, c ≠ .selfp t) → False := fun c r e hr ht => by
      subst e
      obtain ⟨_, _, h3, _⟩ := h 0 c rfl
      rcases h3 with h3 | ⟨t, h3, _⟩
      · rw [h3] at hr; cases hr
      · exact ht t h3
     cases h2 with
     | row vs e fz cs _ _ _ _ => exact (hnr _ _ rfl rfl (fun t e => by cases e)).elim
     | map es ck ks _ _ => exact (hnr _ _ rfl rfl (fun t e => by cases e)).elim
     | bld t' p' v' c' q1 q2 q3 =>
      obtain ⟨c0, h3, h4, _⟩ := h 0 _ rfl
      obtain ⟨c1, h5, _, h6⟩ := h 1 c' rfl
      have he : c0 = .selfp t' := by
       rcases h4 with h4 | ⟨t, h4, h4'⟩
       · cases h4
       · cases h4; exact h4'
      subst he
      have hn : new' = [.selfp t', c1] := by
       have hl2 : new'.length = 2 := hl
       match new', hl2, h3, h5 with
       | [x, y], _, h3, h5 => simp at h3 h5; rw [h3, h5]
      rw [hn]
      exact .bld t' p' v' c1 q1 q2 (h6 g w v' q3)
     | cells vs e _ h3 h4 =>
      refine .cells vs e _ h3 ⟨by rw [hl]; exact h4.1, fun j v c hv hc => ?_⟩
      have hj : j < new.length := by rw [← hl]; exact (List.getElem?_eq_some_iff.1 hc).1
      obtain ⟨c', h5, _, h6⟩ := h j new[j] (List.getElem?_eq_getElem hj)
      rw [hc] at h5; cases h5
      exact h6 g w v (h4.2 j v _ hv (List.getElem?_eq_getElem hj))
   · rw [if_neg hlt] at hi; cases hi
 · rw [if_neg hib] at hi
   exact S.bx.box i cs (by show (H.set b new)[i]? = _; rw [List.getElem?_set_ne hib]; exact hi)
def CellOut (b j : Nat) (d c' : Cell) : Prop := rowy d = false ∧ ((∀ (g : Gh) w v, Rc g w v d → Rd g.M w v c') ∨ ∃ n s sz xs, d = .sl (some n) s xs ∧ (s = sz ∨ s = 0) ∧ c' = .sl (some ⟨boxSlot b, j, n.elem⟩) sz xs)
omit [Inv] in
theorem leaveCells_spec {own : List (Nat × Nat)} {i b : Nat} : ∀ (old : List Cell) (j : Nat) (cs : List Cell) (k : List Cell → Option R) (r : R), leaveCells own i b j old cs k = some r →
 ∃ cs', k cs' = some r ∧ cs'.length = cs.length ∧ ∀ (m : Nat) d, cs[m]? = some d → ∃ c', cs'[m]? = some c' ∧ CellOut b (j + m) d c'
 | [], j, cs, k, r, h => by
  simp only [leaveCells] at h
  split at h
  · exact ⟨[], h, rfl, fun m d hd => by simp at hd⟩
  · cases h
 | c :: old, j, cs, k, r, h => by
  simp only [leaveCells] at h
  split at h
  · cases h
  · rename_i d s
    have step : ∀ c' cs', CellOut b j d c' → (∀ (m : Nat) d, s[m]? = some d → ∃ c', cs'[m]? = some c' ∧ CellOut b (j + 1 + m) d c') → ∀ (m : Nat) e, (d :: s)[m]? = some e → ∃ c2, (c' :: cs')[m]? = some c2 ∧ CellOut b (j + m) e c2 := fun c' cs' h0 hr m e he => by
     cases m with
     | zero => simp at he; subst he; exact ⟨c', rfl, h0⟩
     | succ m =>
      obtain ⟨c2, h1, h2⟩ := hr m e (by simpa using he)
      exact ⟨c2, by simpa using h1, by rw [show j + (m + 1) = j + 1 + m by omega]; exact h2⟩
    cases ho : ownAt own i j with
    | true =>
     rw [ho, condA_true] at h
     split at h
     · rename_i L sz xs0
       obtain ⟨n, xs, s0, rfl, hs, he, h⟩ := castN_some h
       obtain ⟨cs', h1, h2, h3⟩ := leaveCells_spec old (j + 1) s _ r h
       exact ⟨_, h1, by simp [h2], step _ cs' ⟨rfl, .inr ⟨n, s0, sz, xs, rfl, hs, by rw [he]⟩⟩ h3⟩
     · cases h
    | false =>
     rw [ho, condA_false] at h
     obtain ⟨c', h, hry, hc⟩ := castLike_some h
     obtain ⟨cs', h1, h2, h3⟩ := leaveCells_spec old (j + 1) s _ r h
     exact ⟨_, h1, by simp [h2], step _ cs' ⟨hry, .inl hc⟩ h3⟩
omit [Inv] in
theorem leaveH_spec {own : List (Nat × Nat)} {H : Heap} : ∀ (bs : List Nat) (i : Nat) (H1 HH : Heap) (k : Heap → Option R) (r : R), leaveH own H i bs H1 HH k = some r → bs.Nodup → (∀ b ∈ bs, b < HH.length) →
 ∃ H', k H' = some r ∧ H'.length = HH.length ∧ (∀ b, b ∉ bs → H'[b]? = HH[b]?) ∧ ∀ (m b : Nat), bs[m]? = some b → ∃ cs cs', H1[m]? = some cs ∧ H'[b]? = some cs' ∧ cs'.length = cs.length ∧ ∀ (j : Nat) d, cs[j]? = some d → ∃ c', cs'[j]? = some c' ∧ CellOut b j d c'
 | [], i, H1, HH, k, r, h, hn, hb => by
  simp only [leaveH] at h
  split at h
  · exact ⟨HH, h, rfl, fun _ _ => rfl, fun m b hb => by simp at hb⟩
  · cases h
 | b :: bs, i, H1, HH, k, r, h, hn, hlt => by
  simp only [leaveH] at h
  split at h
  · cases h
  · rename_i cs H2
    split at h
    · cases h
    · rename_i old hold
      obtain ⟨cs', h, h1, h2⟩ := leaveCells_spec old 0 cs _ r h
      rw [List.nodup_cons] at hn
      obtain ⟨H', h3, h4, h5, h6⟩ := leaveH_spec bs (i + 1) H2 _ k r h hn.2 (fun x hx => by rw [List.length_set]; exact hlt x (List.mem_cons_of_mem _ hx))
      refine ⟨H', h3, by rw [h4, List.length_set], fun x hx => ?_, fun m x hx => ?_⟩
      · rw [h5 x (fun h => hx (List.mem_cons_of_mem _ h)), List.getElem?_set_ne]
        intro e; subst e; exact hx List.mem_cons_self
      · cases m with
        | zero =>
         simp at hx; subst hx
         refine ⟨cs, cs', rfl, ?_, h1, fun j d hd => by simpa using h2 j d hd⟩
         rw [h5 b hn.1, List.getElem?_set_self (hlt b List.mem_cons_self)]
        | succ m => simpa using h6 m x (by simpa using hx)
omit [Inv] in
theorem canonCells_get (i : Nat) : ∀ (cs : List Cell) (j k : Nat), (canonCells i j cs)[k]? = (cs[k]?).map (Cell.strike fun L => !(Nat.beq L.slot (boxSlot i) && Nat.beq L.ix (j + k)))
 | [], j, k => by simp [canonCells]
 | c :: r, j, 0 => by simp [canonCells]
 | c :: r, j, k + 1 => by
  simp only [canonCells, List.getElem?_cons_succ]
  rw [canonCells_get i r (j + 1) k, show j + 1 + k = j + (k + 1) by omega]
omit [Inv] in
theorem canonH_get : ∀ (H : Heap) (i k : Nat), (canonH i H)[k]? = (H[k]?).map (canonCells (i + k) 0)
 | [], i, k => by simp [canonH]
 | c :: r, i, 0 => by simp [canonH]
 | c :: r, i, k + 1 => by
  simp only [canonH, List.getElem?_cons_succ]
  rw [canonH_get r (i + 1) k, show i + 1 + k = i + (k + 1) by omega]
omit [Inv] in
theorem strike_named {p : Nm → Bool} {c : Cell} {n : Nm} {s : Nat} {xs : List Cell} (h : c.strike p = .sl (some n) s xs) : c = .sl (some n) s xs ∧ p n = false := by
 cases c with
 | sl nm s' cs =>
  cases nm with
  | none => cases h
  | some L =>
   cases hp : p L with
   | true => simp only [Cell.strike, hp, condA_true] at h; cases h
   | false => simp only [Cell.strike, hp, condA_false] at h; cases h; exact ⟨rfl, hp⟩
 | _ => cases h
def owIn (g : Gh) (es : List (Nm × Nm)) (N : Nm) : Option Value := (es.find? fun p => decide (p.1 = N)).bind fun p => g.ow p.2
omit [Inv] in
theorem owIn_mem {g : Gh} {es : List (Nm × Nm)} (he : EntOk es) {N L : Nm} (h : (N, L) ∈ es) : owIn g es N = g.ow L := by
 have : es.find? (fun p => decide (p.1 = N)) = some (N, L) := by
  have hpw := he.pw
  clear he
  induction es with
  | nil => cases h
  | cons p r ih =>
   rw [List.pairwise_cons] at hpw
   rcases List.mem_cons.1 h with rfl | h
   · simp
   · have : p.1 ≠ N := (hpw.1 _ h).1
     rw [List.find?_cons, decide_eq_false this]
     exact ih h hpw.2
 simp [owIn, this]
omit [Inv] in
theorem owIn_some {g : Gh} {es : List (Nm × Nm)} {N : Nm} {v : Value} (h : owIn g es N = some v) : ∃ L, (N, L) ∈ es ∧ g.ow L = some v := by
 unfold owIn at h
 cases hf : es.find? (fun p => decide (p.1 = N)) with
 | none => rw [hf] at h; cases h
 | some p =>
  rw [hf] at h
  have h1 := List.find?_some hf
  simp only [decide_eq_true_eq] at h1
  subst h1
  exact ⟨p.2, List.mem_of_find?_eq_some hf, h⟩
def owOut (g g' : Gh) (bs : List Nat) (es : List (Nm × Nm)) (N : Nm) : Option Value :=
 if 1000000 ≤ N.slot ∧ (N.slot - 1000000) ∈ bs then g'.ow ⟨boxSlot (ixOf bs (N.slot - 1000000)), N.ix, N.elem⟩ else if es.any (fun p => isNm N p.2) then none else g.ow N
omit [Inv] in
theorem goesN_false {bs : List Nat} {es : List (Nm × Nm)} {N : Nm} (h : goesN bs es N = false) : ¬ (1000000 ≤ N.slot ∧ (N.slot - 1000000) ∈ bs) ∧ es.any (fun p => isNm N p.2) = false := by
 unfold goesN at h
 rw [Bool.or_eq_false_iff] at h
 refine ⟨fun ⟨h1, h2⟩ => ?_, h.1⟩
 have := h.2
 rw [List.any_eq_false] at this
 exact this _ h2 (bornAt_slot.2 (by unfold boxSlot; omega))
omit [Inv] in
theorem owOut_cases {g g' : Gh} {bs : List Nat} {es : List (Nm × Nm)} {N : Nm} {v : Value} (h : owOut g g' bs es N = some v) :
 (∃ b, b ∈ bs ∧ N.slot = boxSlot b ∧ g'.ow ⟨boxSlot (ixOf bs b), N.ix, N.elem⟩ = some v) ∨ ((∀ b ∈ bs, N.slot ≠ boxSlot b) ∧ (∀ p ∈ es, N ≠ p.2) ∧ g.ow N = some v) := by
 unfold owOut at h
 split at h
 · rename_i hc
   exact .inl ⟨_, hc.2, by unfold boxSlot; omega, h⟩
 · rename_i hc
   split at h
   · cases h
   · rename_i he
     refine .inr ⟨fun b hb e => hc ⟨by unfold boxSlot at e; omega, by unfold boxSlot at e; rw [e, show 1000000 + b - 1000000 = b by omega]; exact hb⟩, fun p hp e => he ?_, h⟩
     rw [List.any_eq_true]
     exact ⟨p, hp, by rw [← e]; simp [isNm, Nat.beq_refl]⟩
def Enters (P : Program) (o : Oper) (f : FuncId) (st : St) (asl : List AV) : Prop := ∀ B g a w, Sim P B g st a w → ∃ vals : List Value, All2 (fun x u => Rv g w u x) asl vals ∧
 ∀ (fn : Func) (K : Act → World → Prop) (Q : Exit → Act → World → Prop), P.funcs[f]? = some fn → fn.body.isSome = true → fn.name ≠ "runtime.NumGoroutine" → Calls P f vals.toArray w (fun e w' => ∃ u, e = .returned u ∧ K (a.put o.dst u) w') → o.wp P a w K Q
def ResX (P : Program) (o : Oper) (bs : List Nat) (st : St) (av : AV) (st' : St) : Prop :=
 ∀ B g a w, Sim P B g st a w → ∀ (K : Act → World → Prop) (Q : Exit → Act → World → Prop), (∀ v w' g', Rv g' w' v av → Sim P B g' st' a w' → (∀ (b blk : Nat), g.bx[b]? = some blk → b ∉ bs → w'.heap[blk]? = w.heap[blk]?) → K (a.put o.dst v) w') → o.wp P a w K Q
theorem call_refX {E : Env} {call : CallF} (hC : CallOk P E call) {o : Oper} {f : FuncId} (hfg : E.isG f = false) {st : St} {asl : List AV} {k : AV → St → Option R} {r : R} (hent : Enters P o f st asl)
    (h : (condA (true) ((match refsOf asl [] with
                | none => none
                | some bs => (match enterH (E.refNm f) st.H 0 bs [] with
                  | none => none
                  | some (H0, es) => (match call f (asl.map (refArg bs)) H0 with
                    | none => none
                    | some (v, H1) => leaveH (E.refNm f) st.H 0 bs H1 (strikeH (goesN bs es) st.H) fun H' =>
                      (match ty E.T o.type with
                       | some t => castV t v fun v' => condA (v'.hasPtr) (none) <| k v'.bare ⟨strikeFr (goesN bs es) st.fr, H', st.G⟩
                       | none => none))))) <|
              none) = some r) : ∃ bs av st', refsOf asl [] = some bs ∧ k av st' = some r ∧ ResX P o bs st av st' := by
  rw [condA_true] at h
  split at h
  · cases h
  · rename_i bs hbs
    split at h
    · cases h
    · rename_i H0 es hen
      split at h
      · cases h
      · rename_i v H1 hv
        obtain ⟨hbn, _, hargs⟩ := refsOf_spec asl [] bs hbs List.nodup_nil
        obtain ⟨hes, _, hlen0, hin⟩ := enterH_spec bs 0 [] H0 es hen ⟨List.Pairwise.nil, fun p hp => by cases hp⟩
        have hblt : ∀ b ∈ bs, b < st.H.length := fun b hb => by
          obtain ⟨m, hm⟩ := List.getElem?_of_mem hb
          obtain ⟨cs, cs', h1, _⟩ := hin m b hm
          exact (List.getElem?_eq_some_iff.1 h1).1
        obtain ⟨H', h, hlen', hsame, hout⟩ := leaveH_spec bs 0 H1 _ _ r h hbn (fun b hb => by rw [strikeH_len]; exact hblt b hb)
        split at h
        · rename_i t ht
          rw [castV_bind] at h
          obtain ⟨v', hcv, h⟩ := bind_some_inv h
          cases hp2 : v'.hasPtr with
          | true => rw [hp2] at h; cases h
          | false =>
            rw [hp2, condA_false] at h
            refine ⟨_, _, _, hbs, h, fun B g a w S K Q hK => ?_⟩
            obtain ⟨fn, hf, hb, hn⟩ := hC.fn f _ _ v H1 hv
            obtain ⟨vals, hvals, hen⟩ := hent B g a w S
            refine hen fn K Q hf hb hn ?_
            -- the callee's own view
            have hbxb : ∀ b ∈ bs, ∃ blk, g.bx[b]? = some blk := fun b hb => ⟨_, List.getElem?_eq_getElem (by rw [S.bx.len]; exact hblt b hb)⟩
            let gC : Gh := ⟨g.M, bs.map fun b => g.bx.getD b 0, owIn g es⟩
            have hgC : ∀ (m b : Nat), bs[m]? = some b → ∃ blk, g.bx[b]? = some blk ∧ gC.bx[m]? = some blk := fun m b hm => by
              obtain ⟨blk, h1⟩ := hbxb b (List.mem_of_getElem? hm)
              refine ⟨blk, h1, ?_⟩
              show (bs.map fun b => g.bx.getD b 0)[m]? = _
              rw [List.getElem?_map, hm]
              simp [List.getD_eq_getElem?_getD, h1]
            have hgCm : ∀ blk ∈ gC.bx, ∃ b ∈ bs, g.bx[b]? = some blk := fun blk hm => by
              obtain ⟨m, hm⟩ := List.getElem?_of_mem hm
              have hml : m < bs.length := by have := (List.getElem?_eq_some_iff.1 hm).1; simpa [gC] using this
              obtain ⟨blk', h1, h2⟩ := hgC m bs[m] (List.getElem?_eq_getElem hml)
              rw [hm] at h2; cases h2
              exact ⟨_, List.getElem_mem hml, h1⟩
            have hgCg : ∀ blk ∈ gC.bx, blk ∈ g.bx := fun blk hm => by
              obtain ⟨b, _, h1⟩ := hgCm blk hm
              exact List.mem_of_getElem? h1
            let D : Nat → Prop := fun q => q ∈ gC.bx ∨ ∃ p ∈ es, ∃ x, g.ow p.2 = some x ∧ x.ob = some q
            have hDB : ∀ q, D q → B.D q ∨ B.w0.heap.size ≤ q := fun q hq => by
              rcases hq with hq | ⟨p, _, x, h1, h2⟩
              · exact S.bxB q (hgCg q hq)
              · exact S.owB p.2 x q h1 h2
            have hcell : ∀ v c c', CellIn es c c' → Rc g w v c → Rc gC w v c' := fun v c c' hc hr => by
              obtain ⟨hp, hc⟩ := hc
              rcases hc with ⟨L, N, sz, xs, rfl, rfl, hm⟩ | rfl
              · obtain ⟨h1, h2⟩ := hr.own_inv
                exact .own N ((owIn_mem hes hm).trans h1) h2
              · exact .data (hr.toData hp)
            have hboxlt : ∀ blk ∈ g.bx, blk < w.heap.size := fun blk hb => by
              obtain ⟨i, hi⟩ := List.getElem?_of_mem hb
              have hlt : i < st.H.length := by rw [← S.bx.len]; exact (List.getElem?_eq_some_iff.1 hi).1
              obtain ⟨blk', h1, h2⟩ := S.bx.box i _ (List.getElem?_eq_getElem hlt)
              rw [hi] at h1; cases h1
              exact h2.lt
            have hol : ∀ L x b, g.ow L = some x → x.ob = some b → b < w.heap.size := fun L x b hL hb => by
              obtain ⟨n, xs, h1, _⟩ := S.ow.row L x hL
              exact (h1.lt b hb).2
            have hDlt : ∀ q, D q → q < w.heap.size := fun q hq => by
              rcases hq with hq | ⟨p, _, x, h1, h2⟩
              · exact hboxlt q (hgCg q hq)
              · exact hol p.2 x q h1 h2
            have hBC : BxOk H0 gC w := by
              refine ⟨by simp [gC, hlen0], ?_, fun blk hb j => S.bx.M blk (hgCg blk hb) j, fun L x b hL hb hm => ?_, fun i cs hi => ?_⟩
              · show (bs.map fun b => g.bx.getD b 0).Nodup
                refine List.Pairwise.map _ (R := fun a b => a ∈ bs ∧ b ∈ bs ∧ a ≠ b) (fun a b ⟨ha, hb, hab⟩ e => ?_) (List.Pairwise.imp_of_mem (fun ha hb h => ⟨ha, hb, h⟩) hbn)
                obtain ⟨b1, h1⟩ := hbxb a ha
                obtain ⟨b2, h2⟩ := hbxb b hb
                simp only [List.getD_eq_getElem?_getD, h1, h2, Option.getD_some] at e
                subst e
                exact hab (nodup_at S.bx.nodup h1 h2)
              · obtain ⟨L', _, h2⟩ := owIn_some hL
                exact S.bx.ow L' x b h2 hb (hgCg b hm)
              · have hil : i < bs.length := by rw [← hlen0]; exact (List.getElem?_eq_some_iff.1 hi).1
                obtain ⟨cs0, cs', h1, h2, h3, h4⟩ := hin i bs[i] (List.getElem?_eq_getElem hil)
                rw [hi] at h2; cases h2
                obtain ⟨blk, h5, h6⟩ := hgC i bs[i] (List.getElem?_eq_getElem hil)
                obtain ⟨blk', h7, h8⟩ := S.bx.box _ cs0 h1
                rw [h5] at h7; cases h7
                have hnb : ∀ c0 r, cs0 = c0 :: r → hasPtr c0 = false := fun c0 r e => by
                  subst e
                  obtain ⟨c', _, h11⟩ := h4 0 c0 rfl
                  exact h11.1
                cases h8 with
                | row vs e fz cs1 _ _ _ _ => cases hnb _ _ rfl
                | map es ck ks _ _ => cases hnb _ _ rfl
                | bld t' p' v' c' _ _ _ => cases hnb _ _ rfl
                | cells vs e _ h8 h9 =>
                refine ⟨blk, h6, .cells vs e _ h8 ⟨by rw [h3]; exact h9.1, fun j u c hu hc => ?_⟩⟩
                have hjl : j < cs0.length := by rw [← h3]; exact (List.getElem?_eq_some_iff.1 hc).1
                obtain ⟨c', h10, h11⟩ := h4 j cs0[j] (List.getElem?_eq_getElem hjl)
                rw [hc] at h10; cases h10
                exact hcell u _ _ h11 (h9.2 j u _ hu (List.getElem?_eq_getElem hjl))
            have hOC : OwOk P gC w := by
              refine ⟨fun N x hx => ?_, fun N N' x x' hne hx hx' => ?_⟩
              · obtain ⟨L, h1, h2⟩ := owIn_some hx
                obtain ⟨n, xs, h3, h4⟩ := S.ow.row L x h2
                have := hes.elem _ h1
                simp only at this
                rw [this]
                exact ⟨n, xs, h3, h4⟩
              · obtain ⟨L, h1, h2⟩ := owIn_some hx
                obtain ⟨L', h1', h2'⟩ := owIn_some hx'
                refine S.ow.ne L L' x x' (fun e => ?_) h2 h2'
                subst e
                have hpw := hes.pw
                have : (N, L) = (N', L) := by
                  by_cases hq : (N, L) = (N', L)
                  · exact hq
                  · exfalso
                    exact pairwise_two hpw h1 h1' hq rfl
                cases this
                exact hne rfl
            have hAC : All2 (fun a u => Rv gC w u a) (asl.map (refArg bs)) vals :=
              hvals.imp (D := fun a u => Rv gC w u a) (f := refArg bs) fun x u hx hr => by
                rcases hargs x hx with ⟨b, o', rfl, hb⟩ | ⟨hp, he⟩
                · obtain ⟨blk, rfl, h1⟩ := Rc.ptr_inv hr
                  refine .ptr (ixOf bs b) o' blk ?_
                  obtain ⟨blk', h2, h3⟩ := hgC _ b (ixOf_get hb)
                  rw [h1] at h2; cases h2
                  exact h3
                · rw [he]; exact hr.toBare hp rfl
            have ok := hC.ok f _ H0 v H1 hv gC D w
            rw [hfg] at ok
            refine (ok _ (fun w' h1 h2 h3 h4 h5 => B.keepI w' (h1.trans S.fr.os) (h2.trans S.fr.tape) (h3.trans S.fr.output) (Nat.le_trans S.fr.size h4) fun q hq hnD => ?_) S.live hBC hOC (fun blk hb => .inl hb) (fun N x b hx hb => ?_) (fun h => by cases h) hAC).mono fun e w' ⟨u, g', B', fr', HH, GG, a', he, e1, e2, e3, e4, e5, S', hr, hH1⟩ => ⟨u, he, ?_⟩
            · rw [h5 q (Nat.lt_of_lt_of_le hq S.fr.size) fun hD => (hDB q hD).elim hnD fun h => by omega]
              exact S.fr.block q hq hnD
            · obtain ⟨L, h1, h2⟩ := owIn_some hx
              exact .inr ⟨_, h1, x, h2, hb⟩
            · obtain ⟨w0, M0, D0, nt, bx0, gm, kI⟩ := B'
              simp only at e1 e2 e3 e4 e5
              subst e1 e2 e3 e4 e5
              have hsm := S'.gk
              cases GG with
              | some G => exact absurd hsm.1 (by simp)
              | none =>
              have hsm : g'.M.gx = g.M.gx ∧ g'.M.gw = g.M.gw := hsm.2
              have hfr := S'.fr
              have hsz : w0.heap.size ≤ w'.heap.size := hfr.size
              have hblk : ∀ q, q < w0.heap.size → ¬ D q → w'.heap[q]? = w0.heap[q]? := hfr.block
              have hkp : Kp g.M w0 g'.M w' := hfr.kp
              have hMold : ∀ b j, b < w0.heap.size → ¬ D b → g'.M b j → g.M b j := hfr.old
              have hpre : gC.bx <+: g'.bx := S'.pre
              have hpreg : ∀ (m blk : Nat), gC.bx[m]? = some blk → g'.bx[m]? = some blk := fun m blk hm => by
                obtain ⟨t, ht⟩ := hpre
                rw [← ht, List.getElem?_append_left (List.getElem?_eq_some_iff.1 hm).1]; exact hm
              have hbxDn : ∀ (b : Nat) blk, g.bx[b]? = some blk → b ∉ bs → ¬ D blk := fun b blk hb hnb hD => by
                rcases hD with hD | ⟨p, _, x, h1, h2⟩
                · obtain ⟨b', hb', h3⟩ := hgCm blk hD
                  exact hnb (by rw [nodup_at S.bx.nodup hb h3]; exact hb')
                · exact S.bx.ow p.2 x blk h1 h2 (List.mem_of_getElem? hb)
              have howDn : ∀ L x b, g.ow L = some x → x.ob = some b → (∀ p ∈ es, L ≠ p.2) → ¬ D b := fun L x b hL hb hne hD => by
                rcases hD with hD | ⟨p, hp, y, h1, h2⟩
                · exact S.bx.ow L x b hL hb (hgCg b hD)
                · rcases S.ow.ne L p.2 x y (hne p hp) hL h1 with h3 | h3
                  · rw [h3] at hb; cases hb
                  · exact h3 (hb.trans h2.symm)
              let g2 : Gh := ⟨g'.M, g.bx, owOut g g' bs es⟩
              have hcell2 : ∀ v c, Rc g w0 v c → Rc g2 w' v (c.strike (goesN bs es)) := fun v c hc =>
                hc.strike (g' := g2) hkp (fun _ _ h => h) fun L x hp hL => by
                  obtain ⟨h1, h2⟩ := goesN_false hp
                  show owOut g g' bs es L = some x
                  unfold owOut
                  rw [if_neg h1, h2]; exact hL
              have hboxS' : ∀ (m : Nat) cs, H1[m]? = some cs → ∃ blk, gC.bx[m]? = some blk ∧ BoxIs g' w' blk cs ∧ ∀ (j : Nat) n s xs, cs[j]? = some (.sl (some n) s xs) → n.slot = boxSlot m ∧ n.ix = j := fun m cs hm => by
                rw [hH1, show outH (inH false H0).length HH none = canonH 0 (HH.take H0.length) from rfl, canonH_get, List.getElem?_take] at hm
                split at hm
                · rename_i hml
                  cases hx : HH[m]? with
                  | none => rw [hx] at hm; cases hm
                  | some cs0 =>
                    rw [hx] at hm
                    simp only [Option.map_some, Option.some.injEq, Nat.zero_add] at hm
                    subst hm
                    obtain ⟨blk, h1, h2⟩ := S'.bx.box m cs0 hx
                    have hmg : m < gC.bx.length := by rw [hBC.len]; exact hml
                    have h4 := hpreg m _ (List.getElem?_eq_getElem hmg)
                    rw [h1] at h4; cases h4
                    refine ⟨_, List.getElem?_eq_getElem hmg, ?_, fun j n s xs hj => ?_⟩
                    · cases h2 with
                      | row vs e fz cs1 q1 q2 q3 q4 => exact .row vs e fz cs1 q1 q2 q3 q4
                      | map es ck ks q1 q2 => exact .map es ck ks q1 q2
                      | bld t' p' v' c' q1 q2 q3 => exact .bld t' p' v' _ q1 q2 (q3.strike (Kp.refl _ _) (fun _ _ h => h) (fun _ _ _ h => h))
                      | cells vs e _ h2 h3 =>
                      refine .cells vs e _ h2 ⟨?_, fun j u c hu hc => ?_⟩
                      · rw [h3.1]
                        have : ∀ (l : List Cell) j, (canonCells m j l).length = l.length := fun l => by
                          induction l with
                          | nil => intro j; rfl
                          | cons c r ih => intro j; simp [canonCells, ih]
                        exact (this _ _).symm
                      · rw [canonCells_get] at hc
                        cases hy : cs0[j]? with
                        | none => rw [hy] at hc; cases hc
                        | some c0 =>
                          rw [hy] at hc
                          simp only [Option.map_some, Option.some.injEq] at hc
                          subst hc
                          exact (h3.2 j u c0 hu hy).strike (Kp.refl _ _) (fun _ _ h => h) (fun _ _ _ h => h)
                    · rw [canonCells_get] at hj
                      cases hy : cs0[j]? with
                      | none => rw [hy] at hj; cases hj
                      | some c0 =>
                        rw [hy] at hj
                        simp only [Option.map_some, Option.some.injEq] at hj
                        have := (strike_named hj).2
                        simp only [Bool.not_eq_false', Bool.and_eq_true, Nat.zero_add] at this
                        exact ⟨Nat.eq_of_beq_eq_true this.1, Nat.eq_of_beq_eq_true this.2⟩
                · cases hm
              have hOD : ∀ b, Og st.G g.M b → ¬ D b := fun b hb hD => by
                rcases hD with hD | ⟨p, hp, y, h1, h2⟩
                · exact S.gk.obx b hb (hgCg b hD)
                · exact S.gk.oow p.2 y b h1 h2 hb
              have S2 : Sim P B g2 ⟨strikeFr (goesN bs es) st.fr, H', st.G⟩ a w' := by
                refine ⟨fun s y hs => ?_, S.size, S.defers, S'.live, ⟨?_, S.bx.nodup, fun blk hb j hm => ?_, fun N x b hx hb hm => ?_, fun i cs hi => ?_⟩, ⟨fun N x hx => ?_, fun N N' x x' hne hx hx' => ?_⟩, ⟨hfr.os.trans S.fr.os, hfr.tape.trans S.fr.tape, hfr.output.trans S.fr.output, Nat.le_trans S.fr.size hsz, fun q hq hnD => ?_, S.fr.kp.trans hkp, fun b j hb hnD hm => ?_⟩, S.bxB, fun N x b hx hb => ?_, S.pre, S.gk.keep hsm hkp (fun b hb => hblk b (S.gk.olt hb) (hOD b hb)) (fun b j hb hm => hMold b j (S.gk.olt hb) (hOD b hb) hm) S.gk.obx fun N x b hx hb hob => ?_⟩
                · simp only [lk_strike] at hs
                  cases hx : lk st.fr s with
                  | none => rw [hx] at hs; cases hs
                  | some x =>
                    rw [hx] at hs
                    simp only [Option.map_some, Option.some.injEq] at hs
                    subst hs
                    exact (S.frame s x hx).map hcell2
                · show g.bx.length = H'.length
                  rw [hlen', strikeH_len, S.bx.len]
                · obtain ⟨i, hi⟩ := List.getElem?_of_mem hb
                  by_cases hib : i ∈ bs
                  · obtain ⟨blk', h1, h2⟩ := hgC _ i (ixOf_get hib)
                    rw [hi] at h1; cases h1
                    exact S'.bx.M blk (List.mem_of_getElem? (hpreg _ _ h2)) j hm
                  · exact S.bx.M blk hb j (hMold blk j (hboxlt blk hb) (hbxDn i blk hi hib) hm)
                · have hm : b ∈ g.bx := hm
                  rcases owOut_cases hx with ⟨b', hb', _, h1⟩ | ⟨_, _, h1⟩
                  · rcases S'.owB _ x b h1 hb with h2 | h2
                    · rcases h2 with h2 | ⟨p, _, y, h3, h4⟩
                      · have h5 : b ∈ g'.bx := by
                          obtain ⟨m, hm2⟩ := List.getElem?_of_mem h2
                          exact List.mem_of_getElem? (hpreg _ _ hm2)
                        exact S'.bx.ow _ x b h1 hb h5
                      · exact S.bx.ow p.2 y b h3 h4 hm
                    · have := hboxlt b hm
                      have h2 : w0.heap.size ≤ b := h2
                      omega
                  · exact S.bx.ow N x b h1 hb hm
                · have hi : H'[i]? = some cs := hi
                  by_cases hib : i ∈ bs
                  · obtain ⟨cs1, cs', h1, h2, h3, h4⟩ := hout _ i (ixOf_get hib)
                    rw [hi] at h2; cases h2
                    obtain ⟨blk, h5, h6, h8⟩ := hboxS' _ cs1 h1
                    obtain ⟨blk', h9, h10⟩ := hgC _ i (ixOf_get hib)
                    rw [h5] at h10; cases h10
                    have hnb : ∀ c0 r, cs1 = c0 :: r → rowy c0 = false := fun c0 r e => by
                      subst e
                      obtain ⟨c', _, h12⟩ := h4 0 c0 rfl
                      exact h12.1
                    cases h6 with
                    | row vs e fz cs2 _ _ _ _ => cases hnb _ _ rfl
                    | map es ck ks _ _ => cases hnb _ _ rfl
                    | bld t' p' v' c' _ _ _ => cases hnb _ _ rfl
                    | cells vs e _ h6 h7 =>
                    refine ⟨blk, h9, .cells vs e _ h6 ⟨by rw [h3]; exact h7.1, fun j y c hy hc => ?_⟩⟩
                    have hjl : j < cs1.length := by rw [← h3]; exact (List.getElem?_eq_some_iff.1 hc).1
                    obtain ⟨c', h11, h12⟩ := h4 j cs1[j] (List.getElem?_eq_getElem hjl)
                    rw [hc] at h11; cases h11
                    have h13 := h7.2 j y _ hy (List.getElem?_eq_getElem hjl)
                    rcases h12.2 with h12 | ⟨n, s, sz, xs, h14, hs, rfl⟩
                    · exact .data (h12 g' w' y h13)
                    · rw [h14] at h13
                      obtain ⟨h15, h16⟩ := (h13.sized hs).own_inv
                      obtain ⟨h17, h18⟩ := h8 j n s xs (by rw [List.getElem?_eq_getElem hjl, h14])
                      refine .own _ ?_ h16
                      show owOut g g' bs es _ = some y
                      unfold owOut
                      rw [if_pos ⟨by simp [boxSlot], by simpa [boxSlot] using hib⟩]
                      have : (⟨boxSlot (ixOf bs (boxSlot i - 1000000)), j, n.elem⟩ : Nm) = n := by
                        rw [show boxSlot i - 1000000 = i by unfold boxSlot; omega, ← h17, ← h18]
                      rw [this]; exact h15
                  · rw [hsame i hib, strikeH_get] at hi
                    cases hx : st.H[i]? with
                    | none => rw [hx] at hi; cases hi
                    | some cs0 =>
                      rw [hx] at hi
                      simp only [Option.map_some, Option.some.injEq] at hi
                      subst hi
                      obtain ⟨blk, h1, h2⟩ := S.bx.box i cs0 hx
                      exact ⟨blk, h1, h2.strike (hblk blk (hboxlt blk (List.mem_of_getElem? h1)) (hbxDn i blk h1 hib)) hkp hcell2⟩
                · rcases owOut_cases hx with ⟨b', hb', _, h1⟩ | ⟨_, h2, h1⟩
                  · exact S'.ow.row (⟨boxSlot (ixOf bs b'), N.ix, N.elem⟩ : Nm) x h1
                  · obtain ⟨n, xs, h3, h4⟩ := S.ow.row N x h1
                    exact ⟨n, xs, ownsRow_block h3 fun b hb => hblk b (hol N x b h1 hb) (howDn N x b h1 hb h2), fun b j hb hm => h4 b j hb (hMold b j (hol N x b h1 hb) (howDn N x b h1 hb h2) hm)⟩
                · have key : ∀ (N N' : Nm) (x x' : Value), (∃ b, b ∈ bs ∧ N.slot = boxSlot b ∧ g'.ow ⟨boxSlot (ixOf bs b), N.ix, N.elem⟩ = some x) → ((∀ b ∈ bs, N'.slot ≠ boxSlot b) ∧ (∀ p ∈ es, N' ≠ p.2) ∧ g.ow N' = some x') → ∀ q, x.ob = some q → x'.ob = some q → False := fun N N' x x' ⟨b, _, _, h1⟩ ⟨_, h2, h3⟩ q hq hq' => by
                    rcases S'.owB _ x q h1 hq with h4 | h4
                    · exact howDn N' x' q h3 hq' h2 h4
                    · have := hol N' x' q h3 hq'
                      have h4 : w0.heap.size ≤ q := h4
                      omega
                  rcases owOut_cases hx with h1 | h1 <;> rcases owOut_cases hx' with h2 | h2
                  · obtain ⟨b, hb, hsb, h1⟩ := h1
                    obtain ⟨b', hb', hsb', h2⟩ := h2
                    refine S'.ow.ne _ _ x x' (fun e => hne ?_) h1 h2
                    injection e with e1 e2 e3
                    have e1 : ixOf bs b = ixOf bs b' := by unfold boxSlot at e1; omega
                    have h3 := ixOf_get hb
                    rw [e1, ixOf_get hb'] at h3
                    cases h3
                    cases N; cases N'
                    simp only at hsb hsb' e2 e3
                    rw [hsb, hsb', e2, e3]
                  · cases hq : x.ob with
                    | none => exact .inl rfl
                    | some q => exact .inr fun e => key N N' x x' h1 h2 q hq e.symm
                  · cases hq : x.ob with
                    | none => exact .inl rfl
                    | some q => exact .inr fun e => key N' N x' x h2 h1 q e.symm hq
                  · exact S.ow.ne N N' x x' hne h1.2.2 h2.2.2
                · rw [hblk q (Nat.lt_of_lt_of_le hq S.fr.size) fun hD => (hDB q hD).elim hnD fun h => by omega]
                  exact S.fr.block q hq hnD
                · exact S.fr.old b j hb hnD (hMold b j (Nat.lt_of_lt_of_le hb S.fr.size) (fun hD => (hDB b hD).elim hnD fun h => by omega) hm)
                · rcases owOut_cases hx with ⟨b', hb', _, h1⟩ | ⟨_, h2, h1⟩
                  · rcases S'.owB _ x b h1 hb with h3 | h3
                    · exact hDB b h3
                    · exact .inr (Nat.le_trans S.fr.size h3)
                  · exact S.owB N x b h1 hb
                · rcases owOut_cases hx with ⟨b', hb', _, h1⟩ | ⟨_, h2, h1⟩
                  · rcases S'.owB _ x b h1 hb with h3 | h3
                    · exact hOD b hob h3
                    · have := S.gk.olt hob
                      have h3 : w0.heap.size ≤ b := h3
                      omega
                  · exact S.gk.oow N x b h1 hb hob
              exact hK u w' g2 ((castV_sound hcv hr).toBare (g' := g2) hp2 rfl) S2 fun b blk hb hnb => hblk blk (hboxlt blk (List.mem_of_getElem? hb)) (hbxDn b blk hb hnb)
        · cases h
theorem call_ref {E : Env} {call : CallF} (hC : CallOk P E call) {o : Oper} {f : FuncId} (hfg : E.isG f = false) {st : St} {asl : List AV} {k : AV → St → Option R} {r : R} (hent : Enters P o f st asl)
    (h : (condA (true) ((match refsOf asl [] with
                | none => none
                | some bs => (match enterH (E.refNm f) st.H 0 bs [] with
                  | none => none
                  | some (H0, es) => (match call f (asl.map (refArg bs)) H0 with
                    | none => none
                    | some (v, H1) => leaveH (E.refNm f) st.H 0 bs H1 (strikeH (goesN bs es) st.H) fun H' =>
                      (match ty E.T o.type with
                       | some t => castV t v fun v' => condA (v'.hasPtr) (none) <| k v'.bare ⟨strikeFr (goesN bs es) st.fr, H', st.G⟩
                       | none => none))))) <|
              none) = some r) : ∃ av st', k av st' = some r ∧ Res P o true st av st' := by
  obtain ⟨bs, av, st', _, h1, h2⟩ := call_refX hC hfg hent h
  exact ⟨av, st', h1, .eff1 fun B g a w S K Q hK => h2 B g a w S K Q fun v w' g' hv S' _ => hK v w' g' hv S'⟩
end
include hC
theorem aop_callG {o : Oper} {f : FuncId} (hfg : E.isG f = true) {st : St} {asl : List AV} {k : AV → St → Option R} {r : R} (hent : Enters P o f st asl)
    (h : condA true (callG E call f o asl st k) none = some r) : ∃ av st', k av st' = some r ∧ Res P o true st av st' := by
  rw [condA_true] at h
  unfold callG at h
  cases hpt : asl.any AV.hasPtr with
  | true => rw [hpt] at h; cases h
  | false =>
  rw [hpt, condA_false] at h
  split at h
  · cases h
  · rename_i G hG
    split at h
    · cases h
    · rename_i v G' hv
      obtain ⟨fn, hf, hb, hn⟩ := hC.fn f _ _ v G' hv
      have args' : ∀ (g : Gh) (w : World) (vals : List Value), All2 (fun x u => Rv g w u x) asl vals → All2 (fun a u => Rv ⟨g.M, [], fun _ => none⟩ w u a) (asl.map AV.bare) vals := fun g w vals hvals =>
        hvals.imp (D := fun a u => Rv ⟨g.M, [], fun _ => none⟩ w u a) (f := AV.bare) (fun a u ha hr => hr.toBare (any_false hpt a ha) rfl)
      cases hnm : E.named.any (Nat.beq f) with
      | true =>
        rw [hnm] at h
        simp only [condA_true] at h
        split at h
        · rename_i d e sz hd ht
          split at h
          · rename_i c
            obtain ⟨n, cs, s0, rfl, hs, he, h⟩ := castN_some h
            refine ⟨_, _, h, .eff1 fun B g a w S K Q hK => ?_⟩
            obtain ⟨vals, hvals, hen⟩ := hent B g a w S
            refine hen fn K Q hf hb hn ?_
            refine (call_glob hC hfg S hG hv (args' g w vals hvals)).mono fun e' w' ⟨u, M', bx, ow, he', hr, S2, hO, hN⟩ => ⟨u, he', ?_⟩
            obtain ⟨g', h3, h4⟩ := call_named0 (d := d) (v := .one (.sl (some n) sz cs)) S2 (Rc.sized hr hs) rfl hO hN
            refine hK u w' g' ?_ h4
            rw [← he]; exact h3
          · cases h
        · rename_i d e sz ts hd ht
          split at h
          · rename_i c rr
            obtain ⟨n, cs, s0, rfl, hs, he, h⟩ := castN_some h
            rw [castVs_bind] at h
            obtain ⟨r', h1, h⟩ := bind_some_inv h
            cases hp2 : r'.any V1.hasPtr with
            | true => rw [hp2] at h; cases h
            | false =>
              rw [hp2] at h
              simp only [condA_false] at h
              refine ⟨_, _, h, .eff1 fun B g a w S K Q hK => ?_⟩
              obtain ⟨vals, hvals, hen⟩ := hent B g a w S
              refine hen fn K Q hf hb hn ?_
              refine (call_glob hC hfg S hG hv (args' g w vals hvals)).mono fun e' w' ⟨u, M', bx, ow, he', hr, S2, hO, hN⟩ => ⟨u, he', ?_⟩
              obtain ⟨us, rfl, hl, hall⟩ := hr
              have hr2 : Rv ⟨M', bx, ow⟩ w' (.tuple us) (.tup (.one (.sl (some n) sz cs) :: r')) := by
                cases hus : us.toList with
                | nil => have : us.size = 0 := by rw [← Array.length_toList, hus]; rfl
                         rw [hl] at this; simp at this
                | cons u0 ur =>
                  have hget : ∀ (i : Nat) x, us[i]? = some x ↔ (u0 :: ur)[i]? = some x := fun i x => by rw [← hus]; simp
                  have hlr : ur.length = rr.length := by have := hl; rw [← Array.length_toList, hus] at this; simpa using this
                  obtain ⟨h5, h6⟩ := castVs_sound ts ur rr r' h1 hlr (fun i u x hu hx => hall (i + 1) u x ((hget _ _).2 (by simpa using hu)) (by simpa using hx))
                  refine ⟨us, rfl, by rw [← Array.length_toList, hus]; simp [h5], fun i u x hu hx => ?_⟩
                  cases i with
                  | zero =>
                    simp only [List.getElem?_cons_zero, Option.some.injEq] at hx
                    subst hx
                    exact Rc.sized (hall 0 u (.one (.sl (some n) s0 cs)) hu rfl) hs
                  | succ i => exact h6 i u x (by simpa using (hget _ _).1 hu) (by simpa using hx)
              obtain ⟨g', h3, h4⟩ := call_named0 (d := d) S2 hr2 (by show List.any (V1.one (.sl (some n) sz cs) :: r') V1.hasPtr = false; rw [List.any_cons, hp2]; rfl) hO hN
              refine hK _ w' g' ?_ h4
              rw [← he]; exact h3
          · cases h
        · cases h
      | false =>
        rw [hnm] at h
        simp only [condA_false] at h
        split at h
        · rename_i t ht
          rw [castV_bind] at h
          obtain ⟨v', h1, h2⟩ := bind_some_inv h
          cases hp2 : v'.hasPtr with
          | true => rw [hp2] at h2; cases h2
          | false =>
            rw [hp2] at h2
            simp only [condA_false] at h2
            refine ⟨_, _, h2, .eff1 fun B g a w S K Q hK => ?_⟩
            obtain ⟨vals, hvals, hen⟩ := hent B g a w S
            refine hen fn K Q hf hb hn ?_
            refine (call_glob hC hfg S hG hv (args' g w vals hvals)).mono fun e w' ⟨u, M', bx, ow, he, hr, S2, _, _⟩ => ⟨u, he, ?_⟩
            exact hK u w' _ ((castV_sound h1 hr).toBare (g' := ⟨M', g.bx, g.ow⟩) hp2 rfl) S2
        · cases h
include hE hC
omit [Inv] hE hC in
theorem castD_noPtr {t : TI} {c : Cell} {k : Cell → Option R} {r : R} (h : castD t c k = some r) : hasPtr c = false := by
 cases c <;> first
  | rfl
  | (exfalso; cases t <;> simp [castD, castI, castB, castS, castL, castE] at h)
omit [Inv] hE hC in
theorem castD_bareK {t : TI} {c : Cell} {k : Cell → Option R} : castD t c k = castD t c.bare k := by
 cases c <;> first | rfl | (cases t <;> rfl)
omit [Inv] hE hC in
theorem aggN_bind {d : Nat} : ∀ (ts : List TI) (b : Bool) (i : Nat) (cs : List Cell) {R : Type} {k : List Cell → Option R}, aggN d b i ts cs k = (aggN d b i ts cs some).bind k
 | [], b, i, cs, _, k => by simp only [aggN]; cases cs <;> rfl
 | t :: ts, b, i, cs, _, k => by
  simp only [aggN]
  cases cs with
  | nil => rfl
  | cons c r =>
   cases hb : b && isSlT t with
   | true =>
    simp only [condA_true]
    cases t <;> try rfl
    case slice e sz =>
     simp only [castNt]
     cases c <;> try rfl
     case sl nm s xs =>
      cases nm <;> try rfl
      case some n =>
       simp only [castN]
       cases (Nat.beq s sz || Nat.beq s 0) && Nat.beq n.elem e with
       | false => rfl
       | true =>
        simp only [condA_true]
        rw [aggN_bind ts false (i + 1) r, aggN_bind ts false (i + 1) r (k := fun r' => some (_ :: r'))]
        cases aggN d false (i + 1) ts r some <;> rfl
   | false =>
    simp only [condA_false]
    rw [castD_bind, castD_bind (k := fun c' => aggN d b (i + 1) ts r fun r' => some (c' :: r'))]
    cases castD t c some with
    | none => rfl
    | some c' =>
     simp only [Option.bind_some]
     rw [aggN_bind ts b (i + 1) r, aggN_bind ts b (i + 1) r (k := fun r' => some (c' :: r'))]
     cases aggN d b (i + 1) ts r some <;> rfl
omit [Inv] hE hC in
theorem aggN_sound {M' : Mem} {bx : List Nat} {ow : Nm → Option Value} {w' : World} {d : Nat} : ∀ (ts : List TI) (b : Bool) (i : Nat) (cs : List Cell) (vs : List Value) {k : List Cell → Option R} {r : R}, aggN d b i ts cs k = some r → RcL ⟨M', bx, ow⟩ w' vs cs →
 ∃ cs', k cs' = some r ∧ vs.length = cs'.length ∧ ((∀ (q : Nat) v c', vs[q]? = some v → cs'[q]? = some c' → Rd M' w' v c') ∨ (b = true ∧ ∃ (j : Nat) (n : Nm) (vj : Value), ow n = some vj ∧ ∀ (q : Nat) v c', vs[q]? = some v → cs'[q]? = some c' → Rd M' w' v c' ∨ (q = j ∧ v = vj ∧ ∃ sz xs, c' = .sl (some ⟨d, i + j, n.elem⟩) sz xs ∧ Rd M' w' v (.sl none sz xs))))
 | [], b, i, cs, vs, k, r, h, hv => by
  simp only [aggN] at h
  split at h
  · have : vs = [] := List.eq_nil_of_length_eq_zero (by simpa using hv.1)
    subst this
    exact ⟨[], h, rfl, .inl fun q v c' hq _ => by simp at hq⟩
  · cases h
 | t :: ts, b, i, cs, vs, k, r, h, hv => by
  simp only [aggN] at h
  split at h
  · cases h
  · rename_i c rr
    cases vs with
    | nil => have := hv.1; simp at this
    | cons v vr =>
     have h0 : Rc ⟨M', bx, ow⟩ w' v c := hv.2 0 v c rfl rfl
     have hr : RcL ⟨M', bx, ow⟩ w' vr rr := ⟨by have := hv.1; simpa using this, fun q u x hu hx => hv.2 (q + 1) u x (by simpa using hu) (by simpa using hx)⟩
     cases hb : b && isSlT t with
     | true =>
      rw [hb, condA_true] at h
      rw [Bool.and_eq_true] at hb
      unfold castNt at h
      split at h
      · rename_i e sz
        obtain ⟨n, xs, s, rfl, hs, he, h⟩ := castN_some h
        obtain ⟨h5, h6⟩ := (h0.sized hs).own_inv
        obtain ⟨cs', h1, h2, h3⟩ := aggN_sound ts false (i + 1) rr vr h hr
        rcases h3 with h3 | ⟨h3, _⟩
        · refine ⟨_, h1, by simp [h2], .inr ⟨hb.1, 0, n, v, h5, fun q u x hu hx => ?_⟩⟩
          cases q with
          | zero =>
           simp at hu hx
           subst hu; subst hx
           exact .inr ⟨rfl, rfl, sz, xs, by rw [he]; rfl, h6⟩
          | succ q => exact .inl (h3 q u x (by simpa using hu) (by simpa using hx))
        · cases h3
      · cases h
     | false =>
      rw [hb, condA_false] at h
      have hp := castD_noPtr h
      rw [castD_bareK] at h
      obtain ⟨c', h4, h5⟩ := castD_sound h (h0.toData hp)
      obtain ⟨cs', h1, h2, h3⟩ := aggN_sound ts b (i + 1) rr vr h4 hr
      refine ⟨_, h1, by simp [h2], ?_⟩
      rcases h3 with h3 | ⟨h3, j, n, vj, h6, h7⟩
      · refine .inl fun q u x hu hx => ?_
        cases q with
        | zero => simp at hu hx; subst hu; subst hx; exact h5
        | succ q => exact h3 q u x (by simpa using hu) (by simpa using hx)
      · refine .inr ⟨h3, j + 1, n, vj, h6, fun q u x hu hx => ?_⟩
        cases q with
        | zero => simp at hu hx; subst hu; subst hx; exact .inl h5
        | succ q =>
         rcases h7 q u x (by simpa using hu) (by simpa using hx) with h8 | ⟨rfl, h9, sz, xs, h10, h11⟩
         · exact .inl h8
         · exact .inr ⟨rfl, h9, sz, xs, by rw [h10]; congr 3; omega, h11⟩
omit hE hC in
theorem call_namedA {B : Base} {g : Gh} {st : St} {a : Act} {w w' : World} {M' : Mem} {bx : List Nat} {ow : Nm → Option Value} {d : Nat} {l : List TI} {vs : Array Value} {cs cs' : List Cell} (S : Sim P B g st a w) (hG : Grow ⟨g.M, [], fun _ => none⟩ w M' w') (hv : RvA ⟨M', bx, ow⟩ w' vs cs) (h : aggN d true 0 l cs some = some cs')
 (hO : OwOk P ⟨M', bx, ow⟩ w') (hN : ∀ L x b, ow L = some x → x.ob = some b → w.heap.size ≤ b) : ∃ g', RvA g' w' vs cs' ∧ Sim P B g' (st.clear d) a w' := by
 have hG2 : Grow g w M' w' := ⟨hG.below, hG.sub, hG.old, hG.live, hG.same⟩
 have S1 := S.grow hG2
 have hbxlt : ∀ blk ∈ g.bx, blk < w.heap.size := fun blk hb => by
  obtain ⟨i, hi⟩ := List.getElem?_of_mem hb
  have hlt : i < st.H.length := by rw [← S.bx.len]; exact (List.getElem?_eq_some_iff.1 hi).1
  obtain ⟨blk', h1, h2⟩ := S.bx.box i _ (List.getElem?_eq_getElem hlt)
  rw [hi] at h1; cases h1
  exact h2.lt
 obtain ⟨cs2, h1, h2, h3⟩ := aggN_sound l true 0 cs vs.toList h hv.toL
 cases h1
 have hl : vs.size = cs'.length := by simpa using h2
 rcases h3 with h3 | ⟨_, j, n, vj, h4, h5⟩
 · refine ⟨_, ⟨hl, fun i v c hv hc => .data (h3 i v c (by simpa using hv) hc)⟩, S1.give (d := d) (f := fun _ => none) (fun L v _ h => by cases h) (fun L L' v v' _ _ _ h _ => by cases h) (fun L v b _ h _ => by cases h)⟩
 · obtain ⟨m, xs, hrow, hMb⟩ := hO.row n vj h4
   refine ⟨_, ⟨hl, fun i v c hv hc => ?_⟩, S1.born (d := d) (e := n.elem) j hrow hMb (fun b hb => ?_)⟩
   · rcases h5 i v c (by simpa using hv) hc with h6 | ⟨rfl, rfl, sz, ys, rfl, h7⟩
     · exact .data h6
     · rw [Nat.zero_add]
       exact .own ⟨d, i, n.elem⟩ ((give_here (L := ⟨d, i, n.elem⟩) rfl).trans (by simp [nameIs])) h7
   · have hge := hN n vj b h4 hb
     refine ⟨fun hm => by have := hbxlt b hm; omega, fun L' v' hL hb' => ?_, .inr (Nat.le_trans S.fr.size hge), fun ho => by have := S.gk.olt (b := b) ⟨ho.1, (Pb.same hG.same).1 ho.2⟩; omega⟩
     obtain ⟨n', xs', h3, _⟩ := S.ow.row L' v' hL
     have := (h3.lt b hb').2
     omega
theorem callA_sound {full : Bool} {o : Oper} {f : FuncId} {st : St} {asl : List AV} {k : AV → St → Option R} {r : R} (hent : Enters P o f st asl) (h : callA E call full f o asl st k = some r) : ∃ av st', k av st' = some r ∧ Res P o full st av st' := by
  unfold callA at h
  split at h
  · rename_i p hp
    have hP := hE.primG f p hp
    obtain ⟨fn, hf, hb, hn⟩ := hP.fn
    split at h
    · rename_i G hG
      cases hpt : asl.any AV.hasPtr with
      | true => rw [hpt] at h; cases h
      | false =>
        rw [hpt] at h
        simp only [condA_false] at h
        split at h
        · rename_i v hv
          split at h
          · rename_i t ht
            rw [castV_bind] at h
            obtain ⟨v', h1, h2⟩ := bind_some_inv h
            cases hp2 : v'.hasPtr with
            | true => rw [hp2] at h2; cases h2
            | false =>
              rw [hp2] at h2
              simp only [condA_false] at h2
              refine ⟨_, st, h2, .pure (StEq.refl st) fun B g a w S K Q hK => ?_⟩
              obtain ⟨vals, hvals, hen⟩ := hent B g a w S
              have hA := hvals.imp (D := fun a u => Rv ⟨g.M, [], fun _ => none⟩ w u a) (f := AV.bare) (fun a u ha hr => hr.toBare (any_false hpt a ha) rfl)
              have hgk : GOk P g G w := by have hs := S.gk; rw [hG] at hs; exact hs.2.1
              refine hen fn K Q hf hb hn ?_
              refine (hP.ok _ G v hv g w _ S.inv S.live hgk hA).mono fun e w' ⟨u, M', he, hG, hr⟩ => ⟨u, he, ?_⟩
              exact hK u w' M' ⟨hG.below, hG.sub, hG.old, hG.live, hG.same⟩ ((castV_sound h1 hr).toBare hp2 rfl)
          · cases h
        · cases h
    · cases h
  split at h
  · rename_i p hp
    have hP := hE.prim f p hp
    obtain ⟨fn, hf, hb, hn⟩ := hP.fn
    cases hpt : asl.any AV.hasPtr with
    | true => rw [hpt] at h; cases h
    | false =>
      rw [hpt] at h
      simp only [condA_false] at h
      split at h
      · rename_i v hv
        split at h
        · rename_i t ht
          rw [castV_bind] at h
          obtain ⟨v', h1, h2⟩ := bind_some_inv h
          cases hp2 : v'.hasPtr with
          | true => rw [hp2] at h2; cases h2
          | false =>
            rw [hp2] at h2
            simp only [condA_false] at h2
            refine ⟨_, st, h2, .pure (StEq.refl st) fun B g a w S K Q hK => ?_⟩
            obtain ⟨vals, hvals, hen⟩ := hent B g a w S
            have hA := hvals.imp (D := fun a u => Rv ⟨g.M, [], fun _ => none⟩ w u a) (f := AV.bare) (fun a u ha hr => hr.toBare (any_false hpt a ha) rfl)
            refine hen fn K Q hf hb hn ?_
            refine (hP.ok _ v hv g.M w _ S.inv S.live hA).mono fun e w' ⟨u, M', he, hG, hr⟩ => ⟨u, he, ?_⟩
            exact hK u w' M' ⟨hG.below, hG.sub, hG.old, hG.live, hG.same⟩ ((castV_sound h1 hr).toBare hp2 rfl)
        · cases h
      · cases h
  · split at h
    · rename_i p hp
      have hP := hE.primH f p hp
      obtain ⟨fn, hf, hb, hn⟩ := hP.fn
      cases full with
      | false => cases h
      | true =>
        simp only [condA_true] at h
        split at h
        · rename_i b rest
          cases hpt : rest.any AV.hasPtr with
          | true => rw [hpt] at h; cases h
          | false =>
          rw [hpt] at h
          simp only [condA_false] at h
          split at h
          · rename_i old hold
            split at h
            · rename_i v new hv
              obtain ⟨new', h, hll, hlk⟩ := likeCells_some old new h
              split at h
              · rename_i t ht
                rw [castV_bind] at h
                obtain ⟨v', h1, h2⟩ := bind_some_inv h
                cases hp2 : v'.hasPtr with
                | true => rw [hp2] at h2; cases h2
                | false =>
                rw [hp2] at h2
                simp only [condA_false] at h2
                refine ⟨_, _, h2, .eff1 fun B g a w S K Q hK => ?_⟩
                obtain ⟨vals, hvals, hen⟩ := hent B g a w S
                refine hen fn K Q hf hb hn ?_
                cases vals with
                | nil => cases hvals
                | cons u0 us =>
                  cases hvals with
                  | cons hh ht' =>
                    obtain ⟨blk, rfl, hbx⟩ := Rc.ptr_inv hh
                    have hA2 := ht'.imp (D := fun a u => Rv ⟨g.M, [], fun _ => none⟩ w u a) (f := AV.bare) (fun a u ha hr => hr.toBare (any_false hpt a ha) rfl)
                    refine (hP.ok b _ old v new hv B g st a w _ blk S hold hbx hA2).mono fun e w' ⟨u, g', he, hr, S'⟩ => ⟨u, he, ?_⟩
                    exact hK u w' g' ((castV_sound h1 hr).toBare hp2 rfl) (S'.like hll hlk)
              · cases h
            · cases h
          · cases h
        · cases h
    · split at h
      · rename_i p hp
        have hP := hE.primS f p hp
        obtain ⟨fn, hf, hb, hn⟩ := hP.fn
        cases full with
        | false => cases h
        | true =>
          simp only [condA_true] at h
          split at h
          · rename_i b rest
            cases hpt : rest.any AV.hasPtr with
            | true => rw [hpt] at h; cases h
            | false =>
            rw [hpt] at h
            simp only [condA_false] at h
            split at h
            · rename_i old hold
              split at h
              · rename_i v hv
                split at h
                · rename_i t ht
                  rw [castV_bind] at h
                  obtain ⟨v', h1, h2⟩ := bind_some_inv h
                  cases hp2 : v'.hasPtr with
                  | true => rw [hp2] at h2; cases h2
                  | false =>
                  rw [hp2] at h2
                  simp only [condA_false] at h2
                  refine ⟨_, _, h2, .eff1 fun B g a w S K Q hK => ?_⟩
                  obtain ⟨vals, hvals, hen⟩ := hent B g a w S
                  refine hen fn K Q hf hb hn ?_
                  cases vals with
                  | nil => cases hvals
                  | cons u0 us =>
                    cases hvals with
                    | cons hh ht' =>
                      obtain ⟨blk, rfl, hbx⟩ := Rc.ptr_inv hh
                      have hA2 := ht'.imp (D := fun a u => Rv ⟨g.M, [], fun _ => none⟩ w u a) (f := AV.bare) (fun a u ha hr => hr.toBare (any_false hpt a ha) rfl)
                      refine (hP.ok b _ old v hv B g st a w _ blk S hold hbx hA2).mono fun e w' ⟨u, g', he, hr, S'⟩ => ⟨u, he, ?_⟩
                      exact hK u w' g' ((castV_sound h1 hr).toBare hp2 rfl) S'
                · cases h
              · cases h
            · cases h
          · cases h
      · cases hfg : E.isG f with
        | true =>
          rw [hfg] at h
          simp only [condA_true] at h
          cases full with
          | false => cases h
          | true => exact aop_callG hC hfg hent h
        | false =>
          rw [hfg] at h
          simp only [condA_false] at h
          cases hpt : asl.any AV.hasPtr with
            | true =>
              rw [hpt] at h
              simp only [condA_true] at h
              cases full with
              | false => cases h
              | true => exact call_ref hC hfg hent h
            | false =>
              rw [hpt] at h
              simp only [condA_false] at h
              split at h
              · rename_i v H' hv
                obtain ⟨fn, hf, hb, hn⟩ := hC.fn f _ _ v H' hv
                have args : ∀ (g : Gh) (w : World) (vals : List Value), All2 (fun x u => Rv g w u x) asl vals → All2 (fun a u => Rv ⟨g.M, [], fun _ => none⟩ w u a) (asl.map AV.bare) vals := fun g w vals hvals =>
                  hvals.imp (D := fun a u => Rv ⟨g.M, [], fun _ => none⟩ w u a) (f := AV.bare) (fun a u ha hr => hr.toBare (any_false hpt a ha) rfl)
                cases hnm : full && E.named.any (Nat.beq f) with
                | true =>
                  rw [hnm] at h
                  simp only [condA_true] at h
                  rw [Bool.and_eq_true] at hnm
                  obtain ⟨rfl, _⟩ := hnm
                  split at h
                  · rename_i d e sz hd ht
                    split at h
                    · rename_i c
                      obtain ⟨n, cs, s0, rfl, hs, he, h⟩ := castN_some h
                      refine ⟨_, _, h, .eff1 fun B g a w S K Q hK => ?_⟩
                      obtain ⟨vals, hvals, hen⟩ := hent B g a w S
                      refine hen fn K Q hf hb hn ?_
                      refine (hC.plain hfg hv S.inv S.live (args g w vals hvals)).mono fun e' w' ⟨u, M', bx, ow, he', hG, hr, hO, hN⟩ => ⟨u, he', ?_⟩
                      obtain ⟨g', h3, h4⟩ := call_named (d := d) (v := .one (.sl (some n) sz cs)) S hG (Rc.sized hr hs) rfl hO hN
                      refine hK u w' g' ?_ h4
                      rw [← he]; exact h3
                    · cases h
                  · rename_i d e sz ts hd ht
                    split at h
                    · rename_i c rr
                      obtain ⟨n, cs, s0, rfl, hs, he, h⟩ := castN_some h
                      rw [castVs_bind] at h
                      obtain ⟨r', h1, h⟩ := bind_some_inv h
                      cases hp2 : r'.any V1.hasPtr with
                      | true => rw [hp2] at h; cases h
                      | false =>
                        rw [hp2] at h
                        simp only [condA_false] at h
                        refine ⟨_, _, h, .eff1 fun B g a w S K Q hK => ?_⟩
                        obtain ⟨vals, hvals, hen⟩ := hent B g a w S
                        refine hen fn K Q hf hb hn ?_
                        refine (hC.plain hfg hv S.inv S.live (args g w vals hvals)).mono fun e' w' ⟨u, M', bx, ow, he', hG, hr, hO, hN⟩ => ⟨u, he', ?_⟩
                        obtain ⟨us, rfl, hl, hall⟩ := hr
                        have hr2 : Rv ⟨M', bx, ow⟩ w' (.tuple us) (.tup (.one (.sl (some n) sz cs) :: r')) := by
                          cases hus : us.toList with
                          | nil => have : us.size = 0 := by rw [← Array.length_toList, hus]; rfl
                                   rw [hl] at this; simp at this
                          | cons u0 ur =>
                            have hget : ∀ (i : Nat) x, us[i]? = some x ↔ (u0 :: ur)[i]? = some x := fun i x => by rw [← hus]; simp
                            have hlr : ur.length = rr.length := by have := hl; rw [← Array.length_toList, hus] at this; simpa using this
                            obtain ⟨h5, h6⟩ := castVs_sound ts ur rr r' h1 hlr (fun i u x hu hx => hall (i + 1) u x ((hget _ _).2 (by simpa using hu)) (by simpa using hx))
                            refine ⟨us, rfl, by rw [← Array.length_toList, hus]; simp [h5], fun i u x hu hx => ?_⟩
                            cases i with
                            | zero =>
                              simp only [List.getElem?_cons_zero, Option.some.injEq] at hx
                              subst hx
                              exact Rc.sized (hall 0 u (.one (.sl (some n) s0 cs)) hu rfl) hs
                            | succ i => exact h6 i u x (by simpa using (hget _ _).1 hu) (by simpa using hx)
                        obtain ⟨g', h3, h4⟩ := call_named (d := d) S hG hr2 (by show List.any (V1.one (.sl (some n) sz cs) :: r') V1.hasPtr = false; rw [List.any_cons, hp2]; rfl) hO hN
                        refine hK _ w' g' ?_ h4
                        rw [← he]; exact h3
                    · cases h
                  · rename_i d l fs hd ht
                    split at h
                    · cases h
                    · rename_i cs
                      rw [aggN_bind] at h
                      obtain ⟨cs', h1, h⟩ := bind_some_inv h
                      refine ⟨_, _, h, .eff1 fun B g a w S K Q hK => ?_⟩
                      obtain ⟨vals, hvals, hen⟩ := hent B g a w S
                      refine hen fn K Q hf hb hn ?_
                      refine (hC.plain hfg hv S.inv S.live (args g w vals hvals)).mono fun e' w' ⟨u, M', bx, ow, he', hG, hr, hO, hN⟩ => ⟨u, he', ?_⟩
                      obtain ⟨vs, rfl, hr⟩ := hr
                      obtain ⟨g', h3, h4⟩ := call_namedA (d := d) S hG hr h1 hO hN
                      exact hK _ w' g' ⟨vs, rfl, h3⟩ h4
                    · cases h
                  · cases h
                | false =>
                  rw [hnm] at h
                  simp only [condA_false] at h
                  split at h
                  · rename_i t ht
                    rw [castV_bind] at h
                    obtain ⟨v', h1, h2⟩ := bind_some_inv h
                    cases hp2 : v'.hasPtr with
                    | true => rw [hp2] at h2; cases h2
                    | false =>
                      rw [hp2] at h2
                      simp only [condA_false] at h2
                      refine ⟨_, st, h2, .pure (StEq.refl st) fun B g a w S K Q hK => ?_⟩
                      obtain ⟨vals, hvals, hen⟩ := hent B g a w S
                      refine hen fn K Q hf hb hn ?_
                      refine (hC.plain hfg hv S.inv S.live (args g w vals hvals)).mono fun e w' ⟨u, M', bx, ow, he, hG, hr, _, _⟩ => ⟨u, he, ?_⟩
                      exact hK u w' M' ⟨hG.below, hG.sub, hG.old, hG.live, hG.same⟩ ((castV_sound h1 hr).toBare hp2 rfl)
                  · cases h
              · cases h
theorem aop_call {full : Bool} {o : Oper} {x : Operand} {args : Array Operand} {tys : Array TypeId} {st : St} {k : AV → St → Option R} {r : R} (ho : o.op = .call ⟨.value x, args, tys⟩) (h : aop E call full o st k = some r) : ∃ av st', k av st' = some r ∧ Res P o full st av st' := by
 unfold aop at h
 simp only [ho] at h
 split at h
 · rename_i asl has
   split at h
   · rename_i f
     refine callA_sound hE hC (fun B g a w S => ⟨args.toList.map a.eval, evl_rel S _ _ has, fun fn K Q hf hb hn hc => ?_⟩) h
     refine wp_callF ho hf hb hn ?_
     rw [args_vals]; exact hc
   · split at h
     · rename_i c hx
       obtain ⟨f, n, cs, rfl, h⟩ := castClo_some h
       refine callA_sound hE hC (fun B g a w S => ?_) h
       obtain ⟨first, captured, hv, hn, hcs⟩ := Rc.clo_inv (S.ev hx)
       obtain ⟨h1, h2⟩ := clo_rel (g := g) (w := w) hn hcs
       refine ⟨first.toList ++ args.toList.map a.eval ++ captured.toList, (h1.app (evl_rel S _ _ has)).app h2, fun fn K Q hf hb hne hc => ?_⟩
       refine wp_callV ho hv hf hb hne ?_
       rw [args_vals]
       have e : first ++ (args.toList.map a.eval).toArray ++ captured = (first.toList ++ args.toList.map a.eval ++ captured.toList).toArray := by apply Array.toList_inj.1; simp
       rw [e]; exact hc
     · cases h
 · cases h
theorem aop_makeFunc {full : Bool} {o : Oper} {fn : Fn} {first captured : Array Operand} {st : St} {k : AV → St → Option R} {r : R} (ho : o.op = .makeFunc fn first captured) (h : aop E call full o st k = some r) : ∃ av st', k av st' = some r ∧ Res P o full st av st' := by
 unfold aop at h
 simp only [ho] at h
 split at h
 · rename_i f
   split at h
   · rename_i vs hvs
     obtain ⟨cs, h, hcs⟩ := cloCells_some vs h
     refine ⟨_, st, h, .pure (StEq.refl st) fun B g a w S => ?_⟩
     have hrel := hcs g w _ (evl_rel S _ _ hvs)
     refine pure_same S (v := .func (.func f) (first.map a.eval) (captured.map a.eval)) (by simp only [execOp, ho]; rfl) ?_
     have hc : Rd g.M w (.func (.func f) (first.map a.eval) (captured.map a.eval)) (.clo f (first.map a.eval).size cs) := .clo f _ _ cs (by have := hrel.1; simpa using this) fun i v c hv hc => hrel.2 i v c (by simpa using hv) hc
     rw [Array.size_map] at hc
     exact .data hc
   · cases h
 · cases h
theorem aop_sound {full : Bool} {o : Oper} {st : St} {k : AV → St → Option R} {r : R} (h : aop E call full o st k = some r) : ∃ av st', k av st' = some r ∧ Res P o full st av st' := by
 cases ho : o.op with
 | move x => exact aop_move hE (x := x) (by unfold aop at h; simp only [ho] at h; exact h) (fun a => by simp only [execOp, ho])
 | assign x => exact aop_move hE (x := x) (by unfold aop at h; simp only [ho] at h; exact h) (fun a => by simp only [execOp, ho])
 | pick c x y => exact aop_pick ho h
 | binOp op t x y u => exact aop_binOp hE ho h
 | unOp op t x => exact aop_unOp ho h
 | build t ps => exact aop_build hE ho h
 | buildSlice t n ps => exact aop_buildSlice hE ho h
 | load t x => exact aop_load hE ho h
 | store t x y => exact aop_store hE ho h
 | alloc t => exact aop_alloc hE ho h
 | box t x => exact aop_box ho h
 | makeSlice t x y => exact aop_makeSlice hE ho h
 | makeMap t x => exact aop_makeMap hE ho h
 | lookup t x y ok => exact aop_lookup hE ho h
 | mapUpdate t m x y => exact aop_mapUpdate hE ho h
 | insert t m x y => exact aop_insert hE ho h
 | nilCheck x => exact aop_nilCheck ho h
 | convert s d x => exact aop_convert hE ho h
 | slice t x lo hi mx =>
  cases mx with
  | none => exact aop_slice hE ho h
  | some m => unfold aop at h; simp only [ho] at h; cases h
 | fieldAddr t x f => exact aop_fieldAddr hE ho h
 | field t x f => exact aop_field hE ho h
 | indexAddr t x i => exact aop_indexAddr hE ho h
 | index t x i => exact aop_index hE ho h
 | extract x i => exact aop_extract ho h
 | makeFunc fn first captured => exact aop_makeFunc hE hC ho h
 | call c =>
  obtain ⟨callee, args, tys⟩ := c
  cases callee with
  | value x => exact aop_call hE hC ho h
  | invoke x m => unfold aop at h; simp only [ho] at h; cases h
  | builtin b =>
   cases b with
   | len => exact aop_len hE ho h
   | append => exact aop_append hE ho h
   | max => exact aop_max ho h
   | min => exact aop_min ho h
   | _ => unfold aop at h; simp only [ho] at h; cases h
 | _ => unfold aop at h; simp only [ho] at h; cases h
end
end AX
end Go.Proofs.YtnkppakkeobegaaGreatDoor
