/-
  AV20.
-/
import Derived.Test.YtfbicbgdfcbhpaaGreatDoorCt04
import Derived.ScopeJumps
import Derived.WalkMore
set_option maxRecDepth 20000
set_option linter.unusedVariables false
set_option linter.unusedSimpArgs false
set_option linter.unusedSectionVars false
namespace Go.Proofs.YtfbicbgdfcbhpaaGreatDoor
namespace AX
variable [Inv]
open Go.RowKit
variable {P : Program} {R : Type}
omit [Inv] in
theorem castI_bind {kd : IntKind} {c : Cell} {k : Int → Option R} : castI kd c k = (castI kd c some).bind k := by
 unfold castI; split
 · split <;> rfl
 · rfl
omit [Inv] in
theorem castD_bind {t : TI} {c : Cell} {k : Cell → Option R} : castD t c k = (castD t c some).bind k := by
 unfold castD; split
 · unfold castI; split
   · split <;> rfl
   · rfl
 · unfold castB; split <;> rfl
 · unfold castS; split <;> rfl
 · rename_i sz; unfold castL; split
   · rename_i s cs; cases Nat.beq s sz || Nat.beq s 0 <;> rfl
   · rfl
 · unfold castE; split <;> rfl
 · split <;> rfl
 · rfl
omit [Inv] in
theorem castD_bare (t : TI) (c : Cell) : castD t c.bare some = castD t c some := by
 cases c <;> rfl
omit [Inv] in
theorem castC_bind {t : TI} {c : Cell} {k : Cell → Option R} : castC t c k = (castC t c some).bind k := by
 unfold castC; split
 · rename_i sz; unfold castL; split
   · rename_i s cs; cases Nat.beq s sz || Nat.beq s 0 <;> rfl
   · rfl
 · split <;> rfl
 · split <;> rfl
 · exact castD_bind
omit [Inv] in
theorem castDs_bind : ∀ (ts : List TI) (cs : List Cell) {R : Type} {k : List Cell → Option R}, castDs ts cs k = (castDs ts cs some).bind k
 | [], cs, _, k => rfl
 | t :: ts, [], _, k => rfl
 | t :: ts, c :: cs, _, k => by
  simp only [castDs]
  rw [castD_bind, castD_bind (k := fun c' => castDs ts cs fun r' => some (c' :: r'))]
  cases castD t c some with
  | none => rfl
  | some c' =>
   simp only [Option.bind_some]
   rw [castDs_bind ts cs, castDs_bind ts cs (k := fun r' => some (c' :: r'))]
   cases castDs ts cs some <;> rfl
omit [Inv] in
theorem castCs_bind : ∀ (ts : List TI) (cs : List Cell) {R : Type} {k : List Cell → Option R}, castCs ts cs k = (castCs ts cs some).bind k
 | [], cs, _, k => rfl
 | t :: ts, [], _, k => rfl
 | t :: ts, c :: cs, _, k => by
  simp only [castCs]
  rw [castC_bind, castC_bind (k := fun c' => castCs ts cs fun r' => some (c' :: r'))]
  cases castC t c some with
  | none => rfl
  | some c' =>
   simp only [Option.bind_some]
   rw [castCs_bind ts cs, castCs_bind ts cs (k := fun r' => some (c' :: r'))]
   cases castCs ts cs some <;> rfl
omit [Inv] in
theorem castXs_bind : ∀ (ts : List TI) (cs : List Cell) {R : Type} {k : List Cell → Option R}, castXs ts cs k = (castXs ts cs some).bind k
 | [], [], _, k => rfl
 | [], c :: cs, _, k => rfl
 | t :: ts, [], _, k => rfl
 | t :: ts, c :: cs, _, k => by
  simp only [castXs]
  rw [castC_bind, castC_bind (k := fun c' => castXs ts cs fun r' => some (c' :: r'))]
  cases castC t c some with
  | none => rfl
  | some c' =>
   simp only [Option.bind_some]
   rw [castXs_bind ts cs, castXs_bind ts cs (k := fun r' => some (c' :: r'))]
   cases castXs ts cs some <;> rfl
omit [Inv] in
theorem castV1_bind {t : TI} {v : V1} {k : V1 → Option R} : castV1 t v k = (castV1 t v some).bind k := by
 have hx : ∀ (l : List TI) (cs : List Cell), castXs l cs (fun cs' => k (.agg cs')) = (castXs l cs fun cs' => some (V1.agg cs')).bind k := fun l cs => by
  rw [castXs_bind, castXs_bind l cs (k := fun cs' => some (V1.agg cs'))]; cases castXs l cs some <;> rfl
 have hc : ∀ (t : TI) (c : Cell), castC t c (fun c' => k (.one c')) = (castC t c fun c' => some (V1.one c')).bind k := fun t c => by
  rw [castC_bind, castC_bind (t := t) (c := c) (k := fun c' => some (V1.one c'))]; cases castC t c some <;> rfl
 cases t <;> cases v <;> first | rfl | exact hx _ _ | (simp only [castV1]; exact hc _ _)
omit [Inv] in
theorem castVs_bind : ∀ (ts : List TI) (cs : List V1) {R : Type} {k : List V1 → Option R}, castVs ts cs k = (castVs ts cs some).bind k
 | [], [], _, k => rfl
 | [], c :: cs, _, k => rfl
 | t :: ts, [], _, k => rfl
 | t :: ts, c :: cs, _, k => by
  simp only [castVs]
  rw [castV1_bind, castV1_bind (k := fun c' => castVs ts cs fun r' => some (c' :: r'))]
  cases castV1 t c some with
  | none => rfl
  | some c' =>
   simp only [Option.bind_some]
   rw [castVs_bind ts cs, castVs_bind ts cs (k := fun r' => some (c' :: r'))]
   cases castVs ts cs some <;> rfl
theorem castV_bind {t : TI} {v : AV} {k : AV → Option R} : castV t v k = (castV t v some).bind k := by
 have hx : ∀ (l : List TI) (cs : List V1), castVs l cs (fun cs' => k (.tup cs')) = (castVs l cs fun cs' => some (AV.tup cs')).bind k := fun l cs => by
  rw [castVs_bind, castVs_bind l cs (k := fun cs' => some (AV.tup cs'))]; cases castVs l cs some <;> rfl
 have hc : ∀ (t : TI) (c : V1), castV1 t c (fun c' => k c'.av) = (castV1 t c fun c' => some c'.av).bind k := fun t c => by
  rw [castV1_bind, castV1_bind (t := t) (v := c) (k := fun c' => some c'.av)]; cases castV1 t c some <;> rfl
 cases t <;> cases v <;> first | rfl | exact hx _ _ | (simp only [castV]; exact hc _ _)
omit [Inv] in
theorem packK_bind {t : TI} {l : List Cell} {k : AV → Option R} : packK t l k = (packK t l some).bind k := by
 unfold packK
 cases t.isAgg with
 | true => rfl
 | false => simp only [condA_false]; split <;> rfl
omit [Inv] in
theorem loadR_bind {t : TI} {cs : List Cell} {o : Nat} {k : AV → Option R} : loadR t cs o k = (loadR t cs o some).bind k := by
 unfold loadR
 cases Nat.beq t.leaves.length 1 with
 | true =>
  simp only [condA_true, rowAt]
  cases cs[o]? with
  | none => rfl
  | some c =>
   show castDs t.leaves [c] (fun l => packK t l k) = (castDs t.leaves [c] fun l => packK t l some).bind k
   rw [castDs_bind (k := fun l => packK t l k), castDs_bind (k := fun l => packK t l some)]
   cases castDs t.leaves [c] some with
   | none => rfl
   | some l => exact packK_bind
 | false =>
  simp only [condA_false]
  cases Nat.ble (o + t.leaves.length) cs.length with
  | false => rfl
  | true =>
   simp only [condA_true]
   rw [castDs_bind (k := fun l => packK t l k), castDs_bind (k := fun l => packK t l some)]
   cases castDs t.leaves (cs.drop o) some with
   | none => rfl
   | some l => exact packK_bind
omit [Inv] in
theorem loadK_bind {t : TI} {st : St} {p : AV} {k : AV → Option R} : loadK t st p k = (loadK t st p some).bind k := by
 unfold loadK; split
 · rename_i b o
   split
   · rename_i cs _
     cases Nat.ble (o + t.leaves.length) cs.length with
     | false => rfl
     | true =>
      simp only [condA_true]
      rw [castCs_bind, castCs_bind t.leaves (cs.drop o) (k := fun l => packK t l some)]
      cases castCs t.leaves (cs.drop o) some with
      | none => rfl
      | some l => exact packK_bind
   · rfl
 · rename_i cs
   rw [castDs_bind, castDs_bind t.leaves cs (k := fun l => packK t l some)]
   cases castDs t.leaves cs some with
   | none => rfl
   | some l => exact packK_bind
 · rfl
omit [Inv] in
theorem bytesK_bind : ∀ (cs : List Cell) {R : Type} {k : List UInt8 → Option R}, bytesK cs k = (bytesK cs some).bind k
 | [], _, k => rfl
 | c :: cs, _, k => by
  simp only [bytesK]
  rw [castI_bind, castI_bind (k := fun n => bytesK cs fun l => some (UInt8.ofNat n.toNat :: l))]
  cases castI .u8 c some with
  | none => rfl
  | some n =>
   simp only [Option.bind_some]
   rw [bytesK_bind cs, bytesK_bind cs (k := fun l => some (UInt8.ofNat n.toNat :: l))]
   cases bytesK cs some <;> rfl
omit [Inv] in
theorem dataK_bind : ∀ (cs : List Cell) {R : Type} {k : List Cell → Option R}, dataK cs k = (dataK cs some).bind k
 | [], _, k => rfl
 | c :: cs, _, k => by
  simp only [dataK]
  cases hasPtr c with
  | true => rfl
  | false =>
   simp only [condA_false]
   rw [dataK_bind cs, dataK_bind cs (k := fun r' => some (c.bare :: r'))]
   cases dataK cs some <;> rfl
omit [Inv] in
theorem lookK_bind {key z : Cell} {ks : List (Cell × Cell × Nat)} {k : Cell → Bool → Option R} : lookK key ks z k = (lookK key ks z fun c t => some (c, t)).bind fun p => k p.1 p.2 := by
 unfold lookK; split <;> rfl
omit [Inv] in
theorem updK_bind {key v : Cell} {ck : Nat} {ks : List (Cell × Cell × Nat)} {k : Nat → List (Cell × Cell × Nat) → Option R} : updK key v ck ks k = (updK key v ck ks fun a b => some (a, b)).bind fun p => k p.1 p.2 := by
 unfold updK; split <;> rfl
omit [Inv] in
theorem putR_bind {cs new : List Cell} {o : Nat} {k : List Cell → Option R} : putR cs o new k = (putR cs o new some).bind k := by
 unfold putR
 split
 · rename_i c; cases Nat.blt o cs.length <;> rfl
 · cases Nat.ble (o + new.length) cs.length <;> rfl
omit [Inv] in
theorem partsK_bind : ∀ (ps : List (Nat × AV)) {R : Type} {k : List (Nat × AV) → Option R}, partsK ps k = (partsK ps some).bind k
 | [], _, k => rfl
 | (i, v) :: ps, _, k => by
  simp only [partsK]
  cases v.cells? with
  | none => rfl
  | some cs =>
   simp only []
   rw [dataK_bind, dataK_bind (k := fun cs' => partsK ps fun r' => some ((i, .agg cs') :: r'))]
   cases dataK cs some with
   | none => rfl
   | some cs' =>
    simp only [Option.bind_some]
    rw [partsK_bind ps, partsK_bind ps (k := fun r' => some ((i, .agg cs') :: r'))]
    cases partsK ps some <;> rfl
omit [Inv] in
theorem bind_some_inv {α : Type} {x : Option α} {k : α → Option R} {r : R} (h : x.bind k = some r) : ∃ y, x = some y ∧ k y = some r := by
 cases x with
 | none => cases h
 | some y => exact ⟨y, rfl, h⟩
end AX
end Go.Proofs.YtfbicbgdfcbhpaaGreatDoor
namespace Go.Proofs.YtfbicbgdfcbhpaaGreatDoor
namespace AX
variable [Inv]
open Go.RowKit
variable {P : Program} {R : Type}
structure StEq (st st' : St) : Prop where
 fr : ∀ s, lk st'.fr s = lk st.fr s
 H : st'.H = st.H
omit [Inv] in
theorem StEq.refl (st : St) : StEq st st := ⟨fun _ => rfl, rfl⟩
theorem Sim.eqv {B : Base} {g : Gh} {st st' : St} {a : Act} {w : World} (S : Sim P B g st a w) (h : StEq st st') : Sim P B g st' a w :=
 ⟨fun s v hs => S.frame s v (by rw [← h.fr]; exact hs), S.size, S.defers, S.live, by rw [h.H]; exact S.bx, S.ow, S.fr, S.bxB, S.owB, S.pre⟩
omit [Inv] in
theorem fix_eq {st : St} {x : Operand} {b : Bool} (h : ev st x = some (.one (.bool b))) : StEq st (st.fix x b) := by
 cases x with
 | tmp t =>
  refine ⟨fun s => ?_, rfl⟩
  simp only [St.fix, St.put, lk, lk_rm]
  cases hb : Nat.beq t s with
  | true => have := Nat.eq_of_beq_eq_true hb; subst this; exact h.symm
  | false =>
   have hne : t ≠ s := fun e => by subst e; rw [Nat.beq_refl] at hb; cases hb
   simp [hne]
 | _ => exact StEq.refl _
omit [Inv] in
theorem tyN_some {T : List (Nat × TI)} {t : Nat} {ti : TI} (h : tyN T t = some ti) : ty T t = some ti ∧ ∀ ts, ti ≠ .tup ts := by
 unfold tyN at h
 split at h
 · cases h
 · rename_i hn
   exact ⟨h, fun ts e => hn ts (by rw [h, e])⟩
omit [Inv] in
theorem RvA.single {g : Gh} {w : World} {us : Array Value} {c : Cell} (h : RvA g w us [c]) : ∃ u, us = #[u] ∧ Rc g w u c := by
 obtain ⟨h1, h2⟩ := h
 have h1 : us.size = 1 := h1
 refine ⟨us[0], ?_, h2 0 _ c (Array.getElem?_eq_getElem (by omega)) rfl⟩
 apply Array.ext
 · simpa using h1
 · intro i hi hi2
   have : i = 0 := by omega
   subst this
   rfl
structure PrimOk (P : Program) (f : FuncId) (p : List AV → Option AV) : Prop where
 ok : ∀ args v, p args = some v → ∀ (M : Mem) (w : World) (vals : List Value), Inv.I w → (∀ b j, M b j → b < w.heap.size) → All2 (fun a u => Rv ⟨M, [], fun _ => none⟩ w u a) args vals →
  Calls P f vals.toArray w fun e w' => ∃ u M', e = .returned u ∧ Grow ⟨M, [], fun _ => none⟩ w M' w' ∧ Rv ⟨M', [], fun _ => none⟩ w' u v
 fn : ∃ fn, P.funcs[f]? = some fn ∧ fn.body.isSome = true ∧ fn.name ≠ "runtime.NumGoroutine"
structure PrimHOk (P : Program) (f : FuncId) (p : List AV → List Cell → Option (AV × List Cell)) : Prop where
 ok : ∀ b args old v new, p (.one (.ptr b 0) :: args) old = some (v, new) → ∀ (B : Base) (g : Gh) (st : St) (a : Act) (w : World) (vals : List Value) (blk : Nat), Sim P B g st a w → st.H[b]? = some old → g.bx[b]? = some blk → All2 (fun a u => Rv ⟨g.M, [], fun _ => none⟩ w u a) args vals →
  Calls P f (Value.pointer (some ⟨blk, 0, none⟩) :: vals).toArray w fun e w' => ∃ u g', e = .returned u ∧ Rv g' w' u v ∧ Sim P B g' ⟨strikeFr (namesIn old) st.fr, (strikeH (namesIn old) st.H).set b new⟩ a w'
 fn : ∃ fn, P.funcs[f]? = some fn ∧ fn.body.isSome = true ∧ fn.name ≠ "runtime.NumGoroutine"
structure PrimSOk (P : Program) (f : FuncId) (p : List AV → List Cell → Option AV) : Prop where
 ok : ∀ b args old v, p (.one (.ptr b 0) :: args) old = some v → ∀ (B : Base) (g : Gh) (st : St) (a : Act) (w : World) (vals : List Value) (blk : Nat), Sim P B g st a w → st.H[b]? = some old → g.bx[b]? = some blk → All2 (fun a u => Rv ⟨g.M, [], fun _ => none⟩ w u a) args vals →
  Calls P f (Value.pointer (some ⟨blk, 0, none⟩) :: vals).toArray w fun e w' => ∃ u g', e = .returned u ∧ Rv g' w' u v ∧ Sim P B g' (st.strike (namesIn old)) a w'
 fn : ∃ fn, P.funcs[f]? = some fn ∧ fn.body.isSome = true ∧ fn.name ≠ "runtime.NumGoroutine"
structure CallOk (P : Program) (call : CallF) : Prop where
 ok : ∀ f args H v H', call f args H = some (v, H') → ∀ (g : Gh) (D : Nat → Prop) (w : World) (vals : List Value),
  (∀ w' : World, w'.os = w.os → w'.tape = w.tape → w'.output = w.output → w.heap.size ≤ w'.heap.size → (∀ k, k < w.heap.size → ¬ D k → w'.heap[k]? = w.heap[k]?) → Inv.I w') →
  (∀ b j, g.M b j → b < w.heap.size) → BxOk H g w → OwOk P g w → (∀ blk ∈ g.bx, D blk) → (∀ L v b, g.ow L = some v → v.ownBlock = some b → D b) →
  All2 (fun a u => Rv g w u a) args vals →
  Calls P f vals.toArray w fun e w' => ∃ u g' B fr HH a', e = .returned u ∧ B.w0 = w ∧ B.M0 = g.M ∧ B.D = D ∧ B.bx0 = g.bx ∧ Sim P B g' ⟨fr, HH⟩ a' w' ∧ Rv g' w' u v ∧ H' = canonH 0 (HH.take H.length)
 fn : ∀ f args H v H', call f args H = some (v, H') → ∃ fn, P.funcs[f]? = some fn ∧ fn.body.isSome = true ∧ fn.name ≠ "runtime.NumGoroutine"
theorem CallOk.plain {call : CallF} (hC : CallOk P call) {f : FuncId} {args : List AV} {v : AV} {H' : Heap} (h : call f args [] = some (v, H')) {M : Mem} {w : World} {vals : List Value} (hI : Inv.I w) (hl : ∀ b j, M b j → b < w.heap.size) (hA : All2 (fun a u => Rv ⟨M, [], fun _ => none⟩ w u a) args vals) :
 Calls P f vals.toArray w fun e w' => ∃ u M' bx ow, e = .returned u ∧ Grow ⟨M, [], fun _ => none⟩ w M' w' ∧ Rv ⟨M', bx, ow⟩ w' u v ∧ OwOk P ⟨M', bx, ow⟩ w' ∧ ∀ L x b, ow L = some x → x.ownBlock = some b → w.heap.size ≤ b := by
 refine (hC.ok f args [] v H' h ⟨M, [], fun _ => none⟩ (fun _ => False) w vals (fun w' h1 h2 h3 h4 h5 => Inv.below w w' hI ⟨h1, h2, h3, h4, fun k hk => h5 k hk id⟩) hl ⟨rfl, List.nodup_nil, fun blk hb => (by simp at hb), fun L v b h => (by cases h), fun i cs h => (by simp at h)⟩ ⟨fun L v h => (by cases h), fun L L' v v' _ h => (by cases h)⟩ (fun blk hb => by simp at hb) (fun L v b h => by cases h) hA).mono fun e w' ⟨u, g', B, fr, HH, a', he, h1, h2, h3, h4, S', hr, _⟩ => ?_
 obtain ⟨w0, M0, D0, nt, bx0, kI⟩ := B
 simp only at h1 h2 h3 h4
 subst h1 h2 h3 h4
 refine ⟨u, g'.M, g'.bx, g'.ow, he, ⟨⟨S'.fr.os, S'.fr.tape, S'.fr.output, S'.fr.size, fun k hk => S'.fr.block k hk (fun h => h)⟩, fun b j hm => (S'.fr.kp b j hm).1, fun b j hb hm => S'.fr.old b j hb (fun h => h) hm, S'.live⟩, hr, ⟨S'.ow.row, S'.ow.ne⟩, fun L x b h hb => ?_⟩
 rcases S'.owB L x b h hb with h | h
 · exact h.elim
 · exact h
structure EnvOk (P : Program) (E : Env) : Prop where
 T : tysOk P E.T = true
 eqs : ∀ t ∈ E.eqs, P.stoodInHeld t = false ∧ P.eqGuardType P.depth t = false ∧ ∀ f ∈ (P.fieldsOf t).toList, f.name ≠ "_"
 prim : ∀ f p, E.prim f = some p → PrimOk P f p
 primH : ∀ f p, E.primH f = some p → PrimHOk P f p
 primS : ∀ f p, E.primS f = some p → PrimSOk P f p
def OpS (P : Program) (B : Base) (_g : Gh) (w : World) (a : Act) (o : Oper) (av : AV) (st' : St) : Prop :=
 ∀ (K : Act → World → Prop) (Q : Exit → Act → World → Prop), (∀ v w' g', Rv g' w' v av → Sim P B g' st' a w' → K (a.put o.dst v) w') → o.wp P a w K Q
structure Res (P : Program) (o : Oper) (full : Bool) (st : St) (av : AV) (st' : St) : Prop where
 eff : ∀ B g a w, Sim P B g st a w → OpS P B g w a o av st'
 still : full = false → StEq st st' ∧ ∀ B g a w, Sim P B g st a w → PureS P g w a o av
theorem Res.pure {o : Oper} {full : Bool} {st st' : St} {av : AV} (he : StEq st st') (h : ∀ B g a w, Sim P B g st a w → PureS P g w a o av) : Res P o full st av st' :=
 ⟨fun B g a w S K Q hK => h B g a w S K Q fun v w' _M' hG hv => hK v w' _ hv ((S.grow hG).eqv he), fun _ => ⟨he, h⟩⟩
theorem Res.eff1 {o : Oper} {st st' : St} {av : AV} (h : ∀ B g a w, Sim P B g st a w → OpS P B g w a o av st') : Res P o true st av st' := ⟨h, fun e => by cases e⟩
section
variable {E : Env} {call : CallF} (hE : EnvOk P E)
include hE
theorem not_tup {t : TypeId} {ti : TI} (h : ty E.T t = some ti) (hn : ∀ ts, ti ≠ .tup ts) : TyIs P t ti := tyIs_of (ty_ok hE.T h) hn
omit hE in
theorem born_sound {full : Bool} {o : Oper} {e : TypeId} {sz : Nat} {cs : List Cell} {st : St} {k : AV → St → Option R} {r : R} (hsz : P.cellsOf e = sz) (h : born full o.dst e sz cs st k = some r)
 (hp : ∀ B g a w, Sim P B g st a w → ∀ (K : Act → World → Prop) (Q : Exit → Act → World → Prop), (∀ v w' M', Grow g w M' w' → Rd M' w' v (.sl none sz cs) → (∃ n xs, w'.ownsRow 0 e sz v n xs ∧ ∀ b j, v.ownBlock = some b → M' b j → j < n * sz) → (∀ b, v.ownBlock = some b → w.heap.size ≤ b) → K (a.put o.dst v) w') → o.wp P a w K Q) :
 ∃ av st', k av st' = some r ∧ Res P o full st av st' := by
 cases full with
 | false =>
  refine ⟨_, st, h, .pure (StEq.refl st) fun B g a w S K Q hK => hp B g a w S K Q fun v w' M' hG hv _ _ => hK v w' M' hG (.data hv)⟩
 | true =>
  unfold born at h
  simp only [condA_true] at h
  split at h
  · rename_i d hd
    refine ⟨_, _, h, .eff1 fun B g a w S K Q hK => hp B g a w S K Q fun v w' M' hG hv hown hnew => ?_⟩
    obtain ⟨n, xs, hrow, hMb⟩ := hown
    have S1 := S.grow hG
    have hbxlt : ∀ blk ∈ g.bx, blk < w.heap.size := fun blk hb => by
     obtain ⟨i, hi⟩ := List.getElem?_of_mem hb
     have hlt : i < st.H.length := by rw [← S.bx.len]; exact (List.getElem?_eq_some_iff.1 hi).1
     obtain ⟨blk', h1, h2⟩ := S.bx.box i _ (List.getElem?_eq_getElem hlt)
     rw [hi] at h1; cases h1
     exact h2.lt
    have S2 := S1.born (d := d) (e := e) 0 (by rw [hsz]; exact hrow) (fun b j hb hm => by rw [hsz]; exact hMb b j hb hm) (fun b hb => by
     have hge := hnew b hb
     refine ⟨fun hm => by have := hbxlt b hm; omega, fun L v' hL hb' => ?_, .inr (Nat.le_trans S.fr.size hge)⟩
     obtain ⟨n', xs', h1, _⟩ := S.ow.row L v' hL
     have := (h1.lt b hb').2
     omega)
    refine hK v w' _ ?_ S2
    exact .own ⟨d, 0, e⟩ ((give_here (L := ⟨d, 0, e⟩) rfl).trans (by simp [nameIs])) hv
  · cases h
theorem aop_move {full : Bool} {o : Oper} {x : Operand} {st : St} {k : AV → St → Option R} {r : R}
    (h : (match x with
     | .const (.slice none 0 0) =>
       (match ty E.T o.type with
        | some (.slice e sz) => born full o.dst e sz [] st k
        | _ => none)
     | x => (match ev st x with
       | some v => k v st
       | none => none)) = some r) (ho : ∀ a : Act, execOp a.eval o = (pure (.value (a.eval x)) : Sem Next)) : ∃ av st', k av st' = some r ∧ Res P o full st av st' := by
  split at h
  · split at h
    · rename_i e sz ht
      have hT := not_tup hE ht (by simp)
      obtain ⟨_, hsz, hz0, _⟩ := hT.is_slice
      refine born_sound hsz h fun B g a w S K Q hK => ?_
      unfold Oper.wp
      rw [‹∀ a : Act, execOp a.eval o = _› a]
      exact hK _ w g.M (Grow.refl S.live) (.slN sz) ⟨0, [], World.ownsRow_nil _ _ _ _, fun b j h => by cases h⟩ (fun b h => by cases h)
    · cases h
  · split at h
    · rename_i v hv
      exact ⟨v, st, h, .pure (StEq.refl st) fun B g a w S => pure_same S (v := a.eval x) (by rw [ho]; rfl) (S.ev hv)⟩
    · cases h
omit hE in
theorem aop_pick {full : Bool} {o : Oper} {c x y : Operand} {st : St} {k : AV → St → Option R} {r : R} (ho : o.op = .pick c x y) (h : aop E call full o st k = some r) : ∃ av st', k av st' = some r ∧ Res P o full st av st' := by
 unfold aop at h
 simp only [ho] at h
 split at h
 · rename_i t ht
   cases t with
   | true =>
    simp only [] at h
    split at h
    · rename_i v hv
      refine ⟨v, _, h, .pure (fix_eq ht) fun B g a w S => pure_same S (v := a.eval x) ?_ (S.ev hv)⟩
      have := (S.ev ht).bool_inv
      simp [execOp, ho, this, asBool]
    · cases h
   | false =>
    simp only [] at h
    split at h
    · rename_i v hv
      refine ⟨v, _, h, .pure (fix_eq ht) fun B g a w S => pure_same S (v := a.eval y) ?_ (S.ev hv)⟩
      have := (S.ev ht).bool_inv
      simp [execOp, ho, this, asBool]
    · cases h
 · cases h
omit hE in
omit [Inv] in
theorem binK_some {t : Option TI} {yc : Bool} {op : BinOp} {a b : AV} {k : Cell → Option R} {r : R} (h : binK t yc op a b k = some r) : ∃ c, binA t yc op a b = some c ∧ k c = some r := by
 unfold binK at h
 split at h
 · rename_i x y
   by_cases hc : x.length + y.length ≤ strLim
   · rw [decide_eq_true hc] at h; exact ⟨_, by simp [binA, strOp, hc], h⟩
   · rw [decide_eq_false hc] at h; cases h
 · rename_i kd x kd' y
   split at h
   · rename_i hk
     by_cases hc : y = 0
     · rw [decide_eq_true hc] at h; cases h
     · rw [decide_eq_false hc] at h; exact ⟨_, by simp [binA, intOp, hc, hk], h⟩
   · cases h
 · rename_i kd x kd' y
   split at h
   · rename_i hk
     by_cases hc : y = 0
     · rw [decide_eq_true hc] at h; cases h
     · rw [decide_eq_false hc] at h; exact ⟨_, by simp [binA, intOp, hc, hk], h⟩
   · cases h
 · rename_i kd x kd' y
   by_cases hc : y < 0
   · rw [decide_eq_true hc] at h; cases h
   · rw [decide_eq_false hc] at h; exact ⟨_, by simp [binA, shOp, hc], h⟩
 · rename_i kd x kd' y
   by_cases hc : y < 0
   · rw [decide_eq_true hc] at h; cases h
   · rw [decide_eq_false hc] at h; exact ⟨_, by simp [binA, shOp, hc], h⟩
 · split at h
   · exact ⟨_, ‹_›, h⟩
   · cases h
omit hE in
omit [Inv] in
theorem binE_some {t : Nat} {yc : Bool} {op : BinOp} {a b : AV} {k : Cell → Option R} {r : R} (h : binE E t yc op a b k = some r) :
 (∃ c, binA (ty E.T t) yc op a b = some c ∧ k c = some r) ∨ ∃ xs ys q l fs, a = .agg xs ∧ b = .agg ys ∧ tyN E.T t = some (.struct l fs) ∧ eqT E.T E.eqs 8 t xs ys = some q ∧ ((op = .eql ∧ k (.bool q) = some r) ∨ (op = .neq ∧ k (.bool (!q)) = some r)) := by
 unfold binE at h
 split at h
 · rename_i xs ys
   split at h
   · rename_i l fs ht
     split at h
     · rename_i q hq
       split at h
       · exact .inr ⟨xs, ys, q, l, fs, rfl, rfl, ht, hq, .inl ⟨rfl, h⟩⟩
       · exact .inr ⟨xs, ys, q, l, fs, rfl, rfl, ht, hq, .inr ⟨rfl, h⟩⟩
       · cases h
     · cases h
   · cases h
 · exact .inl (binK_some h)
 · cases h
omit hE in
omit [Inv] in
theorem RvA.part {g : Gh} {w : World} {us : Array Value} {xs : List Cell} (h : RvA g w us xs) (o n : Nat) : RvA g w (us.extract o (o + n)) ((xs.drop o).take n) := by
 have e : (us.extract o (o + n)).toList = (us.toList.drop o).take n := by
  rw [Array.toList_extract]; simp [List.extract_eq_take_drop]
 refine ⟨?_, fun i v c hv hc => ?_⟩
 · rw [← Array.length_toList, e]; simp [h.1]
 · rw [← Array.getElem?_toList, e, List.getElem?_take] at hv
   rw [List.getElem?_take] at hc
   split at hv
   · rename_i hi
     rw [if_pos hi] at hc
     rw [List.getElem?_drop] at hv hc
     exact h.2 _ v c (by simpa using hv) hc
   · cases hv
theorem eqT_sound {g : Gh} {w : World} : ∀ (d : Nat) (t : Nat) (xs ys : List Cell) (q : Bool) (us vs : Array Value) (e : Nat), eqT E.T E.eqs d t xs ys = some q → RvA g w us xs → RvA g w vs ys →
 ((isAgg t).run P w = .ok true w → (Op.equalIn (d + e) t (.agg us) (.agg vs)).run P w = .ok q w) ∧ ((isAgg t).run P w = .ok false w → ∃ u v, us = #[u] ∧ vs = #[v] ∧ (Op.equalIn (d + e) t u v).run P w = .ok q w)
 | 0, t, xs, ys, q, us, vs, e, h, _, _ => by cases h
 | d + 1, t, xs, ys, q, us, vs, e, h, hu, hv => by
  rw [show d + 1 + e = d + e + 1 by omega]
  simp only [eqT] at h
  split at h
  · rename_i l fs ht
    obtain ⟨ht1, hnt⟩ := tyN_some ht
    have hT := tyIs_of (ty_ok hE.T ht1) hnt
    obtain ⟨fields, hf, hfo⟩ := hT.is_struct
    refine ⟨fun _ => ?_, fun hag => ?_⟩
    · cases hok : E.eqs.any (Nat.beq t) with
      | false => rw [hok] at h; cases h
      | true =>
       rw [hok, condA_true] at h
       rw [List.any_eq_true] at hok
       obtain ⟨t', hm, hb⟩ := hok
       have := Nat.eq_of_beq_eq_true hb
       subst this
       obtain ⟨h1, _, h3⟩ := hE.eqs t hm
       have hfl : P.fieldsOf t = fields := by simp [Program.fieldsOf, hf]
       rw [run_equalIn_struct w (d + e) t us vs (by rw [hfl]; exact hf) h1]
       rw [hfl] at h3 ⊢
       clear hf hfl ht ht1 hnt hT
       revert h hfo h3
       generalize fields.toList = L
       intro h hfo h3
       induction L generalizing fs q with
       | nil =>
        cases fs with
        | nil => simp only [eqFs, Option.some.injEq] at h; subst h; rfl
        | cons x r => simp [fieldsOk] at hfo
       | cons f L ih =>
        cases fs with
        | nil => simp [fieldsOk] at hfo
        | cons x r =>
         obtain ⟨o, n, t2⟩ := x
         simp only [fieldsOk, Bool.and_eq_true] at hfo
         obtain ⟨⟨⟨⟨⟨ho, hn⟩, ht2⟩, hn0⟩, _⟩, hfo⟩ := hfo
         have ho := Nat.eq_of_beq_eq_true ho
         have hn := Nat.eq_of_beq_eq_true hn
         have ht2 := Nat.eq_of_beq_eq_true ht2
         simp only [eqFs] at h
         split at h
         · rename_i a ha
           split at h
           · rename_i b hb
             simp only [Option.some.injEq] at h
             subst h
             have ih2 := ih _ _ hb hfo fun f hf => h3 f (List.mem_cons_of_mem _ hf)
             have hA := eqT_sound (g := g) d t2 _ _ a _ _ e ha (hu.part o n) (hv.part o n)
             have hpos : 0 < n := Nat.lt_of_lt_of_le (Nat.lt_of_lt_of_le Nat.zero_lt_one (Nat.le_of_ble_eq_true hn0)) (Nat.le_refl _)
             simp only [Op.eqFields, if_pos (h3 f List.mem_cons_self), Sem.run_bind]
             have key : ∃ A B, (part f.type us f.offset).run P w = .ok A w ∧ (part f.type vs f.offset).run P w = .ok B w ∧ (Op.equalIn (d + e) f.type A B).run P w = .ok a w := by
              rw [ht2, ho]
              obtain ⟨ti, htt⟩ : ∃ ti, tyN E.T t2 = some ti := by
               cases d with
               | zero => cases ha
               | succ d =>
                simp only [eqT] at ha
                cases hx : tyN E.T t2 with
                | none => rw [hx] at ha; cases ha
                | some ti => exact ⟨ti, rfl⟩
              obtain ⟨hs1, hs2⟩ := tyN_some htt
              have hT2 := tyIs_of (ty_ok hE.T hs1) hs2
              have hcs := hT2.cells
              rw [← ht2, hn] at hcs
              cases hag : ti.isAgg with
              | true =>
               have h5 := hT2.agg (w := w)
               rw [hag] at h5
               refine ⟨.agg (us.extract o (o + n)), .agg (vs.extract o (o + n)), ?_, ?_, hA.1 h5⟩
               · simp [part, h5, hT2.size, hcs]
               · simp [part, h5, hT2.size, hcs]
              | false =>
               have h5 := hT2.agg (w := w)
               rw [hag] at h5
               obtain ⟨u, v, h6, h7, h8⟩ := hA.2 h5
               have h1n : n = 1 := by
                cases ti <;> first | (simp [TI.isAgg] at hag; done) | exact hcs
               subst h1n
               have g1 : us[o]? = some u := by
                have := congrArg (fun a : Array Value => a[0]?) h6
                exact (by simpa [Array.getElem?_extract] using this : _ ∧ us[o]? = some u).2
               have g2 : vs[o]? = some v := by
                have := congrArg (fun a : Array Value => a[0]?) h7
                exact (by simpa [Array.getElem?_extract] using this : _ ∧ vs[o]? = some v).2
               exact ⟨u, v, by simp [part, h5, g1], by simp [part, h5, g2], h8⟩
             obtain ⟨A, B, k1, k2, k3⟩ := key
             rw [k1, Result.andThen_ok, k2, Result.andThen_ok, k3, Result.andThen_ok]
             cases a with
             | true => simpa using ih2
             | false => simp
           · cases h
         · cases h
    · rw [hT.agg] at hag; cases hag
  · rename_i k ht
    obtain ⟨ht1, hnt⟩ := tyN_some ht
    have hT := tyIs_of (ty_ok hE.T ht1) hnt
    refine ⟨fun hag => (by rw [hT.agg] at hag; cases hag), fun _ => ?_⟩
    split at h
    · rename_i k1 a k2 b
      split at h
      · rename_i hk
        obtain ⟨rfl, rfl⟩ := hk
        simp only [Option.some.injEq] at h
        subst h
        obtain ⟨u, rfl, h1⟩ := hu.single
        obtain ⟨v, rfl, h2⟩ := hv.single
        obtain rfl := Rc.int_inv h1
        obtain rfl := Rc.int_inv h2
        exact ⟨_, _, rfl, rfl, run_equalIn_int w (d + e) t _ _ a b hT.is_int⟩
      · cases h
    · cases h
  · rename_i ht
    obtain ⟨ht1, hnt⟩ := tyN_some ht
    have hT := tyIs_of (ty_ok hE.T ht1) hnt
    refine ⟨fun hag => (by rw [hT.agg] at hag; cases hag), fun _ => ?_⟩
    split at h
    · rename_i a b
      simp only [Option.some.injEq] at h
      subst h
      obtain ⟨u, rfl, h1⟩ := hu.single
      obtain ⟨v, rfl, h2⟩ := hv.single
      obtain rfl := Rc.str_inv h1
      obtain rfl := Rc.str_inv h2
      refine ⟨_, _, rfl, rfl, ?_⟩
      rw [run_equalIn_string w (d + e) t _ _ hT.is_str]
      simp [ByteArray.toList_eq]
    · cases h
  · rename_i ht
    obtain ⟨ht1, hnt⟩ := tyN_some ht
    have hT := tyIs_of (ty_ok hE.T ht1) hnt
    refine ⟨fun hag => (by rw [hT.agg] at hag; cases hag), fun _ => ?_⟩
    split at h
    · rename_i a b
      simp only [Option.some.injEq] at h
      subst h
      obtain ⟨u, rfl, h1⟩ := hu.single
      obtain ⟨v, rfl, h2⟩ := hv.single
      obtain rfl := Rc.bool_inv h1
      obtain rfl := Rc.bool_inv h2
      exact ⟨_, _, rfl, rfl, run_equalIn_bool' w (d + e) t a b hT.is_bool⟩
    · cases h
  · cases h
theorem aop_binOp {full : Bool} {o : Oper} {op : BinOp} {t u : TypeId} {x y : Operand} {st : St} {k : AV → St → Option R} {r : R} (ho : o.op = .binOp op t x y u) (h : aop E call full o st k = some r) : ∃ av st', k av st' = some r ∧ Res P o full st av st' := by
 unfold aop at h
 simp only [ho] at h
 split at h
 · rename_i a b ha hb
   rcases binE_some h with ⟨c, hc, h⟩ | ⟨xs, ys, q, l, fs, rfl, rfl, ht, hq, h⟩
   · refine ⟨_, st, h, .pure (StEq.refl st) fun B g a w S => ?_⟩
     obtain ⟨v, h1, h2⟩ := binA_sound hE.T (x := x) (y := y) hc (S.ev ha) (S.ev hb)
     exact pure_same_v S (by simp only [execOp, ho]) h1 h2
   · have hm : t ∈ E.eqs := by
      have hq2 := hq
      simp only [eqT, ht] at hq2
      cases hok : E.eqs.any (Nat.beq t) with
      | false => rw [hok] at hq2; cases hq2
      | true =>
       rw [List.any_eq_true] at hok
       obtain ⟨t', hm, hb⟩ := hok
       rw [Nat.eq_of_beq_eq_true hb]; exact hm
     obtain ⟨hs1, hs2⟩ := tyN_some ht
     have hT := tyIs_of (ty_ok hE.T hs1) hs2
     obtain ⟨_, hgd, _⟩ := hE.eqs t hm
     have eqr : ∀ B g a w, Sim P B g st a w → ∃ us vs, a.eval x = .agg us ∧ a.eval y = .agg vs ∧ (Op.equalIn 10000 t (.agg us) (.agg vs)).run P w = .ok q w := fun B g a w S => by
      obtain ⟨us, e1, h1⟩ := S.ev ha
      obtain ⟨vs, e2, h2⟩ := S.ev hb
      exact ⟨us, vs, e1, e2, (eqT_sound hE 8 t xs ys q us vs 9992 hq h1 h2).1 (by rw [hT.agg]; rfl)⟩
     rcases h with ⟨rfl, h3⟩ | ⟨rfl, h3⟩
     · refine ⟨_, st, h3, .pure (StEq.refl st) fun B g a w S => ?_⟩
       obtain ⟨us, vs, e1, e2, h3⟩ := eqr B g a w S
       have hrun : (do eqGuard .eql t x y (a.eval x) (a.eval y); binOp .eql t (a.eval x) (a.eval y) : Sem Value).run P w = .ok (.bool q) w := by
        rw [e1, e2, Sem.run_bind, run_eqGuard_agg w .eql t x y us vs hgd, Result.andThen_ok, run_eql_struct, h3]; rfl
       exact pure_same_v S (by simp only [execOp, ho]) hrun (.data (.bool _))
     · refine ⟨_, st, h3, .pure (StEq.refl st) fun B g a w S => ?_⟩
       obtain ⟨us, vs, e1, e2, h3⟩ := eqr B g a w S
       have hrun : (do eqGuard .neq t x y (a.eval x) (a.eval y); binOp .neq t (a.eval x) (a.eval y) : Sem Value).run P w = .ok (.bool (!q)) w := by
        rw [e1, e2, Sem.run_bind, run_eqGuard_agg w .neq t x y us vs hgd, Result.andThen_ok, run_neq_struct, h3]; rfl
       exact pure_same_v S (by simp only [execOp, ho]) hrun (.data (.bool _))
 · cases h
omit hE in
theorem aop_unOp {full : Bool} {o : Oper} {op : UnOp} {t : TypeId} {x : Operand} {st : St} {k : AV → St → Option R} {r : R} (ho : o.op = .unOp op t x) (h : aop E call full o st k = some r) : ∃ av st', k av st' = some r ∧ Res P o full st av st' := by
 unfold aop at h
 simp only [ho] at h
 split at h
 · rename_i a ha
   split at h
   · rename_i c hc
     refine ⟨_, st, h, .pure (StEq.refl st) fun B g a w S => ?_⟩
     obtain ⟨v, h1, h2⟩ := unA_sound (P := P) hc (S.ev ha)
     exact pure_same_v S (by simp only [execOp, ho]) h1 h2
   · cases h
 · cases h
theorem aop_build {full : Bool} {o : Oper} {t : TypeId} {parts : Array (Nat × Operand)} {st : St} {k : AV → St → Option R} {r : R} (ho : o.op = .build t parts) (h : aop E call full o st k = some r) : ∃ av st', k av st' = some r ∧ Res P o full st av st' := by
 unfold aop at h
 simp only [ho] at h
 split at h
 · rename_i l fs ht
   split at h
   · rename_i d hfd
     cases full with
     | false => cases hfd
     | true =>
      split at h
      · rename_i ps hps
        split at h
        · rename_i cs hcs
          refine ⟨_, _, h, .eff1 fun B g a w S K Q hK => ?_⟩
          have S1 : Sim P B (g.give d fun _ => some (.slice none 0 0)) (st.clear d) a w := S.nils
          obtain ⟨vs, h1, h2⟩ := build_sound S1 (not_tup hE ht (by simp)) (fun zs hz => zeros_own hz fun L hL => give_here hL) hps hcs
          exact wp_value (by simp only [execOp, ho]; exact run_v h1) (hK _ w _ ⟨vs, rfl, h2⟩ S1)
        · cases h
      · cases h
   · split at h
     · rename_i ps hps
       split at h
       · rename_i cs hcs
         refine ⟨_, st, h, .pure (StEq.refl st) fun B g a w S => ?_⟩
         obtain ⟨vs, h1, h2⟩ := build_sound S (not_tup hE ht (by simp)) (fun zs hz => zerosU_rel hz) hps hcs
         exact pure_same_v S (by simp only [execOp, ho]) h1 ⟨vs, rfl, h2⟩
       · cases h
     · cases h
 · cases h
theorem aop_load {full : Bool} {o : Oper} {t : TypeId} {x : Operand} {st : St} {k : AV → St → Option R} {r : R} (ho : o.op = .load t x) (h : aop E call full o st k = some r) : ∃ av st', k av st' = some r ∧ Res P o full st av st' := by
 unfold aop at h
 simp only [ho] at h
 split at h
 · rename_i ti p ht hp
   split at h
   · rename_i b oo
     obtain ⟨xs, hb, h⟩ := rowK_some h
     rw [loadR_bind] at h
     obtain ⟨av, h1, h2⟩ := bind_some_inv h
     refine ⟨av, st, h2, .pure (StEq.refl st) fun B g a w S => ?_⟩
     obtain ⟨av', u, h3, h4, h5⟩ := loadR_sound S (ty_ok hE.T ht) (S.ev hp) hb h1
     cases h3
     exact pure_same_v S (by simp only [execOp, ho]) h4 h5
   rw [loadK_bind] at h
   obtain ⟨av, h1, h2⟩ := bind_some_inv h
   refine ⟨av, st, h2, .pure (StEq.refl st) fun B g a w S => ?_⟩
   obtain ⟨av', u, h3, h4, h5⟩ := loadK_sound S (ty_ok hE.T ht) (S.ev hp) h1
   cases h3
   exact pure_same_v S (by simp only [execOp, ho]) h4 h5
 · cases h
theorem aop_slice {full : Bool} {o : Oper} {t : TypeId} {x : Operand} {lo hi : Option Operand} {st : St} {k : AV → St → Option R} {r : R} (ho : o.op = .slice t x lo hi none) (h : aop E call full o st k = some r) : ∃ av st', k av st' = some r ∧ Res P o full st av st' := by
 unfold aop at h
 simp only [ho] at h
 have bnd : ∀ {Q : Type} {kk : Option Int → Option Int → Option Q} {q : Q}, boundsK st lo hi kk = some q → ∃ a b, kk a b = some q ∧ ∀ B g ac w, Sim P B g st ac w → BoundIs ac lo a ∧ BoundIs ac hi b := by
  intro Q kk q hq
  unfold boundsK boundK at hq
  have one : ∀ (y : Operand) (n : Int), asInt? (ev st y) = some n → ∀ B g ac w, Sim P B g st ac w → BoundIs ac (some y) (some n) := fun y n hn B g ac w S => by
   unfold asInt? at hn
   split at hn
   · rename_i kd n' he
     simp only [Option.some.injEq] at hn
     subst hn
     exact .inr ⟨y, n', kd, rfl, rfl, (S.ev he).int_inv⟩
   · cases hn
  split at hq
  · split at hq
    · exact ⟨none, none, hq, fun B g ac w S => ⟨.inl ⟨rfl, rfl⟩, .inl ⟨rfl, rfl⟩⟩⟩
    · split at hq
      · rename_i n hn
        exact ⟨none, some n, hq, fun B g ac w S => ⟨.inl ⟨rfl, rfl⟩, one _ n hn B g ac w S⟩⟩
      · cases hq
  · split at hq
    · rename_i m hm
      split at hq
      · exact ⟨some m, none, hq, fun B g ac w S => ⟨one _ m hm B g ac w S, .inl ⟨rfl, rfl⟩⟩⟩
      · split at hq
        · rename_i n hn
          exact ⟨some m, some n, hq, fun B g ac w S => ⟨one _ m hm B g ac w S, one _ n hn B g ac w S⟩⟩
        · cases hq
    · cases hq
 split at h
 · rename_i l ht hx
   obtain ⟨a', b', h1, h2⟩ := bnd h
   obtain ⟨p, q, h3, h4, h5, h6, h7⟩ := cutK_some h1
   refine ⟨_, st, h3, .pure (StEq.refl st) fun B g a w S => ?_⟩
   obtain ⟨hl, hh⟩ := h2 B g a w S
   have hT := (not_tup hE ht (by simp)).is_str
   exact pure_same_v S (by simp only [execOp, ho]; rfl) (sliceStr_sound hT (S.ev hx) hl hh h4 h5 h6 h7) (.data (.str _))
 · rename_i e sz nm s cs ht hx
   cases hs : Nat.beq s sz || Nat.beq s 0 with
   | false => rw [hs] at h; cases h
   | true =>
    rw [hs] at h
    simp only [condA_true] at h
    have hs' : s = sz ∨ s = 0 := by
     rw [Bool.or_eq_true] at hs
     exact hs.imp Nat.eq_of_beq_eq_true Nat.eq_of_beq_eq_true
    obtain ⟨a', b', h1, h2⟩ := bnd h
    obtain ⟨p, q, h3, h4, h5, h6, h7⟩ := cutK_some h1
    refine ⟨_, st, h3, .pure (StEq.refl st) fun B g a w S => ?_⟩
    obtain ⟨hl, hh⟩ := h2 B g a w S
    obtain ⟨u, h8, h9⟩ := sliceSl_sound (not_tup hE ht (by simp)) (S.ev hx) hs' hl hh h4 h5 h6 h7
    exact pure_same_v S (by simp only [execOp, ho]; rfl) h8 (.data h9)
 · cases h
end
end AX
end Go.Proofs.YtfbicbgdfcbhpaaGreatDoor
namespace Go.Proofs.YtfbicbgdfcbhpaaGreatDoor
namespace AX
variable [Inv]
open Go.RowKit
variable {P : Program} {R : Type}
section
variable {E : Env} {call : CallF} (hE : EnvOk P E)
omit [Inv] in
theorem size_or {s sz : Nat} (h : (Nat.beq s sz || Nat.beq s 0) = true) : s = sz ∨ s = 0 := by
 rw [Bool.or_eq_true] at h
 exact h.imp Nat.eq_of_beq_eq_true Nat.eq_of_beq_eq_true
include hE
theorem aop_buildSlice {full : Bool} {o : Oper} {t : TypeId} {len : Nat} {parts : Array (Nat × Operand)} {st : St} {k : AV → St → Option R} {r : R} (ho : o.op = .buildSlice t len parts) (h : aop E call full o st k = some r) : ∃ av st', k av st' = some r ∧ Res P o full st av st' := by
 unfold aop at h
 simp only [ho] at h
 split at h
 · rename_i e sz ps ht hps
   split at h
   · rename_i ti hti
     rw [partsK_bind] at h
     obtain ⟨ps', h1, h2⟩ := bind_some_inv h
     cases hc : Nat.blt 0 (len * sz) && Nat.ble (len * sz) 1000000 with
     | false => rw [hc] at h2; cases h2
     | true =>
      rw [hc] at h2
      simp only [condA_true] at h2
      rw [Bool.and_eq_true] at hc
      have hpos : 0 < len * sz := Nat.lt_of_lt_of_le Nat.zero_lt_one (by simpa [Nat.blt] using hc.1)
      have hle : len * sz ≤ 1000000 := Nat.le_of_ble_eq_true hc.2
      split at h2
      · rename_i cs hcs
        have hT := not_tup hE ht (by simp)
        obtain ⟨hti, hnt⟩ := tyN_some hti
        have hE2 := not_tup hE hti hnt
        obtain ⟨_, hsz, hz0, _⟩ := hT.is_slice
        refine born_sound hsz h2 fun B g a w S K Q hK => ?_
        obtain ⟨cs', vs, h3, h4, h5, h6⟩ := buildSlice_sound (k := some) S hT hE2 hps hpos hle (by rw [partsK_bind, h1]; simp only [Option.bind_some, hcs]; rfl)
        cases h3
        have hcl : cs.length = len * sz := by rw [← h5.1, h6]
        obtain ⟨hG, hR⟩ := fresh_row (g := g) (w := w) (w' := w.alloc (.cells vs e)) (cs := cs) (f := fun j => vs.getD j undef) (len := len) (cap := len) (sz := sz) S.live ((Below.refl _ _).alloc (Nat.le_refl _) _) (by show w.heap.size < (w.heap.push _).size; simp) (fun j hj => by
         rw [cell_of_row _ _ j vs e (0, 0) (heap_alloc_new w _)]
         have : j < vs.size := by rw [h6, ← hcl]; exact hj
         rw [Array.getElem?_eq_getElem this]; simp [Array.getD, this]) (fun j c hc => by
         have hj : j < vs.size := by rw [h6, ← hcl]; exact (List.getElem?_eq_some_iff.1 hc).1
         exact h5.2 j _ c (by simp [Array.getD, hj]) hc) hcl hz0 (Nat.le_refl _)
        refine wp_value (o := o) (v := .slice (some ⟨w.heap.size, 0, none⟩) len len) (w' := w.alloc (.cells vs e)) ?_ (hK _ _ _ hG hR ⟨len, vs.toList, ⟨by simp [h6], .inr ⟨w.heap.size, len, vs, rfl, Nat.zero_le _, heap_alloc_new w _, Nat.le_refl _, ?_, h6, List.take_of_length_le (by rw [Array.length_toList, h6]; exact Nat.le_refl _)⟩⟩, fun b j hb hm => ?_⟩ fun b hb => ?_)
        · simp only [execOp, ho]; exact run_v h4
        · unfold maxLen
          have : len ≤ len * sz := Nat.le_mul_of_pos_right _ hz0
          omega
        · simp only [Value.ownBlock, Option.some.injEq] at hb
          subst hb
          rcases hm with hm | ⟨_, hm⟩
          · have := S.live _ j hm; omega
          · rw [← hcl]; exact hm
        · simp only [Value.ownBlock, Option.some.injEq] at hb
          omega
      · cases h2
   · cases h
 · cases h
theorem aop_convert {full : Bool} {o : Oper} {src dst : TypeId} {x : Operand} {st : St} {k : AV → St → Option R} {r : R} (ho : o.op = .convert src dst x) (h : aop E call full o st k = some r) : ∃ av st', k av st' = some r ∧ Res P o full st av st' := by
 unfold aop at h
 simp only [ho] at h
 split at h
 · rename_i k1 kd k2 n hs hd hx
   refine ⟨_, st, h, .pure (StEq.refl st) fun B g a w S => ?_⟩
   have e := (S.ev hx).int_inv
   have h1 := (not_tup hE hs (by simp)).is_int
   have h2 := (not_tup hE hd (by simp)).is_int
   refine pure_same_v S (v := .int kd (kd.wrap n)) (by simp only [execOp, ho]; rfl) ?_ (.data (.int _ _))
   rw [e]
   simp [convert, run_underlying h1, run_underlying h2, Conv.intToInt]
 · rename_i e sz l hs hd hx
   cases hc : Nat.beq sz 1 with
   | false => rw [hc] at h; cases h
   | true =>
    rw [hc] at h
    simp only [condA_true] at h
    split at h
    · rename_i he
      have h1 := (not_tup hE hs (by simp)).is_str
      obtain ⟨h2, _⟩ := (not_tup hE hd (by simp)).is_slice
      have h3 := (not_tup hE he (by simp)).is_int
      cases hbx : isBoxed E o.dst with
      | true =>
       rw [hbx] at h
       simp only [condA_true] at h
       cases full with
       | false => cases h
       | true =>
       simp only [condA_true] at h
       refine ⟨_, _, h, .eff1 fun B g a w S K Q hK => ?_⟩
       obtain ⟨u, w', g', h4, h5, h6⟩ := convRow_sound S h1 h2 h3 (S.ev hx)
       exact wp_value (by simp only [execOp, ho]; exact run_v h4) (hK _ _ _ h5 h6)
      | false =>
      rw [hbx] at h
      simp only [condA_false] at h
      refine ⟨_, st, h, .pure (StEq.refl st) fun B g a w S K Q hK => ?_⟩
      obtain ⟨u, w', h4, h5, h6⟩ := convSB_sound S.live h1 h2 h3 (S.ev hx)
      exact wp_value (by simp only [execOp, ho]; exact run_v h4) (hK _ _ _ h5 (.data h6))
    · cases h
 · rename_i e sz b sz' n hs hd hx
   cases hc : Nat.beq sz 1 with
   | false => rw [hc] at h; cases h
   | true =>
    rw [hc] at h
    simp only [condA_true] at h
    split at h
    · rename_i he
      obtain ⟨xs, hb, h⟩ := rowK_some h
      cases hnl : Nat.ble n xs.length with
      | false => rw [hnl] at h; cases h
      | true =>
      rw [hnl] at h
      simp only [condA_true] at h
      rw [bytesK_bind] at h
      obtain ⟨l, h1, h2⟩ := bind_some_inv h
      refine ⟨_, st, h2, .pure (StEq.refl st) fun B g a w S => ?_⟩
      obtain ⟨l', h3, h4⟩ := rowStr_sound (k := some) S (not_tup hE hs (by simp)).is_slice.1 (not_tup hE hd (by simp)).is_str (not_tup hE he (by simp)).is_int (S.ev hx) hb h1 (Nat.le_of_ble_eq_true hnl)
      cases h3
      exact pure_same_v S (by simp only [execOp, ho]) h4 (.data (.str _))
    · cases h
 · rename_i e sz nm s cs hs hd hx
   cases hc : Nat.beq sz 1 && (Nat.beq s sz || Nat.beq s 0) with
   | false => rw [hc] at h; cases h
   | true =>
    rw [hc] at h
    simp only [condA_true] at h
    rw [Bool.and_eq_true] at hc
    split at h
    · rename_i he
      rw [bytesK_bind] at h
      obtain ⟨l, h1, h2⟩ := bind_some_inv h
      refine ⟨_, st, h2, .pure (StEq.refl st) fun B g a w S => ?_⟩
      obtain ⟨l', h3, h4⟩ := convBS_sound (not_tup hE hs (by simp)) (not_tup hE hd (by simp)).is_str (not_tup hE he (by simp)).is_int (Nat.eq_of_beq_eq_true hc.1) (S.ev hx) (size_or hc.2) h1
      cases h3
      exact pure_same_v S (by simp only [execOp, ho]) h4 (.data (.str _))
    · cases h
 · cases h
theorem aop_fieldAddr {full : Bool} {o : Oper} {t : TypeId} {x : Operand} {f : Nat} {st : St} {k : AV → St → Option R} {r : R} (ho : o.op = .fieldAddr t x f) (h : aop E call full o st k = some r) : ∃ av st', k av st' = some r ∧ Res P o full st av st' := by
 unfold aop at h
 simp only [ho] at h
 split at h
 · rename_i l fs b oo ht hx
   split at h
   · rename_i o' n t' hf
     refine ⟨_, st, h, .pure (StEq.refl st) fun B g a w S => ?_⟩
     obtain ⟨u, h1, h2⟩ := fieldAddr_sound (not_tup hE ht (by simp)) hf (S.ev hx) (.inl ⟨b, oo, rfl, rfl⟩)
     exact pure_same_v S (by simp only [execOp, ho]) h1 h2
   · cases h
 · rename_i l fs cs ht hx
   split at h
   · rename_i o' n t' hf
     refine ⟨_, st, h, .pure (StEq.refl st) fun B g a w S => ?_⟩
     obtain ⟨u, h1, h2⟩ := fieldAddr_sound (not_tup hE ht (by simp)) hf (S.ev hx) (.inr ⟨cs, rfl, rfl⟩)
     exact pure_same_v S (by simp only [execOp, ho]) h1 h2
   · cases h
 · rename_i l fs b oo ht hx
   split at h
   · rename_i o' n t' hf
     refine ⟨_, st, h, .pure (StEq.refl st) fun B g a w S => ?_⟩
     obtain ⟨blk, he, hb⟩ := (S.ev hx).bptr_inv
     obtain ⟨u, h1, h2⟩ := fieldAddr_sound (g := g) (w := w) (v := a.eval x) (c := .ptr b (oo + o')) (not_tup hE ht (by simp)) hf (by rw [he]; exact .ptr b oo blk hb) (.inl ⟨b, oo, rfl, rfl⟩)
     refine pure_same_v S (by simp only [execOp, ho]) h1 ?_
     obtain ⟨blk', rfl, hb'⟩ := h2.ptr_inv
     exact .bptr _ _ _ hb'
   · cases h
 · cases h
theorem aop_field {full : Bool} {o : Oper} {t : TypeId} {x : Operand} {f : Nat} {st : St} {k : AV → St → Option R} {r : R} (ho : o.op = .field t x f) (h : aop E call full o st k = some r) : ∃ av st', k av st' = some r ∧ Res P o full st av st' := by
 unfold aop at h
 simp only [ho] at h
 split at h
 · rename_i l fs cs ht hx
   split at h
   · rename_i o' n t' hf
     split at h
     · rename_i ti hti
       obtain ⟨hti, hnt⟩ := tyN_some hti
       cases hA : ti.isAgg with
       | true =>
        rw [hA] at h
        simp only [condA_true] at h
        refine ⟨_, st, h, .pure (StEq.refl st) fun B g a w S => ?_⟩
        obtain ⟨u, h1, h2⟩ := (field_sound (not_tup hE ht (by simp)) hf (not_tup hE hti hnt) (S.ev hx)).1 hA
        exact pure_same_v S (by simp only [execOp, ho]) h1 h2
       | false =>
        rw [hA] at h
        simp only [condA_false] at h
        split at h
        · rename_i c hc
          refine ⟨_, st, h, .pure (StEq.refl st) fun B g a w S => ?_⟩
          obtain ⟨u, h1, h2⟩ := (field_sound (not_tup hE ht (by simp)) hf (not_tup hE hti hnt) (S.ev hx)).2 hA c hc
          exact pure_same_v S (by simp only [execOp, ho]) h1 h2
        · cases h
     · cases h
   · cases h
 · cases h
theorem aop_indexAddr {full : Bool} {o : Oper} {t : TypeId} {x i : Operand} {st : St} {k : AV → St → Option R} {r : R} (ho : o.op = .indexAddr t x i) (h : aop E call full o st k = some r) : ∃ av st', k av st' = some r ∧ Res P o full st av st' := by
 unfold aop at h
 simp only [ho] at h
 split at h
 · rename_i e sz nm s cs kd n ht hx hi
   cases hc : Nat.beq s sz || Nat.beq s 0 with
   | false => rw [hc] at h; cases h
   | true =>
    rw [hc] at h
    simp only [condA_true] at h
    have hs := size_or hc
    cases h1 : Nat.beq sz 1 with
    | true =>
     rw [h1] at h
     simp only [condA_true] at h
     have e1 := Nat.eq_of_beq_eq_true h1
     subst e1
     obtain ⟨c, h0, h2, h3⟩ := itemK_some h
     have hlt : n.toNat < cs.length := (List.getElem?_eq_some_iff.1 h2).1
     refine ⟨_, st, h3, .pure (StEq.refl st) fun B g a w S => ?_⟩
     obtain ⟨u, h4, h5⟩ := indexSl_sound (kd := kd) (not_tup hE ht (by simp)) (S.ev hx) hs h0 (by omega)
     have e2 : (cs.drop (n.toNat * 1)).take 1 = [c] := by
      have h6 : cs[n.toNat] = c := (List.getElem?_eq_some_iff.1 h2).2
      rw [Nat.mul_one, List.drop_eq_getElem_cons hlt, h6]
      rfl
     rw [e2] at h5
     rw [← (S.ev hi).int_inv] at h4
     exact pure_same_v S (by simp only [execOp, ho]) h4 h5
    | false =>
     rw [h1] at h
     simp only [condA_false] at h
     obtain ⟨hb, h2⟩ := guardB_some h
     rw [Bool.and_eq_true, decide_eq_true_eq, decide_eq_true_eq] at hb
     refine ⟨_, st, h2, .pure (StEq.refl st) fun B g a w S => ?_⟩
     obtain ⟨u, h4, h5⟩ := indexSl_sound (kd := kd) (not_tup hE ht (by simp)) (S.ev hx) hs hb.1 hb.2
     rw [← (S.ev hi).int_inv] at h4
     exact pure_same_v S (by simp only [execOp, ho]) h4 h5
 · rename_i e sz b sz' m kd n ht hx hi
   obtain ⟨hb, h2⟩ := guardB_some h
   rw [Bool.and_eq_true, decide_eq_true_eq, decide_eq_true_eq] at hb
   refine ⟨_, st, h2, .pure (StEq.refl st) fun B g a w S => ?_⟩
   obtain ⟨blk, cap, he, hbx, _, _⟩ := (S.ev hx).bsl_inv
   have h4 := indexRow_run (kd := kd) (blk := blk) (cap := cap) (w := w) (not_tup hE ht (by simp)) hb.1 hb.2
   rw [← he, ← (S.ev hi).int_inv] at h4
   exact pure_same_v S (by simp only [execOp, ho]) h4 (.bptr _ _ _ hbx)
 · rename_i l len sz e b oo kd n ht hx hi
   obtain ⟨hb, h2⟩ := guardB_some h
   rw [Bool.and_eq_true, decide_eq_true_eq, decide_eq_true_eq] at hb
   refine ⟨_, st, h2, .pure (StEq.refl st) fun B g a w S => ?_⟩
   obtain ⟨u, h4, h5⟩ := indexArr_sound (kd := kd) (not_tup hE ht (by simp)) (S.ev hx) hb.1 hb.2
   rw [← (S.ev hi).int_inv] at h4
   exact pure_same_v S (by simp only [execOp, ho]) h4 h5
 · cases h
theorem aop_len {full : Bool} {o : Oper} {args : Array Operand} {argTypes : Array TypeId} {st : St} {k : AV → St → Option R} {r : R} (ho : o.op = .call ⟨.builtin .len, args, argTypes⟩) (h : aop E call full o st k = some r) : ∃ av st', k av st' = some r ∧ Res P o full st av st' := by
 unfold aop at h
 simp only [ho] at h
 split at h
 · rename_i t x hts hxs
   have hta : argTypes = #[t] := by
    apply Array.toList_inj.1; rw [hts]
   obtain ⟨y, hy⟩ : ∃ y, args = #[y] := by
    cases hl : args.toList with
    | nil => rw [hl] at hxs; cases hxs
    | cons y l => cases l with
     | nil => exact ⟨y, by apply Array.toList_inj.1; rw [hl]⟩
     | cons z l =>
      rw [hl] at hxs
      simp only [evl] at hxs
      split at hxs
      · rename_i v l2 _ h2
        split at h2
        · cases h2; cases hxs
        · cases h2
      · cases hxs
   subst hta; subst hy
   have hev : ev st y = some x := by
    simp only [evl] at hxs
    split at hxs
    · rename_i v l hv hl
      cases hl; cases hxs; exact hv
    · cases hxs
   have hx : ∀ (a : Act), execOp a.eval o = (do pure (Next.value (← Builtin.len_ #[t] o.type #[a.eval y])) : Sem Next) := fun a => by
    simp [execOp, ho, resolve, invoke, builtin]
   split at h
   · rename_i l ht
     refine ⟨_, st, h, .pure (StEq.refl st) fun B g a w S => ?_⟩
     exact pure_same_v S (hx a) (len_sound (n := (l.length : Int)) rfl (S.ev hev) (.inl ⟨l, rfl, (not_tup hE ht (by simp)).is_str⟩)) (.data (.int _ _))
   · rename_i e sz' nm s cs ht
     refine ⟨_, st, h, .pure (StEq.refl st) fun B g a w S => ?_⟩
     obtain ⟨hu, _⟩ := (not_tup hE ht (by simp)).is_slice
     exact pure_same_v S (hx a) (len_sound (n := ((cs.length / s : Nat) : Int)) rfl (S.ev hev) (.inr ⟨nm, s, cs, e, rfl, hu⟩)) (.data (.int _ _))
   · rename_i e sz' b s n ht
     refine ⟨_, st, h, .pure (StEq.refl st) fun B g a w S => ?_⟩
     obtain ⟨hu, _⟩ := (not_tup hE ht (by simp)).is_slice
     obtain ⟨blk, cap, he, _, _, _⟩ := (S.ev hev).bsl_inv
     exact pure_same_v S (hx a) (by rw [he]; exact lenRow_run hu) (.data (.int _ _))
   · cases h
 · cases h
end
end AX
end Go.Proofs.YtfbicbgdfcbhpaaGreatDoor
namespace Go.Proofs.YtfbicbgdfcbhpaaGreatDoor
namespace AX
variable [Inv]
open Go.RowKit
variable {P : Program} {R : Type}
omit [Inv] in
theorem All2.get {α β : Type} {C : α → β → Prop} {l : List α} {m : List β} (h : All2 C l m) : l.length = m.length := by induction h with | nil => rfl | cons _ _ ih => simp [ih]
omit [Inv] in
theorem All2.imp {α β γ : Type} {C : α → β → Prop} {D : γ → β → Prop} {f : α → γ} {l : List α} {m : List β} (h : All2 C l m) (hi : ∀ a b, a ∈ l → C a b → D (f a) b) : All2 D (l.map f) m := by
 induction h with
 | nil => exact .nil
 | cons h1 _ ih => exact .cons (hi _ _ List.mem_cons_self h1) (ih fun a b ha => hi a b (List.mem_cons_of_mem _ ha))
omit [Inv] in
theorem Rv.toBare {g g' : Gh} {w : World} {v : Value} {x : AV} (h : Rv g w v x) (hp : x.hasPtr = false) (hM : g'.M = g.M) : Rv g' w v x.bare := by
 have hc : ∀ v c, Rc g w v c → hasPtr c = false → Rc g' w v c.bare := fun v c h hp => .data (by rw [hM]; exact h.toData hp)
 have hA : ∀ vs cs, RvA g w vs cs → cs.any hasPtr = false → RvA g' w vs (cs.map Cell.bare) := fun vs cs h hp => by
  refine ⟨by rw [List.length_map]; exact h.1, fun i v c hv hcc => ?_⟩
  rw [List.getElem?_map] at hcc
  cases hi : cs[i]? with
  | none => rw [hi] at hcc; cases hcc
  | some c0 =>
   rw [hi] at hcc; cases hcc
   refine hc _ _ (h.2 i v c0 hv hi) ?_
   rw [List.any_eq_false] at hp
   have := hp c0 (List.mem_of_getElem? hi)
   simpa using this
 cases x with
 | one c => exact hc _ _ h hp
 | agg cs => obtain ⟨vs, rfl, h⟩ := h; exact ⟨vs, rfl, hA vs cs h hp⟩
 | tup xs =>
  obtain ⟨vs, rfl, h1, h2⟩ := h
  refine ⟨vs, rfl, by rw [List.length_map]; exact h1, fun i u x hu hx => ?_⟩
  rw [List.getElem?_map] at hx
  cases hi : xs[i]? with
  | none => rw [hi] at hx; cases hx
  | some x0 =>
   rw [hi] at hx; cases hx
   have hp0 : x0.hasPtr = false := by
    have hp' : xs.any V1.hasPtr = false := hp
    rw [List.any_eq_false] at hp'
    have := hp' x0 (List.mem_of_getElem? hi)
    simpa using this
   have hr := h2 i u x0 hu hi
   cases x0 with
   | one c => exact hc _ _ hr (by simpa [V1.hasPtr, V1.cells] using hp0)
   | agg cs => obtain ⟨vs', rfl, hr⟩ := hr; exact ⟨vs', rfl, hA vs' cs hr hp0⟩
 | undef => exact h
omit [Inv] in
theorem castV1_sound {g : Gh} {w : World} {u : Value} {t : TI} {v v' : V1} (h : castV1 t v some = some v') (hv : Rv1 g w u v) : Rv1 g w u v' := by
 have hx : ∀ (l : List TI) (cs : List Cell), castXs l cs (fun cs' => some (V1.agg cs')) = some v' → (∃ vs, u = .agg vs ∧ RvA g w vs cs) → Rv1 g w u v' := fun l cs h hv => by
  obtain ⟨vs, rfl, hA⟩ := hv
  obtain ⟨cs', h1, h2⟩ := castXs_sound l _ cs h hA.toL
  cases h1
  exact ⟨vs, rfl, by simpa using h2.1, fun i v c hv hc => h2.2 i v c (by simpa using hv) hc⟩
 have hc : ∀ (t : TI) (c : Cell), castC t c (fun c' => some (V1.one c')) = some v' → Rc g w u c → Rv1 g w u v' := fun t c h hv => by
  obtain ⟨c', h1, h2⟩ := castC_sound h hv
  cases h1
  exact h2
 cases t <;> cases v <;> first
  | (cases h; done)
  | exact hx _ _ h hv
  | (simp only [castV1] at h; exact hc _ _ h hv)
theorem castVs_sound {g : Gh} {w : World} : ∀ (ts : List TI) (us : List Value) (vs vs' : List V1), castVs ts vs some = some vs' → us.length = vs.length → (∀ (i : Nat) u x, us[i]? = some u → vs[i]? = some x → Rv1 g w u x) →
 us.length = vs'.length ∧ ∀ (i : Nat) u x, us[i]? = some u → vs'[i]? = some x → Rv1 g w u x
 | [], us, [], vs', h, hl, hR => by cases h; exact ⟨hl, hR⟩
 | [], us, v :: vs, vs', h, hl, hR => by cases h
 | t :: ts, us, [], vs', h, hl, hR => by cases h
 | t :: ts, [], v :: vs, vs', h, hl, hR => by simp at hl
 | t :: ts, u :: us, v :: vs, vs', h, hl, hR => by
  simp only [castVs] at h
  rw [castV1_bind] at h
  obtain ⟨v', h1, h2⟩ := bind_some_inv h
  rw [castVs_bind] at h2
  obtain ⟨vs2, h3, h4⟩ := bind_some_inv h2
  cases h4
  obtain ⟨h5, h6⟩ := castVs_sound ts us vs vs2 h3 (by simpa using hl) (fun i u x hu hx => hR (i + 1) u x hu hx)
  refine ⟨by simp [h5], fun i u' x hu hx => ?_⟩
  cases i with
  | zero => simp at hu hx; subst hu; subst hx; exact castV1_sound h1 (hR 0 u v rfl rfl)
  | succ i => exact h6 i u' x (by simpa using hu) (by simpa using hx)
theorem castV_sound {g : Gh} {w : World} {u : Value} {t : TI} {v v' : AV} (h : castV t v some = some v') (hv : Rv g w u v) : Rv g w u v' := by
 have hc : ∀ (t : TI) (x : V1), castV1 t x (fun c' => some c'.av) = some v' → Rv1 g w u x → Rv g w u v' := fun t x h hv => by
  rw [castV1_bind] at h
  obtain ⟨x', h1, h2⟩ := bind_some_inv h
  cases h2
  exact (castV1_sound h1 hv).av
 have ht : ∀ (ts : List TI) (vs : List V1), castVs ts vs (fun vs' => some (AV.tup vs')) = some v' → Rv g w u (.tup vs) → Rv g w u v' := fun ts vs h hv => by
  rw [castVs_bind] at h
  obtain ⟨vs', h1, h2⟩ := bind_some_inv h
  cases h2
  obtain ⟨us, rfl, h3, h4⟩ := hv
  obtain ⟨h5, h6⟩ := castVs_sound ts us.toList vs vs' h1 (by simpa using h3) (fun i u x hu hx => h4 i u x (by simpa using hu) hx)
  exact ⟨us, rfl, by simpa using h5, fun i u x hu hx => h6 i u x (by simpa using hu) hx⟩
 cases t <;> cases v <;> first
  | (cases h; done)
  | exact ht _ _ h hv
  | (simp only [castV] at h; exact hc _ (.one _) h hv)
  | (simp only [castV] at h; exact hc _ (.agg _) h hv)
omit [Inv] in
theorem wp_callF {o : Oper} {a : Act} {w : World} {K : Act → World → Prop} {Q : Exit → Act → World → Prop} {f : FuncId} {args : Array Operand} {tys : Array TypeId} {fn : Func} (ho : o.op = .call ⟨.value (.func f), args, tys⟩) (hf : P.funcs[f]? = some fn) (hb : fn.body.isSome = true) (hn : fn.name ≠ "runtime.NumGoroutine")
 (hc : Calls P f (args.map a.eval) w fun e w' => ∃ u, e = .returned u ∧ K (a.put o.dst u) w') : o.wp P a w K Q := by
 have hrun : (execOp a.eval o).run P w = .ok (.enter f (args.map a.eval)) w := by
  have hb2 : ¬ fn.body = none := by cases hx : fn.body with | none => rw [hx] at hb; cases hb | some _ => simp
  simp [execOp, ho, resolve, Deferred.ofValue, Act.eval, invoke, callFunc, hf, hb2, hn]
 unfold Oper.wp
 rw [hrun]
 show Calls P f (args.map a.eval) w _
 refine hc.mono fun e w' h => ?_
 obtain ⟨u, rfl, h⟩ := h
 exact h
section
variable {E : Env} {call : CallF} (hE : EnvOk P E) (hC : CallOk P call)
include hE
theorem aop_index {full : Bool} {o : Oper} {t : TypeId} {x i : Operand} {st : St} {k : AV → St → Option R} {r : R} (ho : o.op = .index t x i) (h : aop E call full o st k = some r) : ∃ av st', k av st' = some r ∧ Res P o full st av st' := by
 unfold aop at h
 simp only [ho] at h
 split at h
 · rename_i l kd n ht hx hi
   obtain ⟨c, h0, h1, h2⟩ := itemK_some h
   refine ⟨_, st, h2, .pure (StEq.refl st) fun B g a w S => ?_⟩
   have h4 := indexStr_sound (P := P) (kd := kd) (not_tup hE ht (by simp)).is_str (S.ev hx) h0 h1
   rw [← (S.ev hi).int_inv] at h4
   exact pure_same_v S (by simp only [execOp, ho]) h4 (.data (.int _ _))
 · cases h
theorem aop_store {full : Bool} {o : Oper} {t : TypeId} {x y : Operand} {st : St} {k : AV → St → Option R} {r : R} (ho : o.op = .store t x y) (h : aop E call full o st k = some r) : ∃ av st', k av st' = some r ∧ Res P o full st av st' := by
 unfold aop at h
 simp only [ho] at h
 cases full with
 | false => cases h
 | true =>
  simp only [condA_true] at h
  split at h
  · rename_i ti b oo v ht hx hy
    obtain ⟨ht, hnt⟩ := tyN_some ht
    split at h
    · rename_i cs hcs
      cases hc : Nat.beq cs.length ti.leaves.length with
      | false => rw [hc] at h; cases h
      | true =>
       rw [hc] at h
       simp only [condA_true] at h
       split at h
       · rename_i H' hH
         refine ⟨_, _, h, .eff1 fun B g a w S K Q hK => ?_⟩
         obtain ⟨w', h1, h2⟩ := store_sound S (t := t) (by rw [Nat.eq_of_beq_eq_true hc]; exact (not_tup hE ht hnt).size) (S.ev hx) (S.ev hy) hcs hH
         unfold Oper.wp
         have hrun : (execOp a.eval o).run P w = .ok .skip w' := by simp [execOp, ho, h1]
         rw [hrun]
         exact hK undef w' g rfl h2
       · cases h
    · cases h
  · rename_i ti b oo v ht hx hy
    obtain ⟨ht, hnt⟩ := tyN_some ht
    split at h
    · rename_i cs hcs
      cases hc : Nat.beq cs.length ti.leaves.length with
      | false => rw [hc] at h; cases h
      | true =>
       rw [hc] at h
       simp only [condA_true] at h
       rw [dataK_bind] at h
       obtain ⟨cs', hd, h⟩ := bind_some_inv h
       obtain ⟨xs, hb, h⟩ := rowK_some h
       rw [putR_bind] at h
       obtain ⟨xs', hq, h⟩ := bind_some_inv h
       refine ⟨_, _, h, .eff1 fun B g a w S K Q hK => ?_⟩
       obtain ⟨xs2, w', h0, h1, h2⟩ := storeR_sound (k := some) S (t := t) (by rw [Nat.eq_of_beq_eq_true hc]; exact (not_tup hE ht hnt).size) (S.ev hx) (S.ev hy) hcs hb (by rw [dataK_bind, hd]; exact hq)
       cases h0
       unfold Oper.wp
       have hrun : (execOp a.eval o).run P w = .ok .skip w' := by simp [execOp, ho, h1]
       rw [hrun]
       exact hK undef w' g rfl h2
    · cases h
  · cases h
omit [Inv] hE in
theorem flatten_rep {l : List Cell} {sz : Nat} (hl : l.length = sz) (h0 : 0 < sz) : ∀ (n j : Nat), j < n * sz → (List.replicate n l).flatten[j]? = l[j % sz]?
 | 0, j, h => by simp at h
 | n + 1, j, h => by
  rw [List.replicate_succ, List.flatten_cons, List.getElem?_append]
  split
  · rename_i hlt
    rw [Nat.mod_eq_of_lt (by omega)]
  · rename_i hge
    have h2 : (n + 1) * sz = n * sz + sz := by rw [Nat.add_mul, Nat.one_mul]
    subst hl
    rw [flatten_rep rfl h0 n (j - l.length) (by omega), ← Nat.mod_eq_sub_mod (by omega : l.length ≤ j)]
theorem aop_makeMap {full : Bool} {o : Oper} {t : TypeId} {x : Option Operand} {st : St} {k : AV → St → Option R} {r : R} (ho : o.op = .makeMap t x) (h : aop E call full o st k = some r) : ∃ av st', k av st' = some r ∧ Res P o full st av st' := by
 unfold aop at h
 simp only [ho] at h
 cases full with
 | false => cases h
 | true =>
  simp only [condA_true] at h
  split at h
  · refine ⟨_, _, h, .eff1 fun B g a w S K Q hK => ?_⟩
    obtain ⟨g', h1, h2⟩ := newMap_sound S
    refine wp_value (v := .map (some w.heap.size)) (w' := w.alloc (.map #[] 0)) ?_ (hK _ _ g' h1 h2)
    simp only [execOp, ho]
    exact run_v (by simp [Instr.makeMap])
  · cases h
theorem aop_lookup {full : Bool} {o : Oper} {t : TypeId} {x y : Operand} {ok : Bool} {st : St} {k : AV → St → Option R} {r : R} (ho : o.op = .lookup t x y ok) (h : aop E call full o st k = some r) : ∃ av st', k av st' = some r ∧ Res P o full st av st' := by
 unfold aop at h
 simp only [ho] at h
 split at h
 · rename_i kt et b key ht hx hy
   split at h
   · rename_i kti eti hkt het
     obtain ⟨hkt, hn1⟩ := tyN_some hkt
     obtain ⟨het, hn2⟩ := tyN_some het
     cases hc : keyT kti && (!eti.isAgg && !hasPtr key) with
     | false => rw [hc] at h; cases h
     | true =>
      rw [hc] at h
      simp only [condA_true] at h
      simp only [Bool.and_eq_true, Bool.not_eq_true'] at hc
      obtain ⟨hc1, hc2, hc3⟩ := hc
      rw [castD_bind] at h
      obtain ⟨key', hk, h⟩ := bind_some_inv h
      obtain ⟨ck, ks, hb, h⟩ := mapK_some h
      rw [lookK_bind] at h
      obtain ⟨⟨c, there⟩, hl, h⟩ := bind_some_inv h
      simp only at h
      rw [castD_bind] at h
      obtain ⟨c', hcc, h⟩ := bind_some_inv h
      have hTm := not_tup hE ht (by simp)
      have hTk := not_tup hE hkt hn1
      have hTe := not_tup hE het hn2
      have main : ∀ (B : Base) g a w, Sim P B g st a w → ∃ v, (Instr.lookup t (a.eval x) (a.eval y) ok).run P w = .ok (if ok then .tuple #[v, .bool there] else v) w ∧ Rd g.M w v c' := fun B g a w S => by
       have hy2 : Rd g.M w (a.eval y) key.bare := Rc.toData (S.ev hy) hc3
       have hk2 : castD kti key.bare some = some key' := by
        cases kti <;> simp only [keyT, Bool.false_eq_true] at hc1 <;> cases key <;> first | exact hk | (simp [castD, castI, castB, castS] at hk)
       obtain ⟨v, h1, h2⟩ := lookup_sound (ok := ok) S hTm hTk hTe hc1 hc2 (S.ev hx) hy2 hk2 hb hl
       obtain ⟨c2, h3, h4⟩ := castD_sound hcc h2
       cases h3
       exact ⟨v, h1, h4⟩
      cases ok with
      | true =>
       simp only [condA_true] at h
       refine ⟨_, st, h, .pure (StEq.refl st) fun B g a w S => ?_⟩
       obtain ⟨v, h1, h2⟩ := main B g a w S
       refine pure_same_v S (by simp only [execOp, ho]) h1 ⟨_, rfl, rfl, fun i u z hu hz => ?_⟩
       match i, hu, hz with
       | 0, hu, hz => cases hu; cases hz; exact .data h2
       | 1, hu, hz => cases hu; cases hz; exact .data (.bool _)
       | n + 2, hu, _ => simp at hu
      | false =>
       simp only [condA_false] at h
       refine ⟨_, st, h, .pure (StEq.refl st) fun B g a w S => ?_⟩
       obtain ⟨v, h1, h2⟩ := main B g a w S
       exact pure_same_v S (by simp only [execOp, ho]) h1 (.data h2)
   · cases h
 · cases h
theorem update_run {full : Bool} {o : Oper} {t : TypeId} {m x y : Operand} {st : St} {k : AV → St → Option R} {r : R} (hx0 : ∀ a : Act, ∀ w w', (Instr.mapUpdate t (a.eval m) (a.eval x) (a.eval y)).run P w = .ok () w' → (execOp a.eval o).run P w = .ok .skip w')
    (h : condA (full) (
    (match ty E.T t, ev st m, ev st x, ev st y with
     | some (.map kt et), some (.one (.mapr b)), some (.one key), some (.one v) =>
       (match tyN E.T kt, tyN E.T et with
        | some kti, some eti =>
          condA (keyT kti && (!eti.isAgg && (!hasPtr key && !hasPtr v))) (castD kti key fun key' => castD eti v fun v' => mapK st.H b fun ck ks => updK key' v' ck ks fun ck' ks' => k .undef ⟨st.fr, st.H.set b [.map ck' ks']⟩) none
        | _, _ => none)
     | _, _, _, _ => none)) none = some r) : ∃ av st', k av st' = some r ∧ Res P o full st av st' := by
  cases full with
  | false => cases h
  | true =>
    simp only [condA_true] at h
    split at h
    · rename_i kt et b key v ht hm hx hy
      split at h
      · rename_i kti eti hkt het
        obtain ⟨hkt, hn1⟩ := tyN_some hkt
        obtain ⟨het, hn2⟩ := tyN_some het
        cases hc : keyT kti && (!eti.isAgg && (!hasPtr key && !hasPtr v)) with
        | false => rw [hc] at h; cases h
        | true =>
          rw [hc] at h
          simp only [condA_true] at h
          simp only [Bool.and_eq_true, Bool.not_eq_true'] at hc
          obtain ⟨hc1, hc2, hc3, hc4⟩ := hc
          rw [castD_bind] at h
          obtain ⟨key', hk, h⟩ := bind_some_inv h
          rw [castD_bind] at h
          obtain ⟨v', hv, h⟩ := bind_some_inv h
          obtain ⟨ck, ks, hb, h⟩ := mapK_some h
          rw [updK_bind] at h
          obtain ⟨⟨ck', ks'⟩, hu, h⟩ := bind_some_inv h
          refine ⟨_, _, h, .eff1 fun B g a w S K Q hK => ?_⟩
          have hy2 : Rd g.M w (a.eval x) key.bare := Rc.toData (S.ev hx) hc3
          have hk2 : castD kti key.bare some = some key' := by
            cases kti <;> simp only [keyT, Bool.false_eq_true] at hc1 <;> cases key <;> first | exact hk | (simp [castD, castI, castB, castS] at hk)
          have hv2 : Rd g.M w (a.eval y) v' := by
            have h5 : Rd g.M w (a.eval y) v.bare := Rc.toData (S.ev hy) hc4
            have h6 : castD eti v.bare some = some v' := by rw [← hv]; exact castD_bare eti v
            obtain ⟨c2, h3, h4⟩ := castD_sound h6 h5
            cases h3
            exact h4
          obtain ⟨w', h1, h2⟩ := update_sound S (not_tup hE ht (by simp)) (not_tup hE hkt hn1) hc1 (S.ev hm) hy2 hv2 hk2 hb hu
          unfold Oper.wp
          rw [hx0 a w w' h1]
          exact hK undef w' g rfl h2
      · cases h
    · cases h
theorem aop_mapUpdate {full : Bool} {o : Oper} {t : TypeId} {m x y : Operand} {st : St} {k : AV → St → Option R} {r : R} (ho : o.op = .mapUpdate t m x y) (h : aop E call full o st k = some r) : ∃ av st', k av st' = some r ∧ Res P o full st av st' :=
 update_run (t := t) (m := m) (x := x) (y := y) hE (fun a w w' hr => by simp [execOp, ho, hr]) (by unfold aop at h; simp only [ho] at h; exact h)
theorem aop_insert {full : Bool} {o : Oper} {t : TypeId} {m x y : Operand} {st : St} {k : AV → St → Option R} {r : R} (ho : o.op = .insert t m x y) (h : aop E call full o st k = some r) : ∃ av st', k av st' = some r ∧ Res P o full st av st' :=
 update_run (t := t) (m := m) (x := x) (y := y) hE (fun a w w' hr => by simp [execOp, ho, hr]) (by unfold aop at h; simp only [ho] at h; exact h)
theorem aop_makeSlice {full : Bool} {o : Oper} {t : TypeId} {x y : Operand} {st : St} {k : AV → St → Option R} {r : R} (ho : o.op = .makeSlice t x y) (h : aop E call full o st k = some r) : ∃ av st', k av st' = some r ∧ Res P o full st av st' := by
 unfold aop at h
 simp only [ho] at h
 cases full with
 | false => cases h
 | true =>
  simp only [condA_true] at h
  split at h
  · rename_i e sz kx n ky m ht hx hy
    split at h
    · rename_i ti hti
      obtain ⟨hti, hnt⟩ := tyN_some hti
      cases hc : decide (kx = .i64) && decide (ky = .i64) && decide (n = m) && decide (0 ≤ n) && decide (n.toNat * sz ≤ 1000000) with
      | false => rw [hc] at h; cases h
      | true =>
       rw [hc] at h
       simp only [condA_true] at h
       simp only [Bool.and_eq_true, decide_eq_true_eq] at hc
       obtain ⟨⟨⟨⟨rfl, rfl⟩, rfl⟩, h0⟩, hle⟩ := hc
       have hT := not_tup hE ht (by simp)
       obtain ⟨hu, hsz, hz0, hby⟩ := hT.is_slice
       have hTe := not_tup hE hti hnt
       refine ⟨_, _, h, .eff1 fun B g a w S K Q hK => ?_⟩
       obtain ⟨i, d, z, hi, hd, his, hds, hz, hzl⟩ := hTe.ex
       have hcz : P.cellsOf e = i.size := by unfold Program.cellsOf; rw [hi]; rfl
       have hzs : z.cells.size = sz := by
        have := leavesOk_len _ _ hzl
        rw [← hsz, hcz, his]; simpa using this
       have hnn : n.toNat ≤ n.toNat * sz := Nat.le_mul_of_pos_right _ hz0
       have hbi : i.bytes ≤ 1000 := by
        have h9 := hby
        unfold Program.bytesOf at h9
        rw [hi] at h9
        simpa using h9
       have hrun := run_makeSlice w t e i z hu hi hz .i64 .i64 n n h0 (Int.le_refl _) (by rw [← hcz, hsz]; omega) (by
        have : (i.bytes : Int) * n ≤ 1000 * n := Int.mul_le_mul_of_nonneg_right (by omega) h0
        omega) (by omega)
       rw [← hcz, hsz] at hrun
       have hms : (madeCells z.cells (n.toNat * sz)).size = n.toNat * sz := by simp [madeCells]
       have hzr := zeros_data (M := g.M) (w := w) ti.leaves z.cells.toList hzl
       have hlen : (List.replicate n.toNat (zerosU ti.leaves)).flatten.length = n.toNat * sz := by
        rw [List.length_flatten, List.map_replicate, List.sum_replicate_nat, hzr.1]; simp [hzs]
       have hRR : ∀ (j : Nat) v c, (madeCells z.cells (n.toNat * sz))[j]? = some v → (List.replicate n.toNat (zerosU ti.leaves)).flatten[j]? = some c → Rd g.M w v c := fun j v c hv hc => by
        have hj : j < n.toNat * sz := by rw [← hlen]; exact (List.getElem?_eq_some_iff.1 hc).1
        have e1 : (zerosU ti.leaves)[j % sz]? = some c := by
         rw [← flatten_rep (by rw [hzr.1]; simpa using hzs) hz0 n.toNat j hj]; exact hc
        have e2 : z.cells.toList[j % sz]? = some v := by
         have hjm : j % sz < z.cells.size := by rw [hzs]; exact Nat.mod_lt _ hz0
         simp only [madeCells] at hv
         rw [Array.getElem?_map, Array.getElem?_range, if_pos hj] at hv
         simp only [Option.map_some, Option.some.injEq] at hv
         subst hv
         rw [hzs, getElem!_pos z.cells (j % sz) hjm]
         simp [hjm]
        exact hzr.2 _ v c e2 e1
       obtain ⟨g', h5, h6⟩ := newRow_sound (xs := (List.replicate n.toNat (zerosU ti.leaves)).flatten) (n := n.toNat) (sz := sz) (cap := n.toNat) S ((Below.refl _ w).alloc (Nat.le_refl _) (.cells (madeCells z.cells (n.toNat * sz)) e)) (by simp) (heap_alloc_new w _) (.inl rfl) (by rw [hlen, hms]; exact Nat.le_refl _) hRR hz0 (Nat.le_refl _)
       have hex : (execOp a.eval o).run P w = .ok (.value (.slice (some ⟨w.heap.size, 0, none⟩) n.toNat n.toNat)) (w.alloc (.cells (madeCells z.cells (n.toNat * sz)) e)) := by
        simp only [execOp, ho]
        rw [Rc.int_inv (S.ev hx), Rc.int_inv (S.ev hy)]
        exact run_v hrun
       exact wp_value hex (hK _ _ _ h5 h6)
    · cases h
  · cases h
theorem aop_alloc {full : Bool} {o : Oper} {t : TypeId} {st : St} {k : AV → St → Option R} {r : R} (ho : o.op = .alloc t) (h : aop E call full o st k = some r) : ∃ av st', k av st' = some r ∧ Res P o full st av st' := by
 unfold aop at h
 simp only [ho] at h
 cases full with
 | false => cases h
 | true =>
  simp only [condA_true] at h
  split at h
  · rename_i ti ht
    obtain ⟨ht, hnt⟩ := tyN_some ht
    refine ⟨_, _, h, .eff1 fun B g a w S K Q hK => ?_⟩
    obtain ⟨v, w', g', h1, h2, h3⟩ := alloc_sound S (not_tup hE ht hnt) (E.selfs.any (Nat.beq t))
    exact wp_value (by simp only [execOp, ho]; exact run_v h1) (hK v w' g' h2 h3)
  · cases h
omit hE in
theorem aop_box {full : Bool} {o : Oper} {t : TypeId} {x : Operand} {st : St} {k : AV → St → Option R} {r : R} (ho : o.op = .box t x) (h : aop E call full o st k = some r) : ∃ av st', k av st' = some r ∧ Res P o full st av st' := by
 unfold aop at h
 simp only [ho] at h
 cases full with
 | false => cases h
 | true =>
  simp only [condA_true] at h
  split at h
  · rename_i ti v ht hv
    split at h
    · rename_i cs hcs
      cases hc : Nat.beq cs.length ti.leaves.length with
      | false => rw [hc] at h; cases h
      | true =>
       rw [hc] at h
       refine ⟨_, _, h, .eff1 fun B g a w S K Q hK => ?_⟩
       obtain ⟨v, w', g', h1, h2, h3⟩ := box_sound (t := t) S hv hcs
       exact wp_value (by simp only [execOp, ho]; exact run_v h1) (hK v w' g' h2 h3)
    · cases h
  · cases h
omit hE in
theorem aop_extract {full : Bool} {o : Oper} {x : Operand} {i : Nat} {st : St} {k : AV → St → Option R} {r : R} (ho : o.op = .extract x i) (h : aop E call full o st k = some r) : ∃ av st', k av st' = some r ∧ Res P o full st av st' := by
 unfold aop at h
 simp only [ho] at h
 split at h
 · rename_i vs hx
   split at h
   · rename_i v hv
     refine ⟨_, st, h, .pure (StEq.refl st) fun B g a w S => ?_⟩
     obtain ⟨us, h1, h2, h3⟩ := S.ev hx
     have hi : i < us.size := by rw [h2]; exact (List.getElem?_eq_some_iff.1 hv).1
     refine pure_same_v S (v := us[i]) (by simp only [execOp, ho]; rfl) ?_ (h3 i _ v (Array.getElem?_eq_getElem hi) hv).av
     rw [h1]
     simp [Instr.extract, hi]
   · cases h
 · cases h
omit hE in
theorem aop_nilCheck {full : Bool} {o : Oper} {x : Operand} {st : St} {k : AV → St → Option R} {r : R} (ho : o.op = .nilCheck x) (h : aop E call full o st k = some r) : ∃ av st', k av st' = some r ∧ Res P o full st av st' := by
 unfold aop at h
 simp only [ho] at h
 split at h
 · rename_i b oo hx
   refine ⟨_, st, h, .pure (StEq.refl st) fun B g a w S => ?_⟩
   have hr := S.ev hx
   obtain ⟨blk, he, _⟩ := hr.ptr_inv
   exact pure_same S (v := a.eval x) (by simp only [execOp, ho, he]; rfl) hr
 · rename_i cs hx
   refine ⟨_, st, h, .pure (StEq.refl st) fun B g a w S => ?_⟩
   have hr := S.ev hx
   have he : ∃ A, a.eval x = .pointer (some A) := by
    have hr' : Rc g w (a.eval x) (.eptr cs) := hr
    generalize a.eval x = v at hr'
    cases hr' with
    | data h => cases h
    | eptr => exact ⟨_, rfl⟩
   obtain ⟨A, he⟩ := he
   exact pure_same S (v := a.eval x) (by simp only [execOp, ho, he]; rfl) hr
 · rename_i b oo hx
   refine ⟨_, st, h, .pure (StEq.refl st) fun B g a w S => ?_⟩
   have hr := S.ev hx
   obtain ⟨blk, he, _⟩ := hr.bptr_inv
   exact pure_same S (v := a.eval x) (by simp only [execOp, ho, he]; rfl) hr
 · cases h
omit [Inv] hE in
theorem two_args {st : St} {args : Array Operand} {s x : AV} (h : evl st args.toList = some [s, x]) : ∃ p q, args = #[p, q] ∧ ev st p = some s ∧ ev st q = some x := by
 cases hl : args.toList with
 | nil => rw [hl] at h; cases h
 | cons y l =>
  rw [hl] at h
  simp only [evl] at h
  split at h
  · rename_i v l1 hv hl1
    cases h
    cases l with
    | nil => cases hl1
    | cons z l =>
     simp only [evl] at hl1
     split at hl1
     · rename_i v2 l2 hv2 hl2
       cases hl1
       cases l with
       | nil => exact ⟨y, z, by apply Array.toList_inj.1; rw [hl], hv, hv2⟩
       | cons u l =>
        simp only [evl] at hl2
        split at hl2
        · cases hl2
        · cases hl2
     · cases hl1
  · cases h
theorem aop_append {full : Bool} {o : Oper} {args : Array Operand} {argTypes : Array TypeId} {st : St} {k : AV → St → Option R} {r : R} (ho : o.op = .call ⟨.builtin .append, args, argTypes⟩) (h : aop E call full o st k = some r) : ∃ av st', k av st' = some r ∧ Res P o full st av st' := by
 unfold aop at h
 simp only [ho] at h
 split at h
 · rename_i t t' s x hts hxs
   have hta : argTypes = #[t, t'] := by apply Array.toList_inj.1; rw [hts]
   obtain ⟨p, q, rfl, hp, hq⟩ := two_args hxs
   subst hta
   split at h
   · rename_i e sz e' sz' ht ht'
     split at h
     · rename_i nm' s' new
       cases hc : Nat.beq t t' && (Nat.beq s' sz || Nat.beq s' 0) with
       | false => rw [hc] at h; cases h
       | true =>
        rw [hc] at h
        simp only [condA_true] at h
        rw [Bool.and_eq_true] at hc
        have htt := Nat.eq_of_beq_eq_true hc.1
        subst htt
        cases full with
        | false => cases h
        | true =>
         unfold appendK at h
         simp only [condA_true] at h
         split at h
         · rename_i N s2 cs d hd
           cases hc2 : (Nat.beq s2 sz || Nat.beq s2 0) && Nat.beq N.elem e with
           | false => rw [hc2] at h; cases h
           | true =>
            rw [hc2] at h
            simp only [condA_true] at h
            rw [Bool.and_eq_true] at hc2
            obtain ⟨hlim, h⟩ := guardB_some h
            rw [decide_eq_true_eq] at hlim
            have hT := not_tup hE ht (by simp)
            obtain ⟨hu, hsz, hz0, hby, i, hi⟩ := hT.is_slice
            refine ⟨_, _, h, .eff1 fun B g a w S K Q hK => ?_⟩
            obtain ⟨z, hz, hzs⟩ : ∃ z, i.zero = some z ∧ z.cells.size = sz := hT.elem_zero hi
            obtain ⟨v', w', g', h1, h2, h3⟩ := append_sound (d := d) (ty := o.type) S hT hi hz hzs (S.ev hp) (size_or hc2.1) (Nat.eq_of_beq_eq_true hc2.2) (S.ev hq) (size_or hc.2) hlim
            refine wp_value (w' := w') (v := v') ?_ (hK v' w' g' h2 h3)
            have hx : execOp a.eval o = (do pure (Next.value (← Builtin.append_ #[t, t] o.type #[a.eval p, a.eval q])) : Sem Next) := by
             simp [execOp, ho, resolve, invoke, builtin]
            rw [hx]; exact run_v h1
         · cases h
     · cases h
   · cases h
 · cases h
end
end AX
end Go.Proofs.YtfbicbgdfcbhpaaGreatDoor
namespace Go.Proofs.YtfbicbgdfcbhpaaGreatDoor
namespace AX
variable [Inv]
open Go.RowKit
variable {P : Program} {R : Type}
section
variable {E : Env} {call : CallF} (hE : EnvOk P E) (hC : CallOk P call)
omit [Inv] in
theorem args_vals (a : Act) (args : Array Operand) : args.map a.eval = (args.toList.map a.eval).toArray := by
 apply Array.toList_inj.1; simp
omit [Inv] in
theorem any_false {args : List AV} (h : args.any AV.hasPtr = false) : ∀ a ∈ args, a.hasPtr = false := fun a ha => by
 rw [List.any_eq_false] at h; simpa using h a ha
omit [Inv] in
theorem castN_some {e : TypeId} {sz : Nat} {c : Cell} {k : List Cell → Option R} {r : R} (h : castN e sz c k = some r) : ∃ (n : Nm) (cs : List Cell), ∃ s, c = .sl (some n) s cs ∧ (s = sz ∨ s = 0) ∧ n.elem = e ∧ k cs = some r := by
 unfold castN at h
 split at h
 · rename_i n s cs
   cases hb : (Nat.beq s sz || Nat.beq s 0) && Nat.beq n.elem e with
   | false => rw [hb] at h; cases h
   | true =>
    rw [hb] at h
    rw [Bool.and_eq_true] at hb
    exact ⟨n, cs, s, rfl, size_or hb.1, Nat.eq_of_beq_eq_true hb.2, h⟩
 · cases h
theorem call_named {B : Base} {g : Gh} {st : St} {a : Act} {w w' : World} {M' : Mem} {bx : List Nat} {ow : Nm → Option Value} {u : Value} {v : AV} {d : Nat} (S : Sim P B g st a w) (hG : Grow ⟨g.M, [], fun _ => none⟩ w M' w') (hv : Rv ⟨M', bx, ow⟩ w' u v) (hp : v.hasPtr = false)
 (hO : OwOk P ⟨M', bx, ow⟩ w') (hN : ∀ L x b, ow L = some x → x.ownBlock = some b → w.heap.size ≤ b) : ∃ g', Rv g' w' u (reNameV d v) ∧ Sim P B g' (st.clear d) a w' := by
 have hG2 : Grow g w M' w' := ⟨hG.below, hG.sub, hG.old, hG.live⟩
 have S1 := S.grow hG2
 have hbxlt : ∀ blk ∈ g.bx, blk < w.heap.size := fun blk hb => by
  obtain ⟨i, hi⟩ := List.getElem?_of_mem hb
  have hlt : i < st.H.length := by rw [← S.bx.len]; exact (List.getElem?_eq_some_iff.1 hi).1
  obtain ⟨blk', h1, h2⟩ := S.bx.box i _ (List.getElem?_eq_getElem hlt)
  rw [hi] at h1; cases h1
  exact h2.lt
 have plain : ∃ g', (∀ v c, Rd M' w' v c → Rc g' w' v c) ∧ g'.M = M' ∧ Sim P B g' (st.clear d) a w' := by
  refine ⟨_, fun v c h => .data h, rfl, S1.give (d := d) (f := fun _ => none) (fun L v _ h => by cases h) (fun L L' v v' _ _ _ h _ => by cases h) (fun L v b _ h _ => by cases h)⟩
 have bareA : ∀ (g' : Gh), (∀ v c, Rd M' w' v c → Rc g' w' v c) → ∀ vs cs, RvA ⟨M', bx, ow⟩ w' vs cs → cs.any hasPtr = false → RvA g' w' vs (cs.map Cell.bare) := fun g' hg vs cs h hp => by
  refine ⟨by rw [List.length_map]; exact h.1, fun i v c hv hcc => ?_⟩
  rw [List.getElem?_map] at hcc
  cases hi : cs[i]? with
  | none => rw [hi] at hcc; cases hcc
  | some c0 =>
   rw [hi] at hcc; cases hcc
   refine hg _ _ ((h.2 i v c0 hv hi).toData ?_)
   rw [List.any_eq_false] at hp
   simpa using hp c0 (List.mem_of_getElem? hi)
 have bare1 : ∀ (g' : Gh), (∀ v c, Rd M' w' v c → Rc g' w' v c) → ∀ v x, Rv1 ⟨M', bx, ow⟩ w' v x → x.hasPtr = false → Rv1 g' w' v (x.map Cell.bare) := fun g' hg v x h hp => by
  cases x with
  | one c => exact hg _ _ (Rc.toData h (by simpa [V1.hasPtr, V1.cells] using hp))
  | agg cs => obtain ⟨vs, rfl, h⟩ := h; exact ⟨vs, rfl, bareA g' hg vs cs h hp⟩
 -- one cell
 have one : ∀ (v : Value) (c : Cell), Rc ⟨M', bx, ow⟩ w' v c → hasPtr c = false → ∃ g', (∀ v c, Rd M' w' v c → Rc g' w' v c) ∧ Rc g' w' v (reName1 d c) ∧ Sim P B g' (st.clear d) a w' := fun v c h hp => by
  cases h with
  | data h =>
   obtain ⟨g', h1, h2, h3⟩ := plain
   refine ⟨g', h1, ?_, h3⟩
   have : reName1 d c = c := by cases h <;> rfl
   rw [this]; exact h1 _ _ h
  | own L h1 h2 =>
   obtain ⟨n, xs, hrow, hMb⟩ := hO.row L v h1
   refine ⟨_, fun v c h => .data h, ?_, S1.born (d := d) (e := L.elem) 0 hrow hMb (fun b hb => ?_)⟩
   · exact .own ⟨d, 0, L.elem⟩ ((give_here (L := ⟨d, 0, L.elem⟩) rfl).trans (by simp [nameIs])) h2
   · have hge := hN L v b h1 hb
     refine ⟨fun hm => by have := hbxlt b hm; omega, fun L' v' hL hb' => ?_, .inr (Nat.le_trans S.fr.size hge)⟩
     obtain ⟨n', xs', h3, _⟩ := S.ow.row L' v' hL
     have := (h3.lt b hb').2
     omega
  | ptr => cases hp
  | eptr => cases hp
  | bsl => cases hp
  | bptr => cases hp
  | mapr => cases hp
 cases v with
 | one c =>
  obtain ⟨g', _, h2, h3⟩ := one u c hv hp
  exact ⟨g', h2, h3⟩
 | agg cs =>
  obtain ⟨g', h1, h2, h3⟩ := plain
  obtain ⟨vs, rfl, h⟩ := hv
  exact ⟨g', ⟨vs, rfl, bareA g' h1 vs cs h hp⟩, h3⟩
 | undef =>
  obtain ⟨g', h1, h2, h3⟩ := plain
  exact ⟨g', hv, h3⟩
 | tup xs =>
  obtain ⟨vs, rfl, h4, h5⟩ := hv
  have hp' : ∀ x ∈ xs, x.hasPtr = false := fun x hx => by
   have hp2 : xs.any V1.hasPtr = false := hp
   rw [List.any_eq_false] at hp2; simpa using hp2 x hx
  have all : ∀ (g' : Gh), (∀ v c, Rd M' w' v c → Rc g' w' v c) → ∀ (i : Nat) u x, vs[i]? = some u → (xs.map (V1.map Cell.bare))[i]? = some x → Rv1 g' w' u x := fun g' hg i u x hu hx => by
   rw [List.getElem?_map] at hx
   cases hi : xs[i]? with
   | none => rw [hi] at hx; cases hx
   | some x0 =>
    rw [hi] at hx; cases hx
    exact bare1 g' hg u x0 (h5 i u x0 hu hi) (hp' x0 (List.mem_of_getElem? hi))
  cases xs with
  | nil =>
   obtain ⟨g', h1, h2, h3⟩ := plain
   exact ⟨g', ⟨vs, rfl, h4, all g' h1⟩, h3⟩
  | cons x xs =>
   cases x with
   | agg cs =>
    obtain ⟨g', h1, h2, h3⟩ := plain
    exact ⟨g', ⟨vs, rfl, by simpa [reNameV] using h4, all g' h1⟩, h3⟩
   | one c =>
    have h0 : 0 < vs.size := by rw [h4]; simp
    obtain ⟨g', h1, h2, h3⟩ := one vs[0] c (h5 0 _ (.one c) (Array.getElem?_eq_getElem h0) rfl) (by simpa [V1.hasPtr, V1.cells] using hp' (.one c) List.mem_cons_self)
    refine ⟨g', ⟨vs, rfl, by simpa [reNameV] using h4, fun i u x hu hx => ?_⟩, h3⟩
    cases i with
    | zero =>
     simp only [List.getElem?_cons_zero, Option.some.injEq] at hx
     subst hx
     rw [Array.getElem?_eq_getElem h0] at hu
     cases hu
     exact h2
    | succ i => exact all g' h1 (i + 1) u x hu (by simpa using hx)
section
omit [Inv] in
theorem refsOf_spec : ∀ (l : List AV) (acc bs : List Nat), refsOf l acc = some bs → acc.Nodup → bs.Nodup ∧ (∀ b ∈ acc, b ∈ bs) ∧ ∀ a ∈ l, (∃ b o, a = .one (.ptr b o) ∧ b ∈ bs) ∨ a.hasPtr = false ∧ refArg bs a = a.bare
 | [], acc, bs, h, hn => by
  simp only [refsOf, Option.some.injEq] at h; subst h
  exact ⟨hn, fun _ h => h, fun _ h => by simp at h⟩
 | a :: r, acc, bs, h, hn => by
  simp only [refsOf] at h
  split at h
  · rename_i b o
    have hn2 : (condA (acc.any (Nat.beq b)) (acc) <| acc ++ [b]).Nodup := by
     cases hx : acc.any (Nat.beq b) with
     | true => exact hn
     | false =>
      rw [condA_false, List.nodup_append]
      refine ⟨hn, by simp, fun x hx' y hy => ?_⟩
      simp at hy; subst hy
      intro e; subst e
      rw [List.any_eq_false] at hx
      exact hx x hx' (Nat.beq_refl x)
    obtain ⟨h1, h2, h3⟩ := refsOf_spec r _ bs h hn2
    have hb : b ∈ bs := h2 b (by
     cases hx : acc.any (Nat.beq b) with
     | true =>
      rw [List.any_eq_true] at hx
      obtain ⟨x, hx1, hx2⟩ := hx
      rw [Nat.eq_of_beq_eq_true hx2, condA_true]; exact hx1
     | false => rw [condA_false]; simp)
    refine ⟨h1, fun x hx => h2 x (by
     cases acc.any (Nat.beq b) with
     | true => exact hx
     | false => rw [condA_false]; simp [hx]), fun x hx => ?_⟩
    rcases List.mem_cons.1 hx with rfl | hx
    · exact .inl ⟨b, o, rfl, hb⟩
    · exact h3 x hx
  · rename_i hne
    cases hp : a.hasPtr with
    | true => rw [hp] at h; cases h
    | false =>
     rw [hp] at h
     obtain ⟨h1, h2, h3⟩ := refsOf_spec r acc bs h hn
     refine ⟨h1, h2, fun x hx => ?_⟩
     rcases List.mem_cons.1 hx with rfl | hx
     · refine .inr ⟨hp, ?_⟩
       unfold refArg
       split
       · rename_i b o; exact absurd rfl (hne b o)
       · rfl
     · exact h3 x hx
omit [Inv] in
theorem ixOf_get : ∀ {bs : List Nat} {b : Nat}, b ∈ bs → bs[ixOf bs b]? = some b
 | c :: r, b, h => by
  simp only [ixOf]
  cases hb : Nat.beq c b with
  | true => rw [condA_true, Nat.eq_of_beq_eq_true hb]; rfl
  | false =>
   rw [condA_false, List.getElem?_cons_succ]
   refine ixOf_get ((List.mem_cons.1 h).resolve_left fun e => ?_)
   subst e; rw [Nat.beq_refl] at hb; cases hb
omit [Inv] in
theorem Rc.own_inv {g : Gh} {w : World} {v : Value} {L : Nm} {sz : Nat} {cs : List Cell} (h : Rc g w v (.sl (some L) sz cs)) : g.ow L = some v ∧ Rd g.M w v (.sl none sz cs) := by
 cases h with
 | data h => cases h
 | own _ h1 h2 => exact ⟨h1, h2⟩
omit [Inv] in
theorem pairwise_two {es : List (Nm × Nm)} (h : es.Pairwise fun a b => a.1 ≠ b.1 ∧ a.2 ≠ b.2) {p q : Nm × Nm} (hp : p ∈ es) (hq : q ∈ es) (hne : p ≠ q) : p.2 ≠ q.2 := by
 induction es with
 | nil => cases hp
 | cons x r ih =>
  rw [List.pairwise_cons] at h
  rcases List.mem_cons.1 hp with rfl | hp' <;> rcases List.mem_cons.1 hq with rfl | hq'
  · exact absurd rfl hne
  · exact (h.1 q hq').2
  · exact fun e => (h.1 p hp').2 e.symm
  · exact ih h.2 hp' hq'
def CellIn (es : List (Nm × Nm)) (c c' : Cell) : Prop := hasPtr c = false ∧ ((∃ L N sz xs, c = .sl (some L) sz xs ∧ c' = .sl (some N) sz xs ∧ (N, L) ∈ es) ∨ c' = c.bare)
structure EntOk (es : List (Nm × Nm)) : Prop where
 pw : es.Pairwise fun a b => a.1 ≠ b.1 ∧ a.2 ≠ b.2
 elem : ∀ p ∈ es, p.1.elem = p.2.elem
omit [Inv] in
theorem enterCells_spec {own : List (Nat × Nat)} {i : Nat} : ∀ (cs : List Cell) (j : Nat) (es : List (Nm × Nm)) (cs' : List Cell) (es' : List (Nm × Nm)), enterCells own i j cs es = some (cs', es') → EntOk es →
 EntOk es' ∧ (∀ p ∈ es, p ∈ es') ∧ cs'.length = cs.length ∧ ∀ (k : Nat) c, cs[k]? = some c → ∃ c', cs'[k]? = some c' ∧ CellIn es' c c'
 | [], j, es, cs', es', h, he => by
  simp only [enterCells, Option.some.injEq, Prod.mk.injEq] at h
  obtain ⟨rfl, rfl⟩ := h
  exact ⟨he, fun _ h => h, rfl, fun k c hc => by simp at hc⟩
 | c :: r, j, es, cs', es', h, he => by
  simp only [enterCells] at h
  cases hp : hasPtr c with
  | true => rw [hp] at h; cases h
  | false =>
   rw [hp, condA_false] at h
   cases ho : ownAt own i j with
   | true =>
    rw [ho, condA_true] at h
    split at h
    · rename_i L sz xs
      cases ha : es.any (fun p => isNm L p.2 || isNm ⟨boxSlot i, j, L.elem⟩ p.1) with
      | true => rw [ha] at h; cases h
      | false =>
       rw [ha, condA_false] at h
       split at h
       · rename_i r' es2 hr
         simp only [Option.some.injEq, Prod.mk.injEq] at h
         obtain ⟨rfl, rfl⟩ := h
         rw [List.any_eq_false] at ha
         have hpw : ∀ p ∈ es, (⟨boxSlot i, j, L.elem⟩ : Nm) ≠ p.1 ∧ L ≠ p.2 := fun p hp => by
          have := ha p hp
          rw [Bool.or_eq_true, not_or] at this
          refine ⟨fun e => this.2 ?_, fun e => this.1 ?_⟩
          · rw [← e]; simp [isNm, Nat.beq_refl]
          · rw [← e]; simp [isNm, Nat.beq_refl]
         obtain ⟨h1, h2, h3, h4⟩ := enterCells_spec r (j + 1) _ r' _ hr ⟨List.pairwise_cons.2 ⟨hpw, he.pw⟩, fun p hp => (List.mem_cons.1 hp).elim (fun e => by rw [e]) (he.elem p)⟩
         refine ⟨h1, fun p hp => h2 p (List.mem_cons_of_mem _ hp), by simp [h3], fun k c hc => ?_⟩
         cases k with
         | zero => simp at hc; subst hc; exact ⟨_, rfl, hp, .inl ⟨L, _, sz, xs, rfl, rfl, h2 _ List.mem_cons_self⟩⟩
         | succ k => simpa using h4 k c (by simpa using hc)
       · cases h
    · cases h
   | false =>
    rw [ho, condA_false] at h
    split at h
    · rename_i r' es2 hr
      simp only [Option.some.injEq, Prod.mk.injEq] at h
      obtain ⟨rfl, rfl⟩ := h
      obtain ⟨h1, h2, h3, h4⟩ := enterCells_spec r (j + 1) _ r' _ hr he
      refine ⟨h1, h2, by simp [h3], fun k c' hc => ?_⟩
      cases k with
      | zero => simp at hc; subst hc; exact ⟨_, rfl, hp, .inr rfl⟩
      | succ k => simpa using h4 k c' (by simpa using hc)
    · cases h
omit [Inv] in
theorem CellIn.mono {es es' : List (Nm × Nm)} {c c' : Cell} (h : CellIn es c c') (hs : ∀ p ∈ es, p ∈ es') : CellIn es' c c' :=
 ⟨h.1, h.2.imp (fun ⟨L, N, sz, xs, h1, h2, h3⟩ => ⟨L, N, sz, xs, h1, h2, hs _ h3⟩) id⟩
omit [Inv] in
theorem enterH_spec {own : List (Nat × Nat)} {H : Heap} : ∀ (bs : List Nat) (i : Nat) (es : List (Nm × Nm)) (H0 : Heap) (es' : List (Nm × Nm)), enterH own H i bs es = some (H0, es') → EntOk es →
 EntOk es' ∧ (∀ p ∈ es, p ∈ es') ∧ H0.length = bs.length ∧ ∀ (m b : Nat), bs[m]? = some b → ∃ cs cs', H[b]? = some cs ∧ H0[m]? = some cs' ∧ cs'.length = cs.length ∧ ∀ (k : Nat) c, cs[k]? = some c → ∃ c', cs'[k]? = some c' ∧ CellIn es' c c'
 | [], i, es, H0, es', h, he => by
  simp only [enterH, Option.some.injEq, Prod.mk.injEq] at h
  obtain ⟨rfl, rfl⟩ := h
  exact ⟨he, fun _ h => h, rfl, fun m b hb => by simp at hb⟩
 | b :: bs, i, es, H0, es', h, he => by
  simp only [enterH] at h
  split at h
  · cases h
  · rename_i cs hcs
    split at h
    · cases h
    · rename_i cs' es2 hc
      split at h
      · cases h
      · rename_i H2 l hr
        simp only [Option.some.injEq, Prod.mk.injEq] at h
        obtain ⟨rfl, rfl⟩ := h
        obtain ⟨h1, h2, h3, h4⟩ := enterCells_spec cs 0 es cs' es2 hc he
        obtain ⟨h5, h6, h7, h8⟩ := enterH_spec bs (i + 1) es2 H2 l hr h1
        refine ⟨h5, fun p hp => h6 p (h2 p hp), by simp [h7], fun m b' hb => ?_⟩
        cases m with
        | zero =>
         simp at hb; subst hb
         exact ⟨cs, cs', hcs, rfl, h3, fun k c hk => by
          obtain ⟨c', h9, h10⟩ := h4 k c hk
          exact ⟨c', h9, h10.mono h6⟩⟩
        | succ m => simpa using h8 m b' (by simpa using hb)
def rowy : Cell → Bool
 | .row _ => true
 | .map _ _ => true
 | .selfp _ => true
 | _ => false
omit [Inv] in
theorem castLike_some {c d : Cell} {k : Cell → Option R} {r : R} (h : castLike c d k = some r) : ∃ c', k c' = some r ∧ rowy d = false ∧ ∀ (g : Gh) w v, Rc g w v d → Rd g.M w v c' := by
 unfold castLike at h
 split at h
 · obtain ⟨n, rfl, h2⟩ := castI_some h; exact ⟨_, h2, rfl, fun g w v hv => by cases hv; assumption⟩
 · obtain ⟨n, rfl, h2⟩ := castB_some h; exact ⟨_, h2, rfl, fun g w v hv => by cases hv; assumption⟩
 · obtain ⟨n, rfl, h2⟩ := castS_some h; exact ⟨_, h2, rfl, fun g w v hv => by cases hv; assumption⟩
 · obtain ⟨nm, s, cs, rfl, hs, h2⟩ := castL_some h
   exact ⟨_, h2, rfl, fun g w v hv => ((hv.sized hs).toData rfl)⟩
 · obtain ⟨n, rfl, h2⟩ := castE_some h; exact ⟨_, h2, rfl, fun g w v hv => by cases hv; assumption⟩
 · cases h
omit [Inv] in
theorem likeCells_some : ∀ (old new : List Cell) {k : List Cell → Option R} {r : R}, likeCells old new k = some r → ∃ new', k new' = some r ∧ new'.length = new.length ∧
 ∀ (i : Nat) d, new[i]? = some d → ∃ c', new'[i]? = some c' ∧ (rowy d = false ∨ ∃ t, d = .selfp t ∧ c' = .selfp t) ∧ ∀ (g : Gh) w v, Rc g w v d → Rc g w v c'
 | [], [], k, r, h => ⟨[], h, rfl, fun i d hd => by simp at hd⟩
 | [], _ :: _, k, r, h => by cases h
 | c :: old, [], k, r, h => by cases h
 | c :: old, d :: new, k, r, h => by
  have step : ∀ (c' : Cell) (k' : List Cell → Option R), (rowy d = false ∨ ∃ t, d = .selfp t ∧ c' = .selfp t) → (∀ (g : Gh) w v, Rc g w v d → Rc g w v c') → likeCells old new (fun r' => k (c' :: r')) = some r → ∃ new', k new' = some r ∧ new'.length = (d :: new).length ∧
   ∀ (i : Nat) e, (d :: new)[i]? = some e → ∃ c', new'[i]? = some c' ∧ (rowy e = false ∨ ∃ t, e = .selfp t ∧ c' = .selfp t) ∧ ∀ (g : Gh) w v, Rc g w v e → Rc g w v c' := fun c' _ hr hc h => by
   obtain ⟨new', h1, h2, h3⟩ := likeCells_some old new h
   refine ⟨_, h1, by simp [h2], fun i e he => ?_⟩
   cases i with
   | zero => simp at he; subst he; exact ⟨c', rfl, hr, hc⟩
   | succ i => simpa using h3 i e (by simpa using he)
  simp only [likeCells] at h
  split at h
  · rename_i L sz xs
    unfold castNm at h
    split at h
    · rename_i n s cs
      cases hb : (Nat.beq s sz || Nat.beq s 0) && (isNm n L && Nat.beq n.elem L.elem) with
      | false => rw [hb] at h; cases h
      | true =>
       rw [hb] at h
       simp only [condA_true] at h
       rw [Bool.and_eq_true, Bool.and_eq_true] at hb
       obtain ⟨hs, hn, he⟩ := hb
       have hnL : n = L := by
        unfold isNm at hn
        rw [Bool.and_eq_true] at hn
        cases n; cases L
        simp only [Nm.mk.injEq]
        exact ⟨Nat.eq_of_beq_eq_true hn.1, Nat.eq_of_beq_eq_true hn.2, Nat.eq_of_beq_eq_true he⟩
       subst hnL
       exact step _ k (.inl rfl) (fun g w v hv => hv.sized (size_or hs)) h
    · cases h
  · rename_i b
    unfold castSp at h
    split at h
    · rename_i b'
      cases hb : Nat.beq b' b with
      | false => rw [hb] at h; cases h
      | true =>
       rw [hb] at h
       simp only [condA_true] at h
       have := Nat.eq_of_beq_eq_true hb
       subst this
       exact step _ k (.inr ⟨_, rfl, rfl⟩) (fun g w v hv => hv) h
    · cases h
  · obtain ⟨c', h, hr, hc⟩ := castLike_some h
    exact step c' k (.inl hr) (fun g w v hv => .data (hc g w v hv)) h
theorem Sim.like {B : Base} {g : Gh} {fr : List (Nat × AV)} {H : Heap} {b : Nat} {new new' : List Cell} {a : Act} {w : World} (S : Sim P B g ⟨fr, H.set b new⟩ a w) (hl : new'.length = new.length)
 (h : ∀ (i : Nat) d, new[i]? = some d → ∃ c', new'[i]? = some c' ∧ (rowy d = false ∨ ∃ t, d = .selfp t ∧ c' = .selfp t) ∧ ∀ (g : Gh) w v, Rc g w v d → Rc g w v c') : Sim P B g ⟨fr, H.set b new'⟩ a w := by
 refine ⟨S.frame, S.size, S.defers, S.live, ⟨by have := S.bx.len; simpa using this, S.bx.nodup, S.bx.M, S.bx.ow, fun i cs hi => ?_⟩, S.ow, S.fr, S.bxB, S.owB, S.pre⟩
 have hi : (H.set b new')[i]? = some cs := hi
 rw [List.getElem?_set] at hi
 by_cases hib : b = i
 · subst hib
   rw [if_pos rfl] at hi
   by_cases hlt : b < H.length
   · rw [if_pos hlt] at hi
     cases hi
     obtain ⟨blk, h1, h2⟩ := S.bx.box b new (by show (H.set b new)[b]? = _; rw [List.getElem?_set_self hlt])
     refine ⟨blk, h1, ?_⟩
     have hnr : ∀ c r, new = c :: r → rowy c = true → (∀ t, c ≠ .selfp t) → False := fun c r e hr ht => by
      subst e
      obtain ⟨_, _, h3, _⟩ := h 0 c rfl
      rcases h3 with h3 | ⟨t, h3, _⟩
      · rw [h3] at hr; cases hr
      · exact ht t h3
     cases h2 with
     | row vs e fz cs _ _ _ _ => exact (hnr _ _ rfl rfl (fun t e => by cases e)).elim
     | map es ck ks _ _ => exact (hnr _ _ rfl rfl (fun t e => by cases e)).elim
     | bld t' p' v' c' q1 q2 q3 =>
      obtain ⟨c0, h3, h4, _⟩ := h 0 _ rfl
      obtain ⟨c1, h5, _, h6⟩ := h 1 c' rfl
      have he : c0 = .selfp t' := by
       rcases h4 with h4 | ⟨t, h4, h4'⟩
       · cases h4
       · cases h4; exact h4'
      subst he
      have hn : new' = [.selfp t', c1] := by
       have hl2 : new'.length = 2 := hl
       match new', hl2, h3, h5 with
       | [x, y], _, h3, h5 => simp at h3 h5; rw [h3, h5]
      rw [hn]
      exact .bld t' p' v' c1 q1 q2 (h6 g w v' q3)
     | cells vs e _ h3 h4 =>
      refine .cells vs e _ h3 ⟨by rw [hl]; exact h4.1, fun j v c hv hc => ?_⟩
      have hj : j < new.length := by rw [← hl]; exact (List.getElem?_eq_some_iff.1 hc).1
      obtain ⟨c', h5, _, h6⟩ := h j new[j] (List.getElem?_eq_getElem hj)
      rw [hc] at h5; cases h5
      exact h6 g w v (h4.2 j v _ hv (List.getElem?_eq_getElem hj))
   · rw [if_neg hlt] at hi; cases hi
 · rw [if_neg hib] at hi
   exact S.bx.box i cs (by show (H.set b new)[i]? = _; rw [List.getElem?_set_ne hib]; exact hi)
def CellOut (b j : Nat) (d c' : Cell) : Prop := rowy d = false ∧ ((∀ (g : Gh) w v, Rc g w v d → Rd g.M w v c') ∨ ∃ n s sz xs, d = .sl (some n) s xs ∧ (s = sz ∨ s = 0) ∧ c' = .sl (some ⟨boxSlot b, j, n.elem⟩) sz xs)
omit [Inv] in
theorem leaveCells_spec {own : List (Nat × Nat)} {i b : Nat} : ∀ (old : List Cell) (j : Nat) (cs : List Cell) (k : List Cell → Option R) (r : R), leaveCells own i b j old cs k = some r →
 ∃ cs', k cs' = some r ∧ cs'.length = cs.length ∧ ∀ (m : Nat) d, cs[m]? = some d → ∃ c', cs'[m]? = some c' ∧ CellOut b (j + m) d c'
 | [], j, cs, k, r, h => by
  simp only [leaveCells] at h
  split at h
  · exact ⟨[], h, rfl, fun m d hd => by simp at hd⟩
  · cases h
 | c :: old, j, cs, k, r, h => by
  simp only [leaveCells] at h
  split at h
  · cases h
  · rename_i d s
    have step : ∀ c' cs', CellOut b j d c' → (∀ (m : Nat) d, s[m]? = some d → ∃ c', cs'[m]? = some c' ∧ CellOut b (j + 1 + m) d c') → ∀ (m : Nat) e, (d :: s)[m]? = some e → ∃ c2, (c' :: cs')[m]? = some c2 ∧ CellOut b (j + m) e c2 := fun c' cs' h0 hr m e he => by
     cases m with
     | zero => simp at he; subst he; exact ⟨c', rfl, h0⟩
     | succ m =>
      obtain ⟨c2, h1, h2⟩ := hr m e (by simpa using he)
      exact ⟨c2, by simpa using h1, by rw [show j + (m + 1) = j + 1 + m by omega]; exact h2⟩
    cases ho : ownAt own i j with
    | true =>
     rw [ho, condA_true] at h
     split at h
     · rename_i L sz xs0
       obtain ⟨n, xs, s0, rfl, hs, he, h⟩ := castN_some h
       obtain ⟨cs', h1, h2, h3⟩ := leaveCells_spec old (j + 1) s _ r h
       exact ⟨_, h1, by simp [h2], step _ cs' ⟨rfl, .inr ⟨n, s0, sz, xs, rfl, hs, by rw [he]⟩⟩ h3⟩
     · cases h
    | false =>
     rw [ho, condA_false] at h
     obtain ⟨c', h, hry, hc⟩ := castLike_some h
     obtain ⟨cs', h1, h2, h3⟩ := leaveCells_spec old (j + 1) s _ r h
     exact ⟨_, h1, by simp [h2], step _ cs' ⟨hry, .inl hc⟩ h3⟩
omit [Inv] in
theorem leaveH_spec {own : List (Nat × Nat)} {H : Heap} : ∀ (bs : List Nat) (i : Nat) (H1 HH : Heap) (k : Heap → Option R) (r : R), leaveH own H i bs H1 HH k = some r → bs.Nodup → (∀ b ∈ bs, b < HH.length) →
 ∃ H', k H' = some r ∧ H'.length = HH.length ∧ (∀ b, b ∉ bs → H'[b]? = HH[b]?) ∧ ∀ (m b : Nat), bs[m]? = some b → ∃ cs cs', H1[m]? = some cs ∧ H'[b]? = some cs' ∧ cs'.length = cs.length ∧ ∀ (j : Nat) d, cs[j]? = some d → ∃ c', cs'[j]? = some c' ∧ CellOut b j d c'
 | [], i, H1, HH, k, r, h, hn, hb => by
  simp only [leaveH] at h
  split at h
  · exact ⟨HH, h, rfl, fun _ _ => rfl, fun m b hb => by simp at hb⟩
  · cases h
 | b :: bs, i, H1, HH, k, r, h, hn, hlt => by
  simp only [leaveH] at h
  split at h
  · cases h
  · rename_i cs H2
    split at h
    · cases h
    · rename_i old hold
      obtain ⟨cs', h, h1, h2⟩ := leaveCells_spec old 0 cs _ r h
      rw [List.nodup_cons] at hn
      obtain ⟨H', h3, h4, h5, h6⟩ := leaveH_spec bs (i + 1) H2 _ k r h hn.2 (fun x hx => by rw [List.length_set]; exact hlt x (List.mem_cons_of_mem _ hx))
      refine ⟨H', h3, by rw [h4, List.length_set], fun x hx => ?_, fun m x hx => ?_⟩
      · rw [h5 x (fun h => hx (List.mem_cons_of_mem _ h)), List.getElem?_set_ne]
        intro e; subst e; exact hx List.mem_cons_self
      · cases m with
        | zero =>
         simp at hx; subst hx
         refine ⟨cs, cs', rfl, ?_, h1, fun j d hd => by simpa using h2 j d hd⟩
         rw [h5 b hn.1, List.getElem?_set_self (hlt b List.mem_cons_self)]
        | succ m => simpa using h6 m x (by simpa using hx)
omit [Inv] in
theorem canonCells_get (i : Nat) : ∀ (cs : List Cell) (j k : Nat), (canonCells i j cs)[k]? = (cs[k]?).map (Cell.strike fun L => !(Nat.beq L.slot (boxSlot i) && Nat.beq L.ix (j + k)))
 | [], j, k => by simp [canonCells]
 | c :: r, j, 0 => by simp [canonCells]
 | c :: r, j, k + 1 => by
  simp only [canonCells, List.getElem?_cons_succ]
  rw [canonCells_get i r (j + 1) k, show j + 1 + k = j + (k + 1) by omega]
omit [Inv] in
theorem canonH_get : ∀ (H : Heap) (i k : Nat), (canonH i H)[k]? = (H[k]?).map (canonCells (i + k) 0)
 | [], i, k => by simp [canonH]
 | c :: r, i, 0 => by simp [canonH]
 | c :: r, i, k + 1 => by
  simp only [canonH, List.getElem?_cons_succ]
  rw [canonH_get r (i + 1) k, show i + 1 + k = i + (k + 1) by omega]
omit [Inv] in
theorem strike_named {p : Nm → Bool} {c : Cell} {n : Nm} {s : Nat} {xs : List Cell} (h : c.strike p = .sl (some n) s xs) : c = .sl (some n) s xs ∧ p n = false := by
 cases c with
 | sl nm s' cs =>
  cases nm with
  | none => cases h
  | some L =>
   cases hp : p L with
   | true => simp only [Cell.strike, hp, condA_true] at h; cases h
   | false => simp only [Cell.strike, hp, condA_false] at h; cases h; exact ⟨rfl, hp⟩
 | _ => cases h
def owIn (g : Gh) (es : List (Nm × Nm)) (N : Nm) : Option Value := (es.find? fun p => decide (p.1 = N)).bind fun p => g.ow p.2
omit [Inv] in
theorem owIn_mem {g : Gh} {es : List (Nm × Nm)} (he : EntOk es) {N L : Nm} (h : (N, L) ∈ es) : owIn g es N = g.ow L := by
 have : es.find? (fun p => decide (p.1 = N)) = some (N, L) := by
  have hpw := he.pw
  clear he
  induction es with
  | nil => cases h
  | cons p r ih =>
   rw [List.pairwise_cons] at hpw
   rcases List.mem_cons.1 h with rfl | h
   · simp
   · have : p.1 ≠ N := (hpw.1 _ h).1
     rw [List.find?_cons, decide_eq_false this]
     exact ih h hpw.2
 simp [owIn, this]
omit [Inv] in
theorem owIn_some {g : Gh} {es : List (Nm × Nm)} {N : Nm} {v : Value} (h : owIn g es N = some v) : ∃ L, (N, L) ∈ es ∧ g.ow L = some v := by
 unfold owIn at h
 cases hf : es.find? (fun p => decide (p.1 = N)) with
 | none => rw [hf] at h; cases h
 | some p =>
  rw [hf] at h
  have h1 := List.find?_some hf
  simp only [decide_eq_true_eq] at h1
  subst h1
  exact ⟨p.2, List.mem_of_find?_eq_some hf, h⟩
def owOut (g g' : Gh) (bs : List Nat) (es : List (Nm × Nm)) (N : Nm) : Option Value :=
 if 1000000 ≤ N.slot ∧ (N.slot - 1000000) ∈ bs then g'.ow ⟨boxSlot (ixOf bs (N.slot - 1000000)), N.ix, N.elem⟩ else if es.any (fun p => isNm N p.2) then none else g.ow N
omit [Inv] in
theorem goesN_false {bs : List Nat} {es : List (Nm × Nm)} {N : Nm} (h : goesN bs es N = false) : ¬ (1000000 ≤ N.slot ∧ (N.slot - 1000000) ∈ bs) ∧ es.any (fun p => isNm N p.2) = false := by
 unfold goesN at h
 rw [Bool.or_eq_false_iff] at h
 refine ⟨fun ⟨h1, h2⟩ => ?_, h.1⟩
 have := h.2
 rw [List.any_eq_false] at this
 exact this _ h2 (bornAt_slot.2 (by unfold boxSlot; omega))
omit [Inv] in
theorem owOut_cases {g g' : Gh} {bs : List Nat} {es : List (Nm × Nm)} {N : Nm} {v : Value} (h : owOut g g' bs es N = some v) :
 (∃ b, b ∈ bs ∧ N.slot = boxSlot b ∧ g'.ow ⟨boxSlot (ixOf bs b), N.ix, N.elem⟩ = some v) ∨ ((∀ b ∈ bs, N.slot ≠ boxSlot b) ∧ (∀ p ∈ es, N ≠ p.2) ∧ g.ow N = some v) := by
 unfold owOut at h
 split at h
 · rename_i hc
   exact .inl ⟨_, hc.2, by unfold boxSlot; omega, h⟩
 · rename_i hc
   split at h
   · cases h
   · rename_i he
     refine .inr ⟨fun b hb e => hc ⟨by unfold boxSlot at e; omega, by unfold boxSlot at e; rw [e, show 1000000 + b - 1000000 = b by omega]; exact hb⟩, fun p hp e => he ?_, h⟩
     rw [List.any_eq_true]
     exact ⟨p, hp, by rw [← e]; simp [isNm, Nat.beq_refl]⟩
theorem call_ref {E : Env} {call : CallF} (hC : CallOk P call) {o : Oper} {f : FuncId} {args : Array Operand} {tys : Array TypeId} {st : St} {asl : List AV} {k : AV → St → Option R} {r : R} (ho : o.op = .call ⟨.value (.func f), args, tys⟩) (has : evl st args.toList = some asl)
    (h : (condA (true) ((match refsOf asl [] with
                | none => none
                | some bs => (match enterH (E.refNm f) st.H 0 bs [] with
                  | none => none
                  | some (H0, es) => (match call f (asl.map (refArg bs)) H0 with
                    | none => none
                    | some (v, H1) => leaveH (E.refNm f) st.H 0 bs H1 (strikeH (goesN bs es) st.H) fun H' =>
                      (match ty E.T o.type with
                       | some t => castV t v fun v' => condA (v'.hasPtr) (none) <| k v'.bare ⟨strikeFr (goesN bs es) st.fr, H'⟩
                       | none => none))))) <|
              none) = some r) : ∃ av st', k av st' = some r ∧ Res P o true st av st' := by
  rw [condA_true] at h
  split at h
  · cases h
  · rename_i bs hbs
    split at h
    · cases h
    · rename_i H0 es hen
      split at h
      · cases h
      · rename_i v H1 hv
        obtain ⟨hbn, _, hargs⟩ := refsOf_spec asl [] bs hbs List.nodup_nil
        obtain ⟨hes, _, hlen0, hin⟩ := enterH_spec bs 0 [] H0 es hen ⟨List.Pairwise.nil, fun p hp => by cases hp⟩
        have hblt : ∀ b ∈ bs, b < st.H.length := fun b hb => by
          obtain ⟨m, hm⟩ := List.getElem?_of_mem hb
          obtain ⟨cs, cs', h1, _⟩ := hin m b hm
          exact (List.getElem?_eq_some_iff.1 h1).1
        obtain ⟨H', h, hlen', hsame, hout⟩ := leaveH_spec bs 0 H1 _ _ r h hbn (fun b hb => by rw [strikeH_len]; exact hblt b hb)
        split at h
        · rename_i t ht
          rw [castV_bind] at h
          obtain ⟨v', hcv, h⟩ := bind_some_inv h
          cases hp2 : v'.hasPtr with
          | true => rw [hp2] at h; cases h
          | false =>
            rw [hp2, condA_false] at h
            refine ⟨_, _, h, .eff1 fun B g a w S K Q hK => ?_⟩
            obtain ⟨fn, hf, hb, hn⟩ := hC.fn f _ _ v H1 hv
            refine wp_callF ho hf hb hn ?_
            rw [args_vals]
            -- the callee's own view
            have hbxb : ∀ b ∈ bs, ∃ blk, g.bx[b]? = some blk := fun b hb => ⟨_, List.getElem?_eq_getElem (by rw [S.bx.len]; exact hblt b hb)⟩
            let gC : Gh := ⟨g.M, bs.map fun b => g.bx.getD b 0, owIn g es⟩
            have hgC : ∀ (m b : Nat), bs[m]? = some b → ∃ blk, g.bx[b]? = some blk ∧ gC.bx[m]? = some blk := fun m b hm => by
              obtain ⟨blk, h1⟩ := hbxb b (List.mem_of_getElem? hm)
              refine ⟨blk, h1, ?_⟩
              show (bs.map fun b => g.bx.getD b 0)[m]? = _
              rw [List.getElem?_map, hm]
              simp [List.getD_eq_getElem?_getD, h1]
            have hgCm : ∀ blk ∈ gC.bx, ∃ b ∈ bs, g.bx[b]? = some blk := fun blk hm => by
              obtain ⟨m, hm⟩ := List.getElem?_of_mem hm
              have hml : m < bs.length := by have := (List.getElem?_eq_some_iff.1 hm).1; simpa [gC] using this
              obtain ⟨blk', h1, h2⟩ := hgC m bs[m] (List.getElem?_eq_getElem hml)
              rw [hm] at h2; cases h2
              exact ⟨_, List.getElem_mem hml, h1⟩
            have hgCg : ∀ blk ∈ gC.bx, blk ∈ g.bx := fun blk hm => by
              obtain ⟨b, _, h1⟩ := hgCm blk hm
              exact List.mem_of_getElem? h1
            let D : Nat → Prop := fun q => q ∈ gC.bx ∨ ∃ p ∈ es, ∃ x, g.ow p.2 = some x ∧ x.ownBlock = some q
            have hDB : ∀ q, D q → B.D q ∨ B.w0.heap.size ≤ q := fun q hq => by
              rcases hq with hq | ⟨p, _, x, h1, h2⟩
              · exact S.bxB q (hgCg q hq)
              · exact S.owB p.2 x q h1 h2
            have hcell : ∀ v c c', CellIn es c c' → Rc g w v c → Rc gC w v c' := fun v c c' hc hr => by
              obtain ⟨hp, hc⟩ := hc
              rcases hc with ⟨L, N, sz, xs, rfl, rfl, hm⟩ | rfl
              · obtain ⟨h1, h2⟩ := hr.own_inv
                exact .own N ((owIn_mem hes hm).trans h1) h2
              · exact .data (hr.toData hp)
            have hboxlt : ∀ blk ∈ g.bx, blk < w.heap.size := fun blk hb => by
              obtain ⟨i, hi⟩ := List.getElem?_of_mem hb
              have hlt : i < st.H.length := by rw [← S.bx.len]; exact (List.getElem?_eq_some_iff.1 hi).1
              obtain ⟨blk', h1, h2⟩ := S.bx.box i _ (List.getElem?_eq_getElem hlt)
              rw [hi] at h1; cases h1
              exact h2.lt
            have hol : ∀ L x b, g.ow L = some x → x.ownBlock = some b → b < w.heap.size := fun L x b hL hb => by
              obtain ⟨n, xs, h1, _⟩ := S.ow.row L x hL
              exact (h1.lt b hb).2
            have hDlt : ∀ q, D q → q < w.heap.size := fun q hq => by
              rcases hq with hq | ⟨p, _, x, h1, h2⟩
              · exact hboxlt q (hgCg q hq)
              · exact hol p.2 x q h1 h2
            have hBC : BxOk H0 gC w := by
              refine ⟨by simp [gC, hlen0], ?_, fun blk hb j => S.bx.M blk (hgCg blk hb) j, fun L x b hL hb hm => ?_, fun i cs hi => ?_⟩
              · show (bs.map fun b => g.bx.getD b 0).Nodup
                refine List.Pairwise.map _ (R := fun a b => a ∈ bs ∧ b ∈ bs ∧ a ≠ b) (fun a b ⟨ha, hb, hab⟩ e => ?_) (List.Pairwise.imp_of_mem (fun ha hb h => ⟨ha, hb, h⟩) hbn)
                obtain ⟨b1, h1⟩ := hbxb a ha
                obtain ⟨b2, h2⟩ := hbxb b hb
                simp only [List.getD_eq_getElem?_getD, h1, h2, Option.getD_some] at e
                subst e
                exact hab (nodup_at S.bx.nodup h1 h2)
              · obtain ⟨L', _, h2⟩ := owIn_some hL
                exact S.bx.ow L' x b h2 hb (hgCg b hm)
              · have hil : i < bs.length := by rw [← hlen0]; exact (List.getElem?_eq_some_iff.1 hi).1
                obtain ⟨cs0, cs', h1, h2, h3, h4⟩ := hin i bs[i] (List.getElem?_eq_getElem hil)
                rw [hi] at h2; cases h2
                obtain ⟨blk, h5, h6⟩ := hgC i bs[i] (List.getElem?_eq_getElem hil)
                obtain ⟨blk', h7, h8⟩ := S.bx.box _ cs0 h1
                rw [h5] at h7; cases h7
                have hnb : ∀ c0 r, cs0 = c0 :: r → hasPtr c0 = false := fun c0 r e => by
                  subst e
                  obtain ⟨c', _, h11⟩ := h4 0 c0 rfl
                  exact h11.1
                cases h8 with
                | row vs e fz cs1 _ _ _ _ => cases hnb _ _ rfl
                | map es ck ks _ _ => cases hnb _ _ rfl
                | bld t' p' v' c' _ _ _ => cases hnb _ _ rfl
                | cells vs e _ h8 h9 =>
                refine ⟨blk, h6, .cells vs e _ h8 ⟨by rw [h3]; exact h9.1, fun j u c hu hc => ?_⟩⟩
                have hjl : j < cs0.length := by rw [← h3]; exact (List.getElem?_eq_some_iff.1 hc).1
                obtain ⟨c', h10, h11⟩ := h4 j cs0[j] (List.getElem?_eq_getElem hjl)
                rw [hc] at h10; cases h10
                exact hcell u _ _ h11 (h9.2 j u _ hu (List.getElem?_eq_getElem hjl))
            have hOC : OwOk P gC w := by
              refine ⟨fun N x hx => ?_, fun N N' x x' hne hx hx' => ?_⟩
              · obtain ⟨L, h1, h2⟩ := owIn_some hx
                obtain ⟨n, xs, h3, h4⟩ := S.ow.row L x h2
                have := hes.elem _ h1
                simp only at this
                rw [this]
                exact ⟨n, xs, h3, h4⟩
              · obtain ⟨L, h1, h2⟩ := owIn_some hx
                obtain ⟨L', h1', h2'⟩ := owIn_some hx'
                refine S.ow.ne L L' x x' (fun e => ?_) h2 h2'
                subst e
                have hpw := hes.pw
                have : (N, L) = (N', L) := by
                  by_cases hq : (N, L) = (N', L)
                  · exact hq
                  · exfalso
                    exact pairwise_two hpw h1 h1' hq rfl
                cases this
                exact hne rfl
            have hAC : All2 (fun a u => Rv gC w u a) (asl.map (refArg bs)) (args.toList.map a.eval) :=
              (evl_rel S _ _ has).imp (D := fun a u => Rv gC w u a) (f := refArg bs) fun x u hx hr => by
                rcases hargs x hx with ⟨b, o', rfl, hb⟩ | ⟨hp, he⟩
                · obtain ⟨blk, rfl, h1⟩ := Rc.ptr_inv hr
                  refine .ptr (ixOf bs b) o' blk ?_
                  obtain ⟨blk', h2, h3⟩ := hgC _ b (ixOf_get hb)
                  rw [h1] at h2; cases h2
                  exact h3
                · rw [he]; exact hr.toBare hp rfl
            refine (hC.ok f _ H0 v H1 hv gC D w _ (fun w' h1 h2 h3 h4 h5 => B.keepI w' (h1.trans S.fr.os) (h2.trans S.fr.tape) (h3.trans S.fr.output) (Nat.le_trans S.fr.size h4) fun q hq hnD => ?_) S.live hBC hOC (fun blk hb => .inl hb) (fun N x b hx hb => ?_) hAC).mono fun e w' ⟨u, g', B', fr', HH, a', he, e1, e2, e3, e4, S', hr, hH1⟩ => ⟨u, he, ?_⟩
            · rw [h5 q (Nat.lt_of_lt_of_le hq S.fr.size) fun hD => (hDB q hD).elim hnD fun h => by omega]
              exact S.fr.block q hq hnD
            · obtain ⟨L, h1, h2⟩ := owIn_some hx
              exact .inr ⟨_, h1, x, h2, hb⟩
            · obtain ⟨w0, M0, D0, nt, bx0, kI⟩ := B'
              simp only at e1 e2 e3 e4
              subst e1 e2 e3 e4
              have hfr := S'.fr
              have hsz : w0.heap.size ≤ w'.heap.size := hfr.size
              have hblk : ∀ q, q < w0.heap.size → ¬ D q → w'.heap[q]? = w0.heap[q]? := hfr.block
              have hkp : Kp g.M w0 g'.M w' := hfr.kp
              have hMold : ∀ b j, b < w0.heap.size → ¬ D b → g'.M b j → g.M b j := hfr.old
              have hpre : gC.bx <+: g'.bx := S'.pre
              have hpreg : ∀ (m blk : Nat), gC.bx[m]? = some blk → g'.bx[m]? = some blk := fun m blk hm => by
                obtain ⟨t, ht⟩ := hpre
                rw [← ht, List.getElem?_append_left (List.getElem?_eq_some_iff.1 hm).1]; exact hm
              have hbxDn : ∀ (b : Nat) blk, g.bx[b]? = some blk → b ∉ bs → ¬ D blk := fun b blk hb hnb hD => by
                rcases hD with hD | ⟨p, _, x, h1, h2⟩
                · obtain ⟨b', hb', h3⟩ := hgCm blk hD
                  exact hnb (by rw [nodup_at S.bx.nodup hb h3]; exact hb')
                · exact S.bx.ow p.2 x blk h1 h2 (List.mem_of_getElem? hb)
              have howDn : ∀ L x b, g.ow L = some x → x.ownBlock = some b → (∀ p ∈ es, L ≠ p.2) → ¬ D b := fun L x b hL hb hne hD => by
                rcases hD with hD | ⟨p, hp, y, h1, h2⟩
                · exact S.bx.ow L x b hL hb (hgCg b hD)
                · rcases S.ow.ne L p.2 x y (hne p hp) hL h1 with h3 | h3
                  · rw [h3] at hb; cases hb
                  · exact h3 (hb.trans h2.symm)
              let g2 : Gh := ⟨g'.M, g.bx, owOut g g' bs es⟩
              have hcell2 : ∀ v c, Rc g w0 v c → Rc g2 w' v (c.strike (goesN bs es)) := fun v c hc =>
                hc.strike (g' := g2) hkp (fun _ _ h => h) fun L x hp hL => by
                  obtain ⟨h1, h2⟩ := goesN_false hp
                  show owOut g g' bs es L = some x
                  unfold owOut
                  rw [if_neg h1, h2]; exact hL
              have hboxS' : ∀ (m : Nat) cs, H1[m]? = some cs → ∃ blk, gC.bx[m]? = some blk ∧ BoxIs g' w' blk cs ∧ ∀ (j : Nat) n s xs, cs[j]? = some (.sl (some n) s xs) → n.slot = boxSlot m ∧ n.ix = j := fun m cs hm => by
                rw [hH1, canonH_get, List.getElem?_take] at hm
                split at hm
                · rename_i hml
                  cases hx : HH[m]? with
                  | none => rw [hx] at hm; cases hm
                  | some cs0 =>
                    rw [hx] at hm
                    simp only [Option.map_some, Option.some.injEq, Nat.zero_add] at hm
                    subst hm
                    obtain ⟨blk, h1, h2⟩ := S'.bx.box m cs0 hx
                    have hmg : m < gC.bx.length := by rw [hBC.len]; exact hml
                    have h4 := hpreg m _ (List.getElem?_eq_getElem hmg)
                    rw [h1] at h4; cases h4
                    refine ⟨_, List.getElem?_eq_getElem hmg, ?_, fun j n s xs hj => ?_⟩
                    · cases h2 with
                      | row vs e fz cs1 q1 q2 q3 q4 => exact .row vs e fz cs1 q1 q2 q3 q4
                      | map es ck ks q1 q2 => exact .map es ck ks q1 q2
                      | bld t' p' v' c' q1 q2 q3 => exact .bld t' p' v' _ q1 q2 (q3.strike (Kp.refl _ _) (fun _ _ h => h) (fun _ _ _ h => h))
                      | cells vs e _ h2 h3 =>
                      refine .cells vs e _ h2 ⟨?_, fun j u c hu hc => ?_⟩
                      · rw [h3.1]
                        have : ∀ (l : List Cell) j, (canonCells m j l).length = l.length := fun l => by
                          induction l with
                          | nil => intro j; rfl
                          | cons c r ih => intro j; simp [canonCells, ih]
                        exact (this _ _).symm
                      · rw [canonCells_get] at hc
                        cases hy : cs0[j]? with
                        | none => rw [hy] at hc; cases hc
                        | some c0 =>
                          rw [hy] at hc
                          simp only [Option.map_some, Option.some.injEq] at hc
                          subst hc
                          exact (h3.2 j u c0 hu hy).strike (Kp.refl _ _) (fun _ _ h => h) (fun _ _ _ h => h)
                    · rw [canonCells_get] at hj
                      cases hy : cs0[j]? with
                      | none => rw [hy] at hj; cases hj
                      | some c0 =>
                        rw [hy] at hj
                        simp only [Option.map_some, Option.some.injEq] at hj
                        have := (strike_named hj).2
                        simp only [Bool.not_eq_false', Bool.and_eq_true, Nat.zero_add] at this
                        exact ⟨Nat.eq_of_beq_eq_true this.1, Nat.eq_of_beq_eq_true this.2⟩
                · cases hm
              have S2 : Sim P B g2 ⟨strikeFr (goesN bs es) st.fr, H'⟩ a w' := by
                refine ⟨fun s y hs => ?_, S.size, S.defers, S'.live, ⟨?_, S.bx.nodup, fun blk hb j hm => ?_, fun N x b hx hb hm => ?_, fun i cs hi => ?_⟩, ⟨fun N x hx => ?_, fun N N' x x' hne hx hx' => ?_⟩, ⟨hfr.os.trans S.fr.os, hfr.tape.trans S.fr.tape, hfr.output.trans S.fr.output, Nat.le_trans S.fr.size hsz, fun q hq hnD => ?_, S.fr.kp.trans hkp, fun b j hb hnD hm => ?_⟩, S.bxB, fun N x b hx hb => ?_, S.pre⟩
                · simp only [lk_strike] at hs
                  cases hx : lk st.fr s with
                  | none => rw [hx] at hs; cases hs
                  | some x =>
                    rw [hx] at hs
                    simp only [Option.map_some, Option.some.injEq] at hs
                    subst hs
                    exact (S.frame s x hx).map hcell2
                · show g.bx.length = H'.length
                  rw [hlen', strikeH_len, S.bx.len]
                · obtain ⟨i, hi⟩ := List.getElem?_of_mem hb
                  by_cases hib : i ∈ bs
                  · obtain ⟨blk', h1, h2⟩ := hgC _ i (ixOf_get hib)
                    rw [hi] at h1; cases h1
                    exact S'.bx.M blk (List.mem_of_getElem? (hpreg _ _ h2)) j hm
                  · exact S.bx.M blk hb j (hMold blk j (hboxlt blk hb) (hbxDn i blk hi hib) hm)
                · have hm : b ∈ g.bx := hm
                  rcases owOut_cases hx with ⟨b', hb', _, h1⟩ | ⟨_, _, h1⟩
                  · rcases S'.owB _ x b h1 hb with h2 | h2
                    · rcases h2 with h2 | ⟨p, _, y, h3, h4⟩
                      · have h5 : b ∈ g'.bx := by
                          obtain ⟨m, hm2⟩ := List.getElem?_of_mem h2
                          exact List.mem_of_getElem? (hpreg _ _ hm2)
                        exact S'.bx.ow _ x b h1 hb h5
                      · exact S.bx.ow p.2 y b h3 h4 hm
                    · have := hboxlt b hm
                      have h2 : w0.heap.size ≤ b := h2
                      omega
                  · exact S.bx.ow N x b h1 hb hm
                · have hi : H'[i]? = some cs := hi
                  by_cases hib : i ∈ bs
                  · obtain ⟨cs1, cs', h1, h2, h3, h4⟩ := hout _ i (ixOf_get hib)
                    rw [hi] at h2; cases h2
                    obtain ⟨blk, h5, h6, h8⟩ := hboxS' _ cs1 h1
                    obtain ⟨blk', h9, h10⟩ := hgC _ i (ixOf_get hib)
                    rw [h5] at h10; cases h10
                    have hnb : ∀ c0 r, cs1 = c0 :: r → rowy c0 = false := fun c0 r e => by
                      subst e
                      obtain ⟨c', _, h12⟩ := h4 0 c0 rfl
                      exact h12.1
                    cases h6 with
                    | row vs e fz cs2 _ _ _ _ => cases hnb _ _ rfl
                    | map es ck ks _ _ => cases hnb _ _ rfl
                    | bld t' p' v' c' _ _ _ => cases hnb _ _ rfl
                    | cells vs e _ h6 h7 =>
                    refine ⟨blk, h9, .cells vs e _ h6 ⟨by rw [h3]; exact h7.1, fun j y c hy hc => ?_⟩⟩
                    have hjl : j < cs1.length := by rw [← h3]; exact (List.getElem?_eq_some_iff.1 hc).1
                    obtain ⟨c', h11, h12⟩ := h4 j cs1[j] (List.getElem?_eq_getElem hjl)
                    rw [hc] at h11; cases h11
                    have h13 := h7.2 j y _ hy (List.getElem?_eq_getElem hjl)
                    rcases h12.2 with h12 | ⟨n, s, sz, xs, h14, hs, rfl⟩
                    · exact .data (h12 g' w' y h13)
                    · rw [h14] at h13
                      obtain ⟨h15, h16⟩ := (h13.sized hs).own_inv
                      obtain ⟨h17, h18⟩ := h8 j n s xs (by rw [List.getElem?_eq_getElem hjl, h14])
                      refine .own _ ?_ h16
                      show owOut g g' bs es _ = some y
                      unfold owOut
                      rw [if_pos ⟨by simp [boxSlot], by simpa [boxSlot] using hib⟩]
                      have : (⟨boxSlot (ixOf bs (boxSlot i - 1000000)), j, n.elem⟩ : Nm) = n := by
                        rw [show boxSlot i - 1000000 = i by unfold boxSlot; omega, ← h17, ← h18]
                      rw [this]; exact h15
                  · rw [hsame i hib, strikeH_get] at hi
                    cases hx : st.H[i]? with
                    | none => rw [hx] at hi; cases hi
                    | some cs0 =>
                      rw [hx] at hi
                      simp only [Option.map_some, Option.some.injEq] at hi
                      subst hi
                      obtain ⟨blk, h1, h2⟩ := S.bx.box i cs0 hx
                      exact ⟨blk, h1, h2.strike (hblk blk (hboxlt blk (List.mem_of_getElem? h1)) (hbxDn i blk h1 hib)) hkp hcell2⟩
                · rcases owOut_cases hx with ⟨b', hb', _, h1⟩ | ⟨_, h2, h1⟩
                  · exact S'.ow.row (⟨boxSlot (ixOf bs b'), N.ix, N.elem⟩ : Nm) x h1
                  · obtain ⟨n, xs, h3, h4⟩ := S.ow.row N x h1
                    exact ⟨n, xs, ownsRow_block h3 fun b hb => hblk b (hol N x b h1 hb) (howDn N x b h1 hb h2), fun b j hb hm => h4 b j hb (hMold b j (hol N x b h1 hb) (howDn N x b h1 hb h2) hm)⟩
                · have key : ∀ (N N' : Nm) (x x' : Value), (∃ b, b ∈ bs ∧ N.slot = boxSlot b ∧ g'.ow ⟨boxSlot (ixOf bs b), N.ix, N.elem⟩ = some x) → ((∀ b ∈ bs, N'.slot ≠ boxSlot b) ∧ (∀ p ∈ es, N' ≠ p.2) ∧ g.ow N' = some x') → ∀ q, x.ownBlock = some q → x'.ownBlock = some q → False := fun N N' x x' ⟨b, _, _, h1⟩ ⟨_, h2, h3⟩ q hq hq' => by
                    rcases S'.owB _ x q h1 hq with h4 | h4
                    · exact howDn N' x' q h3 hq' h2 h4
                    · have := hol N' x' q h3 hq'
                      have h4 : w0.heap.size ≤ q := h4
                      omega
                  rcases owOut_cases hx with h1 | h1 <;> rcases owOut_cases hx' with h2 | h2
                  · obtain ⟨b, hb, hsb, h1⟩ := h1
                    obtain ⟨b', hb', hsb', h2⟩ := h2
                    refine S'.ow.ne _ _ x x' (fun e => hne ?_) h1 h2
                    injection e with e1 e2 e3
                    have e1 : ixOf bs b = ixOf bs b' := by unfold boxSlot at e1; omega
                    have h3 := ixOf_get hb
                    rw [e1, ixOf_get hb'] at h3
                    cases h3
                    cases N; cases N'
                    simp only at hsb hsb' e2 e3
                    rw [hsb, hsb', e2, e3]
                  · cases hq : x.ownBlock with
                    | none => exact .inl rfl
                    | some q => exact .inr fun e => key N N' x x' h1 h2 q hq e.symm
                  · cases hq : x.ownBlock with
                    | none => exact .inl rfl
                    | some q => exact .inr fun e => key N' N x' x h2 h1 q e.symm hq
                  · exact S.ow.ne N N' x x' hne h1.2.2 h2.2.2
                · rw [hblk q (Nat.lt_of_lt_of_le hq S.fr.size) fun hD => (hDB q hD).elim hnD fun h => by omega]
                  exact S.fr.block q hq hnD
                · exact S.fr.old b j hb hnD (hMold b j (Nat.lt_of_lt_of_le hb S.fr.size) (fun hD => (hDB b hD).elim hnD fun h => by omega) hm)
                · rcases owOut_cases hx with ⟨b', hb', _, h1⟩ | ⟨_, h2, h1⟩
                  · rcases S'.owB _ x b h1 hb with h3 | h3
                    · exact hDB b h3
                    · exact .inr (Nat.le_trans S.fr.size h3)
                  · exact S.owB N x b h1 hb
              exact hK u w' g2 ((castV_sound hcv hr).toBare (g' := g2) hp2 rfl) S2
        · cases h
end
include hE hC
theorem aop_call {full : Bool} {o : Oper} {f : FuncId} {args : Array Operand} {tys : Array TypeId} {st : St} {k : AV → St → Option R} {r : R} (ho : o.op = .call ⟨.value (.func f), args, tys⟩) (h : aop E call full o st k = some r) : ∃ av st', k av st' = some r ∧ Res P o full st av st' := by
  unfold aop at h
  simp only [ho] at h
  split at h
  · rename_i asl has
    split at h
    · rename_i p hp
      have hP := hE.prim f p hp
      obtain ⟨fn, hf, hb, hn⟩ := hP.fn
      cases hpt : asl.any AV.hasPtr with
      | true => rw [hpt] at h; cases h
      | false =>
        rw [hpt] at h
        simp only [condA_false] at h
        split at h
        · rename_i v hv
          split at h
          · rename_i t ht
            rw [castV_bind] at h
            obtain ⟨v', h1, h2⟩ := bind_some_inv h
            cases hp2 : v'.hasPtr with
            | true => rw [hp2] at h2; cases h2
            | false =>
              rw [hp2] at h2
              simp only [condA_false] at h2
              refine ⟨_, st, h2, .pure (StEq.refl st) fun B g a w S K Q hK => ?_⟩
              have hA := (evl_rel S _ _ has).imp (D := fun a u => Rv ⟨g.M, [], fun _ => none⟩ w u a) (f := AV.bare) (fun a u ha hr => hr.toBare (any_false hpt a ha) rfl)
              refine wp_callF ho hf hb hn ?_
              rw [args_vals]
              refine (hP.ok _ v hv g.M w _ S.inv S.live hA).mono fun e w' ⟨u, M', he, hG, hr⟩ => ⟨u, he, ?_⟩
              exact hK u w' M' ⟨hG.below, hG.sub, hG.old, hG.live⟩ ((castV_sound h1 hr).toBare hp2 rfl)
          · cases h
        · cases h
    · split at h
      · rename_i p hp
        have hP := hE.primH f p hp
        obtain ⟨fn, hf, hb, hn⟩ := hP.fn
        cases full with
        | false => cases h
        | true =>
          simp only [condA_true] at h
          split at h
          · rename_i b rest
            cases hpt : rest.any AV.hasPtr with
            | true => rw [hpt] at h; cases h
            | false =>
            rw [hpt] at h
            simp only [condA_false] at h
            split at h
            · rename_i old hold
              split at h
              · rename_i v new hv
                obtain ⟨new', h, hll, hlk⟩ := likeCells_some old new h
                split at h
                · rename_i t ht
                  rw [castV_bind] at h
                  obtain ⟨v', h1, h2⟩ := bind_some_inv h
                  cases hp2 : v'.hasPtr with
                  | true => rw [hp2] at h2; cases h2
                  | false =>
                  rw [hp2] at h2
                  simp only [condA_false] at h2
                  refine ⟨_, _, h2, .eff1 fun B g a w S K Q hK => ?_⟩
                  refine wp_callF ho hf hb hn ?_
                  rw [args_vals]
                  have hA := evl_rel S _ _ has
                  cases hA' : args.toList.map a.eval with
                  | nil => rw [hA'] at hA; cases hA
                  | cons u0 us =>
                    rw [hA'] at hA
                    cases hA with
                    | cons hh ht' =>
                      obtain ⟨blk, rfl, hbx⟩ := Rc.ptr_inv hh
                      have hA2 := ht'.imp (D := fun a u => Rv ⟨g.M, [], fun _ => none⟩ w u a) (f := AV.bare) (fun a u ha hr => hr.toBare (any_false hpt a ha) rfl)
                      refine (hP.ok b _ old v new hv B g st a w _ blk S hold hbx hA2).mono fun e w' ⟨u, g', he, hr, S'⟩ => ⟨u, he, ?_⟩
                      exact hK u w' g' ((castV_sound h1 hr).toBare hp2 rfl) (S'.like hll hlk)
                · cases h
              · cases h
            · cases h
          · cases h
      · split at h
        · rename_i p hp
          have hP := hE.primS f p hp
          obtain ⟨fn, hf, hb, hn⟩ := hP.fn
          cases full with
          | false => cases h
          | true =>
            simp only [condA_true] at h
            split at h
            · rename_i b rest
              cases hpt : rest.any AV.hasPtr with
              | true => rw [hpt] at h; cases h
              | false =>
              rw [hpt] at h
              simp only [condA_false] at h
              split at h
              · rename_i old hold
                split at h
                · rename_i v hv
                  split at h
                  · rename_i t ht
                    rw [castV_bind] at h
                    obtain ⟨v', h1, h2⟩ := bind_some_inv h
                    cases hp2 : v'.hasPtr with
                    | true => rw [hp2] at h2; cases h2
                    | false =>
                    rw [hp2] at h2
                    simp only [condA_false] at h2
                    refine ⟨_, _, h2, .eff1 fun B g a w S K Q hK => ?_⟩
                    refine wp_callF ho hf hb hn ?_
                    rw [args_vals]
                    have hA := evl_rel S _ _ has
                    cases hA' : args.toList.map a.eval with
                    | nil => rw [hA'] at hA; cases hA
                    | cons u0 us =>
                      rw [hA'] at hA
                      cases hA with
                      | cons hh ht' =>
                        obtain ⟨blk, rfl, hbx⟩ := Rc.ptr_inv hh
                        have hA2 := ht'.imp (D := fun a u => Rv ⟨g.M, [], fun _ => none⟩ w u a) (f := AV.bare) (fun a u ha hr => hr.toBare (any_false hpt a ha) rfl)
                        refine (hP.ok b _ old v hv B g st a w _ blk S hold hbx hA2).mono fun e w' ⟨u, g', he, hr, S'⟩ => ⟨u, he, ?_⟩
                        exact hK u w' g' ((castV_sound h1 hr).toBare hp2 rfl) S'
                  · cases h
                · cases h
              · cases h
            · cases h
        · cases hpt : asl.any AV.hasPtr with
          | true =>
            rw [hpt] at h
            simp only [condA_true] at h
            cases full with
            | false => cases h
            | true => exact call_ref hC ho has h
          | false =>
            rw [hpt] at h
            simp only [condA_false] at h
            split at h
            · rename_i v H' hv
              obtain ⟨fn, hf, hb, hn⟩ := hC.fn f _ _ v H' hv
              have args : ∀ B g a w, Sim P B g st a w → All2 (fun a u => Rv ⟨g.M, [], fun _ => none⟩ w u a) (asl.map AV.bare) (args.toList.map a.eval) := fun B g a w S =>
                (evl_rel S _ _ has).imp (D := fun a u => Rv ⟨g.M, [], fun _ => none⟩ w u a) (f := AV.bare) (fun a u ha hr => hr.toBare (any_false hpt a ha) rfl)
              cases hnm : full && E.named.any (Nat.beq f) with
              | true =>
                rw [hnm] at h
                simp only [condA_true] at h
                rw [Bool.and_eq_true] at hnm
                obtain ⟨rfl, _⟩ := hnm
                split at h
                · rename_i d e sz hd ht
                  split at h
                  · rename_i c
                    obtain ⟨n, cs, s0, rfl, hs, he, h⟩ := castN_some h
                    refine ⟨_, _, h, .eff1 fun B g a w S K Q hK => ?_⟩
                    refine wp_callF ho hf hb hn ?_
                    rw [args_vals]
                    refine (hC.plain hv S.inv S.live (args B g a w S)).mono fun e' w' ⟨u, M', bx, ow, he', hG, hr, hO, hN⟩ => ⟨u, he', ?_⟩
                    obtain ⟨g', h3, h4⟩ := call_named (d := d) (v := .one (.sl (some n) sz cs)) S hG (Rc.sized hr hs) rfl hO hN
                    refine hK u w' g' ?_ h4
                    rw [← he]; exact h3
                  · cases h
                · rename_i d e sz ts hd ht
                  split at h
                  · rename_i c rr
                    obtain ⟨n, cs, s0, rfl, hs, he, h⟩ := castN_some h
                    rw [castVs_bind] at h
                    obtain ⟨r', h1, h⟩ := bind_some_inv h
                    cases hp2 : r'.any V1.hasPtr with
                    | true => rw [hp2] at h; cases h
                    | false =>
                      rw [hp2] at h
                      simp only [condA_false] at h
                      refine ⟨_, _, h, .eff1 fun B g a w S K Q hK => ?_⟩
                      refine wp_callF ho hf hb hn ?_
                      rw [args_vals]
                      refine (hC.plain hv S.inv S.live (args B g a w S)).mono fun e' w' ⟨u, M', bx, ow, he', hG, hr, hO, hN⟩ => ⟨u, he', ?_⟩
                      obtain ⟨us, rfl, hl, hall⟩ := hr
                      have hr2 : Rv ⟨M', bx, ow⟩ w' (.tuple us) (.tup (.one (.sl (some n) sz cs) :: r')) := by
                        cases hus : us.toList with
                        | nil => have : us.size = 0 := by rw [← Array.length_toList, hus]; rfl
                                 rw [hl] at this; simp at this
                        | cons u0 ur =>
                          have hget : ∀ (i : Nat) x, us[i]? = some x ↔ (u0 :: ur)[i]? = some x := fun i x => by rw [← hus]; simp
                          have hlr : ur.length = rr.length := by have := hl; rw [← Array.length_toList, hus] at this; simpa using this
                          obtain ⟨h5, h6⟩ := castVs_sound ts ur rr r' h1 hlr (fun i u x hu hx => hall (i + 1) u x ((hget _ _).2 (by simpa using hu)) (by simpa using hx))
                          refine ⟨us, rfl, by rw [← Array.length_toList, hus]; simp [h5], fun i u x hu hx => ?_⟩
                          cases i with
                          | zero =>
                            simp only [List.getElem?_cons_zero, Option.some.injEq] at hx
                            subst hx
                            exact Rc.sized (hall 0 u (.one (.sl (some n) s0 cs)) hu rfl) hs
                          | succ i => exact h6 i u x (by simpa using (hget _ _).1 hu) (by simpa using hx)
                      obtain ⟨g', h3, h4⟩ := call_named (d := d) S hG hr2 (by show List.any (V1.one (.sl (some n) sz cs) :: r') V1.hasPtr = false; rw [List.any_cons, hp2]; rfl) hO hN
                      refine hK _ w' g' ?_ h4
                      rw [← he]; exact h3
                  · cases h
                · cases h
              | false =>
                rw [hnm] at h
                simp only [condA_false] at h
                split at h
                · rename_i t ht
                  rw [castV_bind] at h
                  obtain ⟨v', h1, h2⟩ := bind_some_inv h
                  cases hp2 : v'.hasPtr with
                  | true => rw [hp2] at h2; cases h2
                  | false =>
                    rw [hp2] at h2
                    simp only [condA_false] at h2
                    refine ⟨_, st, h2, .pure (StEq.refl st) fun B g a w S K Q hK => ?_⟩
                    refine wp_callF ho hf hb hn ?_
                    rw [args_vals]
                    refine (hC.plain hv S.inv S.live (args B g a w S)).mono fun e w' ⟨u, M', bx, ow, he, hG, hr, _, _⟩ => ⟨u, he, ?_⟩
                    exact hK u w' M' ⟨hG.below, hG.sub, hG.old, hG.live⟩ ((castV_sound h1 hr).toBare hp2 rfl)
                · cases h
            · cases h
  · cases h
theorem aop_sound {full : Bool} {o : Oper} {st : St} {k : AV → St → Option R} {r : R} (h : aop E call full o st k = some r) : ∃ av st', k av st' = some r ∧ Res P o full st av st' := by
 cases ho : o.op with
 | move x => exact aop_move hE (x := x) (by unfold aop at h; simp only [ho] at h; exact h) (fun a => by simp only [execOp, ho])
 | assign x => exact aop_move hE (x := x) (by unfold aop at h; simp only [ho] at h; exact h) (fun a => by simp only [execOp, ho])
 | pick c x y => exact aop_pick ho h
 | binOp op t x y u => exact aop_binOp hE ho h
 | unOp op t x => exact aop_unOp ho h
 | build t ps => exact aop_build hE ho h
 | buildSlice t n ps => exact aop_buildSlice hE ho h
 | load t x => exact aop_load hE ho h
 | store t x y => exact aop_store hE ho h
 | alloc t => exact aop_alloc hE ho h
 | box t x => exact aop_box ho h
 | makeSlice t x y => exact aop_makeSlice hE ho h
 | makeMap t x => exact aop_makeMap hE ho h
 | lookup t x y ok => exact aop_lookup hE ho h
 | mapUpdate t m x y => exact aop_mapUpdate hE ho h
 | insert t m x y => exact aop_insert hE ho h
 | nilCheck x => exact aop_nilCheck ho h
 | convert s d x => exact aop_convert hE ho h
 | slice t x lo hi mx =>
  cases mx with
  | none => exact aop_slice hE ho h
  | some m => unfold aop at h; simp only [ho] at h; cases h
 | fieldAddr t x f => exact aop_fieldAddr hE ho h
 | field t x f => exact aop_field hE ho h
 | indexAddr t x i => exact aop_indexAddr hE ho h
 | index t x i => exact aop_index hE ho h
 | extract x i => exact aop_extract ho h
 | call c =>
  obtain ⟨callee, args, tys⟩ := c
  cases callee with
  | value x =>
   cases x with
   | func f => exact aop_call hE hC ho h
   | _ => unfold aop at h; simp only [ho] at h; cases h
  | invoke x m => unfold aop at h; simp only [ho] at h; cases h
  | builtin b =>
   cases b with
   | len => exact aop_len hE ho h
   | append => exact aop_append hE ho h
   | _ => unfold aop at h; simp only [ho] at h; cases h
 | _ => unfold aop at h; simp only [ho] at h; cases h
end
end AX
end Go.Proofs.YtfbicbgdfcbhpaaGreatDoor
namespace Go.Proofs.YtfbicbgdfcbhpaaGreatDoor
namespace AX
variable [Inv]
open Go.RowKit
variable {P : Program} {R : Type}
omit [Inv] in
theorem yielded_bool {ops : Array Oper} {a : Act} {j d : Nat} {b : Bool} (hd : dstOf ops j = some d) (h : a.tmps.getD d undef = .bool b) : yielded ops a.tmps j = some b := by
 unfold yielded
 unfold dstOf at hd
 rw [hd]
 simp only [Option.bind_some]
 cases hx : a.tmps[d]? with
 | none => rw [Array.getD_eq_getD_getElem?, hx] at h; cases h
 | some v => rw [Array.getD_eq_getD_getElem?, hx] at h; simp only [Option.getD_some] at h; subst h; rfl
omit [Inv] in
theorem yielded_undef {ops : Array Oper} {a : Act} {j d : Nat} (hd : dstOf ops j = some d) (h : a.tmps.getD d undef = undef) : yielded ops a.tmps j = none := by
 unfold yielded
 unfold dstOf at hd
 rw [hd]
 simp only [Option.bind_some]
 cases hx : a.tmps[d]? with
 | none => rfl
 | some v => rw [Array.getD_eq_getD_getElem?, hx] at h; simp only [Option.getD_some] at h; subst h; rfl
omit [Inv] in
theorem wanted_none {o : Oper} {f : Nat → Option Bool} (h : o.guard = none) : Region.wanted o f = true := by simp [Region.wanted, h]
omit [Inv] in
theorem wanted_some {o : Oper} {f : Nat → Option Bool} {j : Nat} {want : Bool} (h : o.guard = some (j, want)) : Region.wanted o f = (f j == some want) := by simp [Region.wanted, h]
def dstsIn (nt : Nat) (l : List Oper) : Bool := l.all fun o => match o.dst with | some d => Nat.blt d nt | none => true
omit [Inv] in
theorem dstsIn_cons {nt : Nat} {o : Oper} {l : List Oper} (h : dstsIn nt (o :: l) = true) : (∀ t, o.dst = some t → t < nt) ∧ dstsIn nt l = true := by
 unfold dstsIn at h ⊢
 rw [List.all_cons, Bool.and_eq_true] at h
 refine ⟨fun t ht => ?_, h.2⟩
 have := h.1
 rw [ht] at this
 simp only [Nat.blt] at this
 exact Nat.le_of_ble_eq_true this
section
variable {E : Env} {call : CallF} (hE : EnvOk P E) (hC : CallOk P call)
include hE hC
theorem aops_sound {ops : Array Oper} {B : Base} {kk : St → Option R} {r : R} {Q : Exit → Act → World → Prop} (hQ : ∀ g st a w, Sim P B g st a w → kk st = some r → Q .normal a w) : ∀ (l : List Oper), dstsIn B.nt l = true → ∀ {g : Gh} {st : St} {a : Act} {w : World}, Sim P B g st a w → aops E call ops l kk st = some r → wpList P ops Q l a w
 | [], _, g, st, a, w, S, h => hQ g st a w S h
 | o :: l, hd, g, st, a, w, S, h => by
  obtain ⟨hd1, hd2⟩ := dstsIn_cons hd
  have run : ∀ st2, StEq st st2 → aop E call true o st2 (fun v st' => aops E call ops l kk (st'.put o.dst v)) = some r → o.wp P a w (wpList P ops Q l) Q := fun st2 he h => by
   obtain ⟨av, st', h1, h2⟩ := aop_sound hE hC h
   exact h2.eff B g a w (S.eqv he) _ _ fun v w' g' hv S' => aops_sound hQ l hd2 (S'.put hd1 hv) h1
  have skip : ∀ st2, StEq st st2 → aops E call ops l kk (st2.put o.dst .undef) = some r → wpList P ops Q l (a.put o.dst undef) w := fun st2 he h =>
   aops_sound hQ l hd2 ((S.eqv he).put hd1 (show Rv g w undef .undef from rfl)) h
  simp only [aops] at h
  simp only [wpList]
  split at h
  · rename_i hg
    rw [if_pos (wanted_none hg)]
    exact .inl (run st (StEq.refl _) h)
  · rename_i j want hg
    rw [wanted_some hg]
    split at h
    · cases h
    · rename_i d hdj
      split at h
      · rename_i b hb
        have hy := yielded_bool hdj (S.frame d _ hb).bool_inv
        rw [hy]
        have hf : ∀ c, b = c → StEq st (st.fix (.tmp d) c) := fun c hc => fix_eq (x := .tmp d) (by subst hc; exact hb)
        cases b with
        | true =>
         cases want with
         | true => rw [if_pos (by rfl)]; exact .inl (run _ (hf true rfl) h)
         | false => rw [if_neg (by decide)]; exact skip _ (hf true rfl) h
        | false =>
         cases want with
         | true => rw [if_neg (by decide)]; exact skip _ (hf false rfl) h
         | false => rw [if_pos (by rfl)]; exact .inl (run _ (hf false rfl) h)
      · rename_i hb
        have hy := yielded_undef hdj (S.frame d _ hb)
        rw [hy, if_neg (by simp)]
        exact skip st (StEq.refl _) h
      · cases h
end
def MX (g : Gh) (w w' : World) : Mem := fun b j => ∃ M', Grow g w M' w' ∧ M' b j
omit [Inv] in
theorem MX.grow {g : Gh} {w w' : World} (hl : ∀ b j, g.M b j → b < w.heap.size) (hb : Below w.heap.size w w') : Grow g w (MX g w w') w' :=
 ⟨hb, fun _b _j h => ⟨g.M, ⟨hb, fun _ _ h => h, fun _ _ _ h => h, fun b j h => Nat.lt_of_lt_of_le (hl b j h) hb.size⟩, h⟩, fun b j hlt ⟨_M', hG, h⟩ => hG.old b j hlt h, fun b j ⟨_M', hG, h⟩ => hG.live b j h⟩
omit [Inv] in
theorem MX.up {g : Gh} {w w1 w2 : World} (hb : Below w1.heap.size w1 w2) : Kp (MX g w w1) w1 (MX g w w2) w2 := fun b j ⟨M', hG, h⟩ =>
 ⟨⟨M', ⟨hG.below.trans (hb.mono hG.below.size), hG.sub, hG.old, fun b j h => Nat.lt_of_lt_of_le (hG.live b j h) hb.size⟩, h⟩, hb.cell (p := ⟨b, j, none⟩) (hG.live b j h)⟩
omit [Inv] in
theorem MX.le {g : Gh} {w w' : World} {M' : Mem} (hG : Grow g w M' w') : Kp M' w' (MX g w w') w' := fun _b _j h => ⟨⟨M', hG, h⟩, rfl⟩
def PV (g : Gh) (w : World) (x : AV) (v : Value) (w' : World) : Prop := Below w.heap.size w w' ∧ Rv ⟨MX g w w', g.bx, g.ow⟩ w' v x
omit [Inv] in
theorem PV.up {g : Gh} {w w1 w2 : World} {x : AV} {v : Value} (h : PV g w x v w1) (hb : Below w1.heap.size w1 w2) : PV g w x v w2 :=
 ⟨h.1.trans (hb.mono h.1.size), h.2.kept (MX.up hb) (fun _ _ h => h) (fun _ _ h => h)⟩
omit [Inv] in
theorem lk_only {l : List Nat} {fr : List (Nat × AV)} {s : Nat} {v : AV} (h : lk (only l fr) s = some v) : s ∈ l ∧ lk fr s = some v := by
 induction fr with
 | nil => cases h
 | cons x r ih =>
  obtain ⟨t, u⟩ := x
  simp only [only] at h
  cases ha : l.any (Nat.beq t) with
  | true =>
   rw [ha] at h
   simp only [condA_true, lk] at h ⊢
   cases hb : Nat.beq t s with
   | true =>
    rw [hb] at h
    have := Nat.eq_of_beq_eq_true hb
    subst this
    simp only [condA_true] at h
    refine ⟨?_, by simpa using h⟩
    rw [List.any_eq_true] at ha
    obtain ⟨y, hy, he⟩ := ha
    rw [Nat.eq_of_beq_eq_true he]; exact hy
   | false =>
    rw [hb] at h
    simp only [condA_false] at h ⊢
    exact ih h
  | false =>
   rw [ha] at h
   simp only [condA_false] at h
   obtain ⟨h1, h2⟩ := ih h
   refine ⟨h1, ?_⟩
   simp only [lk]
   cases hb : Nat.beq t s with
   | true =>
    have := Nat.eq_of_beq_eq_true hb
    subst this
    rw [List.any_eq_false] at ha
    exact absurd (Nat.beq_refl t) (by simpa using ha t h1)
   | false => exact h2
structure HW (g : Gh) (w : World) (nt : Nat) (st : St) (a : Act) (L : Facts) : Prop where
 fr : ∀ s v, lk st.fr s = some v → (∃ p, (s, p, a.tmps.getD s undef) ∈ L ∧ ∀ u w', p u w' → PV g w v u w') ∨ (∀ w', Below w.heap.size w w' → PV g w v (a.tmps.getD s undef) w')
 fb : ∀ s b, lk st.fr s = some (.one (.bool b)) → a.tmps.getD s undef = .bool b
 fu : ∀ s, lk st.fr s = some .undef → a.tmps.getD s undef = undef
 size : a.tmps.size = nt
 defers : a.defers = []
omit [Inv] in
theorem HW.put {g : Gh} {w : World} {nt : Nat} {st : St} {a : Act} {L : Facts} {o : Oper} {e : Nat} {v : Value} {x : AV} (h : HW g w nt st a L) (hgp : ∀ s, (a.put o.dst v).tmps.getD s undef = if e = s then v else a.tmps.getD s undef)
 (hlk : ∀ s, lk (st.put (some e) x).fr s = if e = s then some x else lk st.fr s) (hx : ∀ w', Below w.heap.size w w' → PV g w x v w') (hb : ∀ b, x = .one (.bool b) → v = .bool b) (hu : x = .undef → v = undef) : HW g w nt (st.put (some e) x) (a.put o.dst v) L := by
 refine ⟨fun s y hs => ?_, fun s b hs => ?_, fun s hs => ?_, by rw [put_size]; exact h.size, by rw [put_defers_same]; exact h.defers⟩
 · rw [hgp]; rw [hlk] at hs
   split
   · rw [if_pos ‹_›] at hs; cases hs; exact .inr hx
   · rw [if_neg ‹_›] at hs; exact h.fr s y hs
 · rw [hgp]; rw [hlk] at hs
   split
   · rw [if_pos ‹_›] at hs; cases hs; exact hb b rfl
   · rw [if_neg ‹_›] at hs; exact h.fb s b hs
 · rw [hgp]; rw [hlk] at hs
   split
   · rw [if_pos ‹_›] at hs; cases hs; exact hu rfl
   · rw [if_neg ‹_›] at hs; exact h.fu s hs
omit [Inv] in
theorem HW.putHas {g : Gh} {w : World} {nt : Nat} {st : St} {a : Act} {L : Facts} {o : Oper} {e : Nat} {v : Value} {x : AV} (h : HW g w nt st a L) (hoe : o.dst = some e) (hgp : ∀ s, (a.put o.dst v).tmps.getD s undef = if e = s then v else a.tmps.getD s undef)
 (hlk : ∀ s, lk (st.put (some e) x).fr s = if e = s then some x else lk st.fr s) (hb : ∀ b, x ≠ .one (.bool b)) (hu : x ≠ .undef) : HW g w nt (st.put (some e) x) (a.put o.dst v) (factOf o (PV g w x) v L) := by
 refine ⟨fun s y hs => ?_, fun s b hs => ?_, fun s hs => ?_, by rw [put_size]; exact h.size, by rw [put_defers_same]; exact h.defers⟩
 · rw [hgp]; rw [hlk] at hs
   by_cases he : e = s
   · rw [if_pos he] at hs ⊢; cases hs
     refine .inl ⟨PV g w x, ?_, fun u w' h => h⟩
     simp [factOf, hoe, he]
   · rw [if_neg he] at hs ⊢
     rcases h.fr s y hs with ⟨p, hp, hpv⟩ | hp
     · refine .inl ⟨p, ?_, hpv⟩
       unfold factOf; rw [hoe]; exact List.mem_cons_of_mem _ hp
     · exact .inr hp
 · rw [hgp]; rw [hlk] at hs
   split
   · rw [if_pos ‹_›] at hs; cases hs; exact absurd rfl (hb b)
   · rw [if_neg ‹_›] at hs; exact h.fb s b hs
 · rw [hgp]; rw [hlk] at hs
   split
   · rw [if_pos ‹_›] at hs; cases hs; exact absurd rfl hu
   · rw [if_neg ‹_›] at hs; exact h.fu s hs
omit [Inv] in
theorem facts_mem {s : Nat} {p : Value → World → Prop} {v : Value} {w : World} : ∀ (L : Facts), factsAll L w → (s, p, v) ∈ L → p v w
 | x :: L, hf, hx => by
  rcases List.mem_cons.1 hx with rfl | hx
  · exact hf.1
  · exact facts_mem L hf.2 hx
theorem Sim.at {B : Base} {g : Gh} {st0 st : St} {a0 a : Act} {w w' : World} (S : Sim P B g st0 a0 w) (hH : st.H = st0.H) (hb : Below w.heap.size w w') (hfr : ∀ s v, lk st.fr s = some v → PV g w v (a.tmps.getD s undef) w') (hs : a.tmps.size = B.nt) (hd : a.defers = []) : Sim P B ⟨MX g w w', g.bx, g.ow⟩ st a w' := by
 have S1 := S.grow (MX.grow S.live hb)
 exact ⟨fun s v h => (hfr s v h).2, hs, hd, S1.live, by rw [hH]; exact S1.bx, S1.ow, S1.fr, S1.bxB, S1.owB, S1.pre⟩
omit [Inv] in
theorem get_put {a : Act} {o : Oper} {v : Value} {e nt s : Nat} (hoe : o.dst = some e) (hs : a.tmps.size = nt) (hlt : e < nt) : (a.put o.dst v).tmps.getD s undef = if e = s then v else a.tmps.getD s undef := by
 rw [hoe]
 simp only [Act.put, Array.getD_eq_getD_getElem?, Array.getElem?_setIfInBounds, hs]
 by_cases h : e = s
 · subst h; simp [hlt]
 · simp [h]
omit [Inv] in
theorem lk_put {st : St} {e s : Nat} {x : AV} : lk (st.put (some e) x).fr s = if e = s then some x else lk st.fr s := by
 simp only [St.put, lk]
 cases hb : Nat.beq e s with
 | true => have := Nat.eq_of_beq_eq_true hb; subst this; simp
 | false =>
  have hne : e ≠ s := fun h => by subst h; rw [Nat.beq_refl] at hb; cases hb
  simp [lk_rm, hne]
def specOf (g : Gh) (w : World) : AV → Spec
 | .one (.bool b) => .is (.bool b)
 | .undef => .is undef
 | x => .has (PV g w x)
omit [Inv] in
theorem specOf_cases (g : Gh) (w : World) (x : AV) : (∃ b, x = .one (.bool b) ∧ specOf g w x = .is (.bool b)) ∨ (x = .undef ∧ specOf g w x = .is undef) ∨ ((∀ b, x ≠ .one (.bool b)) ∧ x ≠ .undef ∧ specOf g w x = .has (PV g w x)) := by
 cases x with
 | one c => cases c <;> first | exact .inl ⟨_, rfl, rfl⟩ | exact .inr (.inr ⟨fun b h => (by cases h), fun h => (by cases h), rfl⟩)
 | undef => exact .inr (.inl ⟨rfl, rfl⟩)
 | _ => exact .inr (.inr ⟨fun b h => (by cases h), fun h => (by cases h), rfl⟩)
def Fresh (E : Env) (w : World) (t : TypeId) (v : Value) (w' : World) : Prop := ∃ blk z ti, v = .pointer (some ⟨blk, 0, none⟩) ∧ w.heap.size ≤ blk ∧ w'.heap[blk]? = some (.cells z t) ∧ tyN E.T t = some ti ∧ leavesOk ti.leaves z.toList = true
omit [Inv] in
theorem allocOf_some {o : Op} {t : TypeId} (h : allocOf o = some t) : o = .alloc t := by
 cases o <;> simp only [allocOf] at h <;> first | (cases h; rfl) | cases h
omit [Inv] in
theorem mem_dstL {o : Oper} {d : Nat} (hd : o.dst = some d) : ∀ {l : List Oper}, o ∈ l → d ∈ dstL l
 | x :: r, h => by
  simp only [dstL]
  rcases List.mem_cons.1 h with rfl | h
  · rw [hd]; exact List.mem_cons_self
  · have := mem_dstL hd h
    split
    · exact List.mem_cons_of_mem _ this
    · exact this
omit [Inv] in
theorem alone_ne {e : Nat} {l : List Oper} (h : aloneB e l = true) {o : Oper} (ho : o ∈ l) : o.dst ≠ some e := fun hd => by
 unfold aloneB at h
 rw [List.all_eq_true] at h
 have := h e (mem_dstL hd ho)
 simp at this
section
variable {E : Env} {call : CallF} (hE : EnvOk P E) (hC : CallOk P call)
include hE hC
theorem aheads_sound {ops : Array Oper} {B : Base} {g : Gh} {st0 : St} {a0 : Act} {w : World} (S : Sim P B g st0 a0 w) {kk : St → Option R} {r : R} {Fin : Act → Facts → Prop} {J : List Oper → Act → Facts → Prop}
 (hJ : ∀ o l a v L L', J (o :: l) a L → (∀ x ∈ L, x ∈ L') → (o.guard = none → ∀ t e, allocOf o.op = some t → o.dst = some e → (e, Fresh E w t, v) ∈ L') → J l (a.put o.dst v) L')
 (hF : ∀ st a L, st.H = st0.H → HW g w B.nt st a L → J [] a L → kk st = some r → Fin a L) : ∀ (l : List Oper), dstsIn B.nt l = true → ∀ {st : St}, st.H = st0.H → aheads E call ops l kk st = some r →
 ∃ Sp : List Spec, ∀ (a : Act) (L : Facts), HW g w B.nt st a L → J l a L → wpText P ops w Fin l Sp a L := by
 intro l
 induction l with
 | nil => intro _ st hH h; exact ⟨[], fun a L hw hj => hF st a L hH hw hj h⟩
 | cons o l ih =>
  intro hd st hH h
  obtain ⟨hd1, hd2⟩ := dstsIn_cons hd
  simp only [aheads] at h
  split at h
  · cases h
  · rename_i e hoe
    have hlt := hd1 e hoe
    -- an operation that is wanted
    have run : ∀ st2, StEq st st2 → aop E call false o ⟨only (o.looksAt ops) st2.fr, st.H⟩ (fun v _ => aheads E call ops l kk (st2.put (some e) v)) = some r →
     (o.guard = none → allocOf o.op = none) → ∃ Sp : List Spec, ∀ (a : Act) (L : Facts), HW g w B.nt st a L → J (o :: l) a L → Region.wanted o (yielded ops a.tmps) = true → wpText P ops w Fin (o :: l) Sp a L := fun st2 he h hna => by
     obtain ⟨av, st', h1, h2⟩ := aop_sound hE hC h
     obtain ⟨Sr, hSr⟩ := ih hd2 (st := st2.put (some e) av) (by show st2.H = _; rw [he.H]; exact hH) h1
     have gives : ∀ (a : Act) (L : Facts), HW g w B.nt st a L → ∀ bs d, factsOf (o.looksAt ops) L (app w bs d) → ∀ K : Act → World → Prop, (∀ v w', Below (app w bs d).heap.size (app w bs d) w' → PV g w av v w' → K (a.put o.dst v) w') → o.wp P a (app w bs d) K (fun _ _ _ => False) := fun a L hw bs d hf K hK => by
      have hbel : Below w.heap.size w (app w bs d) := (Below.refl _ _).app (Nat.le_refl _) bs d
      have find : ∀ (s : Nat) p, s ∈ o.looksAt ops → ∀ (L : Facts), factsOf (o.looksAt ops) L (app w bs d) → (s, p, a.tmps.getD s undef) ∈ L → p (a.tmps.getD s undef) (app w bs d) := fun s p hm L => by
       induction L with
       | nil => intro _ h; cases h
       | cons x L ihL =>
        intro hf hx
        rcases List.mem_cons.1 hx with rfl | hx
        · exact hf.1 (by simpa using hm)
        · exact ihL hf.2 hx
      have S1 : Sim P B ⟨MX g w (app w bs d), g.bx, g.ow⟩ ⟨only (o.looksAt ops) st2.fr, st.H⟩ a (app w bs d) := by
       refine Sim.at S hH hbel (fun s v hs => ?_) hw.size hw.defers
       obtain ⟨hm, hl⟩ := lk_only hs
       rw [he.fr] at hl
       rcases hw.fr s v hl with ⟨p, hp, hpv⟩ | hp
       · exact hpv _ _ (find s p hm L hf hp)
       · exact hp _ hbel
      refine (h2.still rfl).2 B _ a _ S1 K _ fun v w' M' hG hv => hK v w' hG.below ⟨hbel.trans (hG.below.mono hbel.size), ?_⟩
      have hG2 : Grow g w M' w' := (MX.grow S.live hbel).trans hG
      exact hv.kept (g' := ⟨MX g w w', g.bx, g.ow⟩) (MX.le hG2) (fun _ _ h => h) (fun _ _ h => h)
     have hw2 : ∀ a L, HW g w B.nt st a L → HW g w B.nt st2 a L := fun a L hw => ⟨fun s v hs => hw.fr s v (by rw [← he.fr]; exact hs), fun s b hs => hw.fb s b (by rw [← he.fr]; exact hs), fun s hs => hw.fu s (by rw [← he.fr]; exact hs), hw.size, hw.defers⟩
     have hj1 : ∀ a v L, J (o :: l) a L → J l (a.put o.dst v) L := fun a v L hj => hJ o l a v L L hj (fun x h => h) fun hg t e ht _ => by rw [hna hg] at ht; cases ht
     have hj2 : ∀ a v p L, J (o :: l) a L → J l (a.put o.dst v) (factOf o p v L) := fun a v p L hj => hJ o l a v L _ hj (fun x h => by unfold factOf; rw [hoe]; exact List.mem_cons_of_mem _ h) fun hg t e ht _ => by rw [hna hg] at ht; cases ht
     refine ⟨specOf g w av :: Sr, fun a L hw hj hwant => ?_⟩
     rcases specOf_cases g w av with ⟨b, rfl, hs⟩ | ⟨rfl, hs⟩ | ⟨h3, h4, hs⟩
     · rw [hs]
       refine ⟨?_, hSr _ _ ((hw2 a L hw).put (fun s => get_put hoe hw.size hlt) (fun s => lk_put) (fun w' hb => ⟨hb, .data (.bool b)⟩) (fun b' h => by cases h; rfl) (fun h => by cases h)) (hj1 _ _ _ hj)⟩
       unfold Owed
       rw [if_pos hwant]
       exact fun bs d hf K hK => gives a L hw bs d hf K fun v w' hb hv => hK v w' hb (Rc.bool_inv hv.2)
     · rw [hs]
       refine ⟨?_, hSr _ _ ((hw2 a L hw).put (fun s => get_put hoe hw.size hlt) (fun s => lk_put) (fun w' hb => ⟨hb, rfl⟩) (fun b' h => by cases h) (fun h => rfl)) (hj1 _ _ _ hj)⟩
       unfold Owed
       rw [if_pos hwant]
       exact fun bs d hf K hK => gives a L hw bs d hf K fun v w' hb hv => hK v w' hb hv.2
     · rw [hs]
       refine ⟨?_, by rw [hoe]; rfl, fun v w1 w2 hb h => h.up hb, fun v => hSr _ _ ((hw2 a L hw).putHas hoe (fun s => get_put hoe hw.size hlt) (fun s => lk_put) h3 h4) (hj2 _ _ _ _ hj)⟩
       unfold Owed
       rw [if_pos hwant]
       exact fun bs d hf K hK => gives a L hw bs d hf K hK
    have skip : ∀ st2, StEq st st2 → aheads E call ops l kk (st2.put (some e) .undef) = some r →
     (o.guard = none → allocOf o.op = none) → ∃ Sp : List Spec, ∀ (a : Act) (L : Facts), HW g w B.nt st a L → J (o :: l) a L → Region.wanted o (yielded ops a.tmps) = false → wpText P ops w Fin (o :: l) Sp a L := fun st2 he h hna => by
     obtain ⟨Sr, hSr⟩ := ih hd2 (st := st2.put (some e) .undef) (by show st2.H = _; rw [he.H]; exact hH) h
     have hw2 : ∀ a L, HW g w B.nt st a L → HW g w B.nt st2 a L := fun a L hw => ⟨fun s v hs => hw.fr s v (by rw [← he.fr]; exact hs), fun s b hs => hw.fb s b (by rw [← he.fr]; exact hs), fun s hs => hw.fu s (by rw [← he.fr]; exact hs), hw.size, hw.defers⟩
     have hj1 : ∀ a v L, J (o :: l) a L → J l (a.put o.dst v) L := fun a v L hj => hJ o l a v L L hj (fun x h => h) fun hg t e ht _ => by rw [hna hg] at ht; cases ht
     refine ⟨.is undef :: Sr, fun a L hw hj hwant => ⟨?_, hSr _ _ ((hw2 a L hw).put (fun s => get_put hoe hw.size hlt) (fun s => lk_put) (fun w' hb => ⟨hb, rfl⟩) (fun b' h => by cases h) (fun h => rfl)) (hj1 _ _ _ hj)⟩⟩
     unfold Owed
     rw [if_neg (by rw [hwant]; simp)]
     exact fun _ _ => rfl
    split at h
    · rename_i hg
      split at h
      · rename_i t hal
        split at h
        · rename_i ti hti
          obtain ⟨Sr, hSr⟩ := ih hd2 (st := ⟨rm st.fr e, st.H⟩) hH h
          obtain ⟨htt, hnt⟩ := tyN_some hti
          obtain ⟨i, d, z, h1, h2, h3, h4, h5, h6⟩ := (not_tup hE htt hnt).ex
          have ho := allocOf_some hal
          refine ⟨.has (Fresh E w t) :: Sr, fun a L hw hj => ⟨?_, by rw [hoe]; rfl, fun v w1 w2 hb ⟨blk, z, ti, k1, k2, k3, k4⟩ => ⟨blk, z, ti, k1, k2, by rw [hb.block blk (Array.getElem?_eq_some_iff.1 k3).1]; exact k3, k4⟩, fun v => hSr _ _ ⟨fun s y hs => ?_, fun s b hs => ?_, fun s hs => ?_, by rw [put_size]; exact hw.size, by rw [put_defers_same]; exact hw.defers⟩
           (hJ o l a v L _ hj (fun x h => by unfold factOf; rw [hoe]; exact List.mem_cons_of_mem _ h) fun _ t' e' ht' he' => by
            rw [hal] at ht'; cases ht'; unfold factOf; rw [he']; exact List.mem_cons_self)⟩⟩
          · unfold Owed
            rw [if_pos (wanted_none hg)]
            intro bs d' hf K hK
            have hrun : (Instr.alloc t true (.tuple #[])).run P (app w bs d') = .ok (.pointer (some ⟨(app w bs d').heap.size, 0, none⟩)) ((app w bs d').alloc (.cells z.cells t)) := by simp [Instr.alloc, zeroValue, typeInfo, h1, h5, newVar, newRow]
            exact wp_value (by simp only [execOp, ho]; exact run_v hrun) (hK _ _ ((Below.refl _ _).alloc (Nat.le_refl _) _) ⟨_, z.cells, ti, rfl, ((Below.refl w.heap.size w).app (Nat.le_refl _) bs d').size, heap_alloc_new _ _, hti, h6⟩)
          · rw [get_put hoe hw.size hlt]
            rw [lk_rm] at hs
            split at hs
            · cases hs
            · rename_i hne
              rw [if_neg hne]
              rcases hw.fr s y hs with ⟨p, hp, hpv⟩ | hp
              · exact .inl ⟨p, by unfold factOf; rw [hoe]; exact List.mem_cons_of_mem _ hp, hpv⟩
              · exact .inr hp
          · rw [get_put hoe hw.size hlt]
            rw [lk_rm] at hs
            split at hs
            · cases hs
            · rename_i hne
              rw [if_neg hne]; exact hw.fb s b hs
          · rw [get_put hoe hw.size hlt]
            rw [lk_rm] at hs
            split at hs
            · cases hs
            · rename_i hne
              rw [if_neg hne]; exact hw.fu s hs
        · cases h
      · rename_i hal
        obtain ⟨Sp, hS⟩ := run st (StEq.refl _) h fun _ => hal
        exact ⟨Sp, fun a L hw hj => hS a L hw hj (wanted_none hg)⟩
    · rename_i j want hg
      have hng : o.guard = none → allocOf o.op = none := fun h => by rw [hg] at h; cases h
      split at h
      · cases h
      · rename_i d hdj
        split at h
        · rename_i b hb
          have hf : ∀ c, b = c → StEq st (st.fix (.tmp d) c) := fun c hc => fix_eq (x := .tmp d) (by subst hc; exact hb)
          have hy : ∀ a L, HW g w B.nt st a L → yielded ops a.tmps j = some b := fun a L hw => yielded_bool hdj (hw.fb d b hb)
          cases b with
          | true =>
           cases want with
           | true =>
            obtain ⟨Sp, hS⟩ := run _ (hf true rfl) h hng
            exact ⟨Sp, fun a L hw hj => hS a L hw hj (by rw [wanted_some hg, hy a L hw]; rfl)⟩
           | false =>
            obtain ⟨Sp, hS⟩ := skip _ (hf true rfl) h hng
            exact ⟨Sp, fun a L hw hj => hS a L hw hj (by rw [wanted_some hg, hy a L hw]; rfl)⟩
          | false =>
           cases want with
           | true =>
            obtain ⟨Sp, hS⟩ := skip _ (hf false rfl) h hng
            exact ⟨Sp, fun a L hw hj => hS a L hw hj (by rw [wanted_some hg, hy a L hw]; rfl)⟩
           | false =>
            obtain ⟨Sp, hS⟩ := run _ (hf false rfl) h hng
            exact ⟨Sp, fun a L hw hj => hS a L hw hj (by rw [wanted_some hg, hy a L hw]; rfl)⟩
        · rename_i hb
          obtain ⟨Sp, hS⟩ := skip st (StEq.refl _) h hng
          exact ⟨Sp, fun a L hw hj => hS a L hw hj (by rw [wanted_some hg, yielded_undef hdj (hw.fu d hb)]; rfl)⟩
        · cases h
omit hE hC in
theorem aop_indep {b0 : Nat} {o : Oper} {fr : List (Nat × AV)} {H H' : Heap} {f : AV → Option R} (hi : indepOp b0 ⟨fr, H⟩ o = true) (hH : ∀ b, b ≠ b0 → H'[b]? = H[b]?) : aop E call false o ⟨fr, H'⟩ (fun v _ => f v) = aop E call false o ⟨fr, H⟩ (fun v _ => f v) := by
 cases ho : o.op with
 | load t a =>
  unfold indepOp at hi
  simp only [ho] at hi
  unfold aop
  simp only [ho]
  have hev : AX.ev ⟨fr, H'⟩ a = AX.ev ⟨fr, H⟩ a := rfl
  rw [hev]
  split at hi
  · rename_i b _ he
    simp only [Bool.not_eq_true'] at hi
    have hne : b ≠ b0 := fun e => by subst e; rw [Nat.beq_refl] at hi; cases hi
    rw [he]
    cases ty E.T t with
    | none => rfl
    | some ti => simp only [loadK, hH b hne]
  · rename_i cs he
    rw [he]
    cases ty E.T t with
    | none => rfl
    | some ti => simp only [loadK]
  · cases hi
 | move x => unfold aop; simp only [ho]; rfl
 | assign x => unfold aop; simp only [ho]; rfl
 | build t ps =>
  unfold aop; simp only [ho]
  have hevs : ∀ ps : List (Nat × Operand), AX.evs ⟨fr, H'⟩ ps = AX.evs ⟨fr, H⟩ ps := fun ps => by
   induction ps with
   | nil => rfl
   | cons p ps ih => simp only [AX.evs]; rw [ih]; rfl
  simp only [condA_false, hevs]
 | nilCheck x => unfold aop; simp only [ho]; rfl
 | binOp op t x y u => unfold aop; simp only [ho]; rfl
 | unOp op t x => unfold aop; simp only [ho]; rfl
 | fieldAddr t x f => unfold aop; simp only [ho]; rfl
 | field t x f => unfold aop; simp only [ho]; rfl
 | extract x i => unfold aop; simp only [ho]; rfl
 | index t x i => unfold aop; simp only [ho]; rfl
 | _ => unfold indepOp at hi; simp only [ho] at hi; cases hi
def MXX (g : Gh) (n : Nat) (w : World) : Mem := fun b j => g.M b j ∨ (n ≤ b ∧ b < w.heap.size)
def PVX (g : Gh) (w W1 : World) (x : AV) (v : Value) (w' : World) : Prop := ∀ w0 w'', (w0 = w ∨ w0 = W1) → Keeps w.heap.size w' w'' → Below w.heap.size w0 w'' → Rv ⟨MXX g w.heap.size w'', g.bx, g.ow⟩ w'' v x
omit hE hC in
theorem keeps_then {B : Nat} {a b c : World} (h : Keeps B a b) (k : Keeps B b c) : Keeps B a c := ⟨Nat.le_trans h.1 k.1, fun q h1 h2 => (k.2 q h1 (Nat.lt_of_lt_of_le h2 h.1)).trans (h.2 q h1 h2)⟩
omit hE hC in
theorem PVX.keep {g : Gh} {w W1 : World} {x : AV} {v : Value} {w' w2 : World} (hk : Keeps w.heap.size w' w2) (h : PVX g w W1 x v w') : PVX g w W1 x v w2 := fun w0 w'' h0 h1 h2 => h w0 w'' h0 (keeps_then hk h1) h2
omit hE hC in
theorem MXX.grow {g : Gh} {n : Nat} {w w' : World} (hn : w.heap.size = n) (hl : ∀ b j, g.M b j → b < n) (hb : Below n w w') : Grow g w (MXX g n w') w' := by
 subst hn
 exact ⟨hb, fun b j h => .inl h, fun b j hlt h => h.elim id fun h => by omega, fun b j h => h.elim (fun h => Nat.lt_of_lt_of_le (hl b j h) hb.size) fun h => h.2⟩
structure Two (g : Gh) (w W1 : World) : Prop where
 size : W1.heap.size = w.heap.size
 live : ∀ b j, g.M b j → b < w.heap.size
 cell : ∀ b j, g.M b j → W1.cell? ⟨b, j, none⟩ = w.cell? ⟨b, j, none⟩
omit hE hC in
theorem PVX.of {g : Gh} {w W1 W2 w' : World} {M' : Mem} {x : AV} {v : Value} (T : Two g w W1) (hW : W2.heap.size = w.heap.size) (hc : ∀ b j, g.M b j → W2.cell? ⟨b, j, none⟩ = w.cell? ⟨b, j, none⟩) {bs : Array Obj} {d : Nat} (hG : Grow ⟨MXX g w.heap.size (app W2 bs d), g.bx, g.ow⟩ (app W2 bs d) M' w') (hv : Rv ⟨M', g.bx, g.ow⟩ w' v x) : PVX g w W1 x v w' := fun w0 w'' h0 hk hb => by
 have hsz : (app W2 bs d).heap.size = w.heap.size + bs.size := by rw [app_size, hW]
 refine hv.kept (g' := ⟨MXX g w.heap.size w'', g.bx, g.ow⟩) (fun b j hm => ?_) (fun _ _ h => h) (fun _ _ h => h)
 have hlt := hG.live b j hm
 by_cases hbn : b < w.heap.size
 · have hm2 := hG.old b j (by omega) hm
   have hm3 : g.M b j := hm2.elim id fun h => by omega
   refine ⟨.inl hm3, ?_⟩
   have e1 : w''.cell? ⟨b, j, none⟩ = w0.cell? ⟨b, j, none⟩ := World.cell?_of_block (w := w0) (hb.block b hbn)
   have e2 : w0.cell? ⟨b, j, none⟩ = w.cell? ⟨b, j, none⟩ := by rcases h0 with rfl | rfl; rfl; exact T.cell b j hm3
   have e3 : w'.cell? ⟨b, j, none⟩ = (app W2 bs d).cell? ⟨b, j, none⟩ := World.cell?_of_block (w := app W2 bs d) (hG.below.block b (by omega))
   have e4 : (app W2 bs d).cell? ⟨b, j, none⟩ = W2.cell? ⟨b, j, none⟩ := app_cell W2 bs d b j (by omega)
   rw [e1, e2, e3, e4, hc b j hm3]
 · exact ⟨.inr ⟨by omega, Nat.lt_of_lt_of_le hlt hk.1⟩, World.cell?_of_block (w := w') (hk.2 b (by omega) hlt)⟩
structure HWX (g : Gh) (w W1 : World) (nt : Nat) (st : St) (a : Act) (L : Facts) : Prop where
 fr : ∀ s v, lk st.fr s = some v → (∃ p, (s, p, a.tmps.getD s undef) ∈ L ∧ ∀ u w', p u w' → PVX g w W1 v u w') ∨ (∀ w', PVX g w W1 v (a.tmps.getD s undef) w')
 size : a.tmps.size = nt
 defers : a.defers = []
omit hE hC in
theorem HWX.put {g : Gh} {w W1 : World} {nt : Nat} {st : St} {a : Act} {L : Facts} {o : Oper} {e : Nat} {v : Value} {x : AV} (h : HWX g w W1 nt st a L) (hoe : o.dst = some e) (hlt : e < nt) : HWX g w W1 nt (st.put (some e) x) (a.put o.dst v) (factOf o (PVX g w W1 x) v L) := by
 refine ⟨fun s y hs => ?_, by rw [put_size]; exact h.size, by rw [put_defers_same]; exact h.defers⟩
 rw [get_put hoe h.size hlt]; rw [lk_put] at hs
 by_cases he : e = s
 · rw [if_pos he] at hs ⊢; cases hs
   refine .inl ⟨PVX g w W1 x, ?_, fun u w' h => h⟩
   simp [factOf, hoe, he]
 · rw [if_neg he] at hs ⊢
   rcases h.fr s y hs with ⟨p, hp, hpv⟩ | hp
   · refine .inl ⟨p, ?_, hpv⟩
     unfold factOf; rw [hoe]; exact List.mem_cons_of_mem _ hp
   · exact .inr hp
omit hE hC in
theorem facts_find {looks : List Nat} {w : World} {s : Nat} {p : Value → World → Prop} {v : Value} (hm : s ∈ looks) : ∀ L : Facts, factsOf looks L w → (s, p, v) ∈ L → p v w
 | [], _, h => by cases h
 | x :: L, hf, hx => by
  rcases List.mem_cons.1 hx with rfl | hx
  · exact hf.1 (by simpa using hm)
  · exact facts_find hm L hf.2 hx
omit hE hC in
theorem HWX.sim {B : Base} {g : Gh} {w W1 W2 : World} {st0 st : St} {a0 a : Act} {L : Facts} {l : List Nat} {H2 : Heap} (h : HWX g w W1 B.nt st a L) (S2 : Sim P B g ⟨st0.fr, H2⟩ a0 W2) (hW : W2.heap.size = w.heap.size) (h2 : W2 = w ∨ W2 = W1) {bs : Array Obj} {d : Nat} (hf : factsOf l L (app W2 bs d)) :
 Sim P B ⟨MXX g w.heap.size (app W2 bs d), g.bx, g.ow⟩ ⟨only l st.fr, H2⟩ a (app W2 bs d) := by
 have hbel : Below w.heap.size W2 (app W2 bs d) := (Below.refl _ _).app (by rw [hW]; exact Nat.le_refl _) bs d
 have S3 := S2.grow (MXX.grow hW (fun b j hm => by rw [← hW]; exact S2.live b j hm) hbel)
 refine ⟨fun s v hs => ?_, h.size, h.defers, S3.live, S3.bx, S3.ow, S3.fr, S3.bxB, S3.owB, S3.pre⟩
 obtain ⟨hm, hl⟩ := lk_only hs
 have kr : Keeps w.heap.size (app W2 bs d) (app W2 bs d) := ⟨Nat.le_refl _, fun _ _ _ => rfl⟩
 rcases h.fr s v hl with ⟨p, hp, hpv⟩ | hp
 · exact hpv _ _ (facts_find hm L hf hp) W2 _ h2 kr hbel
 · exact hp _ W2 _ h2 kr hbel
omit hE hC in
theorem HWX.all {B : Base} {g : Gh} {w W1 W2 : World} {st0 st : St} {a0 a : Act} {L : Facts} {H2 : Heap} (h : HWX g w W1 B.nt st a L) (S2 : Sim P B g ⟨st0.fr, H2⟩ a0 W2) (hW : W2.heap.size = w.heap.size) (h2 : W2 = w ∨ W2 = W1) {bs : Array Obj} {d : Nat} (hf : factsAll L (app W2 bs d)) :
 Sim P B ⟨MXX g w.heap.size (app W2 bs d), g.bx, g.ow⟩ ⟨st.fr, H2⟩ a (app W2 bs d) := by
 have hbel : Below w.heap.size W2 (app W2 bs d) := (Below.refl _ _).app (by rw [hW]; exact Nat.le_refl _) bs d
 have S3 := S2.grow (MXX.grow hW (fun b j hm => by rw [← hW]; exact S2.live b j hm) hbel)
 refine ⟨fun s v hl => ?_, h.size, h.defers, S3.live, S3.bx, S3.ow, S3.fr, S3.bxB, S3.owB, S3.pre⟩
 have kr : Keeps w.heap.size (app W2 bs d) (app W2 bs d) := ⟨Nat.le_refl _, fun _ _ _ => rfl⟩
 rcases h.fr s v hl with ⟨p, hp, hpv⟩ | hp
 · exact hpv _ _ (facts_mem L hf hp) W2 _ h2 kr hbel
 · exact hp _ W2 _ h2 kr hbel
theorem aheadsI_ph {ops : Array Oper} {B : Base} {g : Gh} {st0 : St} {a0 : Act} {w : World} {b0 : Nat} {kk : St → Option R} {r : R} (S : Sim P B g st0 a0 w) : ∀ (l : List Oper), dstsIn B.nt l = true → ∀ {st : St}, st.H = st0.H → aheadsI E call b0 ops l kk st = some r →
 ∃ st1, st1.H = st0.H ∧ kk st1 = some r ∧ ∀ (W1 : World) (H1 : Heap), Two g w W1 → Sim P B g ⟨st0.fr, H1⟩ a0 W1 → (∀ b, b ≠ b0 → H1[b]? = st0.H[b]?) →
  ∃ Sp : List Spec, ∀ (Wf : Nat → World) (Fin : Nat → List Oper → Act → Facts → Prop) (l2 : List Oper) (S2 : List Spec) (ph2 : List Ph) (n2 : Nat), Wf 0 = w → Wf 1 = W1 →
  (∀ a L, HWX g w W1 B.nt st1 a L → wpPhN P ops Wf Fin n2 0 l2 S2 ph2 a L) → ∀ a L, HWX g w W1 B.nt st a L → wpPhN P ops Wf Fin (l.length + n2) 0 (l ++ l2) (Sp ++ S2) (List.replicate l.length (.rng 0 1) ++ ph2) a L := by
 intro l
 induction l with
 | nil =>
  intro _ st hH h
  refine ⟨st, hH, h, fun W1 H1 _ _ _ => ⟨[], fun Wf Fin l2 S2 ph2 n2 _ _ hk a L hw => ?_⟩⟩
  simpa using hk a L hw
 | cons o l ih =>
  intro hd st hH h
  obtain ⟨hd1, hd2⟩ := dstsIn_cons hd
  simp only [aheadsI] at h
  split at h
  · rename_i e hoe hg
    have hlt := hd1 e hoe
    cases hi : indepOp b0 ⟨only (o.looksAt ops) st.fr, st.H⟩ o with
    | false => rw [hi] at h; cases h
    | true =>
     rw [hi, condA_true] at h
     split at h
     case h_2 => cases h
     rename_i av hval
     have h1 := h
     obtain ⟨av2, st', h6', h2⟩ := aop_sound hE hC hval
     cases h6'
     obtain ⟨st1, h3, h4, h5⟩ := ih hd2 (st := st.put (some e) av) hH h1
     refine ⟨st1, h3, h4, fun W1 H1 T S1 hH1 => ?_⟩
     obtain ⟨Sr, hSr⟩ := h5 W1 H1 T S1 hH1
     refine ⟨.has (PVX g w W1 av) :: Sr, fun Wf Fin l2 S2 ph2 n2 hW0 hW1 hk a L hw => ?_⟩
     have hlen : (o :: l).length + n2 = (l.length + n2) + 1 := by simp; omega
     rw [hlen, List.length_cons, List.replicate_succ]
     refine ⟨?_, fun p hp => ?_, fun v => ?_⟩
     · unfold OwedPh
       simp only
       rw [if_pos (wanted_none hg)]
       intro q _ hq1 bs d hf K hK
       have hq : q = 0 ∨ q = 1 := by omega
       rcases hq with rfl | rfl
       · rw [hW0] at hf hK ⊢
         have S3 := hw.sim S rfl (.inl rfl) hf
         have S4 : Sim P B ⟨MXX g w.heap.size (app w bs d), g.bx, g.ow⟩ ⟨only (o.looksAt ops) st.fr, st.H⟩ a (app w bs d) := by rw [hH]; exact S3
         exact (h2.still rfl).2 B _ a _ S4 K _ fun v w' M' hG hv => hK v w' hG.below (PVX.of T rfl (fun _ _ _ => rfl) hG hv)
       · rw [hW1] at hf hK ⊢
         have S3 := hw.sim S1 T.size (.inr rfl) hf
         -- the same operation over the other heap
         have hind : aop E call false o ⟨only (o.looksAt ops) st.fr, H1⟩ (fun v _ => some v) = aop E call false o ⟨only (o.looksAt ops) st.fr, st.H⟩ (fun v _ => some v) := aop_indep hi (fun b hb => by rw [hH]; exact hH1 b hb)
         rw [← hind] at hval
         obtain ⟨av', st'', h6, h7⟩ := aop_sound hE hC hval
         cases h6
         exact (h7.still rfl).2 B _ a _ S3 K _ fun v w' M' hG hv => hK v w' hG.below (PVX.of T T.size (fun b j hm => T.cell b j hm) hG hv)
     · cases hp
       exact ⟨by rw [hoe]; rfl, fun v w' w2 hk2 h => by rw [hW0] at hk2; exact h.keep hk2⟩
     · exact hSr Wf Fin l2 S2 ph2 n2 hW0 hW1 hk _ _ (hw.put hoe hlt)
  · cases h
def valC : Cell → Value
 | .int k n => .int k n
 | .bool b => .bool b
 | .str l => .string ⟨l.toArray⟩
 | _ => undef
def valA : AV → Value
 | .one c => valC c
 | .agg cs => .agg (cs.map valC).toArray
 | _ => undef
omit hE hC in
theorem plain_val {g : Gh} {w : World} {v : Value} {c : Cell} (h : Rc g w v c) (hp : plainC c = true) : v = valC c := by
 cases c <;> simp only [plainC, Bool.false_eq_true] at hp
 · exact Rc.int_inv h
 · exact Rc.bool_inv h
 · exact Rc.str_inv h
omit hE hC in
theorem plain_rd {M : Mem} {w : World} {c : Cell} (hp : plainC c = true) : Rd M w (valC c) c := by
 cases c <;> simp only [plainC, Bool.false_eq_true] at hp
 · exact .int _ _
 · exact .bool _
 · exact .str _
omit hE hC in
theorem plain_valA {g : Gh} {w : World} {v : Value} {x : AV} {cs : List Cell} (h : Rv g w v x) (hc : x.cells? = some cs) (hp : cs.all plainC = true) : v = valA x := by
 rw [List.all_eq_true] at hp
 cases x with
 | one c =>
  simp only [AV.cells?, Option.some.injEq] at hc
  subst hc
  exact plain_val h (hp c (by simp))
 | agg xs =>
  simp only [AV.cells?, Option.some.injEq] at hc
  subst hc
  obtain ⟨vs, rfl, h1, h2⟩ := h
  show Value.agg vs = Value.agg _
  congr 1
  apply Array.ext
  · simp [h1]
  · intro i hi1 hi2
    have hi : i < xs.length := by rw [← h1]; exact hi1
    have := plain_val (h2 i vs[i] xs[i] (Array.getElem?_eq_getElem hi1) (List.getElem?_eq_getElem hi)) (hp _ (List.getElem_mem hi))
    simpa using this
 | tup _ => cases hc
 | undef => cases hc
omit hE hC in
theorem plain_cells {x : AV} {cs : List Cell} (hc : x.cells? = some cs) (hp : cs.all plainC = true) : (valA x).cells = (cs.map valC).toArray := by
 cases x with
 | one c =>
  simp only [AV.cells?, Option.some.injEq] at hc
  subst hc
  cases c <;> first | rfl | simp [plainC] at hp
 | agg xs =>
  simp only [AV.cells?, Option.some.injEq] at hc
  subst hc
  rfl
 | tup _ => cases hc
 | undef => cases hc
def putVals (vs : Array Value) (o : Nat) (new : List Value) : Array Value := (vs.toList.take o ++ new ++ vs.toList.drop (o + new.length)).toArray
omit hE hC in
theorem run_store_rd {t : TypeId} {blk o : Nat} {e : TypeId} {vs : Array Value} {w : World} {x : AV} {cs : List Cell} (hti : ∀ w : World, (sizeOf t).run P w = .ok cs.length w) (h : w.heap[blk]? = some (.cells vs e (0, 0))) (hle : o + cs.length ≤ vs.size) (hc : x.cells? = some cs) (hp : cs.all plainC = true) :
 (Instr.storeAt t (.pointer (some ⟨blk, o, none⟩)) (valA x)).run P w = .ok () (rd w blk (putVals vs o (cs.map valC))) := by
 have hcl := plain_cells hc hp
 have hst := run_storeCells_at P blk o e (cs.map valC) 0 vs w h (by simpa using hle) (fun u hu => by
  obtain ⟨c, hcm, rfl⟩ := List.mem_map.1 hu
  rw [List.all_eq_true] at hp
  have := hp c hcm
  cases c <;> first | rfl | simp [plainC] at this)
 simp only [Nat.add_zero] at hst
 simp only [Instr.storeAt, Instr.sureAddr, storeVar, Sem.run_bind, Sem.run_pure, Result.andThen_ok, hti w, hcl]
 rw [if_neg (by simp)]
 exact hst
omit hE hC in
theorem put_rel {g : Gh} {w w' : World} {vs : Array Value} {cs new : List Cell} {o : Nat} (h : RvA g w vs cs) (hk : ∀ v c, Rc g w v c → Rc g w' v c) (hp : new.all plainC = true) (hle : o + new.length ≤ cs.length) : RvA g w' (putVals vs o (new.map valC)) (setCells cs o new) := by
 have hl2 := h.1
 rw [List.all_eq_true] at hp
 refine ⟨by unfold setCells putVals; simp; omega, fun i u c hu hcc => ?_⟩
 unfold setCells at hcc
 unfold putVals at hu
 simp only [List.getElem?_toArray] at hu
 rw [List.append_assoc, List.getElem?_append, List.length_take] at hu hcc
 have e1 : min o vs.toList.length = o := by simp; omega
 have e2 : min o cs.length = o := by omega
 rw [e1] at hu
 rw [e2] at hcc
 split at hcc
 · rename_i hlt
   rw [if_pos hlt, List.getElem?_take, if_pos hlt] at hu
   rw [List.getElem?_take, if_pos hlt] at hcc
   exact hk _ _ (h.2 i u c (by simpa using hu) hcc)
 · rename_i hge
   rw [if_neg hge] at hu
   rw [List.getElem?_append] at hu hcc
   rw [List.length_map] at hu
   split at hcc
   · rename_i hlt
     rw [if_pos hlt, List.getElem?_map, hcc] at hu
     cases hu
     exact .data (plain_rd (hp c (List.mem_of_getElem? hcc)))
   · rename_i hge2
     rw [if_neg hge2] at hu
     rw [List.getElem?_drop] at hu hcc
     exact hk _ _ (h.2 _ u c (by simpa using hu) hcc)
omit hE hC in
theorem ev_only {l : List Nat} {fr : List (Nat × AV)} {H : Heap} {x : Operand} {v : AV} (h : AX.ev ⟨only l fr, H⟩ x = some v) : AX.ev ⟨fr, H⟩ x = some v := by
 cases x with
 | tmp t => exact (lk_only h).2
 | _ => exact h
theorem store_region {ops : Array Oper} {id hd : Nat} {B : Base} {g : Gh} {st : St} {a : Act} {w : World} {kk : St → Option R} {r : R} {Q : Exit → Act → World → Prop} (S : Sim P B g st a w) (hfol : P.follows .mixedOrders = true)
 (hdst : dstsIn B.nt ops.toList = true) (hsh : phaseOk ops (hd % 1000 + 1) B.nt (phOf (hd % 1000)) = true)
 (h : aheadsI E call (hd / 1000 - 1) ops (ops.toList.take (hd % 1000)) (fun st1 => condA (storesAt (hd / 1000 - 1) ops st1 (ops.toList.drop (hd % 1000))) (aops E call ops (ops.toList.drop (hd % 1000)) kk st1) none) st = some r)
 (hQ : ∀ g st a w, Sim P B g st a w → kk st = some r → Q .normal a w) : (Code.region id ops true).wp P Q a w := by
 generalize hd / 1000 - 1 = b0 at h
 generalize hd % 1000 = s at h hsh
 have htail : ∀ n, dstsIn B.nt (ops.toList.drop n) = true := fun n => by
  unfold dstsIn at hdst ⊢
  rw [List.all_eq_true] at hdst ⊢
  exact fun x hx => hdst x (List.mem_of_mem_drop hx)
 have hhead : ∀ n, dstsIn B.nt (ops.toList.take n) = true := fun n => by
  unfold dstsIn at hdst ⊢
  rw [List.all_eq_true] at hdst ⊢
  exact fun x hx => hdst x (List.mem_of_mem_take hx)
 obtain ⟨st1, hH, hk, main⟩ := aheadsI_ph hE hC S (ops.toList.take s) (hhead s) rfl h
 cases hs : storesAt b0 ops st1 (ops.toList.drop s) with
 | false => rw [hs] at hk; cases hk
 | true =>
  rw [hs, condA_true] at hk
  cases hdr : ops.toList.drop s with
  | nil => rw [hdr] at hs; cases hs
  | cons o rest =>
   rw [hdr] at hs hk
   have hrestT : dstsIn B.nt rest = true := by
    have := htail s
    rw [hdr] at this
    exact (dstsIn_cons this).2
   simp only [storesAt] at hs
   split at hs
   · rename_i t pa px hg hod ho
     split at hs
     · rename_i b oo x hpa hpx
       rw [Bool.and_eq_true] at hs
       obtain ⟨hb, hpl⟩ := hs
       have hb := Nat.eq_of_beq_eq_true hb
       subst hb
       split at hpl
       · rename_i cs hcs
         -- the store, in the order of the text
         simp only [aops, hg, hod] at hk
         unfold aop at hk
         simp only [ho, condA_true] at hk
         rw [ev_only hpa, ev_only hpx] at hk
         cases hti : tyN E.T t with
         | none => rw [hti] at hk; cases hk
         | some ti =>
         rw [hti] at hk
         simp only [hcs] at hk
         cases hln : Nat.beq cs.length ti.leaves.length with
         | false => rw [hln] at hk; cases hk
         | true =>
         rw [hln, condA_true] at hk
         cases hsb : setBox st1.H b oo cs with
         | none => rw [hsb] at hk; cases hk
         | some H' =>
         rw [hsb] at hk
         simp only [St.put] at hk
         obtain ⟨cs0, hcs0, hle, rfl, hplain⟩ := setBox_some hsb
         rw [hH] at hcs0
         obtain ⟨blk, hbx, hbox⟩ := S.bx.box b cs0 hcs0
         obtain ⟨htt, hnt⟩ := tyN_some hti
         have hsize : ∀ w : World, (sizeOf t).run P w = .ok cs.length w := fun w => by
          rw [Nat.eq_of_beq_eq_true hln]; exact (not_tup hE htt hnt).size
         cases hbox with
         | row vs e fz cs1 _ _ _ _ => cases hplain
         | map es ck ks _ _ => cases hplain
         | bld t' p' v' c' _ _ _ => cases hplain
         | cells vs e _ hblk hrva =>
         have hlt : blk < w.heap.size := (Array.getElem?_eq_some_iff.1 hblk).1
         let W1 := rd w blk (putVals vs oo (cs.map valC))
         have hmem : blk ∈ g.bx := List.mem_of_getElem? hbx
         have T : Two g w W1 := ⟨rd_size _ _ _, S.live, fun b j hm => rd_cell_ne w blk b _ j (fun e => S.bx.M blk hmem j (by rw [← e]; exact hm))⟩
         have S1 : Sim P B g ⟨st.fr, st.H.set b (setCells cs0 oo cs)⟩ a W1 := by
          refine S.turnBox hbx rfl rfl rfl (by rw [T.size]; exact Nat.le_refl _) (fun k _ hk => rd_block_ne w blk k _ hk) fun hc' => ?_
          exact .cells _ e _ (setRow_heap w blk vs _ e _ hblk) (put_rel hrva hc' hpl hle)
         obtain ⟨Sp, hSp0⟩ := main W1 (st.H.set b (setCells cs0 oo cs)) T S1 (fun b' hb' => by rw [List.getElem?_set_ne (Ne.symm hb')])
         have hlen : (ops.toList.take s).length = s := by
          rw [List.length_take]
          have : s < ops.toList.length := by
           rcases Nat.lt_or_ge s ops.toList.length with h1 | h1
           · exact h1
           · rw [List.drop_of_length_le h1] at hdr; cases hdr
          omega
         have hops : ops.toList.toArray = ops := by simp
         have key : (Code.region id ops.toList.toArray true).wp P Q a (app w #[] w.drawn) := by
          refine wp_region_phx (Ws := [W1]) (S := Sp ++ [.is undef]) (s + 1) (ph := phOf s) hfol (fun Fin hFin => ?_) (by rw [hops, S.size]; exact hsh)
          rw [hops]
          have hSp := hSp0 (fun q => (w :: [W1]).getD q w) Fin (o :: rest) [.is undef] [.wr] 1 rfl rfl (fun a' L' hw => by
           refine ⟨?_, ?_⟩
           · unfold OwedPh
             simp only
             refine ⟨wanted_none hg, by show W1.heap.size = w.heap.size; exact T.size, fun bs d hf K hK => ?_⟩
             have S3 := hw.sim S rfl (.inl rfl) hf
             have hp3 := S3.ev (x := pa) (v := .one (.ptr b oo)) (by rw [← hH]; exact hpa)
             have hx3 := S3.ev (x := px) (v := x) (by rw [← hH]; exact hpx)
             obtain ⟨blk', hpv, hbx'⟩ := Rc.ptr_inv hp3
             have hbx' : g.bx[b]? = some blk' := hbx'
             rw [hbx] at hbx'; cases hbx'
             have hxv := plain_valA hx3 hcs hpl
             have hrun := run_store_rd (P := P) (w := app w bs d) hsize (by rw [app_heap w bs d blk hlt]; exact hblk) (by rw [hrva.1]; exact hle) hcs hpl
             rw [rd_app w blk _ bs d hlt] at hrun
             unfold Oper.wp
             have hex : (execOp a'.eval o).run P (app w bs d) = .ok .skip (app W1 bs d) := by
              simp only [execOp, ho, hpv, hxv, Sem.run_bind]
              rw [hrun]; rfl
             show Oper.wp P o a' (app w bs d) K _
             unfold Oper.wp
             rw [hex]
             exact hK undef bs d ⟨#[], by simp⟩ rfl
           · refine hFin 1 W1 rest _ L' rfl fun _ bs d hfa => ?_
             have S5 := hw.all S1 T.size (.inr rfl) hfa
             rw [hops, hod]
             rw [hH] at hk
             exact aops_sound hE hC hQ rest hrestT S5 hk)
          rw [hlen] at hSp
          have := hSp a [] ⟨fun s v hs => .inr fun w' w0 w'' h0 hk' hb' => ?_, S.size, S.defers⟩
          · rw [← hdr, List.take_append_drop] at this
            exact this
          · refine (S.frame s v hs).kept (g' := ⟨MXX g w.heap.size w'', g.bx, g.ow⟩) (fun b' j hm => ⟨.inl hm, ?_⟩) (fun _ _ h => h) (fun _ _ h => h)
            have e1 : w''.cell? ⟨b', j, none⟩ = w0.cell? ⟨b', j, none⟩ := World.cell?_of_block (w := w0) (hb'.block b' (S.live b' j hm))
            rw [e1]
            rcases h0 with rfl | rfl
            · rfl
            · exact T.cell b' j hm
         rw [hops, app_nil] at key
         exact key
       · cases hpl
     · cases hs
   · cases hs
theorem alloc_region {ops : Array Oper} {id p s : Nat} {B : Base} {g : Gh} {st : St} {a : Act} {w : World} {kk : St → Option R} {r : R} {Q : Exit → Act → World → Prop} (S : Sim P B g st a w) (hfol : P.follows .mixedOrders = true)
 (hdst : dstsIn B.nt ops.toList = true) (hsh : shapeOk ops s B.nt = true) (h : aheadsA E call p s ops kk st = some r)
 (hQ : ∀ g st a w, Sim P B g st a w → kk st = some r → Q .normal a w) : (Code.region id ops true).wp P Q a w := by
 have htail : ∀ n, dstsIn B.nt (ops.toList.drop n) = true := fun n => by
  unfold dstsIn at hdst ⊢
  rw [List.all_eq_true] at hdst ⊢
  exact fun x hx => hdst x (List.mem_of_mem_drop hx)
 have hhead : ∀ n, dstsIn B.nt (ops.toList.take n) = true := fun n => by
  unfold dstsIn at hdst ⊢
  rw [List.all_eq_true] at hdst ⊢
  exact fun x hx => hdst x (List.mem_of_mem_take hx)
 unfold aheadsA at h
 split at h
 · cases h
 · rename_i o rest hdr
   split at h
   · rename_i t e hal hgd hoe
     cases hb : Nat.blt p s && (aloneB e (ops.toList.take p) && aloneB e ((ops.toList.take s).drop (p + 1))) with
     | false => rw [hb] at h; cases h
     | true =>
     rw [hb, condA_true] at h
     simp only [Bool.and_eq_true] at hb
     obtain ⟨hps, _, halone⟩ := hb
     rw [Nat.blt_eq] at hps
     have hplen : p < ops.toList.length := by
      rcases Nat.lt_or_ge p ops.toList.length with h1 | h1
      · exact h1
      · rw [List.drop_of_length_le h1] at hdr; cases hdr
     have ho := allocOf_some hal
     have hoin : o ∈ ops.toList.take s := by
      have h1 : (ops.toList.take s)[p]? = some o := by
       rw [List.getElem?_take, if_pos hps]
       have : (ops.toList.drop p)[0]? = some o := by rw [hdr]; rfl
       rwa [List.getElem?_drop, Nat.add_zero] at this
      exact List.mem_of_getElem? h1
     have helt : e < B.nt := by
      have := hhead s
      unfold dstsIn at this
      rw [List.all_eq_true] at this
      have := this o hoin
      rw [hoe] at this
      simpa using this
     obtain ⟨Sp, hS⟩ := aheads_sound hE hC S (kk := fun st2 => aop E call true o ⟨keepFr st2.fr (dstL (ops.toList.take s)) ++ rmAll st.fr (dstL (ops.toList.take s)), st.H⟩ fun v st3 => aops E call ops (ops.toList.drop s) kk (st3.put (some e) v)) (r := r)
      (Fin := fun a L => ∀ bs d, factsAll L (app w bs d) → wpList P ops Q (ops.toList.drop s) a (app w bs d))
      (J := fun l a' L => (∃ k, l = (ops.toList.take s).drop k ∧ (p < k → (e, Fresh E w t, a'.tmps.getD e undef) ∈ L)) ∧ (∀ x, x ∉ dstL (ops.toList.take s) → a'.tmps.getD x undef = a.tmps.getD x undef) ∧ a'.tmps.size = B.nt)
      (fun o' l a' v L L' ⟨⟨k, hk, hfact⟩, hsame, hsz⟩ hLL hnew => by
       have hmem : o' ∈ ops.toList.take s := List.mem_of_mem_drop (by rw [← hk]; exact List.mem_cons_self)
       have hl : l = (ops.toList.take s).drop (k + 1) := by
        have := congrArg List.tail hk
        rw [List.tail_drop] at this
        exact this
       refine ⟨⟨k + 1, hl, fun hpk => ?_⟩, fun x hx => ?_, by rw [put_size]; exact hsz⟩
       · by_cases hpk2 : p < k
         · have hne : o'.dst ≠ some e := alone_ne halone (by
            have e1 : (ops.toList.take s).drop k = ((ops.toList.take s).drop (p + 1)).drop (k - (p + 1)) := by rw [List.drop_drop]; congr 1; omega
            rw [e1] at hk
            exact List.mem_of_mem_drop (by rw [← hk]; exact List.mem_cons_self))
           have : (a'.put o'.dst v).tmps.getD e undef = a'.tmps.getD e undef := by
            cases hd' : o'.dst with
            | none => rfl
            | some d =>
             simp only [Act.put, Array.getD_eq_getD_getElem?, Array.getElem?_setIfInBounds]
             rw [if_neg (fun h => hne (by rw [hd', h]))]
           rw [this]
           exact hLL _ (hfact hpk2)
         · obtain rfl : k = p := by omega
           have hoo : o' = o := by
            have h1 : ((ops.toList.take s).drop k)[0]? = some o' := by rw [← hk]; rfl
            rw [List.getElem?_drop, Nat.add_zero, List.getElem?_take, if_pos hps] at h1
            have h2 : (ops.toList.drop k)[0]? = some o := by rw [hdr]; rfl
            rw [List.getElem?_drop, Nat.add_zero, h1] at h2
            exact Option.some.inj h2
           subst hoo
           rw [get_put hoe hsz helt, if_pos rfl]
           exact hnew hgd t e hal hoe
       · have hne : o'.dst ≠ some x := fun hd' => hx (mem_dstL hd' hmem)
         rw [← hsame x hx]
         cases hd' : o'.dst with
         | none => rfl
         | some d =>
          simp only [Act.put, Array.getD_eq_getD_getElem?, Array.getElem?_setIfInBounds]
          rw [if_neg (fun h => hne (by rw [hd', h]))])
      (fun st' a' L hH hw ⟨⟨k, hk, hfact⟩, hsame, hsz⟩ hk2 bs d hfa => by
       have hbel : Below w.heap.size w (app w bs d) := (Below.refl _ _).app (Nat.le_refl _) bs d
       have hpk : p < k := by
        have := congrArg List.length hk
        rw [List.length_drop, List.length_take] at this
        simp only [List.length_nil] at this
        omega
       obtain ⟨blk, z, ti, hv, hge, hblk, hti, hz⟩ := facts_mem L hfa (hfact hpk)
       have S3 : Sim P B g ⟨keepFr st'.fr (dstL (ops.toList.take s)) ++ rmAll st.fr (dstL (ops.toList.take s)), st.H⟩ a' w := by
        refine ⟨fun x v hx => ?_, hw.size, hw.defers, S.live, S.bx, S.ow, S.fr, S.bxB, S.owB, S.pre⟩
        rcases lk_app hx with hx | hx
        · obtain ⟨_, h2, h3⟩ := lk_keep hx
          have hpv : PV g w v (a'.tmps.getD x undef) (app w bs d) := by
           rcases hw.fr x v h2 with ⟨p, hp, hpv⟩ | hp
           · exact hpv _ _ (facts_mem L hfa hp)
           · exact hp _ hbel
          exact plain_rc hpv.2 h3 (fun _ _ h => h)
        · obtain ⟨h1, h2⟩ := lk_rmAll hx
          rw [hsame x h1]
          exact S.frame x v h2
       unfold aop at hk2
       simp only [ho, condA_true] at hk2
       rw [hti] at hk2
       obtain ⟨g', h7, h8⟩ := adopt_sound S3 hz hge hbel hblk (E.selfs.any (Nat.beq t))
       refine aops_sound hE hC hQ _ (htail s) (g := g') ?_ hk2
       refine ⟨fun x v hx => ?_, h8.size, h8.defers, h8.live, h8.bx, h8.ow, h8.fr, h8.bxB, h8.owB, h8.pre⟩
       rw [lk_put] at hx
       by_cases hex : e = x
       · rw [if_pos hex] at hx
         cases hx
         rw [← hex, hv]
         exact h7
       · rw [if_neg hex] at hx
         exact h8.frame x v hx) (ops.toList.take s) (hhead s) rfl h
     exact wp_region_text0 s Sp hfol (by rw [S.size]; exact hsh) (hS a [] ⟨fun s v hs => .inr fun w' hb => ⟨hb, (S.frame s v hs).grow (MX.grow S.live hb) S.live⟩, fun s b hs => Rc.bool_inv (S.frame s _ hs), fun s hs => S.frame s _ hs, S.size, S.defers⟩
      ⟨⟨0, rfl, fun h => by omega⟩, fun _ _ => rfl, S.size⟩)
   · cases h
theorem region_sound {ops : Array Oper} {id hd : Nat} {draw : Bool} {B : Base} {g : Gh} {st : St} {a : Act} {w : World} {kk : St → Option R} {r : R} {Q : Exit → Act → World → Prop} (S : Sim P B g st a w) (hfol : P.follows .mixedOrders = true)
 (hdst : dstsIn B.nt ops.toList = true) (hdraw : draw = true → okShape ops hd B.nt = true) (h0 : draw = false → hd = 0) (h : regionK E call hd ops kk st = some r) (hQ : ∀ g st a w, Sim P B g st a w → kk st = some r → Q .normal a w) : (Code.region id ops draw).wp P Q a w := by
 have htail : ∀ n, dstsIn B.nt (ops.toList.drop n) = true := fun n => by
  unfold dstsIn at hdst ⊢
  rw [List.all_eq_true] at hdst ⊢
  exact fun x hx => hdst x (List.mem_of_mem_drop hx)
 have hhead : ∀ n, dstsIn B.nt (ops.toList.take n) = true := fun n => by
  unfold dstsIn at hdst ⊢
  rw [List.all_eq_true] at hdst ⊢
  exact fun x hx => hdst x (List.mem_of_mem_take hx)
 unfold regionK at h
 cases hmil : Nat.ble 1000000 hd with
 | true =>
  rw [hmil, condA_true] at h
  cases draw with
  | false => rw [h0 rfl] at hmil; cases hmil
  | true =>
   have hsh := hdraw rfl
   unfold okShape at hsh
   rw [hmil, condA_true] at hsh
   exact alloc_region hE hC S hfol hdst hsh h hQ
 | false =>
 rw [hmil, condA_false] at h
 replace hdraw : draw = true → condA (Nat.ble 1000 hd) (phaseOk ops (hd % 1000 + 1) B.nt (phOf (hd % 1000))) (shapeOk ops hd B.nt) = true := fun hd2 => by
  have := hdraw hd2
  unfold okShape at this
  rwa [hmil, condA_false] at this
 cases hbig : Nat.ble 1000 hd with
 | true =>
  rw [hbig, condA_true] at h
  cases draw with
  | false => rw [h0 rfl] at hbig; cases hbig
  | true =>
   have hsh := hdraw rfl
   rw [hbig, condA_true] at hsh
   exact store_region hE hC S hfol hdst hsh h hQ
 | false =>
 rw [hbig, condA_false] at h
 replace hdraw : draw = true → shapeOk ops hd B.nt = true := fun hd2 => by
  have := hdraw hd2
  rwa [hbig, condA_false] at this
 cases draw with
 | false =>
  obtain rfl := h0 rfl
  simp only [List.take_zero, List.drop_zero, aheads] at h
  refine wp_region ?_
  have := aops_sound hE hC hQ ops.toList hdst S h
  rw [List.range_eq_range', ← Array.length_toList, wpOps_eq_wpList ops.toList 0 (fun j => by simp)]
  exact this
 | true =>
  obtain ⟨Sp, hS⟩ := aheads_sound hE hC S (kk := aops E call ops (ops.toList.drop hd) kk) (r := r) (Fin := fun a L => ∀ bs d, factsAll L (app w bs d) → wpList P ops Q (ops.toList.drop hd) a (app w bs d)) (J := fun _ _ _ => True) (fun _ _ _ _ _ _ _ _ _ => trivial)
   (fun st' a' L hH hw _ hk bs d hfa => by
    have hbel : Below w.heap.size w (app w bs d) := (Below.refl _ _).app (Nat.le_refl _) bs d
    have S1 : Sim P B ⟨MX g w (app w bs d), g.bx, g.ow⟩ st' a' (app w bs d) := by
     refine Sim.at S hH hbel (fun s v hs => ?_) hw.size hw.defers
     rcases hw.fr s v hs with ⟨p, hp, hpv⟩ | hp
     · refine hpv _ _ ?_
       exact facts_mem L hfa hp
     · exact hp _ hbel
    exact aops_sound hE hC hQ _ (htail hd) S1 hk) (ops.toList.take hd) (hhead hd) rfl h
  refine wp_region_text0 hd Sp hfol (by rw [S.size]; exact hdraw rfl) (hS a [] ⟨fun s v hs => .inr fun w' hb => ⟨hb, (S.frame s v hs).grow (MX.grow S.live hb) S.live⟩, fun s b hs => Rc.bool_inv (S.frame s _ hs), fun s hs => S.frame s _ hs, S.size, S.defers⟩ trivial)
end
end AX
end Go.Proofs.YtfbicbgdfcbhpaaGreatDoor
namespace Go.Proofs.YtfbicbgdfcbhpaaGreatDoor
namespace AX
variable [Inv]
open Go.RowKit
variable {P : Program} {R : Type}
omit [Inv] in
theorem lk_pick {fr : List (Nat × AV)} {s : Nat} {v : AV} : ∀ {keep : List Nat}, lk (pickFr fr keep) s = some v → ∃ u, lk fr s = some u ∧ (v = u ∨ v = u.bare) ∧ (s, v) ∈ pickFr fr keep
 | [], h => by cases h
 | t :: r, h => by
  simp only [pickFr] at h ⊢
  have tail : lk (pickFr fr r) s = some v → ∀ x, ∃ u, lk fr s = some u ∧ (v = u ∨ v = u.bare) ∧ (s, v) ∈ x :: pickFr fr r := fun h x => by
   obtain ⟨u, h1, h2, h3⟩ := lk_pick h
   exact ⟨u, h1, h2, List.mem_cons_of_mem _ h3⟩
  cases hbare : Nat.ble 10000000 t with
  | true =>
   rw [hbare] at h
   simp only [condA_true] at h ⊢
   split at h
   · exact lk_pick h
   · rename_i u hc
     simp only [lk] at h
     cases hb : Nat.beq (t - 10000000) s with
     | true =>
      rw [hb] at h
      have := Nat.eq_of_beq_eq_true hb
      subst this
      simp only [condA_true, Option.some.injEq] at h
      subst h
      exact ⟨_, hc, .inr rfl, List.mem_cons_self⟩
     | false => rw [hb] at h; exact tail h _
  | false =>
   rw [hbare] at h
   simp only [condA_false] at h ⊢
   split at h
   · exact lk_pick h
   · rename_i c hc
     simp only [lk] at h
     cases hb : Nat.beq t s with
     | true =>
      rw [hb] at h
      have := Nat.eq_of_beq_eq_true hb
      subst this
      simp only [condA_true, Option.some.injEq] at h
      subst h
      exact ⟨_, hc, .inl rfl, List.mem_cons_self⟩
     | false => rw [hb] at h; exact tail h _
   · rename_i u _ hc
     simp only [lk] at h
     cases hb : Nat.beq t s with
     | true =>
      rw [hb] at h
      have := Nat.eq_of_beq_eq_true hb
      subst this
      simp only [condA_true, Option.some.injEq] at h
      subst h
      exact ⟨_, hc, .inr rfl, List.mem_cons_self⟩
     | false => rw [hb] at h; exact tail h _
omit [Inv] in
theorem bx_cut {bx : List Nat} {b n blk : Nat} (hp : Nat.blt b n = true) (h : bx[b]? = some blk) : (bx.take n)[b]? = some blk := by
 have hb : b < n := by
  simp only [Nat.blt] at hp
  exact Nat.le_of_ble_eq_true hp
 rw [List.getElem?_take, if_pos hb]; exact h
omit [Inv] in
theorem Rc.cut {g : Gh} {w : World} {v : Value} {c : Cell} {n : Nat} (h : Rc g w v c) (hp : ptrBelow n c = true) : Rc ⟨g.M, g.bx.take n, g.ow⟩ w v c := by
 cases h with
 | data h => exact .data h
 | own L h1 h2 => exact .own L h1 h2
 | ptr b o blk h =>
  refine .ptr b o blk ?_
  have hb : b < n := by
   simp only [ptrBelow, Nat.blt] at hp
   exact Nat.le_of_ble_eq_true hp
  show (g.bx.take n)[b]? = some blk
  rw [List.getElem?_take, if_pos hb]; exact h
 | eptr blk o f cs h1 h2 => exact .eptr blk o f cs h1 h2
 | bsl b sz m blk cap h h2 h3 => exact .bsl b sz m blk cap (bx_cut hp h) h2 h3
 | bptr b o blk h => exact .bptr b o blk (bx_cut hp h)
 | mapr b blk h => exact .mapr b blk (bx_cut hp h)
omit [Inv] in
theorem RvA.cut {g : Gh} {w : World} {vs : Array Value} {cs : List Cell} {n : Nat} (h : RvA g w vs cs) (hp : cs.all (ptrBelow n) = true) : RvA ⟨g.M, g.bx.take n, g.ow⟩ w vs cs :=
 ⟨h.1, fun i v c hv hc => (h.2 i v c hv hc).cut (by rw [List.all_eq_true] at hp; exact hp c (List.mem_of_getElem? hc))⟩
omit [Inv] in
theorem Rv.cut {g : Gh} {w : World} {v : Value} {x : AV} {n : Nat} (h : Rv g w v x) (hp : x.ptrBelow n = true) : Rv ⟨g.M, g.bx.take n, g.ow⟩ w v x := by
 cases x with
 | one c => exact Rc.cut h hp
 | agg cs => obtain ⟨vs, rfl, h⟩ := h; exact ⟨vs, rfl, h.cut hp⟩
 | tup xs =>
  obtain ⟨vs, rfl, h1, h2⟩ := h
  refine ⟨vs, rfl, h1, fun i u x hu hx => ?_⟩
  have hp2 : x.cells.all (ptrBelow n) = true := by
   have hp3 : xs.all (fun v => v.cells.all (ptrBelow n)) = true := hp
   rw [List.all_eq_true] at hp3; exact hp3 x (List.mem_of_getElem? hx)
  have hr := h2 i u x hu hx
  cases x with
  | one c => exact Rc.cut hr (by simpa [V1.cells] using hp2)
  | agg cs => obtain ⟨vs', rfl, hr⟩ := hr; exact ⟨vs', rfl, hr.cut hp2⟩
 | undef => exact h
theorem Sim.cut {B : Base} {g : Gh} {st : St} {a : Act} {w : World} {keep : List Nat} {n : Nat} (S : Sim P B g st a w) (h1 : (pickFr st.fr keep).all (fun p => p.2.ptrBelow n) = true) (h2 : (st.H.take n).all (fun b => b.all (ptrBelow n)) = true) (hn : B.bx0.length ≤ n) :
 Sim P B ⟨g.M, g.bx.take n, g.ow⟩ ⟨pickFr st.fr keep, st.H.take n⟩ a w := by
 refine ⟨fun s v hs => ?_, S.size, S.defers, S.live, ?_, ⟨S.ow.row, S.ow.ne⟩, ⟨S.fr.os, S.fr.tape, S.fr.output, S.fr.size, S.fr.block, S.fr.kp, S.fr.old⟩, fun blk hb => S.bxB blk (List.mem_of_mem_take hb), S.owB, List.prefix_take_iff.2 ⟨S.pre, hn⟩⟩
 · obtain ⟨u, h3, h4, h5⟩ := lk_pick hs
   have hp : v.ptrBelow n = true := by rw [List.all_eq_true] at h1; exact h1 _ h5
   have hr : Rv g w (a.tmps.getD s undef) v := by
    rcases h4 with rfl | rfl
    · exact S.frame s _ h3
    · exact (S.frame s _ h3).map (f := Cell.bare) fun v c hc => hc.bare (Kp.refl _ _) (fun _ _ h => h)
   exact hr.cut hp
 · refine ⟨by simp [S.bx.len], S.bx.nodup.sublist (List.take_sublist _ _), fun blk hb j => S.bx.M blk (List.mem_of_mem_take hb) j, fun L v b hL hb hm => S.bx.ow L v b hL hb (List.mem_of_mem_take hm), fun i cs hi => ?_⟩
   rw [List.getElem?_take] at hi
   split at hi
   · rename_i hlt
     obtain ⟨blk, h3, h4⟩ := S.bx.box i cs hi
     refine ⟨blk, ?_, ?_⟩
     · show (g.bx.take n)[i]? = _
       rw [List.getElem?_take, if_pos hlt]; exact h3
     · rw [List.all_eq_true] at h2
       have h6 := h2 cs (List.mem_of_getElem? (i := i) (by rw [List.getElem?_take, if_pos hlt]; exact hi))
       cases h4 with
       | cells vs e _ h4 h5 => exact .cells vs e _ h4 (h5.cut h6)
       | row vs e fz cs1 q1 q2 q3 q4 => exact .row vs e fz cs1 q1 q2 q3 q4
       | map es ck ks q1 q2 => exact .map es ck ks q1 q2
       | bld t' p' v' c' q1 q2 q3 => exact .bld t' p' v' c' q1 q2 (q3.cut (by rw [List.all_eq_true] at h6; exact h6 c' (by simp)))
   · cases hi
omit [Inv] in
theorem isNm_iff {m n : Nm} : isNm m n = true ↔ m.slot = n.slot ∧ m.ix = n.ix := by
 unfold isNm
 rw [Bool.and_eq_true]
 exact ⟨fun h => ⟨Nat.eq_of_beq_eq_true h.1, Nat.eq_of_beq_eq_true h.2⟩, fun h => ⟨by rw [h.1]; exact Nat.beq_refl _, by rw [h.2]; exact Nat.beq_refl _⟩⟩
def Gh.ren (g : Gh) (L N : Nm) (v : Value) : Gh := ⟨g.M, g.bx, fun n => if n = N then some v else condA (eitherNm L N n) (none) <| g.ow n⟩
theorem Sim.ren {B : Base} {g : Gh} {st : St} {a : Act} {w : World} {L N : Nm} {v : Value} (S : Sim P B g st a w) (hL : g.ow L = some v) (hN : N.elem = L.elem) : Sim P B (g.ren L N v) (st.strike (eitherNm L N)) a w ∧ (g.ren L N v).ow N = some v ∧ ∀ n x, eitherNm L N n = false → g.ow n = some x → (g.ren L N v).ow n = some x := by
 have oth : ∀ n x, (g.ren L N v).ow n = some x → (n = N ∧ x = v) ∨ (n ≠ L ∧ g.ow n = some x) := fun n x h => by
  simp only [Gh.ren] at h
  split at h
  · rename_i e; cases h; exact .inl ⟨e, rfl⟩
  · cases he : eitherNm L N n with
    | true => rw [he] at h; cases h
    | false =>
     rw [he] at h
     refine .inr ⟨fun e => ?_, h⟩
     subst e
     unfold eitherNm at he
     rw [isNm_iff.2 ⟨rfl, rfl⟩] at he
     cases he
 have keep : ∀ n x, eitherNm L N n = false → g.ow n = some x → (g.ren L N v).ow n = some x := fun n x hp hx => by
  simp only [Gh.ren]
  have hne : n ≠ N := fun e => by
   subst e
   unfold eitherNm at hp
   rw [isNm_iff.2 ⟨rfl, rfl⟩] at hp
   simp at hp
  rw [if_neg hne, hp]; exact hx
 refine ⟨S.move (Kp.refl _ _) rfl (fun _ _ => rfl) (fun blk hb j => S.bx.M blk hb j) (fun n x hp hx => ?_) ⟨fun n x hx => ?_, fun n n' x x' hne hx hx' => ?_⟩ (fun n x b hx hb => ?_) (fun n x b hx hb => ?_) ⟨S.fr.os, S.fr.tape, S.fr.output, S.fr.size, S.fr.block, S.fr.kp, S.fr.old⟩ S.live, by simp [Gh.ren], keep⟩
 · exact keep n x hp hx
 · rcases oth n x hx with ⟨rfl, rfl⟩ | ⟨_, h⟩
   · rw [hN]; exact S.ow.row L _ hL
   · exact S.ow.row n x h
 · rcases oth n x hx with ⟨rfl, rfl⟩ | ⟨h1, h2⟩ <;> rcases oth n' x' hx' with ⟨rfl, rfl⟩ | ⟨h3, h4⟩
   · exact absurd rfl hne
   · exact S.ow.ne L n' _ x' (Ne.symm h3) hL h4
   · exact S.ow.ne n L x _ h1 h2 hL
   · exact S.ow.ne n n' x x' hne h2 h4
 · rcases oth n x hx with ⟨_, rfl⟩ | ⟨_, h⟩
   · exact S.bx.ow L _ b hL hb
   · exact S.bx.ow n x b h hb
 · rcases oth n x hx with ⟨_, rfl⟩ | ⟨_, h⟩
   · exact S.owB L _ b hL hb
   · exact S.owB n x b h hb
omit [Inv] in
theorem lk_setFr {s t : Nat} {v : AV} : ∀ {fr : List (Nat × AV)}, lk (setFr s v fr) t = if s = t then (lk fr s).map (fun _ => v) else lk fr t
 | [] => by simp [setFr, lk]
 | (u, x) :: r => by
  simp only [setFr]
  cases hb : Nat.beq u s with
  | true =>
   have := Nat.eq_of_beq_eq_true hb
   subst this
   simp only [condA_true, lk]
   cases hc : Nat.beq u t with
   | true => have := Nat.eq_of_beq_eq_true hc; subst this; simp [Nat.beq_refl]
   | false =>
    have hne : u ≠ t := fun e => by subst e; rw [Nat.beq_refl] at hc; cases hc
    simp only [condA_false, if_neg hne]
    rw [lk_setFr, if_neg hne]
  | false =>
   simp only [condA_false, lk]
   cases hc : Nat.beq u t with
   | true =>
    have := Nat.eq_of_beq_eq_true hc
    subst this
    have hne : s ≠ u := fun e => by subst e; rw [Nat.beq_refl] at hb; cases hb
    simp [hne]
   | false =>
    simp only [condA_false]
    rw [lk_setFr]
    by_cases he : s = t
    · subst he; simp [hb]
    · simp [he]
theorem renSlot_sound {B : Base} {g : Gh} {st : St} {a : Act} {w : World} (S : Sim P B g st a w) (s : Nat) : ∃ g', Sim P B g' (renSlot st s) a w := by
 unfold renSlot
 split
 · rename_i L sz cs hs
   cases isNm L ⟨s, 0, L.elem⟩ with
   | true => exact ⟨g, S⟩
   | false =>
    simp only [condA_false]
    obtain ⟨h1, h2⟩ := Rc.own_inv (S.frame s _ hs)
    obtain ⟨S1, h3, _⟩ := S.ren (N := ⟨s, 0, L.elem⟩) h1 rfl
    refine ⟨_, fun t v ht => ?_, S1.size, S1.defers, S1.live, S1.bx, S1.ow, S1.fr, S1.bxB, S1.owB, S1.pre⟩
    rw [lk_setFr] at ht
    split at ht
    · rename_i he
      subst he
      cases hl : lk (strikeFr (eitherNm L ⟨s, 0, L.elem⟩) st.fr) s with
      | none => rw [hl] at ht; cases ht
      | some u =>
       rw [hl] at ht
       simp only [Option.map_some, Option.some.injEq] at ht
       subst ht
       exact .own _ h3 h2
    · exact S1.frame t v ht
 · exact ⟨g, S⟩
theorem renCell_sound {B : Base} {g : Gh} {st : St} {a : Act} {w : World} (b : Nat) (S : Sim P B g st a w) (i : Nat) : ∃ g', Sim P B g' (renCell b st i) a w := by
 unfold renCell
 split
 · rename_i cs hcs
   split
   · rename_i L sz xs hc
     cases isNm L ⟨boxSlot b, i, L.elem⟩ with
     | true => exact ⟨g, S⟩
     | false =>
      simp only [condA_false]
      obtain ⟨blk, h4, h5⟩ := S.bx.box b cs hcs
      have hnb : ∀ c0, cs = [c0] → rowy c0 = true → False := fun c0 e hr => by
       subst e
       cases i with
       | zero => simp at hc; subst hc; cases hr
       | succ i => simp at hc
      cases h5 with
      | row vs e fz cs1 _ _ _ _ => exact (hnb _ rfl rfl).elim
      | map es ck ks _ _ => exact (hnb _ rfl rfl).elim
      | bld t' p' v' c' h5 h6 h7 =>
       have hi1 : i = 1 ∧ c' = .sl (some L) sz xs := by
        match i, hc with
        | 0, hc => simp at hc
        | 1, hc => exact ⟨rfl, by simpa using hc⟩
        | n + 2, hc => simp at hc
       obtain ⟨rfl, rfl⟩ := hi1
       obtain ⟨h1, h2⟩ := Rc.own_inv h7
       obtain ⟨S1, h3, h10⟩ := S.ren (N := ⟨boxSlot b, 1, L.elem⟩) h1 rfl
       refine ⟨_, S1.frame, S1.size, S1.defers, S1.live, ⟨by simp [S1.bx.len, St.strike], S1.bx.nodup, S1.bx.M, S1.bx.ow, fun j cs' hj => ?_⟩, S1.ow, S1.fr, S1.bxB, S1.owB, S1.pre⟩
       rw [List.getElem?_set] at hj
       split at hj
       · rename_i hbj
         subst hbj
         split at hj
         · cases hj
           exact ⟨blk, h4, .bld t' p' v' _ h5 h6 (.own _ h3 h2)⟩
         · cases hj
       · exact S1.bx.box j cs' hj
      | cells vs e _ h5 h6 =>
      have hil : i < vs.size := by rw [h6.1]; exact (List.getElem?_eq_some_iff.1 hc).1
      obtain ⟨h1, h2⟩ := Rc.own_inv (h6.2 i _ _ (Array.getElem?_eq_getElem hil) hc)
      obtain ⟨S1, h3, h10⟩ := S.ren (N := ⟨boxSlot b, i, L.elem⟩) h1 rfl
      refine ⟨_, S1.frame, S1.size, S1.defers, S1.live, ⟨by simp [S1.bx.len, St.strike], S1.bx.nodup, S1.bx.M, S1.bx.ow, fun j cs' hj => ?_⟩, S1.ow, S1.fr, S1.bxB, S1.owB, S1.pre⟩
      rw [List.getElem?_set] at hj
      split at hj
      · rename_i hbj
        subst hbj
        split at hj
        · cases hj
          have h9 : RvA (g.ren L ⟨boxSlot b, i, L.elem⟩ _) w vs (cs.map (Cell.strike (eitherNm L ⟨boxSlot b, i, L.elem⟩))) := h6.map fun v c hv => hv.strike (Kp.refl _ _) (fun _ _ h => h) h10
          refine ⟨blk, h4, .cells vs e _ h5 ⟨by rw [List.length_set]; exact h9.1, fun q v c hv hcc => ?_⟩⟩
          rw [List.getElem?_set] at hcc
          split at hcc
          · rename_i hq
            subst hq
            split at hcc
            · cases hcc
              rw [Array.getElem?_eq_getElem hil] at hv; cases hv
              exact .own _ h3 h2
            · cases hcc
          · exact h9.2 q v c hv hcc
        · cases hj
      · exact S1.bx.box j cs' hj
   · exact ⟨g, S⟩
 · exact ⟨g, S⟩
theorem fold_sound {α : Type} {B : Base} {a : Act} {w : World} {f : St → α → St} (hf : ∀ g st x, Sim P B g st a w → ∃ g', Sim P B g' (f st x) a w) : ∀ (l : List α) (g : Gh) (st : St), Sim P B g st a w → ∃ g', Sim P B g' (l.foldl f st) a w
 | [], g, st, S => ⟨g, S⟩
 | x :: l, g, st, S => by
  obtain ⟨g', S'⟩ := hf g st x S
  exact fold_sound hf l g' _ S'
theorem prune_sound {B : Base} {g : Gh} {st st' : St} {a : Act} {w : World} {keep : List Nat} {hk : Nat} (S : Sim P B g st a w) (h : prune keep hk st = some st') (hn : B.bx0.length ≤ hk) : ∃ g', Sim P B g' st' a w := by
 unfold prune at h
 cases hc : (pickFr st.fr keep).all (fun p => p.2.ptrBelow hk) && (st.H.take hk).all (fun b => b.all (ptrBelow hk)) with
 | false => rw [hc] at h; cases h
 | true =>
  rw [hc] at h
  simp only [condA_true, Option.some.injEq] at h
  subst h
  rw [Bool.and_eq_true] at hc
  have S1 := S.cut hc.1 hc.2 hn
  obtain ⟨g2, S2⟩ := fold_sound (fun g st s S => renSlot_sound S s) keep _ _ S1
  exact fold_sound (fun g st b S => by
   unfold renBox
   split
   · exact fold_sound (fun g st i S => renCell_sound b S i) _ g st S
   · exact ⟨g, S⟩) (List.range (st.H.take hk).length) g2 _ S2
omit [Inv] in
theorem hintOf_mem : ∀ {hints : List (Nat × List Nat × Nat)} {id : Nat} {x : List Nat × Nat}, hintOf hints id = some x → ∃ i, (i, x) ∈ hints
 | [], _, _, h => by cases h
 | (i, y) :: r, id, x, h => by
  simp only [hintOf] at h
  cases hb : Nat.beq i id with
  | true => rw [hb] at h; simp only [condA_true, Option.some.injEq] at h; subst h; exact ⟨i, List.mem_cons_self⟩
  | false =>
   rw [hb] at h
   obtain ⟨j, hj⟩ := hintOf_mem (show hintOf r id = some x from h)
   exact ⟨j, List.mem_cons_of_mem _ hj⟩
theorem pruneAt_sound {B : Base} {g : Gh} {st st' : St} {a : Act} {w : World} {hints : List (Nat × List Nat × Nat)} {id : Nat} (S : Sim P B g st a w) (h : pruneAt hints id st = some st') (hh : ∀ x ∈ hints, B.bx0.length ≤ x.2.2) : ∃ g', Sim P B g' st' a w := by
 unfold pruneAt at h
 split at h
 · cases h; exact ⟨g, S⟩
 · rename_i keep hk he
   obtain ⟨i, hi⟩ := hintOf_mem he
   exact prune_sound S h (hh _ hi)
end AX
end Go.Proofs.YtfbicbgdfcbhpaaGreatDoor
namespace Go.Proofs.YtfbicbgdfcbhpaaGreatDoor
namespace AX
variable [Inv]
open Go.RowKit
variable {P : Program} {R : Type}
omit [Inv] in
theorem wp_goto_loopX {a : Act} {w : World} {Q : Exit → Act → World → Prop} {b : Code} (l : Nat) (J : Act → World → Prop) (μ : Act → World → Nat) (hf : findLabel ((Code.label l).seq b) l = some (Code.skip.seq b)) (h0 : J a w)
 (pass : ∀ a w, J a w → b.wp P (Exit.jump l (fun a' w' => J a' w' ∧ μ a' w' < μ a w) Q) a w) : (Code.scope ((Code.label l).seq b)).wp P Q a w := by
 refine wp_scope_jumps l J μ hf ?_ ?_
 · refine wp_seq ?_
   refine wp_label ?_
   refine wp_mono (pass a w h0) fun e a' w' h => ?_
   cases e <;> first | exact h | exact ⟨h.1, h.2.1⟩
 · intro a w h
   refine wp_seq ?_
   refine wp_skip ?_
   exact pass a w h
omit [Inv] in
theorem least_of {p : Nat → Prop} (h : ∃ m, p m) : ∃ m, p m ∧ ∀ k, p k → m ≤ k := by
 obtain ⟨m, hm⟩ := h
 induction m using Nat.strongRecOn with
 | _ m ih =>
  by_cases hk : ∃ k, k < m ∧ p k
  · obtain ⟨k, h1, h2⟩ := hk; exact ih k h1 h2
  · exact ⟨m, hm, fun k hk2 => by
     rcases Nat.lt_or_ge k m with h | h
     · exact absurd ⟨k, h, hk2⟩ hk
     · exact h⟩
open Classical in
noncomputable def rounds (G : Nat → Act → World → Prop) (a : Act) (w : World) : Nat := if h : ∃ m, G m a w then Classical.choose (least_of h) else 0
omit [Inv] in
theorem rounds_spec {G : Nat → Act → World → Prop} {a : Act} {w : World} (h : ∃ m, G m a w) : G (rounds G a w) a w ∧ ∀ k, G k a w → rounds G a w ≤ k := by
 unfold rounds
 rw [dif_pos h]
 exact Classical.choose_spec (least_of h)
def exOf : Ex → Exit
 | .normal => .normal
 | .exit i => .exit i
 | .goto l => .goto l
 | .ret => .ret
def KQ (P : Program) (B : Base) (k : Ex → St → Option R) (r : R) (e : Exit) (a : Act) (w : World) : Prop := ∃ e', exOf e' = e ∧ ∃ g st, Sim P B g st a w ∧ k e' st = some r
theorem Sim.drop {B : Base} {g : Gh} {st : St} {a : Act} {w : World} (S : Sim P B g st a w) (x : Operand) : Sim P B g (st.drop x) a w := by
 cases x with
 | tmp t =>
  refine ⟨fun s v hs => ?_, S.size, S.defers, S.live, S.bx, S.ow, S.fr, S.bxB, S.owB, S.pre⟩
  simp only [St.drop, lk_rm] at hs
  split at hs
  · cases hs
  · exact S.frame s v hs
 | _ => exact S
theorem Sim.condSt {B : Base} {g : Gh} {st : St} {a : Act} {w : World} (S : Sim P B g st a w) {hints : List (Nat × List Nat × Nat)} {c : Operand} {b : Bool} (h : AX.ev st c = some (.one (.bool b))) : Sim P B g (AX.condSt hints c b st) a w := by
 unfold AX.condSt
 split
 · split
   · exact S.drop _
   · exact S.eqv (fix_eq h)
 · exact S.drop _
omit [Inv] in
theorem prK_some {id : Nat} {pr : St → Option St} {f : St → Option R} {st : St} {r : R} (h : prK id pr f st = some r) : ∃ st1, pr st = some st1 ∧ f st1 = some r := by
 unfold prK at h
 split at h
 · cases h
 · rw [forceSt_eq] at h
   exact ⟨_, ‹_›, h⟩
section
variable {E : Env} {call : CallF} (hE : EnvOk P E) (hC : CallOk P call) (hfol : P.follows .mixedOrders = true)
include hE hC hfol
theorem code_sound {B : Base} {hints : List (Nat × List Nat × Nat)} {hds : List (Nat × Nat)} {n : Nat} (c : Code) (hok : okCode B.nt hds c = true) (hh : ∀ x ∈ hints, B.bx0.length ≤ x.2.2) {k : Ex → St → Option R} {r : R} {g : Gh} {st : St} {a : Act} {w : World} (S : Sim P B g st a w) (h : aexec E call hints hds n c k st = some r) : c.wp P (KQ P B k r) a w := by
 cases c with
 | skip => exact wp_skip ⟨.normal, rfl, g, st, S, h⟩
 | label l => exact wp_label ⟨.normal, rfl, g, st, S, h⟩
 | exit id => exact wp_exit ⟨.exit id, rfl, g, st, S, h⟩
 | goto l => exact wp_goto ⟨.goto l, rfl, g, st, S, h⟩
 | ret => exact wp_ret ⟨.ret, rfl, g, st, S, h⟩
 | rangeFunc => cases h
 | refuse => cases h
 | region id ops draw =>
  simp only [okCode, Bool.and_eq_true] at hok
  simp only [aexec] at h
  refine region_sound hE hC (hd := condA (draw) (heads hds id) <| 0) S hfol hok.1 (fun hd => ?_) (fun hd => by rw [hd]; rfl) h fun g st a w S h => ?_
  · subst hd; simpa using hok.2
  · obtain ⟨st1, h1, h2⟩ := prK_some h
    obtain ⟨g', S'⟩ := pruneAt_sound S h1 hh
    exact ⟨.normal, rfl, g', st1, S', h2⟩
 | seq x y =>
  simp only [okCode, Bool.and_eq_true] at hok
  simp only [aexec] at h
  refine wp_seq (wp_mono (code_sound x hok.1 hh S h) fun e a' w' hk => ?_)
  obtain ⟨e', he, g', st', S', hk⟩ := hk
  cases e' <;> subst he
  · exact code_sound y hok.2 hh S' hk
  · exact ⟨_, rfl, g', st', S', hk⟩
  · exact ⟨_, rfl, g', st', S', hk⟩
  · exact ⟨_, rfl, g', st', S', hk⟩
 | cond x y z =>
  simp only [okCode, Bool.and_eq_true] at hok
  simp only [aexec] at h
  split at h
  · rename_i t ht
    refine wp_cond (t := t) (S.ev ht).bool_inv ?_
    cases t with
    | true => exact code_sound y hok.1 hh (S.condSt ht) h
    | false => exact code_sound z hok.2 hh (S.condSt ht) h
  · cases h
 | block id x =>
  simp only [okCode] at hok
  simp only [aexec] at h
  refine wp_block (wp_mono (code_sound x hok hh S h) fun e a' w' hk => ?_)
  obtain ⟨e', he, g', st', S', hk⟩ := hk
  cases e' <;> subst he
  · exact ⟨_, rfl, g', st', S', hk⟩
  · rename_i i
    simp only [kBlk] at hk
    simp only [exOf, Exit.inBlock]
    cases hb : Nat.beq i id with
    | true =>
     rw [hb] at hk
     rw [if_pos (Nat.eq_of_beq_eq_true hb)]
     exact ⟨.normal, rfl, g', st', S', hk⟩
    | false =>
     rw [hb] at hk
     rw [if_neg (fun e => by subst e; rw [Nat.beq_refl] at hb; cases hb)]
     exact ⟨.exit i, rfl, g', st', S', hk⟩
  · exact ⟨_, rfl, g', st', S', hk⟩
  · exact ⟨_, rfl, g', st', S', hk⟩
 | loop x =>
  simp only [okCode] at hok
  simp only [aexec] at h
  let G : Nat → Act → World → Prop := fun m a w => ∃ g st, Sim P B g st a w ∧ aloop (loopKey x) (pruneAt hints (loopKey x)) (aexec E call hints hds n x) k m st = some r
  obtain ⟨st0, h0, h⟩ := prK_some h
  obtain ⟨g0, S0⟩ := pruneAt_sound S h0 hh
  refine wp_loop (fun a w => ∃ m, G m a w) (rounds G) ⟨n, g0, st0, S0, h⟩ fun a w hI => ?_
  obtain ⟨hG, hmin⟩ := rounds_spec hI
  generalize rounds G a w = m at hG hmin
  obtain ⟨g1, st1, S1, h1⟩ := hG
  cases m with
  | zero => cases h1
  | succ m =>
   simp only [aloop] at h1
   refine wp_mono (code_sound x hok hh S1 h1) fun e a' w' hk => ?_
   obtain ⟨e', he, g', st', S', hk⟩ := hk
   cases e' <;> subst he
   · obtain ⟨st3, h3, h4⟩ := prK_some hk
     obtain ⟨g3, S3⟩ := pruneAt_sound S' h3 hh
     have hg : G m a' w' := ⟨g3, st3, S3, h4⟩
     refine ⟨⟨m, hg⟩, Nat.lt_of_le_of_lt ((rounds_spec ⟨m, hg⟩).2 m hg) (Nat.lt_succ_self m)⟩
   · exact ⟨_, rfl, g', st', S', hk⟩
   · exact ⟨_, rfl, g', st', S', hk⟩
   · exact ⟨_, rfl, g', st', S', hk⟩
 | scope x =>
  simp only [okCode] at hok
  cases x with
  | seq y b =>
   cases y with
   | label l =>
    simp only [okCode, Bool.true_and] at hok
    have h : prK (loopKey b) (pruneAt hints (loopKey b)) (agoto (loopKey b) l (pruneAt hints (loopKey b)) (aexec E call hints hds n b) k n) st = some r := h
    obtain ⟨st0, h0, h⟩ := prK_some h
    obtain ⟨g0, S0⟩ := pruneAt_sound S h0 hh
    let G : Nat → Act → World → Prop := fun m a w => ∃ g st, Sim P B g st a w ∧ agoto (loopKey b) l (pruneAt hints (loopKey b)) (aexec E call hints hds n b) k m st = some r
    refine wp_goto_loopX l (fun a w => ∃ m, G m a w) (rounds G) (by simp [findLabel]) ⟨n, g0, st0, S0, h⟩ fun a w hI => ?_
    obtain ⟨hG, hmin⟩ := rounds_spec hI
    generalize rounds G a w = m at hG hmin
    obtain ⟨g1, st1, S1, h1⟩ := hG
    cases m with
    | zero => cases h1
    | succ m =>
     simp only [agoto] at h1
     refine wp_mono (code_sound b hok hh S1 h1) fun e a' w' hk => ?_
     obtain ⟨e', he, g', st', S', hk⟩ := hk
     cases e' <;> subst he
     · exact ⟨_, rfl, g', st', S', hk⟩
     · exact ⟨_, rfl, g', st', S', hk⟩
     · rename_i l'
       simp only [kGoto] at hk
       cases hb : Nat.beq l' l with
       | true =>
        rw [hb] at hk
        simp only [condA_true] at hk
        have := Nat.eq_of_beq_eq_true hb
        subst this
        obtain ⟨st3, h3, h4⟩ := prK_some hk
        obtain ⟨g3, S3⟩ := pruneAt_sound S' h3 hh
        have hg : G m a' w' := ⟨g3, st3, S3, h4⟩
        exact ⟨rfl, ⟨m, hg⟩, Nat.lt_of_le_of_lt ((rounds_spec ⟨m, hg⟩).2 m hg) (Nat.lt_succ_self m)⟩
       | false =>
        rw [hb] at hk
        cases hk
     · exact ⟨_, rfl, g', st', S', hk⟩
   | _ => cases h
  | _ => cases h
termination_by SizeOf.sizeOf c
end
omit [Inv] in
theorem run_mapM_all {α β : Type} {f : α → Sem β} {w : World} : ∀ {l : List α} {ys : List β}, All2 (fun x y => (f x).run P w = .ok y w) l ys → (l.mapM f).run P w = .ok ys w
 | _, _, .nil => by simp
 | _, _, .cons (xs := xs) (bs := bs) h hr => by
  have := run_mapM_all hr
  simp [List.mapM_cons, h, this]
def resSem (tmps : Array Value) : ResultVar → Sem Value
 | .tmp t => pure (tmps.getD t undef)
 | .cell p t => do loadVar t (← asAddr (tmps.getD p undef))
section
variable {E : Env} (hE : EnvOk P E)
include hE
omit hE in
omit [Inv] in
theorem resSem_eq (fn : Func) (tmps : Array Value) : results fn tmps = (do let vs ← fn.results.mapM (resSem tmps); pure (if h : vs.size = 1 then vs[0] else .tuple vs)) := by
 unfold results
 congr 1
theorem res_sound {B : Base} {g : Gh} {st : St} {a : Act} {w : World} (S : Sim P B g st a w) : ∀ (l : List ResultVar) (vs : List V1), ress E st l = some vs →
 ∃ us, All2 (fun x y => (resSem a.tmps x).run P w = .ok y w) l us ∧ All2 (fun v u => Rv1 g w u v) vs us
 | [], vs, h => by cases h; exact ⟨[], .nil, .nil⟩
 | x :: l, vs, h => by
  simp only [ress] at h
  split at h
  · rename_i v vs' hv hvs
    cases h
    obtain ⟨us, h1, h2⟩ := res_sound S l vs' hvs
    cases x with
    | tmp t =>
     have hv : resOf st (.tmp t) = some v := hv
     simp only [resOf] at hv
     refine ⟨a.tmps.getD t undef :: us, .cons rfl h1, .cons ?_ h2⟩
     split at hv
     · cases hv; exact S.frame t _ ‹_›
     · cases hv; exact S.frame t _ ‹_›
     · cases hv
    | cell p t =>
     simp only [resCell] at hv
     split at hv
     · rename_i x ti hp ht
       rw [loadK_bind] at hv
       obtain ⟨av, h3, h4⟩ := bind_some_inv hv
       obtain ⟨av', u, h5, h6, h7⟩ := loadK_sound S (ty_ok hE.T ht) (S.frame p _ hp) h3
       cases h5
       refine ⟨u :: us, .cons ?_ h1, .cons ?_ h2⟩
       · have hx : ∃ A, a.tmps.getD p undef = .pointer (some A) := by
          have hr := S.frame p _ hp
          generalize a.tmps.getD p undef = q at hr
          unfold loadK at h3
          split at h3
          · obtain ⟨blk, rfl, _⟩ := Rc.ptr_inv hr; exact ⟨_, rfl⟩
          · cases hr with
            | data h => cases h
            | eptr => exact ⟨_, rfl⟩
          · cases h3
         obtain ⟨A, hA⟩ := hx
         rw [hA] at h6
         simp only [resSem, hA]
         simpa [Instr.loadAt, Instr.sureAddr, asAddr] using h6
       · split at h4
         · cases h4; exact h7
         · cases h4; exact h7
         · cases h4
     · cases hv
  · cases h
theorem end_sound {B : Base} {g : Gh} {st : St} {a : Act} {w : World} {fn : Func} {res : List ResultVar} {e : Ex} {v : AV} {H' : Heap} {h0 : Nat} (S : Sim P B g st a w) (hr : fn.results.toList = res) (h : kEnd E h0 res e st = some (v, H')) :
 (e = .normal ∨ e = .ret) ∧ H' = canonH 0 (st.H.take h0) ∧ ∃ u, (results fn a.tmps).run P w = .ok u w ∧ Rv g w u v := by
 have key : (match ress E st res with | some [v] => some (v.av, canonH 0 (st.H.take h0)) | some vs => some (.tup vs, canonH 0 (st.H.take h0)) | none => none) = some (v, H') → H' = canonH 0 (st.H.take h0) ∧ ∃ u, (results fn a.tmps).run P w = .ok u w ∧ Rv g w u v := fun h => by
  have hm : ∀ vs, ress E st res = some vs → ∃ us, (results fn a.tmps).run P w = .ok (if h : us.size = 1 then us[0] else .tuple us) w ∧ All2 (fun v u => Rv1 g w u v) vs us.toList := fun vs hvs => by
   obtain ⟨us, h1, h2⟩ := res_sound hE S res vs hvs
   refine ⟨us.toArray, ?_, by simpa using h2⟩
   rw [← hr] at h1
   have hrun := run_mapM_all h1
   rw [resSem_eq, Array.mapM_eq_mapM_toList]
   simp only [Sem.run_bind]
   simp [hrun]
  split at h
  · rename_i x hx
    cases h
    obtain ⟨us, h1, h2⟩ := hm _ hx
    cases hus : us.toList with
    | nil => rw [hus] at h2; cases h2
    | cons u r =>
     rw [hus] at h2
     cases h2 with
     | cons h3 h4 =>
      cases h4
      have hu : us = #[u] := by apply Array.toList_inj.1; rw [hus]
      subst hu
      exact ⟨rfl, u, by simpa using h1, h3.av⟩
  · rename_i vs hvs hx
    cases h
    obtain ⟨us, h1, h2⟩ := hm _ hx
    have hl := h2.get
    have hne : ¬ us.size = 1 := fun h1 => by
     have : vs.length = 1 := by rw [hl]; simpa using h1
     cases vs with
     | nil => cases this
     | cons y r => cases r with
      | nil => exact hvs y rfl
      | cons _ _ => simp at this
    rw [dif_neg hne] at h1
    refine ⟨rfl, .tuple us, h1, us, rfl, by simpa using hl.symm, fun i u x hu hx => ?_⟩
    have get : ∀ {vs : List V1} {us : List Value}, All2 (fun v u => Rv1 g w u v) vs us → ∀ (i : Nat) u x, us[i]? = some u → vs[i]? = some x → Rv1 g w u x := fun h => by
     induction h with
     | nil => intro i u x hu _; simp at hu
     | cons h1 _ ih =>
      intro i u x hu hx
      cases i with
      | zero => simp at hu hx; subst hu; subst hx; exact h1
      | succ i => exact ih i u x (by simpa using hu) (by simpa using hx)
    exact get h2 i u x (by simpa using hu) hx
  · cases h
 cases e with
 | normal => exact ⟨.inl rfl, key h⟩
 | ret => exact ⟨.inr rfl, key h⟩
 | exit i => cases h
 | goto l => cases h
end
structure FunOk (P : Program) (f : FuncId) (x : FX) : Prop where
 ex : ∃ fn, P.funcs[f]? = some fn ∧ fn.body = some x.body ∧ fn.results.toList = x.res ∧ fn.ntmps = x.nt ∧ okCode x.nt x.hds x.body = true ∧ fn.name ≠ "runtime.NumGoroutine"
omit [Inv] in
theorem lk_arg : ∀ (args : List AV) (i s : Nat) (v : AV), lk (argFr i args) s = some v → i ≤ s ∧ args[s - i]? = some v
 | [], i, s, v, h => by cases h
 | a :: r, i, s, v, h => by
  simp only [argFr, lk] at h
  cases hb : Nat.beq i s with
  | true =>
   rw [hb] at h
   have := Nat.eq_of_beq_eq_true hb
   subst this
   exact ⟨Nat.le_refl _, by simpa using h⟩
  | false =>
   rw [hb] at h
   have hne : i ≠ s := fun e => by subst e; rw [Nat.beq_refl] at hb; cases hb
   obtain ⟨h1, h2⟩ := lk_arg r (i + 1) s v h
   refine ⟨by omega, ?_⟩
   rw [show s - i = (s - (i + 1)) + 1 by omega, List.getElem?_cons_succ]
   exact h2
omit [Inv] in
theorem All2.at {α β : Type} {C : α → β → Prop} {l : List α} {m : List β} (h : All2 C l m) : ∀ (i : Nat) a, l[i]? = some a → ∃ b, m[i]? = some b ∧ C a b := by
 induction h with
 | nil => intro i a h; simp at h
 | cons h1 _ ih =>
  intro i a ha
  cases i with
  | zero => simp at ha; subst ha; exact ⟨_, rfl, h1⟩
  | succ i => obtain ⟨b, hb, hc⟩ := ih i a (by simpa using ha); exact ⟨b, by simpa using hb, hc⟩
theorem EnvOk.box {E : Env} (h : EnvOk P E) (l : List Nat) : EnvOk P (E.box l) := ⟨h.T, h.eqs, h.prim, h.primH, h.primS⟩
theorem acall_sound {E : Env} {fx : FuncId → Option FX} (hE : EnvOk P E) (hfol : P.follows .mixedOrders = true) (hF : ∀ f x, fx f = some x → FunOk P f x) : ∀ n, CallOk P (acall E fx n)
 | 0 => ⟨fun f args H v H' h => (by cases h), fun f args H v H' h => (by cases h)⟩
 | n + 1 => by
  have ih := acall_sound hE hfol hF n
  have inv : ∀ f args H v H', acall E fx (n + 1) f args H = some (v, H') → ∃ x, fx f = some x ∧ args.length ≤ x.nt ∧ (∀ y ∈ x.hints, H.length ≤ y.2.2) ∧ aexec (E.box x.bxs) (acall E fx n) x.hints x.hds (n + 1) x.body (kEnd E H.length x.res) ⟨argFr 0 args, H⟩ = some (v, H') := fun f args H v H' h => by
   simp only [acall] at h
   split at h
   · cases h
   · rename_i x hx
     cases hle : Nat.ble args.length x.nt && x.hints.all (fun h => Nat.ble H.length h.2.2) with
     | false => rw [hle] at h; cases h
     | true =>
      rw [hle] at h
      rw [Bool.and_eq_true, List.all_eq_true] at hle
      exact ⟨x, hx, Nat.le_of_ble_eq_true hle.1, fun y hy => Nat.le_of_ble_eq_true (hle.2 y hy), h⟩
  refine ⟨fun f args H v H' h g D w vals hI hl hB hO hDb hDo hA => ?_, fun f args H v H' h => ?_⟩
  · obtain ⟨x, hx, hle, hh, hr⟩ := inv f args H v H' h
    obtain ⟨fn, h1, h2, h3, h4, h5, _⟩ := (hF f x hx).ex
    have hlen : vals.length = args.length := hA.get.symm
    refine calls_of_wp h1 h2 ?_
    let B : Base := ⟨w, g.M, D, x.nt, g.bx, hI⟩
    have S : Sim P B g ⟨argFr 0 args, H⟩ { tmps := vals.toArray ++ Array.replicate (fn.ntmps - vals.toArray.size) undef, defers := [] } w := by
     refine ⟨fun s u hs => ?_, ?_, rfl, hl, hB, hO, ⟨rfl, rfl, rfl, Nat.le_refl _, fun k _ _ => rfl, Kp.refl _ _, fun _ _ _ _ h => h⟩, fun blk hb => .inl (hDb blk hb), fun L v b h hb => .inl (hDo L v b h hb), List.prefix_refl _⟩
     · obtain ⟨_, h6⟩ := lk_arg args 0 s u hs
       obtain ⟨b, h7, h8⟩ := hA.at s u (by simpa using h6)
       have hs2 : s < vals.length := (List.getElem?_eq_some_iff.1 h7).1
       have : (vals.toArray ++ Array.replicate (fn.ntmps - vals.toArray.size) undef).getD s undef = b := by
        rw [Array.getD_eq_getD_getElem?, Array.getElem?_append_left (by simpa using hs2)]
        simp [h7]
       rw [this]; exact h8
     · simp only [Array.size_append, Array.size_replicate, List.size_toArray, B]
       omega
    refine wp_mono (code_sound (hE.box x.bxs) ih hfol (B := B) x.body h5 (fun y hy => by show g.bx.length ≤ _; rw [hB.len]; exact hh y hy) S hr) fun e a' w' hk => ?_
    obtain ⟨e', he, g', st', S', hk⟩ := hk
    obtain ⟨hor, hH, u, h6, h7⟩ := end_sound hE S' h3 hk
    have fin : a'.defers = [] ∧ ∃ v_1, (results fn a'.tmps).run P w' = .ok v_1 w' ∧ ∃ u g' B fr HH a', Ending.returned v_1 = .returned u ∧ B.w0 = w ∧ B.M0 = g.M ∧ B.D = D ∧ B.bx0 = g.bx ∧ Sim P B g' ⟨fr, HH⟩ a' w' ∧ Rv g' w' u v ∧ H' = canonH 0 (HH.take H.length) :=
     ⟨S'.defers, u, h6, u, g', B, st'.fr, st'.H, a', rfl, rfl, rfl, rfl, rfl, S', h7, hH⟩
    rcases hor with rfl | rfl <;> subst he <;> exact fin
  · obtain ⟨x, hx, _, _, _⟩ := inv f args H v H' h
    obtain ⟨fn, h1, h2, _, _, _, h6⟩ := (hF f x hx).ex
    exact ⟨fn, h1, by rw [h2]; rfl, h6⟩
end AX
end Go.Proofs.YtfbicbgdfcbhpaaGreatDoor
