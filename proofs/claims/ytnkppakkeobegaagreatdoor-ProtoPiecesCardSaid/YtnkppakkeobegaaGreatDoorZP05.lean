/-
  AW13.
-/
import Derived.Test.YtnkppakkeobegaaGreatDoorZP04
set_option maxRecDepth 20000
set_option linter.unusedVariables false
set_option linter.unusedSimpArgs false
set_option linter.unusedSectionVars false
namespace Go.Proofs.YtnkppakkeobegaaGreatDoor
namespace AX
variable [Inv]
open Go.RowKit
variable {P : Program} {R : Type}
theorem Sim.bxlt {B : Base} {g : Gh} {st : St} {a : Act} {w : World} (S : Sim P B g st a w) : ∀ blk ∈ g.bx, blk < w.heap.size := fun blk hb => by
 obtain ⟨i, hi⟩ := List.getElem?_of_mem hb
 have hlt : i < st.H.length := by rw [← S.bx.len]; exact (List.getElem?_eq_some_iff.1 hi).1
 obtain ⟨blk', h1, h2⟩ := S.bx.box i _ (List.getElem?_eq_getElem hlt)
 rw [hi] at h1; cases h1
 exact h2.lt
theorem Sim.owlt {B : Base} {g : Gh} {st : St} {a : Act} {w : World} (S : Sim P B g st a w) : ∀ L v b, g.ow L = some v → v.ob = some b → b < w.heap.size := fun L v b hL hb => by
 obtain ⟨n, xs, h1, _⟩ := S.ow.row L v hL
 exact (h1.lt b hb).2
theorem Sim.turnObj {B : Base} {g : Gh} {st : St} {a : Act} {w w' : World} {G G' : Heap} {b blk : Nat} {cs' : List Cell} {vs' : Array Value} {e : TypeId} {gx' : List Nat} {gw' : Nat → Nat → Option (TypeId × Value)} {p : Nm → Bool}
 (S : Sim P B g st a w) (hG : st.G = some G) (hpre : g.M.gx <+: gx') (hlen : gx'.length = G'.length) (hnd : gx'.Nodup) (hb : gx'[b]? = some blk) (hold : ∀ (i : Nat) cs, i ≠ b → G'[i]? = some cs → G[i]? = some cs)
 (hnew : ∀ x ∈ gx', x ∈ g.M.gx ∨ (x = blk ∧ w.heap.size ≤ blk)) (hos : w'.os = w.os) (htp : w'.tape = w.tape) (hout : w'.output = w.output) (hsz : w.heap.size ≤ w'.heap.size) (hoth : ∀ k, k < w.heap.size → k ≠ blk → w'.heap[k]? = w.heap[k]?)
 (hcell : w'.heap[blk]? = some (.cells vs' e (0, 0))) (hcs : G'[b]? = some cs') (hvl : vs'.size = cs'.length)
 (hgc : Kp g.M w ⟨g.M.p, gx', gw'⟩ w' → ∀ (j : Nat) v c, vs'[j]? = some v → cs'[j]? = some c → Gc ⟨g.M.p, gx', gw'⟩ w' b j v c)
 (hgw : ∀ i j, i ≠ b → gw' i j = g.M.gw i j) (hgb : ∀ j e v, gw' b j = some (e, v) → g.M.gw b j = some (e, v) ∨ ∃ L, p L = true ∧ L.elem = e ∧ g.ow L = some v)
 (hinj : ∀ j j' e e' v v' k, gw' b j = some (e, v) → gw' b j' = some (e', v') → v.ob = some k → v'.ob = some k → j = j') :
 Sim P B ⟨⟨g.M.p, gx', gw'⟩, g.bx, fun L => condA (p L) none (g.ow L)⟩ ⟨strikeFr p st.fr, strikeH p st.H, some G'⟩ a w' := by
 have hgk := S.gk
 rw [hG] at hgk
 obtain ⟨hgm, hO, hD⟩ := hgk
 have hbl : blk ∈ g.M.gx ∨ w.heap.size ≤ blk := by
  rcases hnew blk (List.mem_of_getElem? hb) with h | h
  · exact .inl h
  · exact .inr h.2
 have hMb : ∀ j, ¬ g.M blk j := fun j hm => by
  rcases hbl with h | h
  · exact hO.out blk h j hm
  · have := S.live blk j hm; omega
 have hkp : Kp g.M w ⟨g.M.p, gx', gw'⟩ w' := ⟨fun b' j hm => ⟨hm, World.cell?_of_block (w := w) (hoth b' (S.live b' j hm) (fun e => hMb j (by rw [← e]; exact hm)))⟩, hpre⟩
 have howne : ∀ L v k, g.ow L = some v → v.ob = some k → k ≠ blk := fun L v k hL hk e => by
  subst e
  rcases hbl with h | h
  · exact hO.ow L v k hL hk (.inl h)
  · have := S.owlt L v k hL hk; omega
 have hbxne : ∀ k ∈ g.bx, k ≠ blk := fun k hk e => by
  subst e
  rcases hbl with h | h
  · exact hO.bx k (.inl h) hk
  · have := S.bxlt k hk; omega
 have hsome : ∀ {L : Nm} {u : Value}, condA (p L) none (g.ow L) = some u → p L = false ∧ g.ow L = some u := fun {L u} h => by
  cases hp : p L with
  | true => rw [hp] at h; cases h
  | false => rw [hp] at h; exact ⟨rfl, h⟩
 have hc : ∀ v c, Rc g w v c → Rc ⟨⟨g.M.p, gx', gw'⟩, g.bx, fun L => condA (p L) none (g.ow L)⟩ w' v (c.strike p) := fun v c h => h.strike hkp (fun _ _ h => h) (fun L u hp hL => by show condA (p L) none (g.ow L) = some u; rw [hp]; exact hL)
 -- rows of cells
 have hrow : ∀ i j e v, gw' i j = some (e, v) → (∃ n xs, w.ownsAt 0 e (P.cellsOf e) v n xs ∧ ∀ k, v.ob = some k → k ∉ g.M.gx ∧ k ≠ blk ∧ ∀ q, g.M k q → q < v.offOf + n * P.cellsOf e) ∧ (g.M.gw i j = some (e, v) ∨ (i = b ∧ ∃ L, p L = true ∧ L.elem = e ∧ g.ow L = some v)) := fun i j e v h => by
  have key : g.M.gw i j = some (e, v) ∨ (i = b ∧ ∃ L, p L = true ∧ L.elem = e ∧ g.ow L = some v) := by
   by_cases hi : i = b
   · subst hi
     rcases hgb j e v h with h1 | h1
     · exact .inl h1
     · exact .inr ⟨rfl, h1⟩
   · rw [hgw i j hi] at h; exact .inl h
  refine ⟨?_, key⟩
  rcases key with h1 | ⟨_, L, _, rfl, h1⟩
  · obtain ⟨n, xs, h2, h3⟩ := hO.row i j e v h1
    refine ⟨n, xs, h2, fun k hk => ⟨(h3 k hk).1, fun e => ?_, (h3 k hk).2⟩⟩
    subst e
    rcases hbl with h4 | h4
    · exact (h3 k hk).1 h4
    · have := (h2.lt k hk).2; omega
  · obtain ⟨n, xs, h2, h3⟩ := S.ow.row L v h1
    exact ⟨n, xs, h2, fun k hk => ⟨fun hm => hO.ow L v k h1 hk (.inl hm), howne L v k h1 hk, fun q hq => h3 k q hk hq⟩⟩
 have hpb : ∀ k, Pb ⟨g.M.p, gx', gw'⟩ k → Pb g.M k ∨ (k = blk ∧ w.heap.size ≤ blk) ∨ ∃ L v, p L = true ∧ g.ow L = some v ∧ v.ob = some k := fun k hk => by
  rcases hk with hk | ⟨i, j, e, v, h1, h2⟩
  · rcases hnew k hk with h | h
    · exact .inl (.inl h)
    · exact .inr (.inl h)
  · rcases (hrow i j e v h1).2 with h3 | ⟨_, L, h3, _, h4⟩
    · exact .inl (.inr ⟨i, j, e, v, h3, h2⟩)
    · exact .inr (.inr ⟨L, v, h3, h4, h2⟩)
 refine ⟨fun s v hs => ?_, S.size, S.defers, fun b' j hm => Nat.lt_of_lt_of_le (S.live b' j hm) hsz, ⟨?_, S.bx.nodup, S.bx.M, fun L v k hL hk => S.bx.ow L v k (hsome hL).2 hk, fun i cs hi => ?_⟩, ⟨fun L v hL => ?_, fun L L' v v' hne hL hL' => S.ow.ne L L' v v' hne (hsome hL).2 (hsome hL').2⟩,
  ⟨hos.trans S.fr.os, htp.trans S.fr.tape, hout.trans S.fr.output, Nat.le_trans S.fr.size hsz, fun k hk hnD => ?_, S.fr.kp.trans hkp, S.fr.old⟩, S.bxB, fun L v k hL hk => S.owB L v k (hsome hL).2 hk, S.pre, hgm, ⟨hlen, hnd, fun i cs hi => ?_, fun x hx j hm => ?_, fun i j e v h => ?_, fun i j i' j' e e' v v' k h1 h2 h3 h4 => ?_, fun k hk hm => ?_, fun L u k hL hu hk => ?_⟩, fun k hk => ?_⟩
 · simp only [lk_strike] at hs
   cases hx : lk st.fr s with
   | none => rw [hx] at hs; cases hs
   | some x =>
    rw [hx] at hs
    simp only [Option.map_some, Option.some.injEq] at hs
    subst hs
    exact (S.frame s x hx).map hc
 · show g.bx.length = (strikeH p st.H).length
   rw [strikeH_len]; exact S.bx.len
 · simp only [strikeH_get] at hi
   cases hx : st.H[i]? with
   | none => rw [hx] at hi; cases hi
   | some cs0 =>
    rw [hx] at hi
    simp only [Option.map_some, Option.some.injEq] at hi
    subst hi
    obtain ⟨k, h1, h2⟩ := S.bx.box i cs0 hx
    exact ⟨k, h1, h2.strike (hoth k h2.lt (hbxne k (List.mem_of_getElem? h1))) hkp hc⟩
 · obtain ⟨n, xs, h1, h2⟩ := S.ow.row L v (hsome hL).2
   exact ⟨n, xs, ownsRow_block h1 fun k hk => hoth k (h1.lt k hk).2 (howne L v k (hsome hL).2 hk), h2⟩
 · rw [hoth k (Nat.lt_of_lt_of_le hk S.fr.size) fun e => ?_]
   · exact S.fr.block k hk hnD
   · subst e
     rcases hbl with h | h
     · rcases hD k (.inl h) with h2 | h2
       · exact hnD h2
       · omega
     · have := S.fr.size; omega
 · by_cases hi2 : i = b
   · subst hi2
     rw [hcs] at hi; cases hi
     exact ⟨blk, hb, .cells vs' e _ hcell hvl (hgc hkp)⟩
   · have hi3 := hold i cs hi2 hi
     obtain ⟨k, h1, h2⟩ := hO.obj i cs hi3
     have h1' : gx'[i]? = some k := hkp.at h1
     have hne : k ≠ blk := fun e => hi2 (nodup_at hnd h1' (by rw [e]; exact hb))
     exact ⟨k, h1', h2.kept hkp (hoth k h2.lt hne) fun j e v hv => by show gw' i j = _; rw [hgw i j hi2]; exact hv⟩
 · rcases hnew x hx with h | h
   · exact hO.out x h j hm
   · rw [h.1] at hm; exact hMb j hm
 · obtain ⟨⟨n, xs, h1, h2⟩, _⟩ := hrow i j e v h
   refine ⟨n, xs, ownsRow_block h1 fun k hk => hoth k (h1.lt k hk).2 (h2 k hk).2.1, fun k hk => ⟨fun hm => ?_, (h2 k hk).2.2⟩⟩
   rcases hnew k hm with h3 | h3
   · exact (h2 k hk).1 h3
   · exact (h2 k hk).2.1 h3.1
 · have h1 : gw' i j = some (e, v) := h1
   have h2 : gw' i' j' = some (e', v') := h2
   by_cases hi : i = b <;> by_cases hi' : i' = b
   · subst hi; subst hi'
     exact ⟨rfl, hinj j j' e e' v v' k h1 h2 h3 h4⟩
   · rw [hgw i' j' hi'] at h2
     rcases (hrow i j e v h1).2 with h5 | ⟨_, L, _, _, h5⟩
     · exact hO.rne i j i' j' e e' v v' k h5 h2 h3 h4
     · exact absurd (.inr ⟨i', j', e', v', h2, h4⟩) (hO.ow L v k h5 h3)
   · rw [hgw i j hi] at h1
     rcases (hrow i' j' e' v' h2).2 with h5 | ⟨_, L, _, _, h5⟩
     · exact hO.rne i j i' j' e e' v v' k h1 h5 h3 h4
     · exact absurd (.inr ⟨i, j, e, v, h1, h3⟩) (hO.ow L v' k h5 h4)
   · rw [hgw i j hi] at h1; rw [hgw i' j' hi'] at h2
     exact hO.rne i j i' j' e e' v v' k h1 h2 h3 h4
 · rcases hpb k hk with h | h | ⟨L, v, _, h1, h2⟩
   · exact hO.bx k h hm
   · exact hbxne k hm h.1
   · exact S.bx.ow L v k h1 h2 hm
 · obtain ⟨hp, hL⟩ := hsome hL
   rcases hpb k hk with h | h | ⟨L', v, hp', h1, h2⟩
   · exact hO.ow L u k hL hu h
   · exact howne L u k hL hu h.1
   · rcases S.ow.ne L L' u v (fun e => by subst e; rw [hp] at hp'; cases hp') hL h1 with h3 | h3
     · rw [h3] at hu; cases hu
     · exact h3 (by rw [hu, h2])
 · rcases hpb k hk with h | h | ⟨L, v, _, h1, h2⟩
   · exact hD k h
   · rw [h.1]; exact .inr (Nat.le_trans S.fr.size h.2)
   · exact S.owB L v k h1 h2
omit [Inv] in
theorem namesIn_iff : ∀ (cs : List Cell) (n : Nm), namesIn cs n = true ↔ ∃ (i : Nat) (L : Nm) (sz : Nat) (l : List Cell), cs[i]? = some (.sl (some L) sz l) ∧ isNm L n = true
 | [], n => by simp [namesIn]
 | c :: r, n => by
  have ih := namesIn_iff r n
  have key : ∀ b : Bool, (∀ (h : b = true), ∃ L sz l, c = .sl (some L) sz l ∧ isNm L n = true) → (∀ L sz l, c = .sl (some L) sz l → isNm L n = true → b = true) → ((b || namesIn r n) = true ↔ ∃ (i : Nat) (L : Nm) (sz : Nat) (l : List Cell), (c :: r)[i]? = some (.sl (some L) sz l) ∧ isNm L n = true) := fun b h1 h2 => by
   rw [Bool.or_eq_true, ih]
   constructor
   · rintro (h | ⟨i, L, sz, l, h3, h4⟩)
     · obtain ⟨L, sz, l, rfl, h3⟩ := h1 h
       exact ⟨0, L, sz, l, rfl, h3⟩
     · exact ⟨i + 1, L, sz, l, by simpa using h3, h4⟩
   · rintro ⟨i, L, sz, l, h3, h4⟩
     cases i with
     | zero => simp at h3; exact .inl (h2 L sz l h3 h4)
     | succ i => exact .inr ⟨i, L, sz, l, by simpa using h3, h4⟩
  cases c with
  | sl nm sz l =>
   cases nm with
   | some L => exact key (isNm L n) (fun h => ⟨L, sz, l, rfl, h⟩) (fun L' sz' l' e h => by cases e; exact h)
   | none => have := key false (fun h => by cases h) (fun L' sz' l' e h => by cases e); rw [Bool.false_or] at this; exact this
  | _ => have := key false (fun h => by cases h) (fun L' sz' l' e h => by cases e); rw [Bool.false_or] at this; exact this
omit [Inv] in
theorem isNm_same (L : Nm) : isNm L L = true := by unfold isNm; rw [Nat.beq_refl, Nat.beq_refl]; rfl
omit [Inv] in
theorem nodupNm_get : ∀ (cs : List Cell), nodupNm cs = true → ∀ (i j : Nat) L L' sz sz' l l', cs[i]? = some (.sl (some L) sz l) → cs[j]? = some (.sl (some L') sz' l') → isNm L L' = true → i = j
 | [], _, i, _, _, _, _, _, _, _, h, _, _ => by simp at h
 | c :: r, hn, i, j, L, L', sz, sz', l, l', h1, h2, h3 => by
  have hr : nodupNm r = true ∧ ∀ M s t, c = .sl (some M) s t → namesIn r M = false := by
   cases c with
   | sl nm sz0 l0 =>
    cases nm with
    | some L0 =>
     simp only [nodupNm, Bool.and_eq_true, Bool.not_eq_true'] at hn
     exact ⟨hn.2, fun M s t e => by cases e; exact hn.1⟩
    | none => exact ⟨hn, fun M s t e => by cases e⟩
   | _ => exact ⟨hn, fun M s t e => by cases e⟩
  cases i with
  | zero =>
   cases j with
   | zero => rfl
   | succ j =>
    simp at h1 h2
    have h4 := hr.2 L sz l h1
    have h5 : namesIn r L = true := (namesIn_iff r L).2 ⟨j, L', sz', l', h2, by
     unfold isNm at h3 ⊢
     rw [Bool.and_eq_true] at h3 ⊢
     exact ⟨by rw [Nat.eq_of_beq_eq_true h3.1]; exact Nat.beq_refl _, by rw [Nat.eq_of_beq_eq_true h3.2]; exact Nat.beq_refl _⟩⟩
    rw [h4] at h5; cases h5
  | succ i =>
   cases j with
   | zero =>
    simp at h1 h2
    have h4 := hr.2 L' sz' l' h2
    have h5 : namesIn r L' = true := (namesIn_iff r L').2 ⟨i, L, sz, l, h1, h3⟩
    rw [h4] at h5; cases h5
   | succ j =>
    have := nodupNm_get r hr.1 i j L L' sz sz' l l' (by simpa using h1) (by simpa using h2) h3
    omega
def ownOf (g : Gh) (c : Cell) : Option (TypeId × Value) := match c with | .sl (some L) _ _ => (g.ow L).map fun v => (L.elem, v) | _ => none
omit [Inv] in
theorem ownOf_some {g : Gh} {c : Cell} {e : TypeId} {v : Value} (h : ownOf g c = some (e, v)) : ∃ L sz l, c = .sl (some L) sz l ∧ L.elem = e ∧ g.ow L = some v := by
 unfold ownOf at h
 split at h
 · rename_i L sz l
   cases hx : g.ow L with
   | none => rw [hx] at h; cases h
   | some u =>
    rw [hx] at h
    cases h
    exact ⟨L, sz, l, rfl, rfl, hx⟩
 · cases h
omit [Inv] in
theorem toG_gc {g : Gh} {M' : Mem} {w w' : World} {i j : Nat} {v : Value} {c : Cell} (h : Rc g w v c) (hp : hasPtr c = false) (hk : Kp g.M w M' w') (hg : M'.gw i j = ownOf g c) : Gc M' w' i j v (toG c) := by
 cases h with
 | data h =>
  have e : toG c = c := by cases h <;> rfl
  rw [e]; exact .data (h.kept hk)
 | own L h1 h2 => exact .own L.elem (by rw [hg]; simp [ownOf, h1]) (h2.kept hk)
 | ptr => cases hp
 | eptr => cases hp
 | bsl => cases hp
 | bptr => cases hp
 | mapr => cases hp
theorem galloc_sound {B : Base} {g : Gh} {st : St} {a : Act} {w : World} {G : Heap} {cs : List Cell} {vs : Array Value} {t : TypeId} (S : Sim P B g st a w) (hG : st.G = some G) (hA : RvA g w vs cs) (hok : okG cs = true) :
 ∃ g', Rc g' (w.alloc (.cells vs t)) (.pointer (some ⟨w.heap.size, 0, none⟩)) (.gptr G.length 0) ∧ Sim P B g' ⟨strikeFr (namesIn cs) st.fr, strikeH (namesIn cs) st.H, some (G ++ [cs.map toG])⟩ a (w.alloc (.cells vs t)) := by
 have hgk := S.gk
 rw [hG] at hgk
 obtain ⟨hgm, hO, hD⟩ := hgk
 unfold okG at hok
 rw [Bool.and_eq_true, Bool.not_eq_true'] at hok
 obtain ⟨hp, hn⟩ := hok
 have hgx : (g.M.gx ++ [w.heap.size])[G.length]? = some w.heap.size := by rw [← hO.len]; simp
 have S' := S.turnObj (w' := w.alloc (.cells vs t)) (G' := G ++ [cs.map toG]) (b := G.length) (blk := w.heap.size) (cs' := cs.map toG) (vs' := vs) (e := t) (gx' := g.M.gx ++ [w.heap.size])
  (gw' := fun i j => if i = G.length then (match cs[j]? with | some c => ownOf g c | none => none) else g.M.gw i j) (p := namesIn cs) hG (List.prefix_append _ _) (by simp [hO.len])
  (by
   rw [List.nodup_append]
   refine ⟨hO.nodup, by simp, fun x hx y hy => ?_⟩
   simp at hy; subst hy
   have := hO.lt (.inl hx); omega) hgx
  (fun i cs0 hi h => by
   rw [List.getElem?_append] at h
   split at h
   · exact h
   · have := (List.getElem?_eq_some_iff.1 h).1
     simp at this; omega)
  (fun x hx => by
   rw [List.mem_append] at hx
   rcases hx with hx | hx
   · exact .inl hx
   · simp at hx; exact .inr ⟨hx, Nat.le_refl _⟩)
  rfl rfl rfl (by simp) (fun k hk _ => (World.grownBy_alloc w _ none).block k hk (by simp)) (heap_alloc_new w _) (by simp) (by rw [List.length_map]; exact hA.1)
  (fun hk j v c hv hc => by
   rw [List.getElem?_map] at hc
   cases hj : cs[j]? with
   | none => rw [hj] at hc; cases hc
   | some c0 =>
    rw [hj] at hc; cases hc
    rw [List.any_eq_false] at hp
    exact toG_gc (hA.2 j v c0 hv hj) (by simpa using hp c0 (List.mem_of_getElem? hj)) hk (by simp [hj]))
  (fun i j hi => by simp [hi])
  (fun j e v h => by
   rw [if_pos rfl] at h
   cases hj : cs[j]? with
   | none => rw [hj] at h; cases h
   | some c =>
    rw [hj] at h
    obtain ⟨L, sz, l, rfl, h1, h2⟩ := ownOf_some h
    exact .inr ⟨L, (namesIn_iff cs L).2 ⟨j, L, sz, l, hj, isNm_same L⟩, h1, h2⟩)
  (fun j j' e e' v v' k h1 h2 h3 h4 => by
   rw [if_pos rfl] at h1 h2
   cases hj : cs[j]? with
   | none => rw [hj] at h1; cases h1
   | some c =>
    cases hj' : cs[j']? with
    | none => rw [hj'] at h2; cases h2
    | some c' =>
     rw [hj] at h1; rw [hj'] at h2
     obtain ⟨L, sz, l, rfl, _, h5⟩ := ownOf_some h1
     obtain ⟨L', sz', l', rfl, _, h6⟩ := ownOf_some h2
     by_cases hLL : L = L'
     · subst hLL
       exact nodupNm_get cs hn j j' L L sz sz' l l' hj hj' (isNm_same L)
     · rcases S.ow.ne L L' v v' hLL h5 h6 with h7 | h7
       · rw [h7] at h3; cases h3
       · exact absurd (h3.trans h4.symm) h7)
 exact ⟨_, .data (.gptr _ 0 _ hgx), S'⟩
theorem storeG_sound {B : Base} {g : Gh} {st : St} {a : Act} {w : World} {t : TypeId} {b o : Nat} {x : AV} {new cs : List Cell} {G : Heap} {p v : Value} (S : Sim P B g st a w) (hG : st.G = some G) (hti : (sizeOf t).run P w = .ok new.length w)
 (hp : Rc g w p (.gptr b o)) (hx : Rv g w v x) (hc : x.cells? = some new) (hok : okG new = true) (hcs : G[b]? = some cs) {k : List Cell → Option R} {r : R} (hk : putR cs o (new.map toG) k = some r) :
 ∃ cs' w' g', k cs' = some r ∧ (Instr.storeAt t p v).run P w = .ok () w' ∧ Sim P B g' ⟨strikeFr (namesIn new) st.fr, strikeH (namesIn new) st.H, some (G.set b cs')⟩ a w' := by
 have hgk := S.gk
 rw [hG] at hgk
 obtain ⟨hgm, hO, hD⟩ := hgk
 unfold okG at hok
 rw [Bool.and_eq_true, Bool.not_eq_true'] at hok
 obtain ⟨hpt, hn⟩ := hok
 obtain ⟨blk, rfl, hbx⟩ := Rc.gptr_inv hp
 obtain ⟨blk', h1, h2⟩ := hO.obj b cs hcs
 rw [hbx] at h1; cases h1
 obtain ⟨vs, e, h3, h4, h5⟩ : ∃ vs e, w.heap[blk]? = some (.cells vs e (0, 0)) ∧ vs.size = cs.length ∧ ∀ (j : Nat) v c, vs[j]? = some v → cs[j]? = some c → Gc g.M w b j v c := by
  cases h2 with
  | cells vs e _ h3 h4 h5 => exact ⟨vs, e, h3, h4, h5⟩
 have hA := cells_rel hx hc
 -- the cells behind
 obtain ⟨cs', hk', hle, hl', hget⟩ : ∃ cs', k cs' = some r ∧ o + new.length ≤ cs.length ∧ cs'.length = cs.length ∧ ∀ j, cs'[j]? = if o ≤ j ∧ j < o + new.length then (new[j - o]?).map toG else cs[j]? := by
  unfold putR at hk
  split at hk
  · rename_i c hnew
    have hl1 : new.length = 1 := by have := congrArg List.length hnew; simpa using this
    cases hlt : Nat.blt o cs.length with
    | false => rw [hlt] at hk; cases hk
    | true =>
     rw [hlt] at hk
     have hlt : o < cs.length := by simpa [Nat.blt_eq] using hlt
     refine ⟨_, hk, by omega, by simp, fun j => ?_⟩
     rw [List.getElem?_set]
     by_cases hj : o = j
     · subst hj
       rw [if_pos rfl, if_pos hlt, if_pos (by omega), Nat.sub_self]
       have := congrArg (fun l => l[0]?) hnew
       simp only [List.getElem?_map, List.getElem?_cons_zero] at this
       exact this.symm
     · rw [if_neg hj, if_neg (by omega)]
  · cases hle : Nat.ble (o + (new.map toG).length) cs.length with
    | false => rw [hle] at hk; cases hk
    | true =>
     rw [hle] at hk
     have hle := Nat.le_of_ble_eq_true hle
     rw [List.length_map] at hle
     refine ⟨_, hk, hle, by unfold setCells; simp; omega, fun j => ?_⟩
     unfold setCells
     rw [List.append_assoc, List.getElem?_append, List.length_take]
     rw [show min o cs.length = o by omega]
     by_cases hj : j < o
     · rw [if_pos hj, List.getElem?_take, if_pos hj, if_neg (by omega)]
     · rw [if_neg hj, List.getElem?_append, List.length_map]
       by_cases hj2 : j - o < new.length
       · rw [if_pos hj2, if_pos (by omega), List.getElem?_map]
       · rw [if_neg hj2, if_neg (by omega), List.getElem?_drop]
         congr 1; omega
 have hst := run_storeCells_at P blk o e v.cells.toList 0 vs w h3 (by have := hA.1; simp; omega) (fun u hu => by
  obtain ⟨j, hj⟩ := List.getElem?_of_mem hu
  have hlt : j < v.cells.size := by have := (List.getElem?_eq_some_iff.1 hj).1; simpa using this
  obtain ⟨c, hcc⟩ : ∃ c, new[j]? = some c := ⟨_, List.getElem?_eq_getElem (by rw [← hA.1]; exact hlt)⟩
  exact (hA.2 j u c (by simpa using hj) hcc).one)
 simp only [Nat.add_zero] at hst
 have hvl : v.cells.toList.length = new.length := by rw [Array.length_toList]; exact hA.1
 have hvget : ∀ j, (vs.toList.take o ++ v.cells.toList ++ vs.toList.drop (o + v.cells.toList.length)).toArray[j]? = if o ≤ j ∧ j < o + new.length then v.cells[j - o]? else vs[j]? := fun j => by
  simp only [List.getElem?_toArray]
  rw [List.append_assoc, List.getElem?_append, List.length_take, hvl]
  rw [show min o vs.toList.length = o by simp; omega]
  by_cases hj : j < o
  · rw [if_pos hj, List.getElem?_take, if_pos hj, if_neg (by omega)]; simp
  · rw [if_neg hj, List.getElem?_append, hvl]
    by_cases hj2 : j - o < new.length
    · rw [if_pos hj2, if_pos (by omega)]; simp
    · rw [if_neg hj2, if_neg (by omega), List.getElem?_drop, show o + new.length + (j - o - new.length) = j by omega]; simp
 have hbl : b < G.length := (List.getElem?_eq_some_iff.1 hcs).1
 refine ⟨cs', w.setRow blk (vs.toList.take o ++ v.cells.toList ++ vs.toList.drop (o + v.cells.toList.length)).toArray, _, hk', ?_, S.turnObj (G' := G.set b cs') (b := b) (blk := blk) (cs' := cs') (gx' := g.M.gx) (e := e)
  (gw' := fun i j => if i = b ∧ o ≤ j ∧ j < o + new.length then (match new[j - o]? with | some c => ownOf g c | none => none) else g.M.gw i j) (p := namesIn new) hG (List.prefix_refl _) (by simp [hO.len]) hO.nodup hbx (fun i cs0 hi h => ?_) (fun x hx => .inl hx) rfl rfl rfl (by rw [setRow_size]; exact Nat.le_refl _) (fun q _ hq => setRow_other w blk q _ hq) (setRow_heap w blk vs _ e _ h3) (by rw [List.getElem?_set_self hbl]) ?_ (fun hk2 j u c hu hcc => ?_) (fun i j hi => ?_) (fun j e' u h => ?_) (fun j j' e1 e2 u u' q h6 h7 h8 h9 => ?_)⟩
 · simp only [Instr.storeAt, Instr.sureAddr, storeVar, Sem.run_bind, Sem.run_pure, Result.andThen_ok, hti]
   rw [if_neg (by rw [hA.1]; simp)]
   simpa using hst
 · rw [List.getElem?_set_ne (Ne.symm hi)] at h; exact h
 · simp only [List.size_toArray, List.length_append, List.length_take, List.length_drop, hvl, Array.length_toList]; omega
 · rw [hvget] at hu
   rw [hget] at hcc
   by_cases hj : o ≤ j ∧ j < o + new.length
   · rw [if_pos hj] at hu hcc
     cases hnj : new[j - o]? with
     | none => rw [hnj] at hcc; cases hcc
     | some c0 =>
      rw [hnj] at hcc
      cases hcc
      rw [List.any_eq_false] at hpt
      exact toG_gc (hA.2 (j - o) u c0 hu hnj) (by simpa using hpt c0 (List.mem_of_getElem? hnj)) hk2 (by simp [hj, hnj])
   · rw [if_neg hj] at hu hcc
     refine (h5 j u c hu hcc).kept hk2 fun e h => ?_
     show (if b = b ∧ o ≤ j ∧ j < o + new.length then _ else g.M.gw b j) = _
     rw [if_neg (fun h => hj h.2)]; exact h
 · rw [if_neg (fun h => hi h.1)]
 · by_cases hj : o ≤ j ∧ j < o + new.length
   · rw [if_pos ⟨rfl, hj⟩] at h
     cases hnj : new[j - o]? with
     | none => rw [hnj] at h; cases h
     | some c0 =>
      rw [hnj] at h
      obtain ⟨L, sz, l, rfl, h6, h7⟩ := ownOf_some h
      exact .inr ⟨L, (namesIn_iff new L).2 ⟨_, L, sz, l, hnj, isNm_same L⟩, h6, h7⟩
   · rw [if_neg (fun h => hj h.2)] at h; exact .inl h
 · have side : ∀ j e' u, (if b = b ∧ o ≤ j ∧ j < o + new.length then (match new[j - o]? with | some c => ownOf g c | none => none) else g.M.gw b j) = some (e', u) → (g.M.gw b j = some (e', u)) ∨ (o ≤ j ∧ ∃ L sz l, new[j - o]? = some (.sl (some L) sz l) ∧ g.ow L = some u) := fun j e' u h => by
    by_cases hj : o ≤ j ∧ j < o + new.length
    · rw [if_pos ⟨rfl, hj⟩] at h
      cases hnj : new[j - o]? with
      | none => rw [hnj] at h; cases h
      | some c0 =>
       rw [hnj] at h
       obtain ⟨L, sz, l, rfl, h6, h7⟩ := ownOf_some h
       exact .inr ⟨hj.1, L, sz, l, rfl, h7⟩
    · rw [if_neg (fun h => hj h.2)] at h; exact .inl h
   rcases side j e1 u h6 with h6 | ⟨hj, L, sz, l, h6, h10⟩ <;> rcases side j' e2 u' h7 with h7 | ⟨hj', L', sz', l', h7, h11⟩
   · exact (hO.rne b j b j' e1 e2 u u' q h6 h7 h8 h9).2
   · exact absurd (.inr ⟨b, j, e1, u, h6, h8⟩) (hO.ow L' u' q h11 h9)
   · exact absurd (.inr ⟨b, j', e2, u', h7, h9⟩) (hO.ow L u q h10 h8)
   · by_cases hLL : L = L'
     · subst hLL
       have := nodupNm_get new hn (j - o) (j' - o) L L sz sz' l l' h6 h7 (isNm_same L)
       omega
     · rcases S.ow.ne L L' u u' hLL h10 h11 with h12 | h12
       · rw [h12] at h8; cases h8
       · exact absurd (h8.trans h9.symm) h12
def GcL (M : Mem) (w : World) (b o : Nat) (vs : List Value) (cs : List Cell) : Prop := vs.length = cs.length ∧ ∀ (i : Nat) v c, vs[i]? = some v → cs[i]? = some c → Gc M w b (o + i) v c
omit [Inv] in
theorem castGL_some {sz : Nat} {c : Cell} {k : List Cell → Option R} {r : R} (h : castGL sz c k = some r) : ∃ l, k l = some r ∧ ((∃ e, c = .own e sz l) ∨ ∃ nm s, c = .sl nm s l ∧ (s = sz ∨ s = 0)) := by
 unfold castGL at h
 split at h
 · rename_i e s l
   cases hb : Nat.beq s sz with
   | false => rw [hb] at h; cases h
   | true => rw [hb] at h; rw [Nat.eq_of_beq_eq_true hb]; exact ⟨l, h, .inl ⟨e, rfl⟩⟩
 · rename_i nm s l
   cases hb : Nat.beq s sz || Nat.beq s 0 with
   | false => rw [hb] at h; cases h
   | true =>
    rw [hb] at h
    refine ⟨l, h, .inr ⟨nm, s, rfl, ?_⟩⟩
    rw [Bool.or_eq_true] at hb
    exact hb.imp Nat.eq_of_beq_eq_true Nat.eq_of_beq_eq_true
 · cases h
omit [Inv] in
theorem castG_sound {M : Mem} {w : World} {b j : Nat} {v : Value} {c : Cell} {t : TI} {k : Cell → Option R} {r : R} (h : castG t c k = some r) (hv : Gc M w b j v c) : ∃ c', k c' = some r ∧ Rd M w v c' := by
 unfold castG at h
 split at h
 · obtain ⟨l, h1, h2⟩ := castGL_some h
   refine ⟨_, h1, ?_⟩
   rcases h2 with ⟨e, rfl⟩ | ⟨nm, s, rfl, hs⟩
   · cases hv with
     | data h => cases h
     | own _ _ h => exact h
   · cases hv with
     | data h =>
      have := h.sized hs
      cases this with
      | slN => exact .slN _
      | sl0 _ _ _ h0 => exact .sl0 _ _ _ h0
      | sl _ _ _ _ _ _ _ h1 h2 h3 h4 h5 => exact .sl _ _ _ _ _ _ _ h1 h2 h3 h4 h5
 · cases hv with
   | data hd => exact castD_sound h hd
   | own e h1 h2 =>
    exfalso
    cases t <;> simp [castD, castI, castB, castS, castL, castE] at h
omit [Inv] in
theorem castGs_sound {M : Mem} {w : World} {b : Nat} : ∀ (ts : List TI) (o : Nat) (vs : List Value) (cs : List Cell) {k : List Cell → Option R} {r : R}, castGs ts cs k = some r → GcL M w b o vs cs → ts.length ≤ vs.length ∧ ∃ l, k l = some r ∧ RdL M w (vs.take ts.length) l
 | [], o, vs, cs, k, r, h, hv => ⟨Nat.zero_le _, [], h, rfl, fun i v c hv => by simp at hv⟩
 | t :: ts, o, vs, cs, k, r, h, hv => by
  simp only [castGs] at h
  split at h
  · cases h
  · rename_i c q
    cases vs with
    | nil => exact absurd hv.1 (by simp)
    | cons v vs =>
     obtain ⟨c', h1, h2⟩ := castG_sound h (hv.2 0 v c rfl rfl)
     obtain ⟨h3, l, h4, h5⟩ := castGs_sound ts (o + 1) vs q h1 ⟨by have := hv.1; simpa using this, fun i u d hu hd => by have := hv.2 (i + 1) u d (by simpa using hu) (by simpa using hd); rwa [show o + 1 + i = o + (i + 1) by omega]⟩
     refine ⟨by simpa using h3, c' :: l, h4, ?_⟩
     refine ⟨by have := h5.1; simp at this ⊢; omega, fun i u d hu hd => ?_⟩
     cases i with
     | zero => simp at hu hd; subst hu; subst hd; exact h2
     | succ i => exact h5.2 i u d (by simpa using hu) (by simpa using hd)
omit [Inv] in
theorem tup_noG {ts : List TI} {cs : List Cell} {k : List Cell → Option R} {r : R} (h : castGs [.tup ts] cs k = some r) : False := by
 simp only [castGs] at h
 split at h
 · cases h
 · cases h
omit [Inv] in
theorem castGs_take : ∀ (ts : List TI) (cs : List Cell) (k : List Cell → Option R), castGs ts cs k = castGs ts (cs.take ts.length) k
 | [], cs, k => rfl
 | t :: ts, [], k => rfl
 | t :: ts, c :: r, k => by
  simp only [castGs, List.length_cons, List.take_succ_cons]
  congr 1
  funext c'
  exact castGs_take ts r _
theorem loadG_sound {B : Base} {g : Gh} {st : St} {a : Act} {w : World} {t : TypeId} {ti : TI} (S : Sim P B g st a w) (hti : tiOk P t ti = true) {b o : Nat} {cs : List Cell} {G : Heap} {v : Value} (hv : Rc g w v (.gptr b o)) (hG : st.G = some G) (hb : G[b]? = some cs) {k : AV → Option R} {r : R} (h : loadG ti cs o k = some r) :
 ∃ av u, k av = some r ∧ (Instr.loadAt t v).run P w = .ok u w ∧ Rv g w u av := by
 have hgk := S.gk
 rw [hG] at hgk
 obtain ⟨hgm, hO, hD⟩ := hgk
 obtain ⟨blk, rfl, h1⟩ := Rc.gptr_inv hv
 obtain ⟨blk', h2, h3⟩ := hO.obj b cs hb
 rw [h1] at h2; cases h2
 obtain ⟨vs, e, h4, h5, h6⟩ : ∃ vs e, w.heap[blk]? = some (.cells vs e (0, 0)) ∧ vs.size = cs.length ∧ ∀ (j : Nat) v c, vs[j]? = some v → cs[j]? = some c → Gc g.M w b j v c := by
  cases h3 with
  | cells vs e _ h3 h4 h5 => exact ⟨vs, e, h3, h4, h5⟩
 have fin : ∀ n xs, n = ti.leaves.length → o + n ≤ cs.length → xs = (cs.drop o).take n → castGs ti.leaves xs (fun l => packK ti l k) = some r → ∃ av u, k av = some r ∧ (Instr.loadAt t (.pointer (some ⟨blk, o, none⟩))).run P w = .ok u w ∧ Rv g w u av := fun n xs hn hle hxs hk => by
  have hR : GcL g.M w b o ((vs.toList.drop o).take n) xs := by
   subst hxs
   refine ⟨by simp; omega, fun i v c hv hc => ?_⟩
   rw [List.getElem?_take] at hv hc
   split at hv
   · rename_i hi
     rw [if_pos hi] at hc
     rw [List.getElem?_drop] at hv hc
     exact h6 (o + i) v c (by simpa using hv) hc
   · cases hv
  have hnt : ∀ ts, ti ≠ .tup ts := fun ts e => by subst e; exact tup_noG hk
  have hT := tyIs_of hti hnt
  obtain ⟨hle2, l, h7, h8⟩ := castGs_sound _ _ _ _ hk hR
  have htk : (((vs.toList.drop o).take n).take ti.leaves.length) = (vs.toList.drop o).take n := by rw [← hn, List.take_take, Nat.min_self]
  rw [htk] at h8
  obtain ⟨av, h9, h10⟩ := packK_sound _ l h8.toC h7
  refine ⟨av, _, h9, ?_, h10⟩
  simp only [Instr.loadAt, Instr.sureAddr, Sem.run_bind, Sem.run_pure, Result.andThen_ok]
  refine run_loadVar hT (by simp; omega) fun j u hu => ?_
  rw [Addr.add_lit, cell_of_row w blk (o + j) vs e (0, 0) h4]
  rw [List.getElem?_take] at hu
  split at hu
  · rw [List.getElem?_drop] at hu; simpa using hu
  · cases hu
 unfold loadG at h
 cases hl : Nat.beq ti.leaves.length 1 with
 | true =>
  rw [hl] at h
  simp only [condA_true] at h
  have hl := Nat.eq_of_beq_eq_true hl
  unfold rowAt at h
  split at h
  · rename_i c hc
    have hlt := (List.getElem?_eq_some_iff.1 hc).1
    refine fin 1 [c] hl.symm hlt ?_ h
    rw [List.drop_eq_getElem_cons hlt, (List.getElem?_eq_some_iff.1 hc).2]
    rfl
  · cases h
 | false =>
  rw [hl] at h
  simp only [condA_false] at h
  cases hle : Nat.ble (o + ti.leaves.length) cs.length with
  | false => rw [hle] at h; cases h
  | true =>
   rw [hle] at h
   simp only [condA_true] at h
   have hle := Nat.le_of_ble_eq_true hle
   rw [castGs_take] at h
   exact fin _ _ rfl hle rfl h
omit [Inv] in
theorem castOwn_some {e : TypeId} {sz : Nat} {c : Cell} {k : List Cell → Option R} {r : R} (h : castOwn e sz c k = some r) : ∃ l, c = .own e sz l ∧ k l = some r := by
 unfold castOwn at h
 split at h
 · rename_i e' s l
   cases hb : Nat.beq s sz && Nat.beq e' e with
   | false => rw [hb] at h; cases h
   | true =>
    rw [hb] at h
    rw [Bool.and_eq_true] at hb
    rw [Nat.eq_of_beq_eq_true hb.1, Nat.eq_of_beq_eq_true hb.2]
    exact ⟨l, rfl, h⟩
 · cases h
theorem takeG_sound {B : Base} {g : Gh} {st : St} {a : Act} {w : World} {t e : TypeId} {sz : Nat} {b o d : Nat} {cs l : List Cell} {G : Heap} {v : Value} (S : Sim P B g st a w) (hti : tiOk P t (.slice e sz) = true) (hv : Rc g w v (.gptr b o)) (hG : st.G = some G) (hb : G[b]? = some cs) (hc : cs[o]? = some (.own e sz l)) :
 ∃ u g', (Instr.loadAt t v).run P w = .ok u w ∧ Rc g' w u (.sl (some ⟨d, 0, e⟩) sz l) ∧ Sim P B g' ⟨(st.clear d).fr, (st.clear d).H, some (G.set b (cs.set o (.sl none sz l)))⟩ a w := by
 have hgk := S.gk
 rw [hG] at hgk
 obtain ⟨hgm, hO, hD⟩ := hgk
 obtain ⟨blk, rfl, h1⟩ := Rc.gptr_inv hv
 obtain ⟨blk', h2, h3⟩ := hO.obj b cs hb
 rw [h1] at h2; cases h2
 obtain ⟨vs, e', h4, h5, h6⟩ : ∃ vs e, w.heap[blk]? = some (.cells vs e (0, 0)) ∧ vs.size = cs.length ∧ ∀ (j : Nat) v c, vs[j]? = some v → cs[j]? = some c → Gc g.M w b j v c := by
  cases h3 with
  | cells vs e _ h3 h4 h5 => exact ⟨vs, e, h3, h4, h5⟩
 have hol : o < cs.length := (List.getElem?_eq_some_iff.1 hc).1
 have hov : o < vs.size := by omega
 obtain ⟨hgw, hRd⟩ : g.M.gw b o = some (e, vs[o]) ∧ Rd g.M w vs[o] (.sl none sz l) := by
  have := h6 o vs[o] _ (Array.getElem?_eq_getElem hov) hc
  generalize vs[o] = u at this
  cases this with
  | data h => cases h
  | own _ h1 h2 => exact ⟨h1, h2⟩
 have hbl : b < G.length := (List.getElem?_eq_some_iff.1 hb).1
 have S1 := S.turnObj (w' := w) (G' := G.set b (cs.set o (.sl none sz l))) (b := b) (blk := blk) (cs' := cs.set o (.sl none sz l)) (vs' := vs) (e := e') (gx' := g.M.gx)
  (gw' := fun i j => if i = b ∧ j = o then none else g.M.gw i j) (p := fun _ => false) hG (List.prefix_refl _) (by simp [hO.len]) hO.nodup h1 (fun i cs0 hi h => by rw [List.getElem?_set_ne (Ne.symm hi)] at h; exact h) (fun x hx => .inl hx) rfl rfl rfl (Nat.le_refl _) (fun _ _ _ => rfl) h4 (by rw [List.getElem?_set_self hbl]) (by rw [List.length_set]; exact h5)
  (fun hk j u c hu hcc => by
   rw [List.getElem?_set] at hcc
   by_cases hj : o = j
   · subst hj
     rw [if_pos rfl, if_pos hol] at hcc
     cases hcc
     rw [Array.getElem?_eq_getElem hov] at hu
     cases hu
     exact .data (hRd.kept hk)
   · rw [if_neg hj] at hcc
     refine (h6 j u c hu hcc).kept hk fun e h => ?_
     show (if b = b ∧ j = o then none else g.M.gw b j) = _
     rw [if_neg (fun h => hj h.2.symm)]; exact h)
  (fun i j hi => by rw [if_neg (fun h => hi h.1)])
  (fun j e v h => by
   split at h
   · cases h
   · exact .inl h)
  (fun j j' e e' v v' k h1 h2 h3 h4 => by
   split at h1
   · cases h1
   · split at h2
     · cases h2
     · exact (hO.rne b j b j' e e' v v' k h1 h2 h3 h4).2)
 obtain ⟨n, xs, h7, h8⟩ := hO.row b o e vs[o] hgw
 have S2 := S1.born (d := d) (e := e) (v := vs[o]) (n := n) (xs := xs) 0 h7 (fun k q hk hm => (h8 k hk).2 q hm) (fun k hk => by
  have hp : Pb g.M k := .inr ⟨b, o, e, vs[o], hgw, hk⟩
  refine ⟨hO.bx k hp, fun L' v' hL hb' => hO.ow L' v' k hL hb' hp, hD k hp, fun ho => ?_⟩
  rcases ho.2 with hm | ⟨i, j, e2, v2, h9, h10⟩
  · exact (h8 k hk).1 hm
  · have h9 : (if i = b ∧ j = o then none else g.M.gw i j) = some (e2, v2) := h9
    split at h9
    · cases h9
    · rename_i hne
      exact hne (hO.rne i j b o e2 e v2 vs[o] k h9 hgw h10 hk))
 have hs : ∀ c : Cell, c.strike (fun _ => false) = c := strike_none
 have hT : TyIs P t (.slice e sz) := tyIs_of hti (by simp)
 have e1 : ∀ fr : List (Nat × AV), strikeFr (bornAt d) (strikeFr (fun _ => false) fr) = strikeFr (bornAt d) fr := fun fr => by
  induction fr with
  | nil => rfl
  | cons x r ih =>
   obtain ⟨s, v⟩ := x
   simp only [strikeFr]
   rw [ih, map_id_of (x := v) (fun c => hs c)]
 have e2 : ∀ H : Heap, strikeH (bornAt d) (strikeH (fun _ => false) H) = strikeH (bornAt d) H := fun H => by
  induction H with
  | nil => rfl
  | cons x r ih =>
   simp only [strikeH]
   rw [ih, show (Cell.strike fun _ => false) = id from funext fun c => hs c, List.map_id]
 have S3 := S2
 simp only [St.clear, St.strike, e1, e2] at S3
 refine ⟨vs[o], _, ?_, ?_, S3⟩
 · have := run_loadVar (P := P) hT (w := w) (a := ⟨blk, o, none⟩) (vs := [vs[o]]) rfl (fun j u hu => by
    cases j with
    | zero =>
     simp at hu; subst hu
     rw [Addr.add_lit, cell_of_row w blk (o + 0) vs e' (0, 0) h4]
     exact Array.getElem?_eq_getElem hov
    | succ j => simp at hu)
   simp only [Instr.loadAt, Instr.sureAddr, Sem.run_bind, Sem.run_pure, Result.andThen_ok]
   exact this
 · refine .own ⟨d, 0, e⟩ ((give_here (L := ⟨d, 0, e⟩) rfl).trans ?_) ?_
   · simp [nameIs]
   · exact hRd.kept ⟨fun _ _ h => ⟨h, rfl⟩, List.prefix_refl _⟩
omit [Inv] in
theorem fieldAt_run {w : World} {t t' : TypeId} {l : List TI} {fs : List (Nat × Nat × TypeId)} {f o n blk p : Nat} (hT : TyIs P t (.struct l fs)) (hf : fs[f]? = some (o, n, t')) : (Instr.fieldAt t (.pointer (some ⟨blk, p, none⟩)) f).run P w = .ok (.pointer (some ⟨blk, p + o, none⟩)) w := by
 obtain ⟨fields, hu, hok⟩ := hT.is_struct
 obtain ⟨fd, h1, rfl, h3, h4, h5, h6⟩ := fieldsOk_get fs fields.toList hok f o n t' hf
 have h1' : fields[f]? = some fd := by simpa using h1
 simp [Instr.fieldAt, Instr.sureAddr, run_underlying hu, h1', fieldPlace_run h3 h5, Addr.add_lit]
omit [Inv] in
theorem indexArr_run {w : World} {t e : TypeId} {l : List TI} {sz len blk o : Nat} {kd : IntKind} {n : Int} (hT : TyIs P t (.arr l len sz e)) (h0 : 0 ≤ n) (hn : n.toNat < len) : (Instr.indexAt t (.pointer (some ⟨blk, o, none⟩)) (.int kd n)).run P w = .ok (.pointer (some ⟨blk, o + n.toNat * sz, none⟩)) w := by
 obtain ⟨hu, hsz, i, hi⟩ := hT.is_arr
 have hlt : n < (len : Int) := by omega
 simp [Instr.indexAt, Instr.sureAddr, run_asIntOf, run_underlying hu, h0, hlt, run_sizeOf hi, hsz, Addr.add_lit]
omit [Inv] in
theorem gobj_some {G : Option Heap} {b : Nat} {k : Heap → List Cell → Option R} {r : R} (h : gobj G b k = some r) : ∃ H cs, G = some H ∧ H[b]? = some cs ∧ k H cs = some r := by
 unfold gobj at h
 split at h
 · cases h
 · split at h
   · exact ⟨_, _, rfl, ‹_›, h⟩
   · cases h
omit [Inv] in
theorem galloc_some {st : St} {cs : List Cell} {k : AV → St → Option R} {r : R} (h : galloc st cs k = some r) : ∃ G, st.G = some G ∧ k (.one (.gptr G.length 0)) ⟨strikeFr (namesIn cs) st.fr, strikeH (namesIn cs) st.H, some (G ++ [cs.map toG])⟩ = some r := by
 unfold galloc at h
 split at h
 · cases h
 · exact ⟨_, ‹_›, h⟩
omit [Inv] in
theorem zero_noPtr (sl ix : Nat) (t : TI) : hasPtr (t.zeroCell sl ix) = false := by cases t <;> rfl
omit [Inv] in
theorem zeros_names : ∀ (sl i0 : Nat) (ts : List TI) (n : Nm), namesIn (zeros sl i0 ts) n = true → n.slot = sl ∧ i0 ≤ n.ix
 | sl, i0, [], n, h => by cases h
 | sl, i0, t :: ts, n, h => by
  rw [namesIn_iff] at h
  obtain ⟨i, L, sz, l, h1, h2⟩ := h
  rw [zeros_get] at h1
  cases ht : (t :: ts)[i]? with
  | none => rw [ht] at h1; cases h1
  | some t' =>
   rw [ht] at h1
   simp only [Option.map_some, Option.some.injEq] at h1
   cases t' with
   | slice e s =>
    cases h1
    unfold isNm at h2
    rw [Bool.and_eq_true] at h2
    have e1 := Nat.eq_of_beq_eq_true h2.1
    have e2 := Nat.eq_of_beq_eq_true h2.2
    exact ⟨e1.symm, by rw [← e2]; exact Nat.le_add_right _ _⟩
   | _ => cases h1
omit [Inv] in
theorem zeros_nodup : ∀ (sl i0 : Nat) (ts : List TI), nodupNm (zeros sl i0 ts) = true
 | sl, i0, [] => rfl
 | sl, i0, t :: ts => by
  have ih := zeros_nodup sl (i0 + 1) ts
  cases t with
  | slice e s =>
   simp only [zeros, TI.zeroCell, nodupNm, ih, Bool.and_true, Bool.not_eq_true']
   cases h : namesIn (zeros sl (i0 + 1) ts) ⟨sl, i0, e⟩ with
   | false => rfl
   | true =>
    have := (zeros_names sl (i0 + 1) ts _ h).2
    simp only at this
    omega
  | _ => exact ih
omit [Inv] in
theorem zeros_okG (sl : Nat) (ts : List TI) (_h : ∀ t ∈ ts, hasPtr (t.zeroCell 0 0) = false) : okG (zeros sl 0 ts) = true := by
 unfold okG
 rw [zeros_nodup, Bool.and_true, Bool.not_eq_true', List.any_eq_false]
 intro c hc
 obtain ⟨i, hi⟩ := List.getElem?_of_mem hc
 rw [zeros_get] at hi
 cases ht : ts[i]? with
 | none => rw [ht] at hi; cases hi
 | some t' =>
  rw [ht] at hi
  simp only [Option.map_some, Option.some.injEq] at hi
  rw [← hi, zero_noPtr]; simp
theorem Sim.lost {B : Base} {g : Gh} {st : St} {a : Act} {w : World} {N : Nm} (S : Sim P B g st a w) : Sim P B ⟨g.M, g.bx, fun L => if L = N then none else g.ow L⟩ (st.strike (isNm N)) a w := by
 have hs : ∀ {L : Nm} {u : Value}, (if L = N then none else g.ow L) = some u → L ≠ N ∧ g.ow L = some u := fun {L u} h => by
  by_cases hL : L = N
  · rw [if_pos hL] at h; cases h
  · rw [if_neg hL] at h; exact ⟨hL, h⟩
 refine S.move (g' := ⟨g.M, g.bx, fun L => if L = N then none else g.ow L⟩) (Kp.refl _ _) rfl (fun _ _ => rfl) (fun blk hb j => S.bx.M blk hb j) (fun L x hp hx => ?_) ⟨fun L x hx => S.ow.row L x (hs hx).2, fun L L' x x' hL hx hx' => S.ow.ne L L' x x' hL (hs hx).2 (hs hx').2⟩
  (fun L x b hx hb => S.bx.ow L x b (hs hx).2 hb) (fun L x b hx hb => S.owB L x b (hs hx).2 hb) ⟨S.fr.os, S.fr.tape, S.fr.output, S.fr.size, S.fr.block, S.fr.kp, S.fr.old⟩ S.live (S.gk.keep ⟨rfl, rfl⟩ (Kp.refl _ _) (fun _ _ => rfl) (fun _ _ _ h => h) S.gk.obx fun L x b hx hb => S.gk.oow L x b (hs hx).2 hb)
 have hne : L ≠ N := fun e => by
  subst e
  rw [isNm_same] at hp; cases hp
 show (if L = N then none else g.ow L) = some x
 rw [if_neg hne]; exact hx
theorem cutOwn_sound {B : Base} {g : Gh} {st : St} {a : Act} {w : World} {t e : TypeId} {sz s d p : Nat} {L : Nm} {cs : List Cell} {v : Value} {lo : Option Operand} {lo' : Option Int} (S : Sim P B g st a w) (hT : TyIs P t (.slice e sz)) (hv : Rc g w v (.sl (some L) s cs)) (hs : s = sz ∨ s = 0) (hL : L.elem = e)
 (hl : BoundIs a lo lo') (hp : (lo' = none ∧ p = 0) ∨ ∃ n, lo' = some n ∧ 0 ≤ n ∧ p = n.toNat) (hq : p ≤ cs.length / sz) :
 ∃ u g', (Instr.sliceAt t v (lo.map a.eval) none none).run P w = .ok u w ∧ Rc g' w u (.sl (some ⟨d, 0, e⟩) sz (cs.drop (p * sz))) ∧ Sim P B g' ((st.strike (isNm L)).clear d) a w := by
 obtain ⟨hu, hsz, hz0, _, i, hi2⟩ := hT.is_slice
 have hvs := hv.sized hs
 obtain ⟨hown, hR⟩ : g.ow L = some v ∧ Rd g.M w v (.sl none sz cs) := by
  cases hvs with
  | data h => cases h
  | own _ h1 h2 => exact ⟨h1, h2⟩
 obtain ⟨n, xs, hrow, hMb⟩ := S.ow.row L v hown
 rw [hL, hsz] at hrow hMb
 obtain ⟨hxs, hcl⟩ := own_data hrow hR
 have hnn : cs.length / sz = n := by rw [hcl, Nat.mul_div_cancel _ hz0]
 rw [hnn] at hq
 have bounds := fun cap (hc : n ≤ cap) => run_sliceBounds (P := P) (a := a) (lo := lo) (hi := none) (hi' := none) (isS := true) (w := w) (len := n) (cap := cap) (p := p) (q := n) hl (.inl ⟨rfl, rfl⟩) hq (Nat.le_refl _) hc hp (.inl ⟨rfl, rfl⟩)
 simp only [Option.map_none] at bounds
 have S1 := S.lost (N := L)
 -- what is born
 have fin : ∀ u m ys, (Instr.sliceAt t v (lo.map a.eval) none none).run P w = .ok u w → Rd g.M w u (.sl none sz (cs.drop (p * sz))) → w.ownsAt 0 e sz u m ys → (u.ob = none ∨ u.ob = v.ob) → (∀ b j, u.ob = some b → g.M b j → j < u.offOf + m * sz) →
  ∃ u g', (Instr.sliceAt t v (lo.map a.eval) none none).run P w = .ok u w ∧ Rc g' w u (.sl (some ⟨d, 0, e⟩) sz (cs.drop (p * sz))) ∧ Sim P B g' ((st.strike (isNm L)).clear d) a w := fun u m ys hrun hRd hrow' hob hM => by
  have S2 := S1.born (d := d) (e := e) (v := u) (n := m) (xs := ys) 0 (by rw [hsz]; exact hrow') (fun b j hb hm => by rw [hsz]; exact hM b j hb hm) (fun b hb => by
   have hvb : v.ob = some b := by
    rcases hob with h | h
    · rw [h] at hb; cases hb
    · rw [← h]; exact hb
   refine ⟨S.bx.ow L v b hown hvb, fun L' v' hL' hb' => ?_, S.owB L v b hown hvb, S.gk.oow L v b hown hvb⟩
   have hL' : (if L' = L then none else g.ow L') = some v' := hL'
   by_cases hLL : L' = L
   · rw [if_pos hLL] at hL'; cases hL'
   · rw [if_neg hLL] at hL'
     rcases S.ow.ne L' L v' v hLL hL' hown with h | h
     · rw [h] at hb'; cases hb'
     · exact h (by rw [hb', hvb]))
  refine ⟨u, _, hrun, ?_, S2⟩
  refine .own ⟨d, 0, e⟩ ((give_here (L := ⟨d, 0, e⟩) rfl).trans ?_) hRd
  simp [nameIs]
 rcases hrow.2 with ⟨rfl, rfl | ⟨A, rfl⟩⟩ | ⟨b, off, cap, cur, rfl, hc0, hg, hnc, hcm, hcs, htake⟩
 · obtain rfl : p = 0 := by omega
   have hc : cs = [] := List.eq_nil_of_length_eq_zero (by simpa using hcl)
   subst hc
   refine fin (.slice none 0 0) 0 [] ?_ (by simp; exact .slN sz) (World.ownsAt_nil _ _ _ _) (.inl rfl) (fun b j h => by cases h)
   simp [Instr.sliceAt, Instr.slice, run_underlying hu, bounds 0 (Nat.le_refl _), run_sizeOf hi2]
 · obtain rfl : p = 0 := by omega
   have hc : cs = [] := List.eq_nil_of_length_eq_zero (by simpa using hcl)
   subst hc
   refine fin (.slice (some A) 0 0) 0 [] ?_ (by simp; exact .sl0 A 0 sz hz0) ⟨by simp, .inl ⟨rfl, .inr ⟨A, rfl⟩⟩⟩ (.inl (by simp [Value.ob])) (fun b j h => by simp [Value.ob] at h)
   simp [Instr.sliceAt, Instr.slice, run_underlying hu, bounds 0 (Nat.le_refl _), run_sizeOf hi2, Addr.add]
 · have hrun : (Instr.sliceAt t (.slice (some ⟨b, off, none⟩) n cap) (lo.map a.eval) none none).run P w = .ok (.slice (some (if cap = p then ⟨b, off, none⟩ else ⟨b, off + p * sz, none⟩)) (n - p) (cap - p)) w := by
    simp [Instr.sliceAt, Instr.slice, run_underlying hu, bounds cap hnc, run_sizeOf hi2, hsz, Addr.add_lit]
    split <;> rfl
   have hxl := hrow.1
   by_cases hcp : cap = p
   · obtain rfl : n = p := by omega
     subst hcp
     rw [if_pos rfl, Nat.sub_self] at hrun
     refine fin _ 0 [] hrun ?_ ⟨by simp, .inl ⟨rfl, .inr ⟨_, rfl⟩⟩⟩ (.inl (by simp [Value.ob])) (fun b j h => by simp [Value.ob] at h)
     rw [List.drop_of_length_le (by rw [hcl]; exact Nat.le_refl _)]
     exact .sl0 _ 0 sz hz0
   · rw [if_neg hcp] at hrun
     have hob : ∀ q m, (Value.slice (some ⟨b, q, none⟩) m (cap - p)).ob = some b := fun q m => by simp only [Value.ob]; rw [if_neg (by omega)]
     have hob2 : (Value.slice (some ⟨b, off, none⟩) n cap).ob = some b := by simp only [Value.ob]; rw [if_neg (by omega)]
     have hmul : p * sz ≤ n * sz := Nat.mul_le_mul_right _ hq
     have hmul2 : n * sz ≤ cap * sz := Nat.mul_le_mul_right _ hnc
     have hdl : (cs.drop (p * sz)).length = (n - p) * sz := by rw [List.length_drop, hcl, Nat.sub_mul]
     refine fin _ (n - p) (xs.drop (p * sz)) hrun ?_ ⟨by rw [List.length_drop, hxl, Nat.sub_mul], .inr ⟨b, off + p * sz, cap - p, cur, rfl, by omega, hg, by omega, by omega, by rw [Nat.sub_mul]; omega, ?_⟩⟩ (.inr (by rw [hob, hob2])) (fun b' j hb' hm => ?_)
     · cases hR with
       | sl0 _ _ _ h0 =>
        rw [Nat.zero_sub, List.drop_nil]
        exact .sl0 _ _ sz hz0
       | sl _ _ _ _ _ f _ h1 h2 h3 h4 h5 =>
        refine .sl b (off + p * sz) (n - p) (cap - p) sz (fun i => f (p * sz + i)) _ h1 hdl (by omega) (fun i hi => ?_) fun i c hc => ?_
        · rw [hdl, Nat.sub_mul] at hi
          have := h4 (p * sz + i) (by omega)
          rw [← Nat.add_assoc] at this
          exact this
        · rw [List.getElem?_drop] at hc
          exact h5 _ c hc
     · rw [← htake, List.drop_take, List.drop_drop, Nat.sub_mul]
     · rw [hob, Option.some.injEq] at hb'
       subst hb'
       have := hMb b j hob2 hm
       have e1 : (Value.slice (some ⟨b, off, none⟩) n cap).offOf = off := rfl
       rw [e1] at this
       show j < off + p * sz + (n - p) * sz
       rw [Nat.sub_mul]; omega
end AX
end Go.Proofs.YtnkppakkeobegaaGreatDoor
