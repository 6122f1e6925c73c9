/-
  strings.Builder for the reckoning: WriteString, String.
-/
import Derived.Test.YtfbicbgdfcbhpaaDoorBuilder
import Derived.Test.YtfbicbgdfcbhpaaDoorLpBase
set_option maxRecDepth 20000
set_option linter.unusedVariables false
set_option linter.unusedSimpArgs false
set_option linter.unusedSectionVars false
namespace Go.Proofs.YtfbicbgdfcbhpaaDoor
namespace AX
open Go.ChangeShapes Go.WideShapes Go.ChangeAt Go.RowKit
variable {P : Program}

/-- As 'Lib.run_append_own_string'; besides, the elder row's cells stay, and where the new row lies. -/
theorem run_append_str2 {w : World} (t u ty e : TypeId) (i : TypeInfo) (ht : P.underlying t = some (.slice e)) (hu : P.underlying u = some .string) (hi : P.info? e = some i) (hz : i.zero = some (.int .u8 0))
    (hsize : i.size = 1) (hby : i.bytes = 1) (v : Value) (n : Nat) (xs : List Value) (hown : w.ownsRow 0 e 1 v n xs) (s : ByteArray) (h63 : n + s.size ≤ maxLen) (hbytes : n + s.size ≤ 140737488355328) :
    ∃ v' w', (Builtin.append_ #[t, u] ty #[v, .string s]).run P w = .ok v' w' ∧ w'.ownsRow 0 e 1 v' (n + s.size) (xs ++ Lib.strCells s) ∧ w.grownBy w' v.ownBlock ∧
      (∀ b, v.ownBlock = some b → ∀ j, j < n → w'.cell? ⟨b, j, none⟩ = w.cell? ⟨b, j, none⟩) ∧ (v'.ownBlock = none ∨ v'.ownBlock = v.ownBlock ∨ v'.ownBlock = some w.heap.size) := by
  obtain ⟨v', w', h1, h2, h3, h4⟩ := Lib.run_append_own_string (P := P) w 0 t u ty e i ht hu hi hz hsize hby v n xs hown s h63 hbytes (Nat.zero_le _)
  rcases hown.2 with ⟨rfl, rfl⟩ | ⟨g, cap, cur, rfl, hbg, hg, hnc, hcm, hcs, htake⟩
  · refine ⟨v', w', h1, h2, h3, fun b h => (by cases h), ?_⟩
    -- the new row: where it lies
    have hx : xs = [] := List.eq_nil_of_length_eq_zero (by simpa using hown.1)
    by_cases hs : s.size = 0
    · rw [h4.2 ⟨rfl, hs⟩]; exact .inl rfl
    · have hr := run_append_nil_string (P := P) w t u ty e i (.int .u8 0) ht hu hi hz s (by omega) (by unfold maxLen at h63; omega) (by rw [hby]; omega)
      have heq := hr.symm.trans h1
      injection heq with e1 e2
      subst e1
      exact .inr (.inr rfl)
  · by_cases hroom : n + s.size ≤ cap
    · have hr := Lib.run_append_room_string (P := P) w t u ty e i ht hu hi hsize g n cap cur hg s hroom (by omega)
      have heq := hr.symm.trans h1
      injection heq with e1 e2
      subst e1; subst e2
      refine ⟨_, _, h1, h2, h3, fun b hb j hj => ?_, .inr (.inl rfl)⟩
      simp only [Value.ownBlock, Option.some.injEq] at hb
      subst hb
      rw [cell_of_row _ g j _ e _ (setRow_heap w g cur _ e _ hg), cell_of_row w g j cur e _ hg]
      simp only [List.getElem?_toArray]
      rw [List.append_assoc, List.getElem?_append_left (by simp; omega), List.getElem?_take, if_pos hj]
      simp
    · have holds : ∀ j u, xs[j]? = some u → w.cell? ((⟨g, 0, none⟩ : Addr).add j) = some u := hown.cells (g := g) rfl
      have hr := Lib.run_append_grow_string (P := P) w t u ty e i (.int .u8 0) ht hu hi hz ⟨g, 0, none⟩ n cap xs (by rw [hsize]; exact hown.1) holds s (by omega) (by unfold maxLen at h63; omega) (by rw [hby]; exact growslice_fits (by omega) (by omega))
      have heq := hr.symm.trans h1
      injection heq with e1 e2
      subst e1; subst e2
      refine ⟨_, _, h1, h2, h3, fun b hb j hj => ?_, .inr (.inr rfl)⟩
      simp only [Value.ownBlock, Option.some.injEq] at hb
      subst hb
      have hlt : g < w.heap.size := (Array.getElem?_eq_some_iff.1 hg).1
      exact World.cell?_of_block (w := w) (Below.heap_alloc w.drew _ g hlt)
theorem wpList_append_str2 {ops : Array Oper} {rest : List Oper} {o : Oper} {a : Act} {w : World} {Q : Exit → Act → World → Prop} (hgd : o.guard = none) (sl x : Operand) (t u : TypeId)
    (ho : o.op = .call { callee := .builtin .append, args := #[sl, x], argTypes := #[t, u] })
    (e : TypeId) (i : TypeInfo) (ht : P.underlying t = some (.slice e)) (hu : P.underlying u = some .string) (hi : P.info? e = some i) (hz : i.zero = some (.int .u8 0))
    (hsize : i.size = 1) (hby : i.bytes = 1)
    (v : Value) (n : Nat) (xs : List Value) (hs : a.eval sl = v) (hown : w.ownsRow 0 e 1 v n xs) (s : ByteArray) (hx : a.eval x = .string s)
    (h63 : n + s.size ≤ maxLen) (hbytes : n + s.size ≤ 140737488355328)
    (h : ∀ v' w', w'.ownsRow 0 e 1 v' (n + s.size) (xs ++ Lib.strCells s) → w.grownBy w' v.ownBlock → (∀ b, v.ownBlock = some b → ∀ j, j < n → w'.cell? ⟨b, j, none⟩ = w.cell? ⟨b, j, none⟩) → (v'.ownBlock = none ∨ v'.ownBlock = v.ownBlock ∨ v'.ownBlock = some w.heap.size) → wpList P ops Q rest (a.put o.dst v') w') : wpList P ops Q (o :: rest) a w := by
  refine wpList_plain hgd fun K hK => ?_
  obtain ⟨v', w', hr, h2, h3, h4, h5⟩ := run_append_str2 (P := P) (w := w) t u o.type e i ht hu hi hz hsize hby v n xs hown s h63 hbytes
  unfold Oper.wp execOp
  simp only [ho, resolve, invoke, builtin, Sem.run_bind, Sem.run_pure, Result.andThen_ok, List.map_toArray, List.map_cons, List.map_nil, hs, hx, hr]
  exact hK _ _ (h v' w' h2 h3 h4 h5)
/-- Only the builder's two blocks are turned. -/
structure Turned (b : Nat) (v v' : Value) (n : Nat) (w w' : World) : Prop where
  os : w'.os = w.os
  tape : w'.tape = w.tape
  output : w'.output = w.output
  size : w.heap.size ≤ w'.heap.size
  oth : ∀ k, k < w.heap.size → k ≠ b → v.ownBlock ≠ some k → w'.heap[k]? = w.heap[k]?
  own : ∀ q, v.ownBlock = some q → ∀ j, j < n → w'.cell? ⟨q, j, none⟩ = w.cell? ⟨q, j, none⟩
  row : v'.ownBlock = none ∨ v'.ownBlock = v.ownBlock ∨ ∃ q, v'.ownBlock = some q ∧ w.heap.size ≤ q
set_option maxHeartbeats 2000000 in
theorem writeString2 (b n : Nat) (p v : Value) (xs : List Value) (s : ByteArray) (w : World) (hbk : w.heap[b]? = some (.cells #[p, v] 78 (0, 0))) (hp : p = .pointer none ∨ p = .pointer (some ⟨b, 0, none⟩)) (hown : w.ownsRow 0 5 1 v n xs) (hne : v.ownBlock ≠ some b) (hlen : n + s.size ≤ 140737488355328) :
    Calls Tryd.prog 34 #[.pointer (some ⟨b, 0, none⟩), .string s] w fun e w' => e = .returned (.tuple #[.int .i64 s.size, .nilIface]) ∧
      ∃ v', w'.heap[b]? = some (.cells #[.pointer (some ⟨b, 0, none⟩), v'] 78 (0, 0)) ∧ w'.ownsRow 0 5 1 v' (n + s.size) (xs ++ Lib.strCells s) ∧ Turned b v v' n w w' := by
  obtain ⟨i0, hi, hz0, hz1, hz2⟩ := info_parts infoByte
  have hxl : xs.length = n := by simpa using hown.1
  have hlt : b < w.heap.size := (Array.getElem?_eq_some_iff.1 hbk).1
  have hcc : Calls Tryd.prog 60 #[.pointer (some ⟨b, 0, none⟩)] w fun e w' => e = .returned (.tuple #[]) ∧ w'.os = w.os ∧ w'.tape = w.tape ∧ w'.output = w.output ∧ w'.heap.size = w.heap.size ∧
      (∀ k, k ≠ b → w'.heap[k]? = w.heap[k]?) ∧ w'.heap[b]? = some (.cells #[.pointer (some ⟨b, 0, none⟩), v] 78 (0, 0)) := by
    rcases hp with rfl | rfl
    · refine (copyCheck_fresh b w (by rw [Lib.cell_of_heap hbk]; rfl) (by simp [World.shape?, hbk]) (Lib.frozen_of_heap hbk 0)).mono ?_
      rintro e w' ⟨rfl, rfl⟩
      refine ⟨rfl, rfl, rfl, rfl, by simp [World.setCell], fun k hk => Below.heap_setCell _ _ _ _ (fun e => hk e), ?_⟩
      simp [World.setCell, Array.getElem?_modify, hbk]
    · refine (copyCheck_used b w (by rw [Lib.cell_of_heap hbk]; rfl)).mono ?_
      rintro e w' ⟨rfl, rfl⟩
      exact ⟨rfl, rfl, rfl, rfl, rfl, fun _ _ => rfl, hbk⟩
  replace hcc := Lib.hid hcc
  go_enter Tryd.func34, Tryd.ntmps34
  go_wp2_with (go_at_call 60; refine hcc.out.mono ?_)
  rintro e w1 ⟨rfl, o1, o2, o3, o4, o5, hbk1⟩
  have hown1 : w1.ownsRow 0 5 1 v n xs := ownsRow_block hown fun q hq => o5 q (fun e => hne (by rw [hq, e]))
  have c0 : w1.cell? ⟨b, 0, none⟩ = some (.pointer (some ⟨b, 0, none⟩)) := by rw [Lib.cell_of_heap hbk1]; rfl
  have c1 : w1.cell? ⟨b, 1, none⟩ = some v := by rw [Lib.cell_of_heap hbk1]; rfl
  go_wp2_with (at_builtin; refine wpList_append_str2 rfl _ _ 26 9 rfl 5 i0 Tryd.underlying26 Tryd.underlying9 hi hz0 hz1 hz2 _ _ _ rfl hown1 s rfl ?c3 ?c4 ?_)
  case c3 => unfold maxLen; omega
  case c4 => omega
  intro v' w2 hown' hgrow hold hrow
  have hb2 : w2.heap[b]? = some (.cells #[.pointer (some ⟨b, 0, none⟩), v] 78 (0, 0)) := by
    rw [hgrow.block b (by omega) (fun e => hne e.symm)]
    exact hbk1
  have d0 : w2.cell? ⟨b, 0, none⟩ = some (.pointer (some ⟨b, 0, none⟩)) := by rw [Lib.cell_of_heap hb2]; rfl
  have d1 : w2.cell? ⟨b, 1, none⟩ = some v := by rw [Lib.cell_of_heap hb2]; rfl
  have f1 : w2.frozen? ⟨b, 1, none⟩ = false := Lib.frozen_of_heap hb2 1
  have hshape : ∃ ao n' cap, v' = .slice ao n' cap := by
    rcases hown'.2 with ⟨hv, _⟩ | ⟨g, cap, cur, hv, _⟩
    · exact ⟨_, _, _, hv⟩
    · exact ⟨_, _, _, hv⟩
  have hne' : v'.ownBlock ≠ some b := by
    rcases hrow with h | h | h
    · rw [h]; simp
    · rw [h]; exact hne
    · rw [h]; simp; omega
  obtain ⟨ao, n', cap, rfl⟩ := hshape
  go_wp2
  go_ret2
  refine ⟨rfl, _, ?_, ownsRow_block hown' fun q hq => ?_, ⟨?_, ?_, ?_, ?_, fun k hk hkb hkv => ?_, fun q hq j hj => ?_, ?_⟩⟩
  · simp [World.setCell, Array.getElem?_modify, hb2]
  · exact Below.heap_setCell _ _ _ _ (fun e => hne' (by rw [hq, e]))
  · exact hgrow.os.trans o1
  · exact hgrow.tape.trans o2
  · exact hgrow.output.trans o3
  · have := hgrow.size; simp [World.setCell]; omega
  · exact (Below.heap_setCell _ _ _ _ (fun e => hkb e)).trans ((hgrow.block k (by omega) (fun e => hkv e.symm)).trans (o5 k hkb))
  · have hqb : q ≠ b := fun e => hne (by rw [hq, e])
    have e1 := hold q hq j hj
    have e2 : w1.cell? ⟨q, j, none⟩ = w.cell? ⟨q, j, none⟩ := World.cell?_of_block (w := w) (o5 q hqb)
    exact (World.cell?_of_block (w := w2) (Below.heap_setCell _ _ _ _ (fun e => hqb e))).trans (e1.trans e2)
  · rcases hrow with h | h | h
    · exact .inl h
    · exact .inr (.inl h)
    · exact .inr (.inr ⟨_, h, by omega⟩)
theorem builder_turn {B : Base} {g : Gh} {st : St} {a : Act} {w w' : World} {b blk n m : Nat} {t : TypeId} {N : Nm} {s : Nat} {cs new : List Cell} {v v' : Value} {xs news : List Value} (S : Sim P B g st a w) (hold : st.H[b]? = some [.selfp t, .sl (some N) s cs]) (hbx : g.bx[b]? = some blk) (hN : P.cellsOf N.elem = 1)
    (hown0 : g.ow N = some v) (hMb : ∀ q j, v.ownBlock = some q → g.M q j → j < n) (hxs : RdL g.M w xs cs) (hcl : cs.length = n) (T : Turned blk v v' n w w')
    (hb' : w'.heap[blk]? = some (.cells #[.pointer (some ⟨blk, 0, none⟩), v'] t (0, 0))) (hrow' : w'.ownsRow 0 N.elem 1 v' (n + m) (xs ++ news)) (hnews : ∀ (M : Mem) (w : World), RdL M w news new) (hml : new.length = m) :
    ∃ g', Sim P B g' ⟨strikeFr (isNm N) st.fr, (strikeH (isNm N) st.H).set b [.selfp t, .sl (some N) 1 (cs ++ new)]⟩ a w' := by
  have hmem : blk ∈ g.bx := List.mem_of_getElem? hbx
  have hol : ∀ L x b, g.ow L = some x → x.ownBlock = some b → b < w.heap.size := fun L x b hL hb => by
    obtain ⟨k, ys, h1, _⟩ := S.ow.row L x hL
    exact (h1.lt b hb).2
  let M' : Mem := fun b j => g.M b j ∨ (v'.ownBlock = some b ∧ j < n + m)
  have hkp : Kp g.M w M' w' := fun q j hb => ⟨.inl hb, by
    by_cases hvb : v.ownBlock = some q
    · exact T.own q hvb j (hMb q j hvb hb)
    · exact World.cell?_of_block (w := w) (T.oth q (S.live q j hb) (fun e => S.bx.M blk hmem j (by rw [← e]; exact hb)) hvb)⟩
  have hboxlt : ∀ blk ∈ g.bx, blk < w.heap.size := fun blk hb => by
    obtain ⟨i, hi⟩ := List.getElem?_of_mem hb
    have hlt : i < st.H.length := by rw [← S.bx.len]; exact (List.getElem?_eq_some_iff.1 hi).1
    obtain ⟨blk', h1, h2⟩ := S.bx.box i _ (List.getElem?_eq_getElem hlt)
    rw [hi] at h1; cases h1
    exact h2.lt
  have hother : ∀ L x, L ≠ N → g.ow L = some x → ∀ b, x.ownBlock = some b → v.ownBlock ≠ some b ∧ v'.ownBlock ≠ some b := fun L x hL hx b hb => by
    have h1 : v.ownBlock ≠ some b := by
      rcases S.ow.ne L N x v hL hx hown0 with h | h
      · rw [h] at hb; cases hb
      · rw [← hb]; exact fun e => h e.symm
    refine ⟨h1, ?_⟩
    rcases T.row with h | h | ⟨q, h, hq⟩
    · rw [h]; simp
    · rw [h]; exact h1
    · rw [h]; have := hol L x b hx hb; intro e; cases e; omega
  have hboxne : ∀ blk ∈ g.bx, v.ownBlock ≠ some blk ∧ v'.ownBlock ≠ some blk := fun blk hb => by
    have h1 : v.ownBlock ≠ some blk := fun e => S.bx.ow N v blk hown0 e hb
    refine ⟨h1, ?_⟩
    rcases T.row with h | h | ⟨q, h, hq⟩
    · rw [h]; simp
    · rw [h]; exact h1
    · rw [h]
      intro e
      cases e
      have := hboxlt _ hb
      omega
  have hvB : ∀ b, v'.ownBlock = some b → B.D b ∨ B.w0.heap.size ≤ b := fun b hb => by
    rcases T.row with h | h | ⟨q, h, hq⟩
    · rw [h] at hb; cases hb
    · rw [h] at hb; exact S.owB N v b hown0 hb
    · rw [h] at hb; cases hb; exact .inr (Nat.le_trans S.fr.size hq)
  let g' : Gh := ⟨M', g.bx, fun L => if L = N then some v' else g.ow L⟩
  have howN : g'.ow N = some v' := if_pos rfl
  have howO : ∀ L, L ≠ N → g'.ow L = g.ow L := fun L h => if_neg h
  have hnm : ∀ L, isNm N L = false → L ≠ N := fun L hp e => by
    subst e
    unfold isNm at hp
    simp [Nat.beq_refl] at hp
  have hc : ∀ v c, Rc g w v c → Rc g' w' v (c.strike (isNm N)) := fun v c h => h.strike hkp (fun _ _ h => h) fun L u hp hL => by rw [howO L (hnm L hp)]; exact hL
  have hall : RdL M' w' (xs ++ news) (cs ++ new) := ⟨by rw [List.length_append, List.length_append, hxs.1, (hnews M' w').1], fun i x c hx hcc => by
    rw [List.getElem?_append] at hx hcc
    rw [hxs.1] at hx
    split at hcc
    · rename_i hlt
      rw [if_pos hlt] at hx
      exact (hxs.2 i x c hx hcc).kept hkp
    · rename_i hlt
      rw [if_neg hlt] at hx
      exact (hnews M' w').2 _ x c hx hcc⟩
  have hnew : Rc g' w' v' (.sl (some N) 1 (cs ++ new)) := by
    refine .own N howN ?_
    rcases hrow'.2 with ⟨rfl, h0⟩ | ⟨q, cap, cur, rfl, _, hg, hnc, hcm, hcs, htake⟩
    · have : (cs ++ new) = [] := List.eq_nil_of_length_eq_zero (by rw [List.length_append, hcl, hml, h0])
      rw [this]
      exact .slN 1
    · have hcells := hrow'.cells (g := q) rfl
      have hlen : (xs ++ news).length = (cs ++ new).length := hall.1
      refine .sl q 0 (n + m) cap 1 (fun j => (xs ++ news).getD j undef) _ Nat.zero_lt_one (by rw [List.length_append, hcl, hml, Nat.mul_one]) hnc (fun j hj => ⟨.inr ⟨rfl, by rw [Nat.zero_add]; rw [List.length_append, hcl, hml] at hj; exact hj⟩, ?_⟩) (fun j c hcc => ?_)
      · have hx : (xs ++ news)[j]? = some ((xs ++ news).getD j undef) := by simp [List.getD, List.getElem?_eq_getElem (show j < (xs ++ news).length by omega)]
        have := hcells j _ hx
        rw [Addr.add_lit] at this
        exact this
      · have hj : j < (cs ++ new).length := (List.getElem?_eq_some_iff.1 hcc).1
        have hx : (xs ++ news)[j]? = some ((xs ++ news).getD j undef) := by simp [List.getD, List.getElem?_eq_getElem (show j < (xs ++ news).length by omega)]
        exact hall.2 j _ c hx hcc
  refine ⟨g', fun s x hs => ?_, S.size, S.defers, fun q j hm => ?_, ⟨?_, S.bx.nodup, fun blk2 hb j hm => ?_, fun L x q hx hq => ?_, fun i cs2 hi => ?_⟩, ⟨fun L x hx => ?_, fun L L' x x' hL hx hx' => ?_⟩, ⟨T.os.trans S.fr.os, T.tape.trans S.fr.tape, T.output.trans S.fr.output, Nat.le_trans S.fr.size T.size, fun k hk hD => ?_, S.fr.kp.trans hkp, fun q j hb hD hm => ?_⟩, S.bxB, fun L x q hx hq => ?_, S.pre⟩
  · simp only [lk_strike] at hs
    cases hx : lk st.fr s with
    | none => rw [hx] at hs; cases hs
    | some y =>
      rw [hx] at hs
      simp only [Option.map_some, Option.some.injEq] at hs
      subst hs
      exact (S.frame s y hx).map hc
  · rcases hm with hm | ⟨hm, _⟩
    · exact Nat.lt_of_lt_of_le (S.live q j hm) T.size
    · exact (hrow'.lt q hm).2
  · show g.bx.length = _
    rw [List.length_set, strikeH_len, S.bx.len]
  · rcases hm with hm | ⟨hm, _⟩
    · exact S.bx.M blk2 hb j hm
    · exact (hboxne blk2 hb).2 hm
  · show q ∉ g.bx
    by_cases hL : L = N
    · subst hL
      rw [howN] at hx; cases hx
      exact fun hb => (hboxne q hb).2 hq
    · rw [howO L hL] at hx
      exact S.bx.ow L x q hx hq
  · have hi : ((strikeH (isNm N) st.H).set b [.selfp t, .sl (some N) 1 (cs ++ new)])[i]? = some cs2 := hi
    rw [List.getElem?_set] at hi
    by_cases hib : b = i
    · subst hib
      have hlt : b < (strikeH (isNm N) st.H).length := by rw [strikeH_len]; exact (List.getElem?_eq_some_iff.1 hold).1
      rw [if_pos rfl, if_pos hlt] at hi
      cases hi
      exact ⟨blk, hbx, .bld t _ v' _ hb' (.inr rfl) hnew⟩
    · rw [if_neg hib, strikeH_get] at hi
      cases hx : st.H[i]? with
      | none => rw [hx] at hi; cases hi
      | some cs0 =>
        rw [hx] at hi
        simp only [Option.map_some, Option.some.injEq] at hi
        subst hi
        obtain ⟨blk2, h1, h2⟩ := S.bx.box i cs0 hx
        have hne : blk2 ≠ blk := fun e => by
          subst e
          exact hib (nodup_at S.bx.nodup hbx h1)
        exact ⟨blk2, h1, h2.strike (T.oth blk2 h2.lt hne (hboxne blk2 (List.mem_of_getElem? h1)).1) hkp hc⟩
  · by_cases hL : L = N
    · subst hL
      rw [howN] at hx; cases hx
      rw [hN]
      refine ⟨n + m, _, hrow', fun q j hq hm => ?_⟩
      rw [Nat.mul_one]
      rcases hm with hm | ⟨_, hm⟩
      · have hbl := S.live q j hm
        rcases T.row with h | h | ⟨q', h, hq'⟩
        · rw [h] at hq; cases hq
        · rw [h] at hq
          have := hMb q j hq hm
          omega
        · rw [h] at hq; cases hq; omega
      · exact hm
    · rw [howO L hL] at hx
      obtain ⟨k, ys, h1, h2⟩ := S.ow.row L x hx
      refine ⟨k, ys, ownsRow_block h1 fun q hq => T.oth q (hol L x q hx hq) (fun e => S.bx.ow L x q hx hq (by rw [e]; exact hmem)) (hother L x hL hx q hq).1, fun q j hq hm => ?_⟩
      rcases hm with hm | ⟨hm, _⟩
      · exact h2 q j hq hm
      · exact absurd hm (hother L x hL hx q hq).2
  · by_cases hL1 : L = N
    · subst hL1
      rw [howN] at hx; cases hx
      rw [howO L' (Ne.symm hL)] at hx'
      cases hq : v'.ownBlock with
      | none => exact .inl rfl
      | some q => exact .inr fun e => (hother L' x' (Ne.symm hL) hx' q e.symm).2 hq
    · rw [howO L hL1] at hx
      by_cases hL2 : L' = N
      · subst hL2
        rw [howN] at hx'; cases hx'
        cases hq : x.ownBlock with
        | none => exact .inl rfl
        | some q => exact .inr fun e => (hother L x hL1 hx q hq).2 e.symm
      · rw [howO L' hL2] at hx'
        exact S.ow.ne L L' x x' hL hx hx'
  · rw [T.oth k (Nat.lt_of_lt_of_le hk S.fr.size) (fun h => ?_) (fun h => ?_)]
    · exact S.fr.block k hk hD
    · subst h
      rcases S.bxB k hmem with h2 | h2
      · exact hD h2
      · omega
    · rcases S.owB N v k hown0 h with h2 | h2
      · exact hD h2
      · omega
  · rcases hm with hm | ⟨hm, _⟩
    · exact S.fr.old q j hb hD hm
    · rcases hvB q hm with h2 | h2
      · exact absurd h2 hD
      · omega
  · by_cases hL : L = N
    · subst hL
      rw [howN] at hx; cases hx
      exact hvB q hq
    · rw [howO L hL] at hx
      exact S.owB L x q hx hq
/-- WriteString: what is written, and the builder's bytes behind it. -/
def pBW (args : List AV) (old : List Cell) : Option (AV × List Cell) :=
  match args, old with
  | [.one (.ptr _ _), .one (.str s)], [.selfp t, .sl (some N) z cs] =>
    condA ((Nat.beq t 78 && (Nat.beq z 1 || Nat.beq z 0)) && (Nat.beq N.elem 5 && Nat.ble (cs.length + s.length) 140737488355328))
      (some (.tup [.one (.int .i64 (s.length : Int)), .one (.err false)], [.selfp t, .sl (some N) 1 (cs ++ byteCells s)])) none
  | _, _ => none
theorem pBW_ok : PrimHOk Tryd.prog 34 pBW where
  ok := fun b args old v new h B g st a w vals blk S hold hbx hA => by
    unfold pBW at h
    split at h
    · rename_i s t N z cs hargs
      cases hargs
      cases hc : (Nat.beq t 78 && (Nat.beq z 1 || Nat.beq z 0)) && (Nat.beq N.elem 5 && Nat.ble (cs.length + s.length) 140737488355328) with
      | false => rw [hc] at h; cases h
      | true =>
        rw [hc] at h
        simp only [condA_true, Option.some.injEq, Prod.mk.injEq] at h
        obtain ⟨rfl, rfl⟩ := h
        simp only [Bool.and_eq_true] at hc
        obtain ⟨⟨ht, hz⟩, hNe, hle⟩ := hc
        have ht := Nat.eq_of_beq_eq_true ht
        have hNe := Nat.eq_of_beq_eq_true hNe
        have hle := Nat.le_of_ble_eq_true hle
        subst ht
        obtain ⟨blk', h1, h2⟩ := S.bx.box b _ hold
        rw [hbx] at h1; cases h1
        have hbld : ∃ p v, w.heap[blk]? = some (.cells #[p, v] 78 (0, 0)) ∧ (p = .pointer none ∨ p = .pointer (some ⟨blk, 0, none⟩)) ∧ Rc g w v (.sl (some N) z cs) := by
          cases h2 with
          | bld _ p v _ h3 h4 h5 => exact ⟨p, v, h3, h4, h5⟩
          | cells vs e _ h3 h4 =>
            obtain ⟨u, hu⟩ : ∃ u, vs[0]? = some u := ⟨_, Array.getElem?_eq_getElem (by have : vs.size = 2 := h4.1; omega)⟩
            have := h4.2 0 u _ hu rfl
            cases this with
            | data h => cases h
        obtain ⟨p, x, h3, h4, h5⟩ := hbld
        have h5 := h5.sized (size_or hz)
        obtain ⟨h6, h7⟩ := h5.own_inv
        obtain ⟨n, xs, hrow, hMb⟩ := S.ow.row N x h6
        have hcell : (Tryd.prog).cellsOf N.elem = 1 := by rw [hNe]; kernel_rfl
        rw [hcell] at hrow hMb
        obtain ⟨hxs, hcl⟩ := own_data hrow h7
        rw [Nat.mul_one] at hcl
        cases hA with
        | cons hu hnil =>
          cases hnil
          obtain rfl := Rc.str_inv hu
          have hsz : (⟨s.toArray⟩ : ByteArray).size = s.length := by show s.toArray.size = _; simp
          refine (writeString2 blk n p x xs ⟨s.toArray⟩ w h3 h4 (by rw [← hNe]; exact hrow) (fun e => S.bx.ow N x blk h6 e (List.mem_of_getElem? hbx)) (by rw [hsz]; omega)).mono ?_
          rintro e w' ⟨rfl, v', h8, h9, T⟩
          rw [hsz] at h9
          obtain ⟨g', S'⟩ := builder_turn (m := s.length) (new := byteCells s) S hold hbx hcell h6 (fun q j hq hm => by have := hMb q j hq hm; omega) hxs hcl T h8 (by rw [hNe]; exact h9) (fun M w => by
            refine ⟨by rw [Lib.strCells_length, hsz]; simp [byteCells], fun i u c hu hc => ?_⟩
            simp only [Lib.strCells, byteCells, List.getElem?_map] at hu hc
            cases hx : s[i]? with
            | none => rw [hx] at hc; cases hc
            | some y =>
              rw [hx] at hc
              simp only [List.toList_toArray, hx] at hu
              cases hu; cases hc
              exact .int _ _) (by simp [byteCells])
          refine ⟨_, g', rfl, two_rv (.data ?_) (.data .errN), ?_⟩
          · rw [hsz]; exact .int _ _
          · have hst : namesIn [.selfp 78, .sl (some N) z cs] = isNm N := by funext q; simp [namesIn]
            rw [hst]; exact S'
    · cases h
  fn := ⟨Tryd.f34, by kernel_rfl, by kernel_rfl, of_decide_eq_true (by kernel_rfl)⟩
/-- Nothing is turned but the mark of one row. -/
structure Still (q : Option Nat) (w w' : World) : Prop where
  os : w'.os = w.os
  tape : w'.tape = w.tape
  output : w'.output = w.output
  size : w.heap.size ≤ w'.heap.size
  oth : ∀ k, k < w.heap.size → q ≠ some k → w'.heap[k]? = w.heap[k]?
  cell : ∀ k j, k < w.heap.size → w'.cell? ⟨k, j, none⟩ = w.cell? ⟨k, j, none⟩
theorem still_freeze {w : World} {g n : Nat} (h : n ≠ 0) : Still (some g) w (w.drew.freeze ⟨g, 0, none⟩ n) := by
  unfold World.freeze
  rw [if_neg h]
  refine ⟨rfl, rfl, rfl, by simp, fun k hk hq => ?_, fun k j hk => ?_⟩
  · show (w.heap.modify g _)[k]? = _
    rw [Array.getElem?_modify, if_neg (fun e => hq (by rw [e]))]
  · simp only [World.cell?, World.drew]
    rw [Array.getElem?_modify]
    by_cases e : g = k
    · subst e
      rw [if_pos rfl]
      cases w.heap[g]? with
      | none => rfl
      | some o => cases o with
        | cells c e fz => cases fz; rfl
        | _ => rfl
    · rw [if_neg e]
theorem cells_byte : (Tryd.prog).cellsOf 5 = 1 := by kernel_rfl
set_option maxHeartbeats 2000000 in
theorem string2 (b g cap : Nat) (p : Value) (cur : Array Value) (l : List UInt8) (w : World) (hbk : w.heap[b]? = some (.cells #[p, .slice (some ⟨g, 0, none⟩) l.length cap] 78 (0, 0))) (hg : w.heap[g]? = some (.cells cur 5 (0, 0)))
    (hnc : l.length ≤ cap) (hcm : cap ≤ maxLen) (hcs : cur.size = cap) (hcell : ∀ j x, l[j]? = some x → w.cell? ⟨g, j, none⟩ = some (.int .u8 (x.toNat : Int))) (h0 : l ≠ []) :
    Calls Tryd.prog 35 #[.pointer (some ⟨b, 0, none⟩)] w fun e w' => e = .returned (.string ⟨l.toArray⟩) ∧ Still (some g) w w' := by
  have hl0 : l.length ≠ 0 := by simpa using h0
  have c1 : w.drew.cell? ⟨b, 1, none⟩ = some (.slice (some ⟨g, 0, none⟩) l.length cap) := by
    have : w.drew.heap[b]? = some (.cells #[p, .slice (some ⟨g, 0, none⟩) l.length cap] 78 (0, 0)) := hbk
    rw [Lib.cell_of_heap this]; rfl
  have hSD : (Builtin.unsafeSliceData_ #[26] 101 #[.slice (some ⟨g, 0, none⟩) l.length cap]).run Tryd.prog w.drew = .ok (.pointer (some ⟨g, 0, none⟩)) w.drew :=
    Lib.run_unsafeSliceData_row _ _ _ _ _ _ (by omega)
  have hUS : (Builtin.unsafeString_ #[101, 3] 9 #[.pointer (some ⟨g, 0, none⟩), .int .i64 l.length]).run Tryd.prog w.drew = .ok (.string ⟨l.toArray⟩) (w.drew.freeze ⟨g, 0, none⟩ l.length) := by
    refine Lib.run_unsafeString_row w.drew 101 3 9 5 Tryd.underlying101 cells_byte g cur.size (by have hg' : w.drew.heap[g]? = some (.cells cur 5 (0, 0)) := hg; simp [World.shape?, hg']) l h0 (by omega) (by unfold maxLen at hcm; omega) ?_
    intro j x hx
    rw [Addr.add_lit, Nat.zero_add]
    exact hcell j x hx
  have mixed : (Tryd.prog).follows .mixedOrders = true := by kernel_rfl
  go_enter Tryd.func35, Tryd.ntmps35
  go_wp2
  go_region_o
  all_goals (go_wp2; go_ret; exact ⟨rfl, still_freeze hl0⟩)
theorem Still.of_below {w w' : World} (q : Option Nat) (h : Below w.heap.size w w') : Still q w w' :=
  ⟨h.os, h.tape, h.output, h.size, fun k hk _ => h.block k hk, fun k j hk => World.cell?_of_block (w := w) (h.block k hk)⟩
/-- the bytes of cells -/
def bytesX : List Cell → Option (List UInt8)
  | [] => some []
  | .int .u8 n :: r => if 0 ≤ n ∧ n < 256 then (bytesX r).map fun l => UInt8.ofNat n.toNat :: l else none
  | _ :: _ => none
/-- String: the bytes that were written. -/
def pBS (args : List AV) (old : List Cell) : Option AV :=
  match args, old with
  | [.one (.ptr _ _)], [.selfp t, .sl (some N) z cs] =>
    (match bytesX cs with
     | some l => condA ((Nat.beq t 78 && (Nat.beq z 1 || Nat.beq z 0)) && Nat.beq N.elem 5) (some (.one (.str l))) none
     | none => none)
  | _, _ => none
theorem bytesX_some : ∀ (cs : List Cell) (l : List UInt8), bytesX cs = some l → l.length = cs.length ∧ ∀ (j : Nat) (x : UInt8), l[j]? = some x → cs[j]? = some (Cell.int .u8 (x.toNat : Int))
  | [], l, h => by cases h; exact ⟨rfl, fun j x h => by simp at h⟩
  | c :: cs, l, h => by
    cases c with
    | int k n =>
      cases k with
      | u8 =>
        simp only [bytesX] at h
        split at h
        · rename_i hn
          cases hr : bytesX cs with
          | none => rw [hr] at h; cases h
          | some m =>
            rw [hr] at h
            simp only [Option.map_some, Option.some.injEq] at h
            subst h
            obtain ⟨h1, h2⟩ := bytesX_some cs m hr
            refine ⟨by simp [h1], fun j x hx => ?_⟩
            cases j with
            | zero =>
              simp at hx
              subst hx
              have e1 : n.toNat < 256 := by omega
              have e2 : (UInt8.ofNat n.toNat).toNat = n.toNat := by simp; omega
              simp only [List.getElem?_cons_zero, e2]
              rw [Int.toNat_of_nonneg hn.1]
            | succ j => simpa using h2 j x (by simpa using hx)
        · cases h
      | _ => simp [bytesX] at h
    | _ => simp [bytesX] at h
theorem bytesX_cells : ∀ l : List UInt8, bytesX (byteCells l) = some l
  | [] => rfl
  | c :: l => by
    show bytesX (.int .u8 (c.toNat : Int) :: byteCells l) = _
    simp only [bytesX]
    have := c.toNat_lt
    rw [if_pos ⟨by omega, by omega⟩, bytesX_cells l]
    simp
theorem pBS_ok : PrimSOk Tryd.prog 35 pBS where
  ok := fun b args old v h B g st a w vals blk S hold hbx hA => by
    unfold pBS at h
    split at h
    · rename_i t N z cs hargs
      cases hargs
      split at h
      · rename_i l hl
        cases hc : (Nat.beq t 78 && (Nat.beq z 1 || Nat.beq z 0)) && Nat.beq N.elem 5 with
        | false => rw [hc] at h; cases h
        | true =>
          rw [hc] at h
          simp only [condA_true, Option.some.injEq] at h
          subst h
          simp only [Bool.and_eq_true] at hc
          obtain ⟨⟨ht, hz⟩, hNe⟩ := hc
          have ht := Nat.eq_of_beq_eq_true ht
          have hNe := Nat.eq_of_beq_eq_true hNe
          subst ht
          cases hA
          obtain ⟨blk', h1, h2⟩ := S.bx.box b _ hold
          rw [hbx] at h1; cases h1
          have hbld : ∃ p v, w.heap[blk]? = some (.cells #[p, v] 78 (0, 0)) ∧ Rc g w v (.sl (some N) z cs) := by
            cases h2 with
            | bld _ p v _ h3 h4 h5 => exact ⟨p, v, h3, h5⟩
            | cells vs e _ h3 h4 =>
              obtain ⟨u, hu⟩ : ∃ u, vs[0]? = some u := ⟨_, Array.getElem?_eq_getElem (by have : vs.size = 2 := h4.1; omega)⟩
              have := h4.2 0 u _ hu rfl
              cases this with
              | data h => cases h
          obtain ⟨p, x, h3, h5⟩ := hbld
          have h5 := h5.sized (size_or hz)
          obtain ⟨h6, h7⟩ := h5.own_inv
          obtain ⟨n, xs, hrow, hMb⟩ := S.ow.row N x h6
          have hcell : (Tryd.prog).cellsOf N.elem = 1 := by rw [hNe]; exact cells_byte
          rw [hcell, hNe] at hrow
          obtain ⟨hxs, hcl⟩ := own_data hrow h7
          rw [Nat.mul_one] at hcl
          obtain ⟨hll, hlx⟩ := bytesX_some cs l hl
          have main : Calls Tryd.prog 35 #[.pointer (some ⟨blk, 0, none⟩)] w fun e w' => e = .returned (.string ⟨l.toArray⟩) ∧ Still x.ownBlock w w' := by
            by_cases h0 : l = []
            · subst h0
              have hn : n = 0 := by rw [← hcl, ← hll]; rfl
              subst hn
              rcases hrow.2 with ⟨rfl, _⟩ | ⟨q, cap, cur, rfl, _, hg, _, _, _, _⟩
              · exact (Any.Builder_String_nil Tryd.lays169 Tryd.Builder_Extra_169 w.heap.size blk p w h3).mono fun e w' ⟨he, hb⟩ => ⟨he, .of_below _ hb⟩
              · by_cases hc0 : cap = 0
                · subst hc0
                  exact (Any.Builder_String_noroom Tryd.lays169 Tryd.Builder_Extra_169 w.heap.size blk q p cur w (Nat.le_refl _) h3 hg).mono fun e w' ⟨he, hb⟩ => ⟨he, .of_below _ hb⟩
                · exact (Any.Builder_String_room Tryd.lays169 Tryd.Builder_Extra_169 w.heap.size blk q cap p w hc0 h3).mono fun e w' ⟨he, hb⟩ => ⟨he, .of_below _ hb⟩
            · rcases hrow.2 with ⟨_, hn⟩ | ⟨q, cap, cur, rfl, _, hg, hnc, hcm, hcs, _⟩
              · exact absurd (List.eq_nil_of_length_eq_zero (by omega)) h0
              · have hln : n = l.length := by omega
                subst hln
                refine string2 blk q cap p cur l w h3 hg hnc hcm (by omega) (fun j y hy => ?_) h0
                have h8 := hlx j y hy
                have hxj : j < xs.length := by rw [hxs.1]; exact (List.getElem?_eq_some_iff.1 h8).1
                have h10 := hxs.2 j _ _ (List.getElem?_eq_getElem hxj) h8
                have h11 := hrow.cells (g := q) rfl j _ (List.getElem?_eq_getElem hxj)
                rw [Addr.add_lit, Nat.zero_add] at h11
                rw [h11, h10.int_inv]
          refine main.mono ?_
          rintro e w' ⟨rfl, T⟩
          have hbxlt : ∀ blk ∈ g.bx, blk < w.heap.size := fun blk hb => by
            obtain ⟨i, hi⟩ := List.getElem?_of_mem hb
            have hlt : i < st.H.length := by rw [← S.bx.len]; exact (List.getElem?_eq_some_iff.1 hi).1
            obtain ⟨blk', h1, h2⟩ := S.bx.box i _ (List.getElem?_eq_getElem hlt)
            rw [hi] at h1; cases h1
            exact h2.lt
          have hst : namesIn [.selfp 78, .sl (some N) z cs] = isNm N := by funext q; simp [namesIn]
          rw [hst]
          have hoN : ∀ L u, (if L = N then none else g.ow L) = some u → L ≠ N ∧ g.ow L = some u := fun L u h => by
            by_cases hL : L = N
            · rw [if_pos hL] at h; cases h
            · rw [if_neg hL] at h; exact ⟨hL, h⟩
          have hol : ∀ L x b, g.ow L = some x → x.ownBlock = some b → b < w.heap.size := fun L x b hL hb => by
            obtain ⟨k, ys, h1, _⟩ := S.ow.row L x hL
            exact (h1.lt b hb).2
          refine ⟨_, ⟨g.M, g.bx, fun L => if L = N then none else g.ow L⟩, rfl, .data (.str l), S.move (fun q j hm => ⟨hm, T.cell q j (S.live q j hm)⟩) rfl (fun blk hb => T.oth blk (hbxlt blk hb) fun e => S.bx.ow N x blk h6 e hb) S.bx.M (fun L u hp hL => ?_) ⟨fun L u hL => ?_, fun L L' u u' hne hL hL' => ?_⟩ (fun L u q hL hq => ?_) (fun L u q hL hq => ?_) ⟨T.os.trans S.fr.os, T.tape.trans S.fr.tape, T.output.trans S.fr.output, Nat.le_trans S.fr.size T.size, fun k hk hD => ?_, S.fr.kp.trans fun q j hm => ⟨hm, T.cell q j (S.live q j hm)⟩, S.fr.old⟩ (fun q j hm => Nat.lt_of_lt_of_le (S.live q j hm) T.size)⟩
          · have hne : L ≠ N := fun e => by
              subst e
              unfold isNm at hp
              simp [Nat.beq_refl] at hp
            show (if L = N then none else g.ow L) = some u
            rw [if_neg hne]; exact hL
          · obtain ⟨hne, hL⟩ := hoN L u hL
            obtain ⟨k, ys, h8, h9⟩ := S.ow.row L u hL
            refine ⟨k, ys, ownsRow_block h8 fun q hq => T.oth q (hol L u q hL hq) fun e => ?_, h9⟩
            rcases S.ow.ne L N u x hne hL h6 with h | h
            · rw [h] at hq; cases hq
            · exact h (hq.trans e.symm)
          · exact S.ow.ne L L' u u' hne (hoN L u hL).2 (hoN L' u' hL').2
          · exact S.bx.ow L u q (hoN L u hL).2 hq
          · exact S.owB L u q (hoN L u hL).2 hq
          · rw [T.oth k (Nat.lt_of_lt_of_le hk S.fr.size) fun h => ?_]
            · exact S.fr.block k hk hD
            · rcases S.owB N x k h6 h with h2 | h2
              · exact hD h2
              · omega
      · cases h
    · cases h
  fn := ⟨Tryd.f35, by kernel_rfl, by kernel_rfl, of_decide_eq_true (by kernel_rfl)⟩
end AX
end Go.Proofs.YtfbicbgdfcbhpaaDoor
