/-
  PRepeat.
-/
import Derived.Test.YtnkppakkeobegaaGreatDoorZP37
import Derived.Laws.CopyRow
import Derived.Laws.CopyOwn
import Derived.Laws.MakeOwn
set_option maxRecDepth 20000
set_option linter.unusedVariables false
set_option linter.unusedSimpArgs false
set_option linter.unusedSectionVars false
namespace Go.Proofs.YtnkppakkeobegaaGreatDoor
open Go.ChangeShapes Go.WideShapes Go.ChangeAt Go.RowKit
namespace AX
section
variable {P : Program}
theorem run_copy_rowN (w : World) (dT sT ty elem : TypeId) (sz n : Nat) (g o dLen dCap : Nat) (a : Addr) (sLen sCap : Nat) (cur : Array Value) (t : TypeId) (cs : List Value)
 (hu : P.underlying dT = some (.slice elem)) (hs : (P.info? elem).map (·.size) = some sz)
 (hg : w.heap[g]? = some (.cells cur t (0, 0))) (hn : n = Nat.min sLen dLen) (hcl : cs.length = n * sz)
 (hsrc : ∀ j v, cs[j]? = some v → w.cell? (a.add j) = some v) (hfit : o + cs.length ≤ cur.size) (h1 : ∀ v ∈ cs, v.oneCell' = true) :
 (Builtin.copy_ #[dT, sT] ty #[.slice (some ⟨g, o, none⟩) dLen dCap, .slice (some a) sLen sCap]).run P w =
  .ok (goInt n) (w.setRow g (cur.toList.take o ++ cs ++ cur.toList.drop (o + cs.length)).toArray) := by
 have hl := run_loadCells_list (P := P) w a cs hsrc
 have hst := run_storeCells_at P g o t cs 0 cur w hg (by simpa using hfit) h1
 rw [hcl] at hl
 cases hq : P.info? elem with
 | none => simp [hq] at hs
 | some i =>
  have hi : i.size = sz := by simpa [hq] using hs
  simp [Builtin.copy_, run_underlying hu, Builtin.lenOf, Builtin.firstCells, sizeOf, typeInfo, hq, hi, ← hn, hl, hst]
end
end AX
theorem infoReplyP : (Tryz.prog.info? 39).map (fun i => (i.zero, i.size, i.bytes)) = some (some (.agg #[.int .i64 0, .string ⟨#[]⟩, .slice none 0 0]), 3, 48) := by kernel_rfl
def repV (u : List Value) (n : Nat) : List Value := (List.replicate n u).flatten
theorem repV_len {u : List Value} (hu : u.length = 3) : ∀ n, (repV u n).length = n * 3
 | 0 => rfl
 | n + 1 => by unfold repV; rw [List.replicate_succ, List.flatten_cons, List.length_append, hu]; have := repV_len hu n; unfold repV at this; omega
theorem repV_add (u : List Value) (a b : Nat) : repV u (a + b) = repV u a ++ repV u b := by
 unfold repV; rw [← List.flatten_append, List.replicate_append_replicate]
theorem repV_mem {u : List Value} {n : Nat} {v : Value} (h : v ∈ repV u n) : v ∈ u := by
 unfold repV at h
 obtain ⟨l, h1, h2⟩ := List.mem_flatten.1 h
 rw [List.mem_replicate] at h1; rw [← h1.2]; exact h2
def RelRp (u : List Value) (n : Nat) (w : World) (k : Nat) (wr : World) : Prop :=
 Below w.heap.size w wr ∧ ∃ cur : List Value, Hid (wr.heap[w.heap.size]? = some (.cells cur.toArray 39 (0, 0))) ∧ cur.length = n * 3 ∧ Hid (cur.take (k * 3) = repV u k)
theorem RelRp.app {u : List Value} {n k : Nat} {w wr : World} (h : RelRp u n w k wr) (hs : w.heap.size < wr.heap.size) (bs : Array Obj) (d : Nat) : RelRp u n w k (app wr bs d) := by
 obtain ⟨h1, cur, h2, h3, h4⟩ := h
 exact ⟨h1.app h1.size bs d, cur, (app_heap _ _ _ _ hs).trans h2.out, h3, h4⟩
theorem splice_take {cur cs : List Value} {o : Nat} (h : o + cs.length ≤ cur.length) : (splice cur o cs).take (o + cs.length) = cur.take o ++ cs := by
 unfold splice
 rw [← List.append_assoc, List.take_append_of_le_length (by simp; omega), List.take_of_length_le (by simp; omega)]
theorem repeat_calls (w : World) (b off cap n : Nat) (u : List Value) (hu : u.length = 3) (hb : b < w.heap.size) (hsrc : ∀ j v, u[j]? = some v → w.cell? ⟨b, off + j, none⟩ = some v) (h1 : ∀ v ∈ u, v.oneCell' = true) (hn : n ≤ 1000) :
 Calls Tryz.prog 68 #[.slice (some ⟨b, off, none⟩) 1 cap, .int .i64 n] w fun e w' => e = .returned (.slice (some ⟨w.heap.size, 0, none⟩) n n) ∧ RelRp u n w n w' := by
 obtain ⟨i0, hi, hz0, hz1, hz2⟩ := info_parts infoReplyP
 have hmul := fun W => Tryz.bits_Mul 1 n (by decide) (by omega) W
 have e1 : 1 * n / 18446744073709551616 = 0 := by omega
 have e2 : 1 * n % 18446744073709551616 = n := by omega
 rw [e1, e2] at hmul
 replace hmul := Lib.hid hmul
 have hsz : (Tryz.prog.info? 39).map (·.size) = some 3 := by kernel_rfl
 replace hsrc := Lib.hid hsrc
 replace h1 := Lib.hid h1
 clear e1 e2
 go_enter Tryz.func68, Tryz.ntmps68
 go_wp2_with (go_at_call 98; ((refine (hmul.out _).mono ?_); rintro r w1 ⟨rfl, rfl⟩))
 have hmk := run_make (P := Tryz.prog) w1 40 39 i0 _ Tryz.underlying40 hi hz0 .i64 .i64 n n (by omega) (by omega) (by rw [hz2]; omega) (by omega)
 rw [hmk, Int.toNat_natCast, hz1]
 obtain ⟨Z, hZ, hZs⟩ : ∃ Z, madeCells (Value.agg #[.int .i64 0, .string ⟨#[]⟩, .slice none 0 0]).cells (n * 3) = Z ∧ Z.size = n * 3 := ⟨_, rfl, size_madeCells _ _⟩
 rw [hZ]
 obtain ⟨cur⟩ := Z
 have hcl : cur.length = n * 3 := by simpa using hZs
 clear hmk hZ hZs
 replace hsrc := fun (W : World) (hW : Below w1.heap.size w1 W) j v (hj : u[j]? = some v) => (hW.cell (p := ⟨b, off + j, none⟩) hb).trans (hsrc.out j v hj)
 replace hsrc := Lib.hid hsrc
 replace hcl := Lib.hid hcl
 go_wp2
 obtain ⟨m, hm⟩ : ∃ m, m = Nat.min 1 n := ⟨_, rfl⟩
 have hm1 : m ≤ 1 ∧ m ≤ n ∧ (m = 0 → n = 0) := by rw [hm]; exact ⟨Nat.min_le_left .., Nat.min_le_right .., fun h => by rcases Nat.le_total 1 n with h2 | h2 <;> simp [Nat.min_eq_left, Nat.min_eq_right, h2] at h <;> omega⟩
 have hBa : Below w1.heap.size w1 (w1.alloc (.cells ⟨cur⟩ 39)) := (Below.refl _ _).alloc (Nat.le_refl _) _
 have hcp := AX.run_copy_rowN (P := Tryz.prog) (w1.alloc (.cells ⟨cur⟩ 39)) 40 40 3 39 3 m w1.heap.size 0 n n ⟨b, off, none⟩ 1 cap ⟨cur⟩ 39 (repV u m) Tryz.underlying40 hsz (heap_alloc_new _ _) hm (repV_len hu _)
  (fun j v hj => by
   rw [Addr.add_lit]
   refine hsrc.out _ hBa j v ?_
   rcases Nat.lt_or_ge 0 m with h0 | h0
   · have e : m = 1 := by omega
     rw [e] at hj; simpa [repV] using hj
   · have e : m = 0 := by omega
     rw [e] at hj; simp [repV] at hj)
  (by rw [repV_len hu]; have := hcl.out; show 0 + m * 3 ≤ cur.length; omega) (fun v hv => h1.out v (repV_mem hv))
 rw [hcp]
 have hR : RelRp u n w1 m ((w1.alloc (.cells ⟨cur⟩ 39)).setRow w1.heap.size ((⟨cur⟩ : Array Value).toList.take 0 ++ repV u m ++ (⟨cur⟩ : Array Value).toList.drop (0 + (repV u m).length)).toArray) := by
  have hl := hcl.out
  have hrl := repV_len hu m
  refine ⟨below_setRow hBa (Nat.le_refl _) _, cur.take 0 ++ repV u m ++ cur.drop (0 + (repV u m).length), setRow_heap _ _ _ _ _ _ (heap_alloc_new _ _), ?_, ?_⟩
  · simp only [List.take_zero, List.nil_append, List.length_append, List.length_drop, hrl]; omega
  · show _ = _
    rw [List.take_zero, List.nil_append, ← hrl]; exact List.take_left
 generalize (w1.alloc (.cells ⟨cur⟩ 39)).setRow w1.heap.size ((⟨cur⟩ : Array Value).toList.take 0 ++ repV u m ++ (⟨cur⟩ : Array Value).toList.drop (0 + (repV u m).length)).toArray = w2 at *
 clear hcp hcl hBa hm
 replace hR := Lib.hid hR
 go_wp2
 go_loopw [8] (fun i wr => ∃ k : Nat, k ≤ n ∧ (k = 0 → n = 0) ∧ i = .int .i64 k ∧ RelRp u n w1 k wr) (fun i _ => n - (intOf i).toNat)
 case atStart => exact ⟨m, hm1.2.1, hm1.2.2, rfl, hR.out⟩
 case round =>
  obtain ⟨k, hk1, hk2, rfl, hbw, cu, hg, hcl, htk⟩ := hrel
  clear hR hm1 hmul
  by_cases hlt : k < n
  · have hlti : (k : Int) < n := by omega
    have hlei : (k : Int) ≤ n := by omega
    have hsw := hbw.size
    have hgs : w1.heap.size < wr.heap.size := (Array.getElem?_eq_some_iff.1 hg.out).1
    obtain ⟨m, hm⟩ : ∃ m, m = Nat.min k (n - k) := ⟨_, rfl⟩
    have hm1 : m ≤ k ∧ m ≤ n - k ∧ 0 < m := by
     refine ⟨by rw [hm]; exact Nat.min_le_left .., by rw [hm]; exact Nat.min_le_right .., ?_⟩
     rw [hm]; have : 0 < k := by omega
     exact Nat.lt_min.2 ⟨this, by omega⟩
    have hrl := repV_len hu m
    have hcu : ∀ j v, (repV u m)[j]? = some v → cu[j]? = some v := fun j v hj => by
     have h0 := (List.getElem?_eq_some_iff.1 hj).1
     have e : repV u k = repV u m ++ repV u (k - m) := by rw [← repV_add]; congr 1; omega
     have h2 : (cu.take (k * 3))[j]? = some v := by rw [htk.out, e, List.getElem?_append_left h0]; exact hj
     rw [List.getElem?_take, if_pos (by omega)] at h2
     exact h2
    have hcp := fun (bs : Array Obj) (d : Nat) => AX.run_copy_rowN (P := Tryz.prog) (app wr bs d) 40 40 3 39 3 m w1.heap.size (k * 3) (n - k) (n - k) ⟨w1.heap.size, 0, none⟩ k n cu.toArray 39 (repV u m) Tryz.underlying40 hsz ((app_heap _ _ _ _ hgs).trans hg.out) hm hrl
     (fun j v hj => by
      rw [Addr.add_lit, Nat.zero_add, cell_of_row _ _ _ _ _ _ ((app_heap _ _ _ _ hgs).trans hg.out)]
      simpa using hcu j v hj)
     (by rw [hrl]; show k * 3 + m * 3 ≤ cu.toArray.size; simp; omega) (fun v hv => h1.out v (repV_mem hv))
    have hX : ∀ bs d, (app wr bs d).setRow w1.heap.size (cu.toArray.toList.take (k * 3) ++ repV u m ++ cu.toArray.toList.drop (k * 3 + (repV u m).length)).toArray = app (rd wr w1.heap.size (splice cu (k * 3) (repV u m)).toArray) bs d := fun bs d => by
     rw [← rd_app _ _ _ _ _ hgs]
     show (app wr bs d).setRow _ _ = (app wr bs d).setRow _ _
     congr 2
     simp [splice]
    simp only [hX] at hcp
    have hend : RelRp u n w1 (k + m) (rd wr w1.heap.size (splice cu (k * 3) (repV u m)).toArray) := by
     refine ⟨below_setRow hbw (Nat.le_refl _) _, splice cu (k * 3) (repV u m), setRow_heap _ _ _ _ _ _ hg.out, by rw [length_splice _ _ _ (by rw [hrl]; omega)]; exact hcl, ?_⟩
     show _ = _
     have e : (k + m) * 3 = k * 3 + (repV u m).length := by rw [hrl]; omega
     rw [e, splice_take (by rw [hrl]; omega), htk.out, ← repV_add]
    replace hcp := Lib.hid hcp
    replace hend := Lib.hid hend
    clear hX hcu hrl hsrc h1 htk
    go_wp2
    refine wp_apped ?_
    (apply wp_region_ph1 10; kernel_rfl; (intro Fin hFin; (repeat (first | (apply ph_here_none; exact rfl; exact rfl; exact rfl; (focus (intro bs d hF K hK; go_step; first  | (refine hK _ ?_; (repeat' (first | (with_reducible exact Below.refl _ _) | (with_reducible refine Below.app ?_ ?_ _ _) | (with_reducible refine Below.alloc ?_ ?_ _) | (with_reducible refine Below.drew ?_) | (with_reducible refine Below.setCell ?_ ?_ _) | (with_reducible assumption) | omega | (simp; omega) | (simp; done))); done)))) | (apply ph_wr_none; exact rfl; exact rfl; exact rfl; (focus (intro bs d hF K hK; go_step; first | (rw [hcp.out]; simp only [Result.andThen_ok]; exact hK _ _ ⟨#[], Array.append_empty.symm⟩) | exact hK _ _ ⟨#[], Array.append_empty.symm⟩)); exact rfl; (focus (first | rfl | (simp; done) | (simp [World.setCell]; done)))) | (apply ph_any; exact rfl; (focus (intro wq hF K hK; go_step; first  | (refine hK _ ?_; exact Below.refl _ _))); (try simp only [Act.put, List.setIfInBounds_toArray, List.set_cons_zero, List.set_cons_succ])) | (apply ph_here; exact rfl; exact rfl; (focus (intro bs d hF K hK; go_step; first  | (refine hK _ ?_; (repeat' (first | (with_reducible exact Below.refl _ _) | (with_reducible refine Below.app ?_ ?_ _ _) | (with_reducible refine Below.alloc ?_ ?_ _) | (with_reducible refine Below.drew ?_) | (with_reducible refine Below.setCell ?_ ?_ _) | (with_reducible assumption) | omega | (simp; omega) | (simp; done))); done))); (try simp only [Act.put, List.setIfInBounds_toArray, List.set_cons_zero, List.set_cons_succ])) | (apply ph_wr; exact rfl; exact rfl; (focus (intro bs d hF K hK; go_step; first | (rw [hcp.out]; simp only [Result.andThen_ok]; exact hK _ _ ⟨#[], Array.append_empty.symm⟩) | exact hK _ _ ⟨#[], Array.append_empty.symm⟩)); exact rfl; (focus (first | rfl | (simp; done) | (simp [World.setCell]; done))); (try simp only [Act.put, List.setIfInBounds_toArray, List.set_cons_zero, List.set_cons_succ])) | (apply ph_skip_none; exact rfl; exact rfl) | (apply ph_skip; exact rfl; (try simp only [Act.put, List.setIfInBounds_toArray, List.set_cons_zero, List.set_cons_succ])))); apply ph_end; refine hFin _ _ _ _ _ rfl ?_; clear hFin Fin; intro hpsz bs d hfa; clear hpsz); rotate_left; kernel_rfl)
    replace hend := hend.out.app (by rw [rd_size]; exact hgs) bs d
    clear hcp hg
    go_wp2
    case roundEnd =>
     go_roundw
     case rel => exact ⟨k + m, by omega, fun h => by omega, by go_num, hend⟩
     case measure => simp [intOf]; omega
  · have hlti : ¬ (k : Int) < n := by omega
    obtain rfl : k = n := by omega
    go_wp2
    go_returns
    exact ⟨rfl, hbw, cu, hg, hcl, htk⟩
namespace AX
theorem rep_rd {M : Mem} {w : World} {u : List Value} {cs : List Cell} (hl : u.length = cs.length) (h : ∀ (i : Nat) x c, u[i]? = some x → cs[i]? = some c → Rd M w x c) : ∀ n (i : Nat) x c, (repV u n)[i]? = some x → (List.replicate n cs).flatten[i]? = some c → Rd M w x c
 | 0, i, x, c, h1, _ => by simp [repV] at h1
 | n + 1, i, x, c, h1, h2 => by
  have e1 : repV u (n + 1) = u ++ repV u n := by unfold repV; rw [List.replicate_succ, List.flatten_cons]
  rw [e1] at h1
  rw [List.replicate_succ, List.flatten_cons] at h2
  by_cases hi : i < u.length
  · rw [List.getElem?_append_left hi] at h1
    rw [List.getElem?_append_left (by omega)] at h2
    exact h i x c h1 h2
  · rw [List.getElem?_append_right (by omega)] at h1
    rw [List.getElem?_append_right (by omega), ← hl] at h2
    exact rep_rd hl h n _ x c h1 h2
theorem rep_flen {α : Type} {cs : List α} : ∀ n, (List.replicate n cs).flatten.length = n * cs.length
 | 0 => by simp
 | n + 1 => by rw [List.replicate_succ, List.flatten_cons, List.length_append, rep_flen n, Nat.succ_mul]; omega
theorem pRepeat_ok : PrimOk Tryz.prog 68 pRepeat := by
  refine ⟨fun args v h M w vals hI hl hA => ?_, ⟨Tryz.f68, by kernel_rfl, by kernel_rfl, of_decide_eq_true (by kernel_rfl)⟩⟩
  unfold pRepeat at h
  split at h
  · rename_i c n
    cases c with
    | sl nm s cs =>
     cases nm with
     | some _ => cases h
     | none =>
      replace h : (bif Nat.beq s 3 && (Nat.beq cs.length 3 && (decide (0 ≤ n) && decide (n ≤ 1000))) then some (AV.one (.sl none 3 (List.replicate n.toNat cs).flatten)) else none) = some v := h
      obtain ⟨hd, rfl⟩ := bif_some h
      rw [Bool.and_eq_true, Bool.and_eq_true, Bool.and_eq_true, decide_eq_true_eq, decide_eq_true_eq] at hd
      obtain ⟨hd1, hd2, hd3, hd4⟩ := hd
      obtain rfl := Nat.eq_of_beq_eq_true hd1
      have hc3 := Nat.eq_of_beq_eq_true hd2
      obtain ⟨k, rfl⟩ : ∃ k : Nat, n = k := ⟨n.toNat, by omega⟩
      rw [Int.toNat_natCast]
      obtain ⟨x, y, rfl, hx, hy⟩ := hA.two
      have hx : Rd M w x (.sl none 3 cs) := Rc.dataSl hx
      obtain rfl := Rc.int_inv hy
      cases hx with
      | slN => simp at hc3
      | sl0 a cap => simp at hc3
      | sl b off len cap sz f cs h1 h2 h3 h4 h5 =>
        obtain rfl : len = 1 := by omega
        have hu3 : [f 0, f 1, f 2].length = 3 := rfl
        have hsrc : ∀ j v, [f 0, f 1, f 2][j]? = some v → w.cell? ⟨b, off + j, none⟩ = some v ∧ v = f j ∧ j < 3 := fun j v hj => by
          have hj3 : j < 3 := (List.getElem?_eq_some_iff.1 hj).1
          have e : v = f j := by
            match j, hj3, hj with
            | 0, _, hj => simpa using hj.symm
            | 1, _, hj => simpa using hj.symm
            | 2, _, hj => simpa using hj.symm
          rw [e]
          exact ⟨(h4 j (by omega)).2, rfl, hj3⟩
        have hrd : ∀ (i : Nat) x c, [f 0, f 1, f 2][i]? = some x → cs[i]? = some c → Rd M w x c := fun i x c hx hc => by
          rw [(hsrc i x hx).2.1]; exact h5 i c hc
        have h1c : ∀ v ∈ [f 0, f 1, f 2], v.oneCell' = true := fun v hv => by
          obtain ⟨j, hj⟩ := List.getElem?_of_mem hv
          have h6 := hsrc j v hj
          have h7 : j < cs.length := by omega
          rw [h6.2.1]
          exact (h5 j _ (List.getElem?_eq_getElem h7)).one
        refine (repeat_calls w b off cap k _ hu3 (World.block_lt_of_cell? w _ (h4 0 (by omega)).2) (fun j v hj => (hsrc j v hj).1) h1c (by omega)).mono fun e w' ⟨k1, k2⟩ => ?_
        obtain ⟨k3, cur, k4, k5, k6⟩ := k2
        have k7 : cur = repV [f 0, f 1, f 2] k := by rw [← k6.out, List.take_of_length_le (by omega)]
        have k4 := k4.out
        refine ⟨_, ⟨fun c j => M c j ∨ (c = w.heap.size ∧ j < k * 3), M.gx, M.gw⟩, k1, ⟨k3, fun _ _ h => .inl h, fun c j hk h => h.elim id fun h => by omega, fun c j h => h.elim (fun h => Nat.lt_of_lt_of_le (hl c j h) k3.size) fun h => by rw [h.1]; exact (Array.getElem?_eq_some_iff.1 k4).1, rfl, rfl⟩, .data ?_⟩
        have hkp : Kp M w ⟨fun c j => M c j ∨ (c = w.heap.size ∧ j < k * 3), M.gx, M.gw⟩ w' := ⟨fun b j hb => ⟨.inl hb, k3.cell (p := ⟨b, j, none⟩) (hl b j hb)⟩, List.prefix_refl _⟩
        have hfl : (List.replicate k cs).flatten.length = k * 3 := by rw [rep_flen, hc3]
        refine .sl w.heap.size 0 k k 3 (fun i => cur.getD i undef) _ (by decide) hfl (Nat.le_refl _) (fun i hi => ?_) fun i c hc => ?_
        · refine ⟨.inr ⟨rfl, by omega⟩, ?_⟩
          rw [Nat.zero_add, cell_of_row w' w.heap.size i _ _ _ k4]
          have hi' : i < cur.length := by omega
          simp [List.getD, List.getElem?_eq_getElem hi']
        · have hi' : i < cur.length := by have := (List.getElem?_eq_some_iff.1 hc).1; omega
          have e2 : cur.getD i undef = cur[i] := by simp [List.getD, List.getElem?_eq_getElem hi']
          rw [e2]
          refine (rep_rd (u := [f 0, f 1, f 2]) (by rw [hu3, hc3]) hrd k i _ c ?_ hc).kept hkp
          rw [← k7]; exact List.getElem?_eq_getElem hi'
    | _ => cases h
  · cases h
end AX
end Go.Proofs.YtnkppakkeobegaaGreatDoor
