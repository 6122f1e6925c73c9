/-
  DsnRepl.
-/
import Derived.Test.YteahkgbnfbjkhaaGreatDoorRe13
import Derived.Test.YteahkgbnfbjkhaaGreatDoorRe14
import Derived.Test.YteahkgbnfbjkhaaGreatDoorRe03
import Derived.Test.YteahkgbnfbjkhaaGreatDoorRe15
set_option maxRecDepth 20000
set_option linter.unusedVariables false
set_option linter.unusedSimpArgs false
set_option linter.unusedSectionVars false
namespace Go.Proofs.YteahkgbnfbjkhaaGreatDoor
open Go.ChangeShapes Go.WideShapes Go.ChangeAt Go.RowKit
theorem drewN_belD (n : Nat) (X : World) : Below X.heap.size X (X.drewN n) := by
 induction n with
 | zero => exact Below.refl _ _
 | succ n ih => exact ih.drew
theorem bytesOf_natD (l : List UInt8) : Lib.bytesOf (l.map fun c => (c.toNat : Int)) = l := by
 unfold Lib.bytesOf
 rw [List.map_map]
 conv => rhs; rw [← List.map_id l]
 exact List.map_congr_left fun c _ => by simp
theorem bytes_atD {w : World} {q : Option Addr} {cap : Nat} {l : List UInt8} (hb : BytesAt w q cap l) {a : Addr} (hq : q = some a) : ∀ i, i < l.length → w.cell? (a.add i) = some (.int .u8 ((l.map fun c => (c.toNat : Int)).getD i 0)) := fun i hi => by
 have h0 : l ≠ [] := by intro e; subst e; simp at hi
 obtain ⟨bb, off, e1, e2, e3⟩ := hb.cell h0
 rw [hq] at e1
 injection e1 with e1
 subst e1
 rw [show (⟨bb, off, none⟩ : Addr).add i = ⟨bb, off + i, none⟩ by unfold Addr.add; split <;> simp_all, e3 i hi]
 simp [List.getD, hi]
theorem nat_smallD (l : List UInt8) : ∀ x ∈ l.map (fun c => (c.toNat : Int)), 0 ≤ x ∧ x < 256 := fun x hx => by
 obtain ⟨c, _, rfl⟩ := List.mem_map.1 hx
 have := c.toNat_lt
 omega
theorem index2_calls {w : World} {q : Option Addr} {cap g : Nat} {l : List UInt8} (hb : BytesAt w q cap l) (hl : l.length ≤ 100000000) (hs : BytesAt w (some ⟨g, 0, none⟩) 2 [13, 10]) (hw : LibAt w) :
 Calls Tryz.prog 39 #[.slice q l.length cap, .slice (some ⟨g, 0, none⟩) 2 2] w fun e w' => e = .returned (.int .i64 (Lib.index l [13, 10])) ∧ Below w.heap.size w w' := by
 obtain ⟨m, hm⟩ := hw.max
 cases q with
 | none =>
  obtain ⟨rfl, rfl⟩ := hb.nil rfl
  refine (Tryz.bytes_Index_nil (some ⟨g, 0, none⟩) 2 2 w (by omega) (fun h => by omega)).mono fun e w' ⟨h1, h2⟩ => ⟨?_, by rw [h2]; exact Below.refl _ _⟩
  rw [h1, idx_nil, if_neg (by omega)]
 | some a =>
  refine (Tryz.bytes_Index_at a ⟨g, 0, none⟩ l.length cap 2 2 (l.map fun c => (c.toNat : Int)) (([13, 10] : List UInt8).map fun c => (c.toNat : Int)) m w (by simp) (by simp) (nat_smallD l) (nat_smallD _) (bytes_atD hb rfl) (bytes_atD hs rfl) hb.cap (by omega) (by omega) hm).mono fun e w' ⟨h1, n, h2⟩ => ⟨?_, ?_⟩
  · rw [h1, bytesOf_natD, bytesOf_natD]
  · rw [h2]; exact drewN_belD _ _
theorem count2_calls {w : World} {q : Option Addr} {cap g : Nat} {l : List UInt8} (hb : BytesAt w q cap l) (hl : l.length ≤ 100000000) (hs : BytesAt w (some ⟨g, 0, none⟩) 2 [13, 10]) (hw : LibAt w) :
 Calls Tryz.prog 223 #[.slice q l.length cap, .slice (some ⟨g, 0, none⟩) 2 2] w fun e w' => e = .returned (.int .i64 ((Lib.count l [13, 10] : Nat) : Int)) ∧ Below w.heap.size w w' := by
 obtain ⟨m, hm⟩ := hw.max
 cases q with
 | none =>
  obtain ⟨rfl, rfl⟩ := hb.nil rfl
  refine (Tryz.bytes_Count_nil _ 2 2 _ (by omega) (by omega)).mono fun e w' ⟨h1, h2⟩ => ⟨?_, by rw [h2]; exact Below.refl _ _⟩
  rw [h1, show Lib.count [] [13, 10] = 0 by decide]; rfl
 | some a =>
  refine (Tryz.bytes_Count_at a ⟨g, 0, none⟩ l.length cap 2 2 (l.map fun c => (c.toNat : Int)) (([13, 10] : List UInt8).map fun c => (c.toNat : Int)) m w (by simp) (by simp) (nat_smallD l) (nat_smallD _) (bytes_atD hb rfl) (bytes_atD hs rfl) hb.cap (by omega) (by omega) (by omega) hm).mono fun e w' ⟨h1, k, h2⟩ => ⟨?_, ?_⟩
  · rw [h1, bytesOf_natD, bytesOf_natD]
  · rw [h2]; exact drewN_belD _ _
theorem copy_nothing {W : World} (p q : Option Addr) (a b c : Nat) : (Builtin.copy_ #[29, 29] 3 #[.slice p a b, .slice q 0 c]).run Tryz.prog W = .ok (.int .i64 0) W := by
 obtain ⟨i0, hi, hz0, hz1, hz2⟩ := info_parts infoByteG
 have h0 : Nat.min 0 a = 0 := Nat.zero_min a
 cases p <;> cases q <;> simp [Builtin.copy_, run_underlying Tryz.underlying29, Builtin.lenOf, Builtin.firstCells, sizeOf, typeInfo, hi, h0, loadCells, loadCellsFrom, storeCells, goInt]
theorem setRow_same {W : World} {g : Nat} {cu : Array Value} {t : TypeId} {m : Nat × Nat} (h : W.heap[g]? = some (.cells cu t m)) : W.setRow g cu = W := by
 obtain ⟨hp, tape, drawn, os, output⟩ := W
 unfold World.setRow
 congr 1
 apply Array.ext
 · simp
 · intro i h1 h2
   rw [Array.getElem_modify]
   split
   · rename_i e; subst e
     have h : hp[g]? = some (.cells cu t m) := h
     rw [(Array.getElem?_eq_some_iff.1 h).2]
   · rfl
structure RepIs (l : List UInt8) (n g : Nat) (w : World) (k ww st : Nat) (wr : World) : Prop where
 hbel : Below w.heap.size w wr
 row : ∃ cur : List Value, wr.heap[g]? = some (.cells cur.toArray 5 (0, 0)) ∧ cur.length + 2 * n = l.length ∧
  ∃ done : List UInt8, done.length = ww ∧ cur.take ww = Lib.byteCells done ∧ done ++ cutAll (n - k) (l.drop st) = cutAll n l
 hst : st = ww + 2 * k
 hle : st ≤ l.length
 hcnt : Lib.countFrom [13, 10] (l.length + 1) (l.drop st) = n - k
theorem RepIs.app {l : List UInt8} {n g k ww st : Nat} {w wr : World} (h : RepIs l n g w k ww st wr) (hs : g < wr.heap.size) (bs : Array Obj) (d : Nat) : RepIs l n g w k ww st (app wr bs d) := by
 obtain ⟨h1, ⟨cur, h2, h3, h4⟩, h5, h6, h7⟩ := h
 exact ⟨h1.app h1.size bs d, ⟨cur, (app_heap _ _ _ _ hs).trans h2, h3, h4⟩, h5, h6, h7⟩
theorem row_bytesAt {w : World} {g : Nat} {cu : List Value} {t : TypeId} {m : Nat × Nat} {l : List UInt8} (h : w.heap[g]? = some (.cells cu.toArray t m)) (hc : cu = Lib.byteCells l) : BytesAt w (some ⟨g, 0, none⟩) l.length l := by
 refine ⟨(by intro e; cases e), Nat.le_refl _, fun _ => ⟨g, 0, rfl, (Array.getElem?_eq_some_iff.1 h).1, fun i hi => ?_⟩⟩
 rw [Nat.zero_add, cell_of_row _ _ _ _ _ _ h, hc]
 simp [Lib.byteCells, hi]
theorem AX_splice_take {cur cs : List Value} {o : Nat} (h : o + cs.length ≤ cur.length) : (splice cur o cs).take (o + cs.length) = cur.take o ++ cs := by
 unfold splice
 rw [← List.append_assoc, List.take_append_of_le_length (by simp; omega), List.take_of_length_le (by simp; omega)]
theorem replace_none {w : World} {q : Option Addr} {cap g : Nat} {l : List UInt8} (hb : BytesAt w q cap l) (hl : l.length ≤ 100000000) (hs : BytesAt w (some ⟨g, 0, none⟩) 2 [13, 10]) (hw : LibAt w) (h0 : Lib.count l [13, 10] = 0) :
 Calls Tryz.prog 191 #[.slice q l.length cap, .slice (some ⟨g, 0, none⟩) 2 2, .slice none 0 0, .int .i64 (-1)] w fun e w' => ∃ p c, e = .returned (.slice p (stripC l).length c) ∧ BytesAt w' p c (stripC l) ∧ Below w.heap.size w w' := by
 have hc := Lib.hid (count2_calls hb hl hs hw)
 rw [h0] at hc
 have he : stripC l = l := strip_none l (count_zero (Nat.lt_succ_self _) h0)
 have hb2 := Lib.hid (fun (W : World) (hW : Below w.heap.size w W) => hb.below hW)
 rw [he]
 clear he hs
 go_enter Tryz.func191, Tryz.ntmps191
 go_wp2_with first
  | (go_at_call 223; ((refine hc.out.mono ?_); rintro r w1 ⟨rfl, hb1⟩))
  | (at_builtin; refine wpList_append_bytes rfl (.const (.slice none 0 0)) (.tmp 24) rfl w.heap.size (.slice none 0 0) 0 [] rfl (World.ownsRow_nil _ _ _ _) q cap l rfl (hb2.out _ hb1) ?g5 ?g6 ?_; (case g5 => omega); (case g6 => exact hb1.size); intro p4 k4 w4 hown4 hg4 _; have hb4 := own_below_grown hb1 (World.ownsRow_nil w1 w.heap.size 5 1) hg4; have hB4 := Lib.hid (own_bytesAt' (l := l) hown4 (by simp) (by simp)))
 go_returns
 exact ⟨p4, k4, by first | rfl | simp, hB4.out, hb4⟩
set_option maxHeartbeats 1000000 in
theorem replace_some {w : World} {q : Option Addr} {cap g n : Nat} {l : List UInt8} (hb : BytesAt w q cap l) (hl : l.length ≤ 100000000) (hs : BytesAt w (some ⟨g, 0, none⟩) 2 [13, 10]) (hw : LibAt w) (h0 : Lib.count l [13, 10] = n + 1) :
 Calls Tryz.prog 191 #[.slice q l.length cap, .slice (some ⟨g, 0, none⟩) 2 2, .slice none 0 0, .int .i64 (-1)] w fun e w' => ∃ p c, e = .returned (.slice p (stripC l).length c) ∧ BytesAt w' p c (stripC l) ∧ Below w.heap.size w w' := by
 have hc := Lib.hid (count2_calls hb hl hs hw)
 rw [h0] at hc
 have hcl := cutAll_len (n + 1) l _ (Nat.lt_succ_self _) h0
 obtain ⟨i0, hi, hz0, hz1, hz2⟩ := info_parts infoByteG
 have hb2 := Lib.hid (fun (W : World) (hW : Below w.heap.size w W) => hb.below hW)
 have hnz : ¬ ((n + 1 : Nat) : Int) = 0 := by omega
 have hsl : (stripC l).length = (cutAll (n + 1) l).length := by rw [cut_strip (n + 1) l _ (Nat.lt_succ_self _) h0]
 rw [hsl]
 go_enter Tryz.func191, Tryz.ntmps191
 go_wp2_with (go_at_call 223; ((refine hc.out.mono ?_); rintro r w1 ⟨rfl, hb1⟩))
 have hmk := run_make (P := Tryz.prog) w1 29 5 i0 _ Tryz.underlying29 hi hz0 .i64 .i64 ((cutAll (n + 1) l).length : Int) ((cutAll (n + 1) l).length : Int) (by omega) (by omega) (by rw [hz2]; omega) (by omega)
 rw [show ((l.length : Int) + ((n : Int) + 1) * -2) = ((cutAll (n + 1) l).length : Int) by omega, hmk, Int.toNat_natCast, hz1]
 obtain ⟨Z, hZ, hZs⟩ : ∃ Z, madeCells (Value.int .u8 0).cells ((cutAll (n + 1) l).length * 1) = Z ∧ Z.size = (cutAll (n + 1) l).length * 1 := ⟨_, rfl, size_madeCells _ _⟩
 rw [hZ]
 obtain ⟨cur⟩ := Z
 have hcl2 : cur.length = (cutAll (n + 1) l).length := by simpa using hZs
 have hst : RepIs l (n + 1) w1.heap.size w 0 0 0 (w1.alloc (.cells ⟨cur⟩ 5)) := by
  refine ⟨(hb1.alloc hb1.size _), ⟨cur, heap_alloc_new _ _, by omega, [], rfl, by simp [Lib.byteCells], by simp⟩, rfl, Nat.zero_le _, by rw [List.drop_zero]; exact h0⟩
 have hsz1 : w.heap.size ≤ w1.heap.size := hb1.size
 clear hmk hZ hZs hc hb1
 generalize w1.alloc (.cells ⟨cur⟩ 5) = w2 at hst ⊢
 replace hst := Lib.hid hst
 generalize hT : (cutAll (n + 1) l).length = T at *
 go_wp2
 go_loopw [11, 12, 13, 49] (fun a b _ d wr => ∃ k ww st : Nat, k ≤ n + 1 ∧ a = .int .i64 ww ∧ b = .int .i64 st ∧ d = .int .i64 k ∧ RepIs l (n + 1) w1.heap.size w k ww st wr) (fun _ _ _ d _ => n + 1 - (intOf d).toNat)
 case atStart => exact ⟨0, 0, 0, by omega, rfl, rfl, rfl, hst.out⟩
 case round =>
  obtain ⟨k, ww, st, hk, rfl, rfl, rfl, hR⟩ := hrel
  clear hst
  by_cases hlt : k < n + 1
  · have hlti : (k : Int) < (n : Int) + 1 := by omega
    have hle := hR.hle
    have hcap := hb.cap
    have hcnt := count_succ (l := l.drop st) (n := n - k) (f := l.length + 1) (by rw [List.length_drop]; omega) (by rw [hR.hcnt]; omega)
    have hroom := idx_room _ hcnt.1
    rw [List.length_drop] at hroom
    have hlne : l ≠ [] := by intro e; subst e; simp at hroom
    obtain ⟨bb, off, rfl, hbb, _⟩ := hb.cell hlne
    have hbr := hb.below hR.hbel
    have hcut := hbr.cut hle (Nat.le_refl l.length)
    rw [List.take_of_length_le (by rw [List.length_drop]; exact Nat.le_refl _), if_neg (by omega), Option.map_some, Addr.add_lit] at hcut
    have hI := index2_calls hcut (by rw [List.length_drop]; omega) (hs.below hR.hbel) (hw.below hR.hbel)
    rw [List.length_drop] at hI
    generalize hidx : Lib.index (l.drop st) [13, 10] = idx at *
    obtain ⟨j, rfl⟩ : ∃ j : Nat, idx = (j : Int) := ⟨idx.toNat, by omega⟩
    rw [Int.toNat_natCast] at hroom hcnt
    replace hI := Lib.hid hI
    replace hcut := Lib.hid hcut
    replace hbr := Lib.hid hbr
    replace hR := Lib.hid hR
    go_wp2_with (go_at_call 39; ((refine hI.out.mono ?_); rintro r w3 ⟨rfl, hb3⟩))
    obtain ⟨hbw, ⟨cu, hg, hcl3, done, hd1, hd2, hd3⟩, hst1, hst2, hst3⟩ := hR.out
    clear hI hbr hR
    have hsw := hbw.size
    have hgs : w1.heap.size < wr.heap.size := (Array.getElem?_eq_some_iff.1 hg).1
    have hg3 : w3.heap[w1.heap.size]? = some (.cells cu.toArray 5 (0, 0)) := (hb3.block _ hgs).trans hg
    have hgs3 : w1.heap.size < w3.heap.size := (Array.getElem?_eq_some_iff.1 hg3).1
    have hbw3 := hbw.trans (hb3.mono hsw)
    have hL := (hcut.out.below hb3).pre (t := j) (by rw [List.length_drop]; omega)
    have hLl : ((l.drop st).take j).length = j := by rw [List.length_take, List.length_drop]; omega
    have hd4 : done ++ ((l.drop st).take j ++ cutAll (n - k) ((l.drop st).drop (j + 2))) = cutAll (n + 1) l := by
     rw [← hd3, show n + 1 - k = (n - k) + 1 by omega, cutAll, hidx, Int.toNat_natCast]
    have hT2 := congrArg List.length hd4
    rw [List.length_append, List.length_append, hLl, hd1, hT] at hT2
    have hcuT : cu.length = T := by omega
    have hu8 : (Tryz.prog.info? 5).map (·.size) = some 1 := by rw [hi]; simp [hz1]
    have hcp := fun (bs : Array Obj) (d : Nat) (o : Nat) (ho : o + j ≤ T) (hdl : j ≤ T - ww) => run_copy_bytes (P := Tryz.prog) (app w3 bs d) 29 29 3 5 (Nat.min j (T - ww)) w1.heap.size o (T - ww) (T - ww) (some ⟨bb, off + st, none⟩) (cap - st) cu.toArray 5 ((l.drop st).take j) Tryz.underlying29 hu8 ((app_heap _ _ _ _ hgs3).trans hg3) (by rw [hLl]) (by rw [hLl]; exact hdl) (hL.below (Below.app (Below.refl _ _) (Nat.le_refl _) bs d)) (by rw [hLl]; simp; omega)
    rw [hLl] at hcp
    generalize hLL : (l.drop st).take j = L at *
    have hX : ∀ bs d, (app w3 bs d).setRow w1.heap.size (List.take ww cu.toArray.toList ++ Lib.byteCells L ++ List.drop (ww + j) cu.toArray.toList).toArray = app (rd w3 w1.heap.size (splice cu ww (Lib.byteCells L)).toArray) bs d := fun bs d => by
     rw [← rd_app _ _ _ _ _ hgs3]
     show (app w3 bs d).setRow _ _ = (app w3 bs d).setRow _ _
     congr 2
     simp [splice, Lib.byteCells, hLl]
    have hend : RepIs l (n + 1) w1.heap.size w (k + 1) (ww + j) (st + j + 2) (rd w3 w1.heap.size (splice cu ww (Lib.byteCells L)).toArray) := by
     have hbl : (Lib.byteCells L).length = j := by simp [Lib.byteCells, hLl]
     refine ⟨below_setRow hbw3 hsz1 _, ⟨splice cu ww (Lib.byteCells L), setRow_heap _ _ _ _ _ _ hg3, by rw [length_splice _ _ _ (by rw [hbl]; omega)]; exact hcl3, done ++ L, by rw [List.length_append, hd1, hLl], ?_, ?_⟩, by omega, by omega, ?_⟩
     · have := AX_splice_take (cur := cu) (cs := Lib.byteCells L) (o := ww) (by rw [hbl]; omega)
       rw [hbl] at this
       rw [this, hd2]; simp [Lib.byteCells]
     · rw [List.append_assoc, ← hd4, show n + 1 - (k + 1) = n - k by omega, List.drop_drop, show st + (j + 2) = st + j + 2 by omega]
     · rw [show n + 1 - (k + 1) = n - k by omega, ← hcnt.2, List.drop_drop, show st + (j + 2) = st + j + 2 by omega]
    have hnil := fun (W : World) (p : Option Addr) (a b : Nat) => copy_nothing (W := W) p none a b 0
    rcases Nat.lt_or_ge ww T with hTw | hTw
    · have hTne : ¬ T = ww := by omega
      replace hcp := fun bs d => (hcp bs d ww (by omega) (by omega)).trans (by rw [hX bs d])
      replace hcp := Lib.hid hcp
      replace hend := Lib.hid hend
      replace hnil := Lib.hid hnil
      replace hL := Lib.hid hL
      clear hcut hd1 hd2 hd3 hd4 hg hX hst1 hst2 hst3
      go_wp2
      refine wp_apped ?_
      (apply wp_region_ph1 11; kernel_rfl; (intro Fin hFin; (repeat (first | (apply ph_here_none; exact rfl; exact rfl; exact rfl; (focus (intro bs d hF K hK; go_step; first  | (refine hK _ ?_; (repeat' (first | (with_reducible exact Below.refl _ _) | (with_reducible refine Below.app ?_ ?_ _ _) | (with_reducible refine Below.alloc ?_ ?_ _) | (with_reducible refine Below.drew ?_) | (with_reducible refine Below.setCell ?_ ?_ _) | (with_reducible assumption) | omega | (simp; omega) | (simp; done))); done)))) | (apply ph_wr_none; exact rfl; exact rfl; exact rfl; (focus (intro bs d hF K hK; go_step; first | (rw [hcp.out]; simp only [Result.andThen_ok]; exact hK _ _ ⟨#[], Array.append_empty.symm⟩) | exact hK _ _ ⟨#[], Array.append_empty.symm⟩)); exact rfl; (focus (first | rfl | (simp; done) | (simp [World.setCell]; done)))) | (apply ph_any; exact rfl; (focus (intro wq hF K hK; go_step; first  | (refine hK _ ?_; exact Below.refl _ _))); (try simp only [Act.put, List.setIfInBounds_toArray, List.set_cons_zero, List.set_cons_succ])) | (apply ph_here; exact rfl; exact rfl; (focus (intro bs d hF K hK; go_step; first  | (refine hK _ ?_; (repeat' (first | (with_reducible exact Below.refl _ _) | (with_reducible refine Below.app ?_ ?_ _ _) | (with_reducible refine Below.alloc ?_ ?_ _) | (with_reducible refine Below.drew ?_) | (with_reducible refine Below.setCell ?_ ?_ _) | (with_reducible assumption) | omega | (simp; omega) | (simp; done))); done))); (try simp only [Act.put, List.setIfInBounds_toArray, List.set_cons_zero, List.set_cons_succ])) | (apply ph_wr; exact rfl; exact rfl; (focus (intro bs d hF K hK; go_step; first | (rw [hcp.out]; simp only [Result.andThen_ok]; exact hK _ _ ⟨#[], Array.append_empty.symm⟩) | exact hK _ _ ⟨#[], Array.append_empty.symm⟩)); exact rfl; (focus (first | rfl | (simp; done) | (simp [World.setCell]; done))); (try simp only [Act.put, List.setIfInBounds_toArray, List.set_cons_zero, List.set_cons_succ])) | (apply ph_skip_none; exact rfl; exact rfl) | (apply ph_skip; exact rfl; (try simp only [Act.put, List.setIfInBounds_toArray, List.set_cons_zero, List.set_cons_succ])))); apply ph_end; refine hFin _ _ _ _ _ rfl ?_; clear hFin Fin; intro hpsz bs d hfa; clear hpsz); rotate_left; kernel_rfl)
      replace hend := Lib.hid (hend.out.app (by rw [rd_size]; exact hgs3) bs d)
      clear hcp
      by_cases hTj : ww + j = T
      · go_wp2
        rw [hnil.out]
        go_wp2
        all_goals go_roundw
        case rel => exact ⟨k + 1, ww + j, st + j + 2, by omega, by go_num, by go_num, by go_num, hend.out⟩
        case measure => simp [intOf]; omega
      · go_wp2
        rw [hnil.out]
        go_wp2
        all_goals go_roundw
        case rel => exact ⟨k + 1, ww + j, st + j + 2, by omega, by go_num, by go_num, by go_num, hend.out⟩
        case measure => simp [intOf]; omega
    · obtain rfl : j = 0 := by omega
      obtain rfl : L = [] := List.eq_nil_of_length_eq_zero hLl
      have hTe : ww = T := by omega
      have hw3 : rd w3 w1.heap.size (splice cu ww (Lib.byteCells [])).toArray = w3 := by
       have e : splice cu ww (Lib.byteCells []) = cu := by simp [splice, Lib.byteCells]
       rw [e]; exact setRow_same hg3
      rw [hw3] at hend
      replace hend := Lib.hid hend
      have hnil0 := Lib.hid (fun (W : World) (p q : Option Addr) (a b c : Nat) => copy_nothing (W := W) p q a b c)
      clear hcp hcut hd1 hd2 hd3 hd4 hg hX hst1 hst2 hst3 hw3 hL hnil
      go_wp2
      refine wp_apped ?_
      (apply wp_region_ph0 11; kernel_rfl; (intro Fin hFin; (repeat (first | (apply ph_here_none; exact rfl; exact rfl; exact rfl; (focus (intro bs d hF K hK; go_step; first | (rw [hnil0.out]; simp only [Result.andThen_ok]; refine hK _ ?_; (repeat' (first | (with_reducible exact Below.refl _ _) | (with_reducible refine Below.app ?_ ?_ _ _) | (with_reducible refine Below.alloc ?_ ?_ _) | (with_reducible refine Below.drew ?_) | (with_reducible refine Below.setCell ?_ ?_ _) | (with_reducible assumption) | omega | (simp; omega) | (simp; done))); done) | (refine hK _ ?_; (repeat' (first | (with_reducible exact Below.refl _ _) | (with_reducible refine Below.app ?_ ?_ _ _) | (with_reducible refine Below.alloc ?_ ?_ _) | (with_reducible refine Below.drew ?_) | (with_reducible refine Below.setCell ?_ ?_ _) | (with_reducible assumption) | omega | (simp; omega) | (simp; done))); done)))) | (apply ph_any; exact rfl; (focus (intro wq hF K hK; go_step; first | (rw [hnil0.out]; simp only [Result.andThen_ok]; refine hK _ ?_; (repeat' (first | (with_reducible exact Below.refl _ _) | (with_reducible refine Below.app ?_ ?_ _ _) | (with_reducible refine Below.alloc ?_ ?_ _) | (with_reducible refine Below.drew ?_) | (with_reducible refine Below.setCell ?_ ?_ _) | (with_reducible assumption) | omega | (simp; omega) | (simp; done))); done) | (refine hK _ ?_; exact Below.refl _ _))); (try simp only [Act.put, List.setIfInBounds_toArray, List.set_cons_zero, List.set_cons_succ])) | (apply ph_here; exact rfl; exact rfl; (focus (intro bs d hF K hK; go_step; first | (rw [hnil0.out]; simp only [Result.andThen_ok]; refine hK _ ?_; (repeat' (first | (with_reducible exact Below.refl _ _) | (with_reducible refine Below.app ?_ ?_ _ _) | (with_reducible refine Below.alloc ?_ ?_ _) | (with_reducible refine Below.drew ?_) | (with_reducible refine Below.setCell ?_ ?_ _) | (with_reducible assumption) | omega | (simp; omega) | (simp; done))); done) | (refine hK _ ?_; (repeat' (first | (with_reducible exact Below.refl _ _) | (with_reducible refine Below.app ?_ ?_ _ _) | (with_reducible refine Below.alloc ?_ ?_ _) | (with_reducible refine Below.drew ?_) | (with_reducible refine Below.setCell ?_ ?_ _) | (with_reducible assumption) | omega | (simp; omega) | (simp; done))); done))); (try simp only [Act.put, List.setIfInBounds_toArray, List.set_cons_zero, List.set_cons_succ])) | (apply ph_skip_none; exact rfl; exact rfl) | (apply ph_skip; exact rfl; (try simp only [Act.put, List.setIfInBounds_toArray, List.set_cons_zero, List.set_cons_succ])))); apply ph_end; refine hFin _ _ _ _ _ rfl ?_; clear hFin Fin; intro hpsz bs d hfa; clear hpsz); rotate_left; kernel_rfl)
      replace hend := Lib.hid (hend.out.app hgs3 bs d)
      go_wp2
      rw [hnil0.out]
      go_wp2
      all_goals go_roundw
      case rel => exact ⟨k + 1, ww + 0, st + 0 + 2, by omega, by go_num, by go_num, by go_num, hend.out⟩
      case measure => simp [intOf]; omega
  · obtain rfl : k = n + 1 := by omega
    have hstrip := cut_strip (n + 1) l _ (Nat.lt_succ_self _) h0
    obtain ⟨hbw, ⟨cu, hg, hcl3, done, hd1, hd2, hd3⟩, hst1, hst2, hst3⟩ := hR
    have hgs : w1.heap.size < wr.heap.size := (Array.getElem?_eq_some_iff.1 hg).1
    rw [Nat.sub_self, cutAll] at hd3
    have hTl : ww + (l.length - st) = T := by
     have := congrArg List.length hd3
     rw [List.length_append, List.length_drop, hd1, hT] at this
     exact this
    have hcuT : cu.length = T := by omega
    have hcap := hb.cap
    have hbr := hb.below hbw
    have hnil0 := Lib.hid (fun (W : World) (p q : Option Addr) (a b c : Nat) => copy_nothing (W := W) p q a b c)
    by_cases hTw : ww = T
    · have hls : l.length = st := by omega
      have hfin : BytesAt wr (some ⟨w1.heap.size, 0, none⟩) T (stripC l) := by
       have e : l.drop st = [] := List.drop_of_length_le (by omega)
       rw [e, List.append_nil, hstrip] at hd3
       rw [hTw, List.take_of_length_le (by omega), hd3] at hd2
       have := row_bytesAt hg hd2
       rwa [← hstrip, hT, hstrip] at this
      replace hfin := Lib.hid hfin
      replace hbw := Lib.hid hbw
      clear hg hd1 hd2 hd3 hst1 hst2 hst3 hTl hstrip hbr hb hs hw
      by_cases hcs : cap = st
      · go_wp2
        refine wp_apped ?_
        (apply wp_region_ph0 10; kernel_rfl; (intro Fin hFin; (repeat (first | (apply ph_here_none; exact rfl; exact rfl; exact rfl; (focus (intro bs d hF K hK; go_step; first | (rw [hnil0.out]; simp only [Result.andThen_ok]; refine hK _ ?_; (repeat' (first | (with_reducible exact Below.refl _ _) | (with_reducible refine Below.app ?_ ?_ _ _) | (with_reducible refine Below.alloc ?_ ?_ _) | (with_reducible refine Below.drew ?_) | (with_reducible refine Below.setCell ?_ ?_ _) | (with_reducible assumption) | omega | (simp; omega) | (simp; done))); done) | (refine hK _ ?_; (repeat' (first | (with_reducible exact Below.refl _ _) | (with_reducible refine Below.app ?_ ?_ _ _) | (with_reducible refine Below.alloc ?_ ?_ _) | (with_reducible refine Below.drew ?_) | (with_reducible refine Below.setCell ?_ ?_ _) | (with_reducible assumption) | omega | (simp; omega) | (simp; done))); done)))) | (apply ph_any; exact rfl; (focus (intro wq hF K hK; go_step; first | (rw [hnil0.out]; simp only [Result.andThen_ok]; refine hK _ ?_; (repeat' (first | (with_reducible exact Below.refl _ _) | (with_reducible refine Below.app ?_ ?_ _ _) | (with_reducible refine Below.alloc ?_ ?_ _) | (with_reducible refine Below.drew ?_) | (with_reducible refine Below.setCell ?_ ?_ _) | (with_reducible assumption) | omega | (simp; omega) | (simp; done))); done) | (refine hK _ ?_; exact Below.refl _ _))); (try simp only [Act.put, List.setIfInBounds_toArray, List.set_cons_zero, List.set_cons_succ])) | (apply ph_here; exact rfl; exact rfl; (focus (intro bs d hF K hK; go_step; first | (rw [hnil0.out]; simp only [Result.andThen_ok]; refine hK _ ?_; (repeat' (first | (with_reducible exact Below.refl _ _) | (with_reducible refine Below.app ?_ ?_ _ _) | (with_reducible refine Below.alloc ?_ ?_ _) | (with_reducible refine Below.drew ?_) | (with_reducible refine Below.setCell ?_ ?_ _) | (with_reducible assumption) | omega | (simp; omega) | (simp; done))); done) | (refine hK _ ?_; (repeat' (first | (with_reducible exact Below.refl _ _) | (with_reducible refine Below.app ?_ ?_ _ _) | (with_reducible refine Below.alloc ?_ ?_ _) | (with_reducible refine Below.drew ?_) | (with_reducible refine Below.setCell ?_ ?_ _) | (with_reducible assumption) | omega | (simp; omega) | (simp; done))); done))); (try simp only [Act.put, List.setIfInBounds_toArray, List.set_cons_zero, List.set_cons_succ])) | (apply ph_skip_none; exact rfl; exact rfl) | (apply ph_skip; exact rfl; (try simp only [Act.put, List.setIfInBounds_toArray, List.set_cons_zero, List.set_cons_succ])))); apply ph_end; refine hFin _ _ _ _ _ rfl ?_; clear hFin Fin; intro hpsz bs d hfa; clear hpsz); rotate_left; kernel_rfl)
        go_wp2
        go_returns
        exact ⟨_, _, by rw [hT]; rfl, hfin.out.below (Below.app (Below.refl _ _) (Nat.le_refl _) bs d), hbw.out.app hbw.out.size bs d⟩
      · go_wp2
        refine wp_apped ?_
        (apply wp_region_ph0 10; kernel_rfl; (intro Fin hFin; (repeat (first | (apply ph_here_none; exact rfl; exact rfl; exact rfl; (focus (intro bs d hF K hK; go_step; first | (rw [hnil0.out]; simp only [Result.andThen_ok]; refine hK _ ?_; (repeat' (first | (with_reducible exact Below.refl _ _) | (with_reducible refine Below.app ?_ ?_ _ _) | (with_reducible refine Below.alloc ?_ ?_ _) | (with_reducible refine Below.drew ?_) | (with_reducible refine Below.setCell ?_ ?_ _) | (with_reducible assumption) | omega | (simp; omega) | (simp; done))); done) | (refine hK _ ?_; (repeat' (first | (with_reducible exact Below.refl _ _) | (with_reducible refine Below.app ?_ ?_ _ _) | (with_reducible refine Below.alloc ?_ ?_ _) | (with_reducible refine Below.drew ?_) | (with_reducible refine Below.setCell ?_ ?_ _) | (with_reducible assumption) | omega | (simp; omega) | (simp; done))); done)))) | (apply ph_any; exact rfl; (focus (intro wq hF K hK; go_step; first | (rw [hnil0.out]; simp only [Result.andThen_ok]; refine hK _ ?_; (repeat' (first | (with_reducible exact Below.refl _ _) | (with_reducible refine Below.app ?_ ?_ _ _) | (with_reducible refine Below.alloc ?_ ?_ _) | (with_reducible refine Below.drew ?_) | (with_reducible refine Below.setCell ?_ ?_ _) | (with_reducible assumption) | omega | (simp; omega) | (simp; done))); done) | (refine hK _ ?_; exact Below.refl _ _))); (try simp only [Act.put, List.setIfInBounds_toArray, List.set_cons_zero, List.set_cons_succ])) | (apply ph_here; exact rfl; exact rfl; (focus (intro bs d hF K hK; go_step; first | (rw [hnil0.out]; simp only [Result.andThen_ok]; refine hK _ ?_; (repeat' (first | (with_reducible exact Below.refl _ _) | (with_reducible refine Below.app ?_ ?_ _ _) | (with_reducible refine Below.alloc ?_ ?_ _) | (with_reducible refine Below.drew ?_) | (with_reducible refine Below.setCell ?_ ?_ _) | (with_reducible assumption) | omega | (simp; omega) | (simp; done))); done) | (refine hK _ ?_; (repeat' (first | (with_reducible exact Below.refl _ _) | (with_reducible refine Below.app ?_ ?_ _ _) | (with_reducible refine Below.alloc ?_ ?_ _) | (with_reducible refine Below.drew ?_) | (with_reducible refine Below.setCell ?_ ?_ _) | (with_reducible assumption) | omega | (simp; omega) | (simp; done))); done))); (try simp only [Act.put, List.setIfInBounds_toArray, List.set_cons_zero, List.set_cons_succ])) | (apply ph_skip_none; exact rfl; exact rfl) | (apply ph_skip; exact rfl; (try simp only [Act.put, List.setIfInBounds_toArray, List.set_cons_zero, List.set_cons_succ])))); apply ph_end; refine hFin _ _ _ _ _ rfl ?_; clear hFin Fin; intro hpsz bs d hfa; clear hpsz); rotate_left; kernel_rfl)
        go_wp2
        go_returns
        exact ⟨_, _, by rw [hT]; rfl, hfin.out.below (Below.app (Below.refl _ _) (Nat.le_refl _) bs d), hbw.out.app hbw.out.size bs d⟩
    · have hlne : l ≠ [] := by intro e; subst e; simp at hTl; exact hTw hTl
      obtain ⟨bb, off, rfl, hbb, _⟩ := hb.cell hlne
      have hcut := hbr.cut hst2 (Nat.le_refl l.length)
      rw [List.take_of_length_le (by rw [List.length_drop]; exact Nat.le_refl _), if_neg (by omega), Option.map_some, Addr.add_lit] at hcut
      have hLl : (l.drop st).length = l.length - st := List.length_drop
      have hu8 : (Tryz.prog.info? 5).map (·.size) = some 1 := by rw [hi]; simp [hz1]
      have hcp := fun (bs : Array Obj) (d : Nat) => run_copy_bytes (P := Tryz.prog) (app wr bs d) 29 29 3 5 (Nat.min (l.length - st) (T - ww)) w1.heap.size ww (T - ww) (T - ww) (some ⟨bb, off + st, none⟩) (cap - st) cu.toArray 5 (l.drop st) Tryz.underlying29 hu8 ((app_heap _ _ _ _ hgs).trans hg) (by rw [hLl]) (by rw [hLl]; omega) (hcut.below (Below.app (Below.refl _ _) (Nat.le_refl _) bs d)) (by rw [hLl]; simp; omega)
      rw [hLl] at hcp
      have hX : ∀ bs d, (app wr bs d).setRow w1.heap.size (List.take ww cu.toArray.toList ++ Lib.byteCells (l.drop st) ++ List.drop (ww + (l.length - st)) cu.toArray.toList).toArray = app (rd wr w1.heap.size (splice cu ww (Lib.byteCells (l.drop st))).toArray) bs d := fun bs d => by
       rw [← rd_app _ _ _ _ _ hgs]
       show (app wr bs d).setRow _ _ = (app wr bs d).setRow _ _
       congr 2
       simp [splice, Lib.byteCells]
      replace hcp := fun bs d => (hcp bs d).trans (by rw [hX bs d])
      have hbl : (Lib.byteCells (l.drop st)).length = l.length - st := by simp [Lib.byteCells]
      have hfin : BytesAt (rd wr w1.heap.size (splice cu ww (Lib.byteCells (l.drop st))).toArray) (some ⟨w1.heap.size, 0, none⟩) T (stripC l) := by
       have h2 := AX_splice_take (cur := cu) (cs := Lib.byteCells (l.drop st)) (o := ww) (by rw [hbl]; omega)
       rw [hbl, hTl, List.take_of_length_le (by rw [length_splice _ _ _ (by rw [hbl]; omega)]; omega), hd2] at h2
       have h3 : splice cu ww (Lib.byteCells (l.drop st)) = Lib.byteCells (stripC l) := by rw [h2, ← hstrip, ← hd3]; simp [Lib.byteCells]
       have := row_bytesAt (setRow_heap wr w1.heap.size cu.toArray (splice cu ww (Lib.byteCells (l.drop st))).toArray _ _ hg) h3
       rwa [← hstrip, hT, hstrip] at this
      have hbw2 : Below w.heap.size w (rd wr w1.heap.size (splice cu ww (Lib.byteCells (l.drop st))).toArray) := below_setRow hbw hsz1 _
      replace hfin := Lib.hid hfin
      replace hbw2 := Lib.hid hbw2
      replace hcp := Lib.hid hcp
      have hls : st < l.length := by omega
      have hTne : ¬ T = ww := fun e => hTw e.symm
      have hcs : ¬ cap = st := by omega
      generalize hLL : l.length - st = m at *
      clear hg hd1 hd2 hd3 hst1 hst3 hstrip hbr hb hs hw hX hcut hbl
      go_wp2
      refine wp_apped ?_
      (apply wp_region_ph1 10; kernel_rfl; (intro Fin hFin; (repeat (first | (apply ph_here_none; exact rfl; exact rfl; exact rfl; (focus (intro bs d hF K hK; go_step; first  | (refine hK _ ?_; (repeat' (first | (with_reducible exact Below.refl _ _) | (with_reducible refine Below.app ?_ ?_ _ _) | (with_reducible refine Below.alloc ?_ ?_ _) | (with_reducible refine Below.drew ?_) | (with_reducible refine Below.setCell ?_ ?_ _) | (with_reducible assumption) | omega | (simp; omega) | (simp; done))); done)))) | (apply ph_wr_none; exact rfl; exact rfl; exact rfl; (focus (intro bs d hF K hK; go_step; first | (rw [hcp.out]; simp only [Result.andThen_ok]; exact hK _ _ ⟨#[], Array.append_empty.symm⟩) | exact hK _ _ ⟨#[], Array.append_empty.symm⟩)); exact rfl; (focus (first | rfl | (simp; done) | (simp [World.setCell]; done)))) | (apply ph_any; exact rfl; (focus (intro wq hF K hK; go_step; first  | (refine hK _ ?_; exact Below.refl _ _))); (try simp only [Act.put, List.setIfInBounds_toArray, List.set_cons_zero, List.set_cons_succ])) | (apply ph_here; exact rfl; exact rfl; (focus (intro bs d hF K hK; go_step; first  | (refine hK _ ?_; (repeat' (first | (with_reducible exact Below.refl _ _) | (with_reducible refine Below.app ?_ ?_ _ _) | (with_reducible refine Below.alloc ?_ ?_ _) | (with_reducible refine Below.drew ?_) | (with_reducible refine Below.setCell ?_ ?_ _) | (with_reducible assumption) | omega | (simp; omega) | (simp; done))); done))); (try simp only [Act.put, List.setIfInBounds_toArray, List.set_cons_zero, List.set_cons_succ])) | (apply ph_wr; exact rfl; exact rfl; (focus (intro bs d hF K hK; go_step; first | (rw [hcp.out]; simp only [Result.andThen_ok]; exact hK _ _ ⟨#[], Array.append_empty.symm⟩) | exact hK _ _ ⟨#[], Array.append_empty.symm⟩)); exact rfl; (focus (first | rfl | (simp; done) | (simp [World.setCell]; done))); (try simp only [Act.put, List.setIfInBounds_toArray, List.set_cons_zero, List.set_cons_succ])) | (apply ph_skip_none; exact rfl; exact rfl) | (apply ph_skip; exact rfl; (try simp only [Act.put, List.setIfInBounds_toArray, List.set_cons_zero, List.set_cons_succ])))); apply ph_end; refine hFin _ _ _ _ _ rfl ?_; clear hFin Fin; intro hpsz bs d hfa; clear hpsz); rotate_left; kernel_rfl)
      go_wp2
      go_returns
      exact ⟨_, _, by rw [hT]; first | rfl | (show Ending.returned (Value.slice (some ⟨w1.heap.size, 0, none⟩) (ww + m) T) = _; rw [hTl]), hfin.out.below (Below.app (Below.refl _ _) (Nat.le_refl _) bs d), hbw2.out.app hbw2.out.size bs d⟩
theorem replace_calls {w : World} {q : Option Addr} {cap g : Nat} {l : List UInt8} (hb : BytesAt w q cap l) (hl : l.length ≤ 100000000) (hs : BytesAt w (some ⟨g, 0, none⟩) 2 [13, 10]) (hw : LibAt w) :
 Calls Tryz.prog 191 #[.slice q l.length cap, .slice (some ⟨g, 0, none⟩) 2 2, .slice none 0 0, .int .i64 (-1)] w fun e w' => ∃ p c, e = .returned (.slice p (stripC l).length c) ∧ BytesAt w' p c (stripC l) ∧ Below w.heap.size w w' := by
 cases h : Lib.count l [13, 10] with
 | zero => exact replace_none hb hl hs hw h
 | succ n => exact replace_some hb hl hs hw h
theorem replaceAll_calls {w : World} {q : Option Addr} {cap g : Nat} {l : List UInt8} (hb : BytesAt w q cap l) (hl : l.length ≤ 100000000) (hs : BytesAt w (some ⟨g, 0, none⟩) 2 [13, 10]) (hw : LibAt w) :
 Calls Tryz.prog 136 #[.slice q l.length cap, .slice (some ⟨g, 0, none⟩) 2 2, .slice none 0 0] w fun e w' => ∃ p c, e = .returned (.slice p (stripC l).length c) ∧ BytesAt w' p c (stripC l) ∧ Below w.heap.size w w' := by
 have hr := Lib.hid (replace_calls hb hl hs hw)
 go_enter Tryz.func136, Tryz.ntmps136
 go_wp2_with (go_at_call 191; ((refine hr.out.mono ?_); rintro r w1 ⟨p, c, rfl, h1, h2⟩))
 go_returns
 exact ⟨p, c, rfl, h1, h2⟩
end Go.Proofs.YteahkgbnfbjkhaaGreatDoor
