/-
  RulesRepW.
-/
import Derived.Test.YteahkgbnfbjkhaaGreatDoorRe08
import Derived.Test.YteahkgbnfbjkhaaGreatDoorRe41
import Derived.Test.YteahkgbnfbjkhaaGreatDoorRe11
set_option maxRecDepth 20000
set_option linter.unusedVariables false
set_option linter.unusedSimpArgs false
set_option linter.unusedSectionVars false
namespace Go.Proofs.YteahkgbnfbjkhaaGreatDoor
open Go.ChangeShapes Go.WideShapes Go.ChangeAt Go.RowKit
theorem bytes_kept {w w' : World} {q : Option Addr} {cap b : Nat} {l : List UInt8} {zs : Array Value} {T : TypeId} {m : Nat × Nat} (h : BytesAt w q cap l) (hb : w.heap[b]? = some (.cells zs T m)) (hz : ∀ (i : Nat) (n : Int), zs[i]? ≠ some (Value.int .u8 n)) (hs : w.heap.size ≤ w'.heap.size) (hk : ∀ k, k ≠ b → k < w.heap.size → w'.heap[k]? = w.heap[k]?) : BytesAt w' q cap l := by
 refine ⟨h.nil, h.cap, fun h0 => ?_⟩
 obtain ⟨bb, off, e1, e2, e3⟩ := h.cell h0
 have hne : bb ≠ b := by
  rintro rfl
  have := e3 0 (List.length_pos_iff.2 h0)
  rw [cell_of_block hb] at this
  exact hz _ _ this
 exact ⟨bb, off, e1, by omega, fun i hi => (World.cell?_of_block (a := ⟨bb, off + i, none⟩) (hk bb hne e2)).trans (e3 i hi)⟩
theorem stored_new2 (W : World) (bs : Array Obj) (d b : Nat) (t : TypeId) (old new : Array Value) (hk : W.heap.size ≤ b) (hb : (app W bs d).heap[b]? = some (.cells old t (0, 0))) :
 ∃ cs, (app W bs d).setRow b new = app W cs d ∧ (app W cs d).heap[b]? = some (.cells new t (0, 0)) ∧ (app W bs d).heap.size ≤ (app W cs d).heap.size ∧ ∀ k, k ≠ b → k < (app W bs d).heap.size → (app W cs d).heap[k]? = (app W bs d).heap[k]? := by
 obtain ⟨cs, he, h2⟩ := stored_new W bs d b t old new hk hb
 refine ⟨cs, he, h2, ?_, fun k hne _ => ?_⟩
 · rw [← he]
   show _ ≤ ((app W bs d).heap.modify b _).size
   simp
 · rw [← he]
   show ((app W bs d).heap.modify b _)[k]? = _
   rw [Array.getElem?_modify, if_neg (fun e => hne e.symm)]
theorem zeros_no (i : Nat) (n : Int) : (#[.string ⟨#[]⟩, .string ⟨#[]⟩, .string ⟨#[]⟩, .string ⟨#[]⟩, .string ⟨#[]⟩, .string ⟨#[]⟩, .string ⟨#[]⟩, .string ⟨#[]⟩, .int .i64 0, .int .i64 0, .slice none 0 0] : Array Value)[i]? ≠ some (.int .u8 n) := by
 intro h
 have hi : i < 11 := (Array.getElem?_eq_some_iff.1 h).1
 match i, hi with
 | 0, _ => cases h
 | 1, _ => cases h
 | 2, _ => cases h
 | 3, _ => cases h
 | 4, _ => cases h
 | 5, _ => cases h
 | 6, _ => cases h
 | 7, _ => cases h
 | 8, _ => cases h
 | 9, _ => cases h
 | 10, _ => cases h
set_option maxRecDepth 20000 in
set_option maxHeartbeats 8000000 in
theorem report_walk {w : World} {host fL fD tL tD st re ids : ByteArray} {id arr now e : Int} {C : Int} {nt ns nb : Nat} {p4 p5 p6 : Option Addr} {c4 c5 c6 k b off : Nat} {hd : List UInt8} {G : Bool} {Q1 Q2 : Option (List UInt8)}
 (hp : p4 = some ⟨b, off, none⟩) (hb : b < w.heap.size) (hk : k < nt) (hnt : nt ≤ 1000)
 (e1 : w.cell? ⟨b, off + k * 3 + 1, none⟩ = some (.string tL)) (e2 : w.cell? ⟨b, off + k * 3 + 2, none⟩ = some (.string tD)) (hhd : hd.length ≤ 1000)
 (kw : ∀ W, Calls Tryz.prog 32 #[.int .i64 e] W fun r w' => r = .returned (.tuple #[.int .i64 C, .string st, .string re]) ∧ W = w')
 (ki : ∀ W, Below w.heap.size w W → Calls Tryz.prog 90 #[.int .i64 id] W fun r w' => r = .returned (.string ids) ∧ Below W.heap.size W w')
 (kl : ∀ W, Below w.heap.size w W → Calls Tryz.prog 91 #[.slice p6 nb c6] W (LinesAt hd W))
 (kg : ∀ W p c, Below w.heap.size w W → BytesAt W p c hd → Calls Tryz.prog 21 #[.agg #[.string host, .string fL, .string fD, .string tL, .string tD, .string st, .string re, .string ids, .int .i64 arr, .int .i64 now, .slice p hd.length c]] W fun r w' => r = .returned (.bool G) ∧ Below W.heap.size W w')
 (kb1 : ∀ W p c, Below w.heap.size w W → BytesAt W p c hd → Calls Tryz.prog 20 #[.agg #[.string host, .string fL, .string fD, .string tL, .string tD, .string st, .string re, .string ids, .int .i64 arr, .int .i64 now, .slice p hd.length c]] W (OutPost Q1 W))
 (kb2 : ∀ W, Below w.heap.size w W → Calls Tryz.prog 20 #[.agg #[.string host, .string fL, .string fD, .string tL, .string tD, .string st, .string re, .string ids, .int .i64 arr, .int .i64 now, .slice none 0 0]] W (OutPost Q2 W)) :
 Calls Tryz.prog 36 #[.string host, .agg #[.int .i64 id, .int .i64 arr, .string fL, .string fD, .slice p4 nt c4, .slice p5 ns c5, .slice p6 nb c6], .int .i64 k, .int .i64 now, .int .i64 e] w (RepPost (bif G then Q1 else Q2) w) := by
 subst hp
 replace kw := Lib.hid kw
 replace ki := Lib.hid ki
 replace kl := Lib.hid kl
 replace kg := Lib.hid kg
 replace kb1 := Lib.hid kb1
 replace kb2 := Lib.hid kb2
 go_enter Tryz.func36, Tryz.ntmps36
 go_wp2_with (go_at_call 32; ((refine (kw.out _).mono ?_); rintro r w1 ⟨rfl, rfl⟩))
 (apply wp_region_text 22; kernel_rfl; kernel_rfl; intro Fin hFin; (iterate 19 (first | (apply text_run; exact rfl; (focus (intro bs d hF K hK; (repeat rw [app_app] at hK); (repeat rw [app_app]); (repeat rw [Array.append_assoc] at hK); (repeat rw [Array.append_assoc]); go_step; first  | (go_at_call 90; ((with_reducible refine (ki.out _ (by (repeat' (first | (with_reducible exact Below.refl _ _) | (with_reducible refine Below.app ?_ ?_ _ _) | (with_reducible refine Below.alloc ?_ ?_ _) | (with_reducible refine Below.drew ?_) | (with_reducible refine Below.setCell ?_ ?_ _) | (with_reducible assumption) | omega | (simp; omega) | (simp; done))))).mono ?_); rintro r w1 ⟨rfl, hb⟩; simp only []; exact hK _ hb))  | (refine hK _ ?_; (repeat' (first | (with_reducible exact Below.refl _ _) | (with_reducible refine Below.app ?_ ?_ _ _) | (with_reducible refine Below.alloc ?_ ?_ _) | (with_reducible refine Below.drew ?_) | (with_reducible refine Below.setCell ?_ ?_ _) | (with_reducible assumption) | omega | (simp; omega) | (simp; done)))))); (try simp only [Act.put, List.setIfInBounds_toArray, List.set_cons_zero, List.set_cons_succ])) | (apply text_skip; exact rfl; (try simp only [Act.put, List.setIfInBounds_toArray, List.set_cons_zero, List.set_cons_succ])))); (apply text_has (fun v W => ∃ p c, v = .slice p hd.length c ∧ BytesAt W p c hd); exact rfl; exact fun _ _ _ hb ⟨p, c, h1, h2⟩ => ⟨p, c, h1, h2.below hb⟩; exact rfl; (focus (intro bs d hF K hK; (repeat rw [app_app] at hK); (repeat rw [app_app]); (repeat rw [Array.append_assoc] at hK); (repeat rw [Array.append_assoc]); go_step; (go_at_call 91; ((with_reducible refine (kl.out _ (by (repeat' (first | (with_reducible exact Below.refl _ _) | (with_reducible refine Below.app ?_ ?_ _ _) | (with_reducible refine Below.alloc ?_ ?_ _) | (with_reducible refine Below.drew ?_) | (with_reducible refine Below.setCell ?_ ?_ _) | (with_reducible assumption) | omega | (simp; omega) | (simp; done))))).mono ?_); rintro r w1 ⟨p, c, rfl, h1, h2⟩; exact hK _ _ h2 ⟨p, c, rfl, h1⟩)))); intro v; (try simp only [Act.put, factOf, List.setIfInBounds_toArray, List.set_cons_zero, List.set_cons_succ])); (apply text_has (fun v W => ∃ p c, v = .agg #[.string host, .string fL, .string fD, .string tL, .string tD, .string st, .string re, .string ids, .int .i64 arr, .int .i64 now, .slice p hd.length c] ∧ BytesAt W p c hd); exact rfl; exact fun _ _ _ hb ⟨p, c, h1, h2⟩ => ⟨p, c, h1, h2.below hb⟩; exact rfl; (focus (intro bs d hF K hK; (repeat rw [app_app] at hK); (repeat rw [app_app]); (repeat rw [Array.append_assoc] at hK); (repeat rw [Array.append_assoc]); obtain ⟨p, c, rfl, hBy⟩ := hF.1 (by kernel_rfl); go_step; exact hK _ _ (Below.refl _ _) ⟨p, c, rfl, hBy⟩)); intro v; (try simp only [Act.put, factOf, List.setIfInBounds_toArray, List.set_cons_zero, List.set_cons_succ])); (apply text_has (NewAt (w.heap.size+1) (.cells #[.string ⟨#[]⟩, .string ⟨#[]⟩, .string ⟨#[]⟩, .string ⟨#[]⟩, .string ⟨#[]⟩, .string ⟨#[]⟩, .string ⟨#[]⟩, .string ⟨#[]⟩, .int .i64 0, .int .i64 0, .slice none 0 0] 51)); exact rfl; exact NewAt.mono; exact rfl; (focus (intro bs d hF K hK; (repeat rw [app_app] at hK); (repeat rw [app_app]); (repeat rw [Array.append_assoc] at hK); (repeat rw [Array.append_assoc]); go_step; refine hK _ _ ?g1 (NewAt.app ?g2 ?g3); (case g1 => (repeat' (first | (with_reducible exact Below.refl _ _) | (with_reducible refine Below.app ?_ ?_ _ _) | (with_reducible refine Below.alloc ?_ ?_ _) | (with_reducible refine Below.drew ?_) | (with_reducible refine Below.setCell ?_ ?_ _) | (with_reducible assumption) | omega | (simp; omega) | (simp; done)))); (case g2 => (first | (simp; done) | (simp; omega))); (case g3 => omega))); intro v; (try simp only [Act.put, factOf, List.setIfInBounds_toArray, List.set_cons_zero, List.set_cons_succ])); apply text_end; apply hFin; clear hFin Fin; intro bs d hfa)
 obtain ⟨⟨bb, rfl, hbk, hblk⟩, ⟨p, c, rfl, hBy⟩, -, -⟩ := hfa
 refine wpList_store_row rfl 51 _ _ rfl bb _ rfl rfl 51 _ hblk (by kernel_rfl) rfl (by simp [Value.oneCell']) ?_
 obtain ⟨cs, he, hblk2, hsz, hoth⟩ := stored_new2 _ _ _ _ _ _ (#[.string host, .string fL, .string fD, .string tL, .string tD, .string st, .string re, .string ids, .int .i64 arr, .int .i64 now, .slice p hd.length c]) (by simpa using hbk) hblk
 have hBy2 := bytes_kept hBy hblk zeros_no hsz hoth
 rw [he]
 have hX3 : Below w.heap.size w (app (w.alloc (.cells #[.int .i64 id, .int .i64 arr, .string fL, .string fD, .slice (some ⟨b, off, none⟩) nt c4, .slice p5 ns c5, .slice p6 nb c6] 31)) cs d) := by (repeat' (first | (with_reducible exact Below.refl _ _) | (with_reducible refine Below.app ?_ ?_ _ _) | (with_reducible refine Below.alloc ?_ ?_ _) | (with_reducible refine Below.drew ?_) | (with_reducible refine Below.setCell ?_ ?_ _) | (with_reducible assumption) | omega | (simp; omega) | (simp; done)))
 clear hBy hblk hsz hoth he
 generalize hW3 : app (w.alloc (.cells #[.int .i64 id, .int .i64 arr, .string fL, .string fD, .slice (some ⟨b, off, none⟩) nt c4, .slice p5 ns c5, .slice p6 nb c6] 31)) cs d = W3 at *
 clear hW3
 have hlt : bb < W3.heap.size := (Array.getElem?_eq_some_iff.1 hblk2).1
 have fz : W3.frozen? ⟨bb, 10, none⟩ = false := free_of_block hblk2 10
 have r0 : W3.cell? ⟨bb, 0, none⟩ = some (.string host) := by exact cell_of_block hblk2 0
 have r1 : W3.cell? ⟨bb, 1, none⟩ = some (.string fL) := by exact cell_of_block hblk2 1
 have r2 : W3.cell? ⟨bb, 2, none⟩ = some (.string fD) := by exact cell_of_block hblk2 2
 have r3 : W3.cell? ⟨bb, 3, none⟩ = some (.string tL) := by exact cell_of_block hblk2 3
 have r4 : W3.cell? ⟨bb, 4, none⟩ = some (.string tD) := by exact cell_of_block hblk2 4
 have r5 : W3.cell? ⟨bb, 5, none⟩ = some (.string st) := by exact cell_of_block hblk2 5
 have r6 : W3.cell? ⟨bb, 6, none⟩ = some (.string re) := by exact cell_of_block hblk2 6
 have r7 : W3.cell? ⟨bb, 7, none⟩ = some (.string ids) := by exact cell_of_block hblk2 7
 have r8 : W3.cell? ⟨bb, 8, none⟩ = some (.int .i64 arr) := by exact cell_of_block hblk2 8
 have r9 : W3.cell? ⟨bb, 9, none⟩ = some (.int .i64 now) := by exact cell_of_block hblk2 9
 have r10 : W3.cell? ⟨bb, 10, none⟩ = some (.slice p hd.length c) := by exact cell_of_block hblk2 10
 clear hblk2 e1 e2
 replace hBy2 := Lib.hid hBy2
 have hdl : ((hd.length : Int) > 16384) = False := by simp; omega
 cases G
 · go_wp2_with first
    | (go_at_call 21; ((with_reducible refine (kg.out _ _ _ hX3 hBy2.out).mono ?_); rintro r w4 ⟨rfl, h4⟩; replace r0 := (h4.cell (p := ⟨bb, 0, none⟩) hlt).trans r0; replace r1 := (h4.cell (p := ⟨bb, 1, none⟩) hlt).trans r1; replace r2 := (h4.cell (p := ⟨bb, 2, none⟩) hlt).trans r2; replace r3 := (h4.cell (p := ⟨bb, 3, none⟩) hlt).trans r3; replace r4 := (h4.cell (p := ⟨bb, 4, none⟩) hlt).trans r4; replace r5 := (h4.cell (p := ⟨bb, 5, none⟩) hlt).trans r5; replace r6 := (h4.cell (p := ⟨bb, 6, none⟩) hlt).trans r6; replace r7 := (h4.cell (p := ⟨bb, 7, none⟩) hlt).trans r7; replace r8 := (h4.cell (p := ⟨bb, 8, none⟩) hlt).trans r8; replace r9 := (h4.cell (p := ⟨bb, 9, none⟩) hlt).trans r9; replace r10 := (h4.cell (p := ⟨bb, 10, none⟩) hlt).trans r10; replace fz := (h4.frozen (p := ⟨bb, 10, none⟩) hlt).trans fz; have hX4 := hX3.trans (h4.mono hX3.size); replace hlt := Nat.lt_of_lt_of_le hlt h4.size; have hX5 : Below w.heap.size w (w4.setCell ⟨bb, 10, none⟩ (.slice none 0 0)) := hX4.setCell (p := ⟨bb, 10, none⟩) (by show w.heap.size ≤ bb; have hbk2 : w.heap.size + 1 ≤ bb := (by first | exact hbk | simpa using hbk); omega) _; clear h4 hX3))
    | (go_at_call 20; ((with_reducible refine (kb2.out _ hX5).mono ?_); rintro r w5 h5; obtain ⟨s, n, rfl, hR⟩ := h5.rep hX5))
   go_returns
   exact hR
 · go_wp2_with first
    | (go_at_call 21; ((with_reducible refine (kg.out _ _ _ hX3 hBy2.out).mono ?_); rintro r w4 ⟨rfl, h4⟩; replace r0 := (h4.cell (p := ⟨bb, 0, none⟩) hlt).trans r0; replace r1 := (h4.cell (p := ⟨bb, 1, none⟩) hlt).trans r1; replace r2 := (h4.cell (p := ⟨bb, 2, none⟩) hlt).trans r2; replace r3 := (h4.cell (p := ⟨bb, 3, none⟩) hlt).trans r3; replace r4 := (h4.cell (p := ⟨bb, 4, none⟩) hlt).trans r4; replace r5 := (h4.cell (p := ⟨bb, 5, none⟩) hlt).trans r5; replace r6 := (h4.cell (p := ⟨bb, 6, none⟩) hlt).trans r6; replace r7 := (h4.cell (p := ⟨bb, 7, none⟩) hlt).trans r7; replace r8 := (h4.cell (p := ⟨bb, 8, none⟩) hlt).trans r8; replace r9 := (h4.cell (p := ⟨bb, 9, none⟩) hlt).trans r9; replace r10 := (h4.cell (p := ⟨bb, 10, none⟩) hlt).trans r10; have hBy4 := Lib.hid (hBy2.out.below h4); have hX4 := hX3.trans (h4.mono hX3.size); replace hlt := Nat.lt_of_lt_of_le hlt h4.size; clear h4 hX3))
    | (go_at_call 20; ((with_reducible refine (kb1.out _ _ _ hX4 hBy4.out).mono ?_); rintro r w5 h5; obtain ⟨s, n, rfl, hR⟩ := h5.rep hX4))
   go_returns
   exact hR
end Go.Proofs.YteahkgbnfbjkhaaGreatDoor
