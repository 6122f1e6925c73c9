/-
  Reader4, Builder.
-/
import Derived.Test.YteahkgbnfbjkhaaGreatDoorRe23
import Derived.Test.YteahkgbnfbjkhaaGreatDoorProg
import Derived.Test.YteahkgbnfbjkhaaGreatDoorRe00
import Derived.Test.YteahkgbnfbjkhaaGreatDoorRe15
import Derived.Lib.Builder
import Derived.Laws.Externs
import Derived.Lib.AppendStr
set_option maxRecDepth 20000
set_option linter.unusedVariables false
set_option linter.unusedSimpArgs false
set_option linter.unusedSectionVars false
namespace Go.Proofs.YteahkgbnfbjkhaaGreatDoor
open Go.ChangeShapes Go.WideShapes Go.ChangeAt Go.RowKit
theorem atomsT_drop (l : List UInt8) (j : Nat) : atomsT (l.drop j) = if l.getD j 0 = 46 then (if spanLen atomB (l.drop (j + 1)) = 0 then none else (atomsT (l.drop (j + 1 + spanLen atomB (l.drop (j + 1))))).map (spanLen atomB (l.drop (j + 1)) + 1 + ·)) else some 0 := by
 rcases Nat.lt_or_ge j l.length with h | h
 · rw [List.drop_eq_getElem_cons h, atomsT, List.drop_drop]
   simp only [List.getD_eq_getElem?_getD, List.getElem?_eq_getElem h, Option.getD_some]
 · have h0 : l.getD j 0 = 0 := by simp [List.getD, List.getElem?_eq_none h]
   rw [List.drop_of_length_le h, atomsT, h0, if_neg (by decide)]
theorem ext_none (s : ByteArray) (n : Nat) : (s.extract n (n + 0)).toList = [] := by simp
theorem ext_full {s : ByteArray} {n k : Nat} (h : n + k ≤ s.size) (h0 : 0 < k) : (s.extract n (n + k)).toList.isEmpty = false := by
 rw [List.isEmpty_eq_false_iff]; exact ext_some h h0
def RelAt (s : ByteArray) (lg : Bool) (b : Nat) (w0 : World) (n : Nat) (R : Option Nat) (wr : World) : Prop :=
 ∃ (j : Nat) (bs : Array Obj) (d : Nat), n ≤ j ∧ j ≤ s.size ∧ wr = app (rd w0 b #[.string s, .int .i64 j, .bool lg]) bs d ∧ Hid ((atomsT (s.data.toList.drop j)).map (j + ·) = R)
theorem run_atext {s : ByteArray} {m : Int} {lg : Bool} {b : Nat} {w : World} (n : Nat) (hm : m = n) (hn : n ≤ s.size) (hs : s.size ≤ 9223372036854775807) (h : RowIs w b #[.string s, .int .i64 m, .bool lg]) :
 Calls Tryz.prog 215 #[.pointer (some ⟨b, 0, none⟩), .func (.func 239) #[] #[]] w
  (After b #[.string s, .int .i64 ((n + spanLen atomB (s.data.toList.drop n) : Nat) : Int), .bool lg] (.returned (.string (s.extract n (n + spanLen atomB (s.data.toList.drop n))))) w) :=
 run_calls atomB _ enters_atext atext_calls n hm hn hs h
theorem span_size (f : UInt8 → Bool) {s : ByteArray} {n : Nat} (hn : n ≤ s.size) : n + spanLen f (s.data.toList.drop n) ≤ s.size := by have := spanLen_le f (s.data.toList.drop n); simp at this; omega
def AtPost (s : ByteArray) (lg : Bool) (b n : Nat) : Option Nat → World → Ending → World → Prop
 | some K, w => After b #[.string s, .int .i64 K, .bool lg] (.returned (.tuple #[.string (s.extract n K), .bool true])) w
 | none, w => AfterF s b (.returned (.tuple #[.string ⟨#[]⟩, .bool false])) w
theorem AtPost.yes {s : ByteArray} {lg : Bool} {b n : Nat} {w : World} {R : Option Nat} (K : Nat) (e : Ending) (w' : World) (h1 : R = some K) (h2 : After b #[.string s, .int .i64 K, .bool lg] (.returned (.tuple #[.string (s.extract n K), .bool true])) w e w') : AtPost s lg b n R w e w' := by rw [h1]; exact h2
theorem AtPost.no {s : ByteArray} {lg : Bool} {b n : Nat} {w : World} {R : Option Nat} (e : Ending) (w' : World) (h1 : R = none) (h2 : AfterF s b (.returned (.tuple #[.string ⟨#[]⟩, .bool false])) w e w') : AtPost s lg b n R w e w' := by rw [h1]; exact h2
set_option maxHeartbeats 4000000 in
theorem atoms_any {s : ByteArray} {m : Int} {lg : Bool} {b : Nat} {w : World} (n : Nat) (R : Option Nat) (hd : (atomsP (s.data.toList.drop n)).map (n + ·) = R) (hm : m = n) (hn : n ≤ s.size) (hs : s.size ≤ 9223372036854775807) (h : RowIs w b #[.string s, .int .i64 m, .bool lg]) :
 Calls Tryz.prog 197 #[.pointer (some ⟨b, 0, none⟩)] w (AtPost s lg b n R w) := by
 subst hm
 refine h.lift (fun w0 hI => ?_)
 have hyes := Lib.hid (@AtPost.yes s lg b n w0 R)
 have hno := Lib.hid (@AtPost.no s lg b n w0 R)
 have hb := hI.lt
 have hkl := span_size atomB hn
 have hl := @run_atext s n lg b (rd w0 b #[.string s, .int .i64 n, .bool lg]) n rfl hn hs (rd_row hI _)
 unfold atomsP at hd
 by_cases h0 : spanLen atomB (s.data.toList.drop n) = 0
 · rw [if_pos h0] at hd
   have hR : Hid (R = none) := hd.symm
   clear hd
   rw [h0] at hl hkl
   have ht := ext_none s n
   clear h0
   replace hl := Lib.hid hl
   go_enter Tryz.func197, Tryz.ntmps197
   go_wp2_with (go_at_call 215; ((with_reducible refine hl.out.mono ?_); rintro r w1 ⟨rfl, bs, d, rfl⟩))
   go_returns
   exact hno.out _ _ hR.out ⟨n, lg, hn, by (first | exact ⟨rfl, _, _, rfl⟩ | exact ⟨rfl, #[], _, (app_nil _).symm⟩ | (refine ⟨rfl, ?_⟩; simp only [app_app]; exact ⟨_, _, rfl⟩) | (refine ⟨rfl, of_below ?_⟩; ((repeat' (first | (with_reducible exact Below.refl _ _) | (with_reducible refine Below.app ?_ ?_ _ _) | (with_reducible refine Below.alloc ?_ ?_ _) | (with_reducible refine Below.drew ?_) | (with_reducible refine Below.setCell ?_ ?_ _) | (with_reducible assumption) | omega | (simp; omega) | (simp; done))) <;> exact Below.refl _ _)))⟩
 · rw [if_neg h0, List.drop_drop] at hd
   have hst : Hid ((atomsT (s.data.toList.drop (n + spanLen atomB (s.data.toList.drop n)))).map (n + spanLen atomB (s.data.toList.drop n) + ·) = R) := by
    unfold Hid
    rw [← hd, Option.map_map]
    congr 1
    funext x
    simp only [Function.comp]; omega
   clear hd
   have ht := ext_full hkl (by omega)
   generalize spanLen atomB (s.data.toList.drop n) = k0 at *
   clear h0
   replace hl := Lib.hid hl
   go_enter Tryz.func197, Tryz.ntmps197
   go_wp2_with (go_at_call 215; ((with_reducible refine hl.out.mono ?_); rintro r w1 ⟨rfl, bs, d, rfl⟩))
   go_loopw [14] (fun _ wr => RelAt s lg b w0 n R wr) (fun _ wr => s.size - posOf wr b)
   case atStart => exact ⟨n + k0, bs, d, by omega, hkl, rfl, hst⟩
   case round =>
    obtain ⟨j, bs2, d2, j1, j2, rfl, hr⟩ := hrel
    clear hl hst ht
    have hdt := atomsT_drop s.data.toList j
    by_cases hx : s.data.toList.getD j 0 = 46
    · have hlt := getD_46 hx
      rw [if_pos hx] at hdt
      have hnx := @take_yes s j 46 lg b (app (rd w0 b #[.string s, .int .i64 j, .bool lg]) bs2 d2) j rfl hlt (by rw [hx]; rfl) hs ((rd_row hI _).app _ _)
      have hkl2 := span_size atomB (show j + 1 ≤ s.size by omega)
      have hlb := fun bs d => @run_atext s (j + 1 : Nat) lg b (app (rd w0 b #[.string s, .int .i64 (j + 1 : Nat), .bool lg]) bs d) (j + 1) rfl hlt hs ((rd_row hI _).app _ _)
      by_cases h1 : spanLen atomB (s.data.toList.drop (j + 1)) = 0
      · rw [if_pos h1] at hdt
        have hR : Hid (R = none) := by have := hr.out; rw [hdt] at this; exact this.symm
        rw [h1] at hlb
        have ht := ext_none s (j + 1)
        clear hdt hx hr h1 hkl2
        replace hnx := Lib.hid hnx
        replace hlb := Lib.hid hlb
        go_wp2_with first
         | (go_at_call 159; ((refine hnx.out.mono ?_); rintro r w1 ⟨rfl, bs3, d3, rfl⟩))
         | (go_at_call 215; ((refine (hlb.out _ _).mono ?_); rintro r w1 ⟨rfl, bs4, d4, rfl⟩))
        go_returns
        exact hno.out _ _ hR.out ⟨j + 1, lg, hlt, by (first | exact ⟨rfl, _, _, rfl⟩ | exact ⟨rfl, #[], _, (app_nil _).symm⟩ | (refine ⟨rfl, ?_⟩; simp only [app_app]; exact ⟨_, _, rfl⟩) | (refine ⟨rfl, of_below ?_⟩; ((repeat' (first | (with_reducible exact Below.refl _ _) | (with_reducible refine Below.app ?_ ?_ _ _) | (with_reducible refine Below.alloc ?_ ?_ _) | (with_reducible refine Below.drew ?_) | (with_reducible refine Below.setCell ?_ ?_ _) | (with_reducible assumption) | omega | (simp; omega) | (simp; done))) <;> exact Below.refl _ _)))⟩
      · rw [if_neg h1] at hdt
        have hr' : Hid ((atomsT (s.data.toList.drop (j + 1 + spanLen atomB (s.data.toList.drop (j + 1))))).map (j + 1 + spanLen atomB (s.data.toList.drop (j + 1)) + ·) = R) := by
         have h0 := hr.out
         rw [hdt, Option.map_map] at h0
         unfold Hid
         rw [← h0]
         congr 1
         funext x
         simp only [Function.comp]; omega
        have ht := ext_full hkl2 (by omega)
        clear hdt hx hr
        generalize spanLen atomB (s.data.toList.drop (j + 1)) = k1 at *
        clear h1
        replace hnx := Lib.hid hnx
        replace hlb := Lib.hid hlb
        go_wp2_with first
         | (go_at_call 159; ((refine hnx.out.mono ?_); rintro r w1 ⟨rfl, bs3, d3, rfl⟩))
         | (go_at_call 215; ((refine (hlb.out _ _).mono ?_); rintro r w1 ⟨rfl, bs4, d4, rfl⟩))
        go_roundw
        case rel => first | exact ⟨j + 1 + k1, _, _, by omega, hkl2, rfl, hr'⟩ | ((repeat apply Exists.intro); refine ⟨?rl, ?fr⟩; case fr => ((repeat' apply And.intro) <;> exact rfl); case rl => exact ⟨j + 1 + k1, _, _, by omega, hkl2, rfl, hr'⟩)
        case measure => rw [posOf_rd hI, posOf_rd hI]; simp [intOf]; omega
    · rw [if_neg hx] at hdt
      have hjk : Hid (R = some j) := by have := hr.out; rw [hdt] at this; exact this.symm
      have hnx := @take_no s j 46 lg b (app (rd w0 b #[.string s, .int .i64 j, .bool lg]) bs2 d2) j rfl j2 (fun _ e => by rw [u8_int] at hx; exact hx e.symm) ((rd_row hI _).app _ _)
      clear hx hdt hr
      replace hnx := Lib.hid hnx
      go_wp2_with (go_at_call 159; ((refine hnx.out.mono ?_); rintro r w1 ⟨rfl, bs3, d3, rfl⟩))
      (apply wp_region_text 10; kernel_rfl; kernel_rfl; intro Fin hFin; (repeat (first | (apply text_run; exact rfl; (focus (intro bs d hF K hK; (repeat rw [app_app] at hK); (repeat rw [app_app]); (repeat rw [Array.append_assoc] at hK); (repeat rw [Array.append_assoc]); go_step; first  | fail  | (refine hK _ ?_; (repeat' (first | (with_reducible exact Below.refl _ _) | (with_reducible refine Below.app ?_ ?_ _ _) | (with_reducible refine Below.alloc ?_ ?_ _) | (with_reducible refine Below.drew ?_) | (with_reducible refine Below.setCell ?_ ?_ _) | (with_reducible assumption) | omega | (simp; omega) | (simp; done)))))); (try simp only [Act.put, List.setIfInBounds_toArray, List.set_cons_zero, List.set_cons_succ])) | (apply text_skip; exact rfl; (try simp only [Act.put, List.setIfInBounds_toArray, List.set_cons_zero, List.set_cons_succ])))); apply text_end; apply hFin; clear hFin Fin; intro bs d hfa)
      go_wp2
      go_returns
      exact hyes.out _ _ _ hjk.out (by (first | exact ⟨rfl, _, _, rfl⟩ | exact ⟨rfl, #[], _, (app_nil _).symm⟩ | (refine ⟨rfl, ?_⟩; simp only [app_app]; exact ⟨_, _, rfl⟩) | (refine ⟨rfl, of_below ?_⟩; ((repeat' (first | (with_reducible exact Below.refl _ _) | (with_reducible refine Below.app ?_ ?_ _ _) | (with_reducible refine Below.alloc ?_ ?_ _) | (with_reducible refine Below.drew ?_) | (with_reducible refine Below.setCell ?_ ?_ _) | (with_reducible assumption) | omega | (simp; omega) | (simp; done))) <;> exact Below.refl _ _))))
end Go.Proofs.YteahkgbnfbjkhaaGreatDoor
set_option maxRecDepth 20000
set_option linter.unusedVariables false
set_option linter.unusedSimpArgs false
set_option linter.unusedSectionVars false
namespace Go.Proofs.YteahkgbnfbjkhaaGreatDoor
open Go.ChangeShapes Go.WideShapes Go.ChangeAt Go.RowKit
theorem sizeBuilder : (Tryz.prog.info? 164).map (·.size) = some 2 := by kernel_rfl
theorem liesBuilder : liesAt Tryz.prog Tryz.prog.depth 164 (2 / Tryz.prog.cellsOf 164) 0 164 1 = true := by kernel_rfl
theorem infoByte : (Tryz.prog.info? 5).map (fun i => (i.zero, i.size, i.bytes)) = some (some (.int .u8 0), 1, 1) := by kernel_rfl
set_option maxRecDepth 20000 in
set_option maxHeartbeats 1000000 in
theorem copyCheck_used (b : Nat) (w : World) (h0 : w.cell? ⟨b, 0, none⟩ = some (.pointer (some ⟨b, 0, none⟩))) :
 Calls Tryz.prog 175 #[.pointer (some ⟨b, 0, none⟩)] w fun e w' => e = .returned (.tuple #[]) ∧ w' = w := by
 obtain ⟨j, hj, _⟩ := Option.map_eq_some_iff.1 sizeBuilder
 go_enter Tryz.func175, Tryz.ntmps175
 go_wp2
 rw [Lib.run_neq_ptr_same w _ Tryz.underlying162 hj]
 go_wp2
 go_end0
 exact ⟨rfl, rfl⟩
set_option maxRecDepth 20000 in
set_option maxHeartbeats 1000000 in
theorem copyCheck_fresh (b : Nat) (w : World) (h0 : w.cell? ⟨b, 0, none⟩ = some (.pointer none)) (hsh : w.shape? b = some (164, 2)) (hfz : w.frozen? ⟨b, 0, none⟩ = false) :
 Calls Tryz.prog 175 #[.pointer (some ⟨b, 0, none⟩)] w fun e w' => e = .returned (.tuple #[]) ∧ w' = w.setCell ⟨b, 0, none⟩ (.pointer (some ⟨b, 0, none⟩)) := by
 obtain ⟨j, hj, hjs⟩ := Option.map_eq_some_iff.1 sizeBuilder
 go_enter Tryz.func175, Tryz.ntmps175
 go_wp2
 rw [Lib.run_to_unsafe w ⟨b, 0, none⟩ Tryz.underlying162 Tryz.underlying208 hj (by rw [hjs]; decide) hsh (Nat.zero_lt_succ 1)]
 simp only [Result.andThen]
 rw [Oper.upon_value]
 go_wp2
 rw [run_callFunc_extern Tryz.func204 (by kernel_rfl) (by kernel_rfl) (by kernel_rfl) (e := Extern.AbiNoEscape.same) (by kernel_rfl)]
 rw [Lib.run_noEscape]
 simp only [Result.andThen]
 rw [Oper.upon_value]
 go_wp2
 rw [Lib.run_from_unsafe w ⟨b, 0, none⟩ Tryz.underlying208 Tryz.underlying162 hj hsh liesBuilder]
 simp only [Result.andThen]
 rw [Oper.upon_value]
 go_wp2
 go_end0
 exact ⟨rfl, rfl⟩
theorem copyCheck_calls (B b : Nat) (bs : List Value) (w : World) (h : Lib.IsBuilder 164 5 B b bs w) :
 Calls Tryz.prog 175 #[.pointer (some ⟨b, 0, none⟩)] w fun e w' => e = .returned (.tuple #[]) ∧ (Lib.BuilderAt 164 5 B b (.pointer (some ⟨b, 0, none⟩)) bs w' ∧ Below B w w') := by
 rcases h with h | h
 · refine (copyCheck_fresh b w h.cell0 h.shape h.frozen0).mono ?_
   rintro e w' ⟨rfl, rfl⟩
   exact ⟨rfl, h.used _, (Below.refl B w).setCell (p := ⟨b, 0, none⟩) h.1 _⟩
 · refine (copyCheck_used b w h.cell0).mono ?_
   rintro e w' ⟨rfl, rfl⟩
   exact ⟨rfl, h, Below.refl B _⟩
set_option maxHeartbeats 2000000 in
theorem writeString_calls (B b : Nat) (bs : List Value) (s : ByteArray) (w : World) (h : Lib.IsBuilder 164 5 B b bs w) (hlen : bs.length + s.size ≤ 140737488355328) (hBw : B ≤ w.heap.size) :
 Calls Tryz.prog 124 #[.pointer (some ⟨b, 0, none⟩), .string s] w fun e w' => e = .returned (.tuple #[.int .i64 s.size, .nilIface]) ∧ (Lib.BuilderAt 164 5 B b (.pointer (some ⟨b, 0, none⟩)) (bs ++ Lib.strCells s) w' ∧ Below B w w') := by
 obtain ⟨i0, hi, hz0, hz1, hz2⟩ := info_parts infoByte
 have hcc := Lib.hid (copyCheck_calls B b bs w h)
 go_enter Tryz.func124, Tryz.ntmps124
 go_wp2_with (go_at_call 175; refine hcc.out.mono ?_)
 rintro e w1 ⟨rfl, h1, hb1⟩
 obtain ⟨hB, v, hbk, hown, hne⟩ := h1
 have c0 : w1.cell? ⟨b, 0, none⟩ = some (.pointer (some ⟨b, 0, none⟩)) := by rw [Lib.cell_of_heap hbk]; rfl
 have c1 : w1.cell? ⟨b, 1, none⟩ = some v := by rw [Lib.cell_of_heap hbk]; rfl
 go_wp2_with (at_builtin; refine Lib.wpList_append_own_string _ rfl _ _ 29 9 rfl B 5 i0 Tryz.underlying29 Tryz.underlying9 hi hz0 hz1 hz2 _ _ _ rfl hown s rfl ?c3 ?c4 ?c5 ?_)
 case c3 => unfold maxLen; omega
 case c4 => omega
 case c5 => have := hb1.size; omega
 intro v' w2 hown' hgrow _
 have hlt : b < w1.heap.size := by
  rcases Nat.lt_or_ge b w1.heap.size with h' | h'
  · exact h'
  · simp [Array.getElem?_eq_none h'] at hbk
 have hb2 : w2.heap[b]? = some (.cells #[.pointer (some ⟨b, 0, none⟩), v] 164 (0, 0)) := by
  rw [hgrow.block b hlt (fun e => hne e.symm)]
  exact hbk
 have d0 : w2.cell? ⟨b, 0, none⟩ = some (.pointer (some ⟨b, 0, none⟩)) := by rw [Lib.cell_of_heap hb2]; rfl
 have d1 : w2.cell? ⟨b, 1, none⟩ = some v := by rw [Lib.cell_of_heap hb2]; rfl
 have f1 : w2.frozen? ⟨b, 1, none⟩ = false := Lib.frozen_of_heap hb2 1
 obtain ⟨ao, n', cap, rfl⟩ : ∃ ao n' cap, v' = .slice ao n' cap := by
  rcases hown'.2 with ⟨hv, _⟩ | ⟨g, cap, cur, hv, _⟩
  · exact ⟨_, _, _, hv⟩
  · exact ⟨_, _, _, hv⟩
 go_wp2
 go_ret2
 refine ⟨rfl, ?_, ?_⟩
 · exact Lib.BuilderAt.put (T := 164) (e := 5) hB hb2 (bs' := bs ++ Lib.strCells s) (by simpa [Lib.strCells_length] using hown') (by decide)
 · exact ((hb1.grown hgrow (by have := hb1.size; omega) (fun k hk => (hown.lt k hk).1)).setCell (p := ⟨b, 1, none⟩) hB _)
end Go.Proofs.YteahkgbnfbjkhaaGreatDoor
