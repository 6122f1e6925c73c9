/-
  QuotedX.
-/
import Derived.Test.YtnkppakkeobegaaGreatDoorZP38
import Derived.Test.YtnkppakkeobegaaGreatDoorZP13
set_option maxRecDepth 20000
set_option linter.unusedVariables false
set_option linter.unusedSimpArgs false
set_option linter.unusedSectionVars false
namespace Go.Proofs.YtnkppakkeobegaaGreatDoor
open Go.ChangeShapes Go.WideShapes Go.ChangeAt Go.RowKit
theorem builder_of_heap {T e : TypeId} {B b : Nat} {l : List Value} {w w' : World} (h : Lib.IsBuilder T e B b l w) (hk : ∀ k, B ≤ k → k < w.heap.size → w'.heap[k]? = w.heap[k]?) : Lib.IsBuilder T e B b l w' := by
 have key : ∀ p, Lib.BuilderAt T e B b p l w → Lib.BuilderAt T e B b p l w' := fun p ⟨h1, v, h2, ⟨h3, h4⟩, h5⟩ => by
  refine ⟨h1, v, (hk b h1 (Array.getElem?_eq_some_iff.1 h2).1).trans h2, ⟨h3, ?_⟩, h5⟩
  rcases h4 with h4 | ⟨g, cap, cur, k1, k2, k3, k4⟩
  · exact .inl h4
  · exact .inr ⟨g, cap, cur, k1, k2, (hk g k2 (Array.getElem?_eq_some_iff.1 k3).1).trans k3, k4⟩
 exact h.imp (key _) (key _)
theorem builder_move {T e : TypeId} {g b : Nat} {l : List Value} {w0 : World} {c c' : Array Value} {bs cs : Array Obj} {d d' : Nat} (h : Lib.IsBuilder T e w0.heap.size g l (app (rd w0 b c) bs d)) :
 Lib.IsBuilder T e w0.heap.size g l (app (rd w0 b c') (bs ++ cs) d') := by
 refine builder_of_heap h fun k h1 h2 => ?_
 rw [app_size, rd_size] at h2
 show ((rd w0 b c').heap ++ (bs ++ cs))[k]? = ((rd w0 b c).heap ++ bs)[k]?
 simp only [Array.getElem?_append, rd_size]
 rw [if_neg (by omega), if_pos (by omega), if_neg (by omega)]
theorem app_of_below {w0 : World} {b : Nat} {c : Array Value} {bs : Array Obj} {d : Nat} {w' : World} (h : Below w0.heap.size (app (rd w0 b c) bs d) w') : ∃ cs e, w' = app (rd w0 b c) cs e := by
 refine of_below (w := rd w0 b c) ?_
 rw [rd_size]
 exact ((Below.refl w0.heap.size (rd w0 b c)).app (by rw [rd_size]; exact Nat.le_refl _) bs d).trans h
theorem byteCells_snoc (l : List UInt8) (c : UInt8) : Lib.byteCells (l ++ [c]) = Lib.byteCells l ++ [.int .u8 (c.toNat : Int)] := by simp [Lib.byteCells]
theorem u8_int (x c : UInt8) : (x = c) = ((x.toNat : Int) = (c.toNat : Int)) := by rw [eq_iff_iff, ← UInt8.toNat_inj]; omega
def QPost (s : ByteArray) (lg : Bool) (b : Nat) (F : Nat) : Option (List UInt8 × Nat) → World → Ending → World → Prop
 | some (t, K), w => After b #[.string s, .int .i64 K, .bool lg] (.returned (.tuple #[.string ⟨t.toArray⟩, .bool true])) w
 | none, w => After b #[.string s, .int .i64 F, .bool lg] (.returned (.tuple #[.string ⟨#[]⟩, .bool false])) w
theorem QPost.yes {s : ByteArray} {lg : Bool} {b F : Nat} {w : World} {R : Option (List UInt8 × Nat)} (t : List UInt8) (K : Nat) (e : Ending) (w' : World) (h1 : R = some (t, K)) (h2 : After b #[.string s, .int .i64 K, .bool lg] (.returned (.tuple #[.string ⟨t.toArray⟩, .bool true])) w e w') : QPost s lg b F R w e w' := by rw [h1]; exact h2
theorem QPost.no {s : ByteArray} {lg : Bool} {b F : Nat} {w : World} {R : Option (List UInt8 × Nat)} (k : Nat) (e : Ending) (w' : World) (h1 : R = none) (h3 : k = F) (h2 : After b #[.string s, .int .i64 k, .bool lg] (.returned (.tuple #[.string ⟨#[]⟩, .bool false])) w e w') : QPost s lg b F R w e w' := by rw [h1, ← h3]; exact h2
def RelQ (s : ByteArray) (lg : Bool) (b : Nat) (w0 : World) (R : Option (List UInt8 × Nat)) (F : Nat) (wr : World) : Prop :=
 ∃ (j : Nat) (acc : List UInt8) (bs : Array Obj) (d : Nat), j ≤ s.size ∧ acc.length ≤ j ∧ wr = app (rd w0 b #[.string s, .int .i64 j, .bool lg]) bs d ∧ Hid ((quotedP (s.data.toList.drop j)).map (fun x => (acc ++ x.1, j + x.2)) = R) ∧ Hid (j + quotedF (s.data.toList.drop j) = F) ∧
  Lib.IsBuilder 238 5 w0.heap.size w0.heap.size (Lib.byteCells acc) (app (rd w0 b #[.string s, .int .i64 j, .bool lg]) bs d)
set_option maxHeartbeats 8000000 in
theorem quoted_any {s : ByteArray} {m : Int} {lg : Bool} {b : Nat} {w : World} (n : Nat) (R : Option (List UInt8 × Nat)) (F : Nat) (hf : n + quotedF (s.data.toList.drop n) = F) (hd : (quotedP (s.data.toList.drop n)).map (fun x => (x.1, n + x.2)) = R) (hm : m = n) (hn : n ≤ s.size) (hs : s.size ≤ 140000000000000) (h : RowIs w b #[.string s, .int .i64 m, .bool lg]) :
 Calls Tryz.prog 195 #[.pointer (some ⟨b, 0, none⟩)] w (QPost s lg b F R w) := by
 subst hm
 refine h.lift (fun w0 hI => ?_)
 have hyes := Lib.hid (@QPost.yes s lg b F w0 R)
 have hno := Lib.hid (@QPost.no s lg b F w0 R)
 have hb := hI.lt
 have hlen : s.data.toList.length = s.size := by simp
 have hfb := Lib.fresh_isBuilder 238 5 (rd w0 b #[.string s, .int .i64 n, .bool lg])
 rw [rd_size] at hfb
 replace hd := Lib.hid hd
 replace hf := Lib.hid hf
 go_enter Tryz.func195, Tryz.ntmps195
 go_wp2
 go_loopw [15] (fun _ wr => RelQ s lg b w0 R F wr) (fun _ wr => s.size - posOf wr b)
 case atStart =>
  obtain ⟨cs, e, he⟩ := of_below (w := rd w0 b #[.string s, .int .i64 n, .bool lg]) (by (repeat' (first | (with_reducible exact Below.refl _ _) | (with_reducible refine Below.app ?_ ?_ _ _) | (with_reducible refine Below.alloc ?_ ?_ _) | (with_reducible refine Below.drew ?_) | (with_reducible refine Below.setCell ?_ ?_ _) | (with_reducible assumption) | omega | (simp; omega) | (simp; done))) : Below _ _ ((rd w0 b #[.string s, .int .i64 n, .bool lg]).alloc (.cells #[.pointer none, .slice none 0 0] 238)))
  exact ⟨n, [], cs, e, hn, by simp, he, hd, hf, by rw [← he]; exact hfb⟩
 case round =>
  obtain ⟨j, acc, bs, d, j1, j2, rfl, hr, hrf, hbl⟩ := hrel
  clear hfb hd hf
  by_cases hlt : j < s.size
  · have hq := quotedP_drop s.data.toList j (by omega)
    have hqf := quotedF_drop s.data.toList j (by omega)
    have hj0 := getD_lt hlt
    by_cases h34 : s.data.toList.getD j 0 = 34
    · rw [if_pos h34] at hq hqf
      have hR : Hid (R = some (acc, j + 1)) := by have := hr.out; rw [hq] at this; unfold Hid; simpa using this.symm
      rw [hj0] at h34
      have h34' : ((s[j].toNat : Int) == 34) = true := by rw [h34]; rfl
      clear hq hqf hr hrf hj0 h34
      go_wp2
      (apply wp_region_text 10; kernel_rfl; kernel_rfl; intro Fin hFin; (repeat (first | (apply text_run; exact rfl; (focus (intro bs d hF K hK; (repeat rw [app_app] at hK); (repeat rw [app_app]); (repeat rw [Array.append_assoc] at hK); (repeat rw [Array.append_assoc]); go_step; first  | fail  | (refine hK _ ?_; (repeat' (first | (with_reducible exact Below.refl _ _) | (with_reducible refine Below.app ?_ ?_ _ _) | (with_reducible refine Below.alloc ?_ ?_ _) | (with_reducible refine Below.drew ?_) | (with_reducible refine Below.setCell ?_ ?_ _) | (with_reducible assumption) | omega | (simp; omega) | (simp; done)))))); (try simp only [Act.put, List.setIfInBounds_toArray, List.set_cons_zero, List.set_cons_succ])) | (apply text_skip; exact rfl; (try simp only [Act.put, List.setIfInBounds_toArray, List.set_cons_zero, List.set_cons_succ])))); apply text_end; apply hFin; clear hFin Fin; intro bs d hfa)
      go_wp2
      (apply wp_region_text 9; kernel_rfl; kernel_rfl; intro Fin hFin; (repeat (first | (apply text_run; exact rfl; (focus (intro bs d hF K hK; (repeat rw [app_app] at hK); (repeat rw [app_app]); (repeat rw [Array.append_assoc] at hK); (repeat rw [Array.append_assoc]); go_step; first  | fail  | (refine hK _ ?_; (repeat' (first | (with_reducible exact Below.refl _ _) | (with_reducible refine Below.app ?_ ?_ _ _) | (with_reducible refine Below.alloc ?_ ?_ _) | (with_reducible refine Below.drew ?_) | (with_reducible refine Below.setCell ?_ ?_ _) | (with_reducible assumption) | omega | (simp; omega) | (simp; done)))))); (try simp only [Act.put, List.setIfInBounds_toArray, List.set_cons_zero, List.set_cons_succ])) | (apply text_skip; exact rfl; (try simp only [Act.put, List.setIfInBounds_toArray, List.set_cons_zero, List.set_cons_succ])))); apply text_end; apply hFin; clear hFin Fin; intro bs d hfa)
      go_wp2_with (go_at_call 205; ((refine (Tryz.Builder_String_any w0.heap.size _ acc _ ?hB ?hz).mono ?_); (case hB => exact builder_move hbl); (case hz => first | (simp; done) | (simp; omega)); rintro r w1 ⟨rfl, hbl2⟩; obtain ⟨cs, e, rfl⟩ := app_of_below hbl2))
      go_returns
      exact hyes.out _ _ _ _ hR.out (by (first | exact ⟨rfl, _, _, rfl⟩ | exact ⟨rfl, #[], _, (app_nil _).symm⟩ | (refine ⟨rfl, ?_⟩; simp only [app_app]; exact ⟨_, _, rfl⟩) | (refine ⟨rfl, of_below ?_⟩; ((repeat' (first | (with_reducible exact Below.refl _ _) | (with_reducible refine Below.app ?_ ?_ _ _) | (with_reducible refine Below.alloc ?_ ?_ _) | (with_reducible refine Below.drew ?_) | (with_reducible refine Below.setCell ?_ ?_ _) | (with_reducible assumption) | omega | (simp; omega) | (simp; done))) <;> exact Below.refl _ _))))
    · rw [if_neg h34] at hq hqf
      have h34' : ((s[j].toNat : Int) == 34) = false := by rw [hj0, u8_int] at h34; simpa using h34
      clear h34
      by_cases h92 : s.data.toList.getD j 0 = 92
      · rw [if_pos h92] at hq hqf
        have h92' : ((s[j].toNat : Int) == 92) = true := by rw [← hj0, h92]; rfl
        have hnx := fun bs d => @next_calls s ((j + 1 : Nat) : Int) lg b (app (rd w0 b #[.string s, .int .i64 ((j + 1 : Nat) : Int), .bool lg]) bs d) (j + 1) rfl (by omega) ((rd_row hI _).app _ _)
        by_cases hp : plainB (s.data.toList.getD (j + 1) 0) = true
        · rw [if_pos hp] at hq hqf
          have hlt1 : j + 1 < s.size := by
           rcases Nat.lt_or_ge (j + 1) s.size with h' | h'
           · exact h'
           · rw [getD_ge h'] at hp; cases hp
          have hr' : Hid ((quotedP (s.data.toList.drop (j + 2))).map (fun x => ((acc ++ [s.data.toList.getD (j + 1) 0]) ++ x.1, (j + 2) + x.2)) = R) := by
           have h0 := hr.out
           rw [hq, Option.map_map] at h0
           unfold Hid
           rw [← h0]
           congr 1
           funext x
           simp only [Function.comp, List.append_assoc, List.singleton_append, Prod.mk.injEq, true_and]; omega
          have hrf' : Hid ((j + 2) + quotedF (s.data.toList.drop (j + 2)) = F) := by have := hrf.out; rw [hqf] at this; unfold Hid; omega
          have hpc := plain_calls (s.data.toList.getD (j + 1) 0)
          rw [hp] at hpc
          clear hq hqf hr hrf h92 hj0 hp
          generalize s.data.toList.getD (j + 1) 0 = x at *
          replace hpc := Lib.hid hpc
          replace hnx := Lib.hid hnx
          go_wp2
          (apply wp_region_text 10; kernel_rfl; kernel_rfl; intro Fin hFin; (repeat (first | (apply text_run; exact rfl; (focus (intro bs d hF K hK; (repeat rw [app_app] at hK); (repeat rw [app_app]); (repeat rw [Array.append_assoc] at hK); (repeat rw [Array.append_assoc]); go_step; first  | fail  | (refine hK _ ?_; (repeat' (first | (with_reducible exact Below.refl _ _) | (with_reducible refine Below.app ?_ ?_ _ _) | (with_reducible refine Below.alloc ?_ ?_ _) | (with_reducible refine Below.drew ?_) | (with_reducible refine Below.setCell ?_ ?_ _) | (with_reducible assumption) | omega | (simp; omega) | (simp; done)))))); (try simp only [Act.put, List.setIfInBounds_toArray, List.set_cons_zero, List.set_cons_succ])) | (apply text_skip; exact rfl; (try simp only [Act.put, List.setIfInBounds_toArray, List.set_cons_zero, List.set_cons_succ])))); apply text_end; apply hFin; clear hFin Fin; intro bs d hfa)
          go_wp2
          (apply wp_region_text 9; kernel_rfl; kernel_rfl; intro Fin hFin; (repeat (first | (apply text_run; exact rfl; (focus (intro bs d hF K hK; (repeat rw [app_app] at hK); (repeat rw [app_app]); (repeat rw [Array.append_assoc] at hK); (repeat rw [Array.append_assoc]); go_step; first  | fail  | (refine hK _ ?_; (repeat' (first | (with_reducible exact Below.refl _ _) | (with_reducible refine Below.app ?_ ?_ _ _) | (with_reducible refine Below.alloc ?_ ?_ _) | (with_reducible refine Below.drew ?_) | (with_reducible refine Below.setCell ?_ ?_ _) | (with_reducible assumption) | omega | (simp; omega) | (simp; done)))))); (try simp only [Act.put, List.setIfInBounds_toArray, List.set_cons_zero, List.set_cons_succ])) | (apply text_skip; exact rfl; (try simp only [Act.put, List.setIfInBounds_toArray, List.set_cons_zero, List.set_cons_succ])))); apply text_end; apply hFin; clear hFin Fin; intro bs d hfa)
          go_wp2_with first
           | (go_at_call 65; ((refine (hnx.out _ _).mono ?_); rintro r w1 ⟨rfl, bs4, d4, rfl⟩))
           | (go_at_call 206; ((with_reducible refine (hpc.out _).mono ?_); rintro _ _ ⟨rfl, rfl⟩))
           | (go_at_call 207; ((refine (writeByte_calls w0.heap.size _ (Lib.byteCells acc) _ _ ?hB ?hl ?hz).mono ?_); (case hB => exact builder_move hbl); (case hl => (simp [Lib.byteCells]; omega)); (case hz => first | (simp; done) | (simp; omega)); rintro r w1 ⟨rfl, hbA, hbl2⟩; obtain ⟨cs, e, rfl⟩ := app_of_below hbl2))
          go_roundw
          case rel => first | exact ⟨j + 2, acc ++ [x], _, _, by omega, by simp; omega, rfl, hr', hrf', by rw [byteCells_snoc]; exact .inr hbA⟩ | ((repeat apply Exists.intro); refine ⟨?rl, ?fr⟩; case fr => ((repeat' apply And.intro) <;> exact rfl); case rl => exact ⟨j + 2, acc ++ [x], _, _, by omega, by simp; omega, rfl, hr', hrf', by rw [byteCells_snoc]; exact .inr hbA⟩)
          case measure => rw [posOf_rd hI, posOf_rd hI]; simp [intOf]; omega
        · rw [if_neg hp] at hq hqf
          have hR : Hid (R = none) := by have := hr.out; rw [hq] at this; exact this.symm
          have hF : Hid (j + 1 = F) := by have := hrf.out; rw [hqf] at this; exact this
          have hpc := plain_calls (s.data.toList.getD (j + 1) 0)
          rw [Bool.not_eq_true] at hp
          rw [hp] at hpc
          clear hq hqf hr hrf h92 hj0 hp
          generalize s.data.toList.getD (j + 1) 0 = x at *
          replace hpc := Lib.hid hpc
          replace hnx := Lib.hid hnx
          go_wp2
          (apply wp_region_text 10; kernel_rfl; kernel_rfl; intro Fin hFin; (repeat (first | (apply text_run; exact rfl; (focus (intro bs d hF K hK; (repeat rw [app_app] at hK); (repeat rw [app_app]); (repeat rw [Array.append_assoc] at hK); (repeat rw [Array.append_assoc]); go_step; first  | fail  | (refine hK _ ?_; (repeat' (first | (with_reducible exact Below.refl _ _) | (with_reducible refine Below.app ?_ ?_ _ _) | (with_reducible refine Below.alloc ?_ ?_ _) | (with_reducible refine Below.drew ?_) | (with_reducible refine Below.setCell ?_ ?_ _) | (with_reducible assumption) | omega | (simp; omega) | (simp; done)))))); (try simp only [Act.put, List.setIfInBounds_toArray, List.set_cons_zero, List.set_cons_succ])) | (apply text_skip; exact rfl; (try simp only [Act.put, List.setIfInBounds_toArray, List.set_cons_zero, List.set_cons_succ])))); apply text_end; apply hFin; clear hFin Fin; intro bs d hfa)
          go_wp2
          (apply wp_region_text 9; kernel_rfl; kernel_rfl; intro Fin hFin; (repeat (first | (apply text_run; exact rfl; (focus (intro bs d hF K hK; (repeat rw [app_app] at hK); (repeat rw [app_app]); (repeat rw [Array.append_assoc] at hK); (repeat rw [Array.append_assoc]); go_step; first  | fail  | (refine hK _ ?_; (repeat' (first | (with_reducible exact Below.refl _ _) | (with_reducible refine Below.app ?_ ?_ _ _) | (with_reducible refine Below.alloc ?_ ?_ _) | (with_reducible refine Below.drew ?_) | (with_reducible refine Below.setCell ?_ ?_ _) | (with_reducible assumption) | omega | (simp; omega) | (simp; done)))))); (try simp only [Act.put, List.setIfInBounds_toArray, List.set_cons_zero, List.set_cons_succ])) | (apply text_skip; exact rfl; (try simp only [Act.put, List.setIfInBounds_toArray, List.set_cons_zero, List.set_cons_succ])))); apply text_end; apply hFin; clear hFin Fin; intro bs d hfa)
          go_wp2_with first
           | (go_at_call 65; ((refine (hnx.out _ _).mono ?_); rintro r w1 ⟨rfl, bs4, d4, rfl⟩))
           | (go_at_call 206; ((with_reducible refine (hpc.out _).mono ?_); rintro _ _ ⟨rfl, rfl⟩))
          go_returns
          exact hno.out _ _ _ hR.out hF.out (by (first | exact ⟨rfl, _, _, rfl⟩ | exact ⟨rfl, #[], _, (app_nil _).symm⟩ | (refine ⟨rfl, ?_⟩; simp only [app_app]; exact ⟨_, _, rfl⟩) | (refine ⟨rfl, of_below ?_⟩; ((repeat' (first | (with_reducible exact Below.refl _ _) | (with_reducible refine Below.app ?_ ?_ _ _) | (with_reducible refine Below.alloc ?_ ?_ _) | (with_reducible refine Below.drew ?_) | (with_reducible refine Below.setCell ?_ ?_ _) | (with_reducible assumption) | omega | (simp; omega) | (simp; done))) <;> exact Below.refl _ _))))
      · rw [if_neg h92] at hq hqf
        have h92' : ((s[j].toNat : Int) == 92) = false := by rw [hj0, u8_int] at h92; simpa using h92
        rw [hj0] at hq hqf
        by_cases hp : plainB s[j] = true
        · rw [if_pos hp] at hq hqf
          have hr' : Hid ((quotedP (s.data.toList.drop (j + 1))).map (fun x => ((acc ++ [s[j]]) ++ x.1, (j + 1) + x.2)) = R) := by
           have h0 := hr.out
           rw [hq, Option.map_map] at h0
           unfold Hid
           rw [← h0]
           congr 1
           funext x
           simp only [Function.comp, List.append_assoc, List.singleton_append, Prod.mk.injEq, true_and]; omega
          have hrf' : Hid ((j + 1) + quotedF (s.data.toList.drop (j + 1)) = F) := by have := hrf.out; rw [hqf] at this; unfold Hid; omega
          have hpc := plain_calls s[j]
          rw [hp] at hpc
          clear hq hqf hr hrf h92 hj0 hp
          replace hpc := Lib.hid hpc
          go_wp2
          (apply wp_region_text 10; kernel_rfl; kernel_rfl; intro Fin hFin; (repeat (first | (apply text_run; exact rfl; (focus (intro bs d hF K hK; (repeat rw [app_app] at hK); (repeat rw [app_app]); (repeat rw [Array.append_assoc] at hK); (repeat rw [Array.append_assoc]); go_step; first  | fail  | (refine hK _ ?_; (repeat' (first | (with_reducible exact Below.refl _ _) | (with_reducible refine Below.app ?_ ?_ _ _) | (with_reducible refine Below.alloc ?_ ?_ _) | (with_reducible refine Below.drew ?_) | (with_reducible refine Below.setCell ?_ ?_ _) | (with_reducible assumption) | omega | (simp; omega) | (simp; done)))))); (try simp only [Act.put, List.setIfInBounds_toArray, List.set_cons_zero, List.set_cons_succ])) | (apply text_skip; exact rfl; (try simp only [Act.put, List.setIfInBounds_toArray, List.set_cons_zero, List.set_cons_succ])))); apply text_end; apply hFin; clear hFin Fin; intro bs d hfa)
          go_wp2
          (apply wp_region_text 9; kernel_rfl; kernel_rfl; intro Fin hFin; (repeat (first | (apply text_run; exact rfl; (focus (intro bs d hF K hK; (repeat rw [app_app] at hK); (repeat rw [app_app]); (repeat rw [Array.append_assoc] at hK); (repeat rw [Array.append_assoc]); go_step; first  | fail  | (refine hK _ ?_; (repeat' (first | (with_reducible exact Below.refl _ _) | (with_reducible refine Below.app ?_ ?_ _ _) | (with_reducible refine Below.alloc ?_ ?_ _) | (with_reducible refine Below.drew ?_) | (with_reducible refine Below.setCell ?_ ?_ _) | (with_reducible assumption) | omega | (simp; omega) | (simp; done)))))); (try simp only [Act.put, List.setIfInBounds_toArray, List.set_cons_zero, List.set_cons_succ])) | (apply text_skip; exact rfl; (try simp only [Act.put, List.setIfInBounds_toArray, List.set_cons_zero, List.set_cons_succ])))); apply text_end; apply hFin; clear hFin Fin; intro bs d hfa)
          go_wp2_with first
           | (go_at_call 206; ((with_reducible refine (hpc.out _).mono ?_); rintro _ _ ⟨rfl, rfl⟩))
           | (go_at_call 207; ((refine (writeByte_calls w0.heap.size _ (Lib.byteCells acc) _ _ ?hB ?hl ?hz).mono ?_); (case hB => exact builder_move hbl); (case hl => (simp [Lib.byteCells]; omega)); (case hz => first | (simp; done) | (simp; omega)); rintro r w1 ⟨rfl, hbA, hbl2⟩; obtain ⟨cs, e, rfl⟩ := app_of_below hbl2))
          go_roundw
          case rel => first | exact ⟨j + 1, acc ++ [s[j]], _, _, by omega, by simp; omega, rfl, hr', hrf', by rw [byteCells_snoc]; exact .inr hbA⟩ | ((repeat apply Exists.intro); refine ⟨?rl, ?fr⟩; case fr => ((repeat' apply And.intro) <;> exact rfl); case rl => exact ⟨j + 1, acc ++ [s[j]], _, _, by omega, by simp; omega, rfl, hr', hrf', by rw [byteCells_snoc]; exact .inr hbA⟩)
          case measure => rw [posOf_rd hI, posOf_rd hI]; simp [intOf]; omega
        · rw [if_neg hp] at hq hqf
          have hR : Hid (R = none) := by have := hr.out; rw [hq] at this; exact this.symm
          have hF : Hid (j + 1 = F) := by have := hrf.out; rw [hqf] at this; exact this
          have hpc := plain_calls s[j]
          rw [Bool.not_eq_true] at hp
          rw [hp] at hpc
          clear hq hqf hr hrf h92 hj0 hp
          replace hpc := Lib.hid hpc
          go_wp2
          (apply wp_region_text 10; kernel_rfl; kernel_rfl; intro Fin hFin; (repeat (first | (apply text_run; exact rfl; (focus (intro bs d hF K hK; (repeat rw [app_app] at hK); (repeat rw [app_app]); (repeat rw [Array.append_assoc] at hK); (repeat rw [Array.append_assoc]); go_step; first  | fail  | (refine hK _ ?_; (repeat' (first | (with_reducible exact Below.refl _ _) | (with_reducible refine Below.app ?_ ?_ _ _) | (with_reducible refine Below.alloc ?_ ?_ _) | (with_reducible refine Below.drew ?_) | (with_reducible refine Below.setCell ?_ ?_ _) | (with_reducible assumption) | omega | (simp; omega) | (simp; done)))))); (try simp only [Act.put, List.setIfInBounds_toArray, List.set_cons_zero, List.set_cons_succ])) | (apply text_skip; exact rfl; (try simp only [Act.put, List.setIfInBounds_toArray, List.set_cons_zero, List.set_cons_succ])))); apply text_end; apply hFin; clear hFin Fin; intro bs d hfa)
          go_wp2
          (apply wp_region_text 9; kernel_rfl; kernel_rfl; intro Fin hFin; (repeat (first | (apply text_run; exact rfl; (focus (intro bs d hF K hK; (repeat rw [app_app] at hK); (repeat rw [app_app]); (repeat rw [Array.append_assoc] at hK); (repeat rw [Array.append_assoc]); go_step; first  | fail  | (refine hK _ ?_; (repeat' (first | (with_reducible exact Below.refl _ _) | (with_reducible refine Below.app ?_ ?_ _ _) | (with_reducible refine Below.alloc ?_ ?_ _) | (with_reducible refine Below.drew ?_) | (with_reducible refine Below.setCell ?_ ?_ _) | (with_reducible assumption) | omega | (simp; omega) | (simp; done)))))); (try simp only [Act.put, List.setIfInBounds_toArray, List.set_cons_zero, List.set_cons_succ])) | (apply text_skip; exact rfl; (try simp only [Act.put, List.setIfInBounds_toArray, List.set_cons_zero, List.set_cons_succ])))); apply text_end; apply hFin; clear hFin Fin; intro bs d hfa)
          go_wp2_with (go_at_call 206; ((with_reducible refine (hpc.out _).mono ?_); rintro _ _ ⟨rfl, rfl⟩))
          go_returns
          exact hno.out _ _ _ hR.out hF.out (by (first | exact ⟨rfl, _, _, rfl⟩ | exact ⟨rfl, #[], _, (app_nil _).symm⟩ | (refine ⟨rfl, ?_⟩; simp only [app_app]; exact ⟨_, _, rfl⟩) | (refine ⟨rfl, of_below ?_⟩; ((repeat' (first | (with_reducible exact Below.refl _ _) | (with_reducible refine Below.app ?_ ?_ _ _) | (with_reducible refine Below.alloc ?_ ?_ _) | (with_reducible refine Below.drew ?_) | (with_reducible refine Below.setCell ?_ ?_ _) | (with_reducible assumption) | omega | (simp; omega) | (simp; done))) <;> exact Below.refl _ _))))
  · have hje : j = s.size := by omega
    have hR : Hid (R = none) := by
     have := hr.out
     rw [List.drop_of_length_le (by omega), quotedP] at this
     exact this.symm
    have hF : Hid (j = F) := by
     have := hrf.out
     rw [List.drop_of_length_le (by omega), quotedF] at this
     exact this
    subst hje
    clear hr hrf hbl
    go_wp2
    (apply wp_region_text 10; kernel_rfl; kernel_rfl; intro Fin hFin; (repeat (first | (apply text_run; exact rfl; (focus (intro bs d hF K hK; (repeat rw [app_app] at hK); (repeat rw [app_app]); (repeat rw [Array.append_assoc] at hK); (repeat rw [Array.append_assoc]); go_step; first  | fail  | (refine hK _ ?_; (repeat' (first | (with_reducible exact Below.refl _ _) | (with_reducible refine Below.app ?_ ?_ _ _) | (with_reducible refine Below.alloc ?_ ?_ _) | (with_reducible refine Below.drew ?_) | (with_reducible refine Below.setCell ?_ ?_ _) | (with_reducible assumption) | omega | (simp; omega) | (simp; done)))))); (try simp only [Act.put, List.setIfInBounds_toArray, List.set_cons_zero, List.set_cons_succ])) | (apply text_skip; exact rfl; (try simp only [Act.put, List.setIfInBounds_toArray, List.set_cons_zero, List.set_cons_succ])))); apply text_end; apply hFin; clear hFin Fin; intro bs d hfa)
    go_wp2
    go_returns
    exact hno.out _ _ _ hR.out hF.out (by (first | exact ⟨rfl, _, _, rfl⟩ | exact ⟨rfl, #[], _, (app_nil _).symm⟩ | (refine ⟨rfl, ?_⟩; simp only [app_app]; exact ⟨_, _, rfl⟩) | (refine ⟨rfl, of_below ?_⟩; ((repeat' (first | (with_reducible exact Below.refl _ _) | (with_reducible refine Below.app ?_ ?_ _ _) | (with_reducible refine Below.alloc ?_ ?_ _) | (with_reducible refine Below.drew ?_) | (with_reducible refine Below.setCell ?_ ?_ _) | (with_reducible assumption) | omega | (simp; omega) | (simp; done))) <;> exact Below.refl _ _))))
end Go.Proofs.YtnkppakkeobegaaGreatDoor
