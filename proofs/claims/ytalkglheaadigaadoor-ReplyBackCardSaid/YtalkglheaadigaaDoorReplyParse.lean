/-
  reply.parse: what a line of a reply tells.
-/
import Derived.Test.YtalkglheaadigaaDoorReplyGood
import Derived.Test.YtalkglheaadigaaDoorBytesG
set_option maxRecDepth 20000
set_option linter.unusedVariables false
set_option linter.unusedSimpArgs false
set_option linter.unusedSectionVars false
namespace Go.Proofs.YtalkglheaadigaaDoor
open Go.ChangeShapes Go.WideShapes Go.ChangeAt Go.RowKit

theorem ok_digits : ∀ (l : List UInt8) (acc u : Nat), Lib.parseUint10 acc l = .ok u → l.all digC = true ∧ u = valN acc l
  | [], acc, u, h => by cases h; exact ⟨rfl, rfl⟩
  | c :: r, acc, u, h => by
    rw [Lib.parseUint10] at h
    split at h
    · next hc =>
      split at h
      · cases h
      · split at h
        · cases h
        · have ih := ok_digits r _ u h
          exact ⟨by rw [List.all_cons, ih.1, show digC c = true from decide_eq_true hc]; rfl, ih.2⟩
    · cases h
theorem atoi_three {p : List UInt8} {v : Int} (hl : p.length = 3) (h : Lib.atoiAll p = .ok v) (h2 : 200 ≤ v) : p.all digC = true ∧ v = valN 0 p := by
  match p, hl with
  | [a, b, c], _ =>
    unfold Lib.atoiAll at h
    simp only at h
    by_cases hs : a.toNat = 43 ∨ a.toNat = 45
    · exfalso
      rw [if_pos hs] at h
      cases hm : Lib.parseMag [b, c] with
      | ok u =>
        rw [hm] at h
        unfold Lib.parseMag at hm
        rw [if_neg (by simp)] at hm
        obtain ⟨hd, hu⟩ := ok_digits _ _ _ hm
        have := valN_lt [b, c] 0 0 hd (by decide)
        have hb : u < 100 := by rw [hu]; exact this
        simp only at h
        split at h
        · cases h
        · split at h
          · cases h
          · injection h with h
            split at h <;> omega
      | _ => rw [hm] at h; cases h
    · rw [if_neg hs] at h
      cases hm : Lib.parseMag [a, b, c] with
      | ok u =>
        rw [hm] at h
        unfold Lib.parseMag at hm
        rw [if_neg (by simp)] at hm
        obtain ⟨hd, hu⟩ := ok_digits _ _ _ hm
        refine ⟨hd, ?_⟩
        simp only at h
        split at h
        · cases h
        · split at h
          · cases h
          · injection h with h
            rw [if_neg (fun e => hs (.inr e))] at h
            rw [← h, hu]
      | _ => rw [hm] at h; cases h
theorem atoi_digits {p : List UInt8} (hl : p.length = 3) (hd : p.all digC = true) : Lib.atoiAll p = .ok (valN 0 p : Int) ∧ valN 0 p < 1000 := by
  have hv := valN_lt p 0 0 hd (by decide)
  have hv2 : valN 0 p < 1000 := by rw [hl] at hv; exact hv
  refine ⟨?_, hv2⟩
  have hp := parse_val p 0 0 hd (by decide) (by omega)
  cases p with
  | nil => simp at hl
  | cons c r =>
    rw [List.all_cons, Bool.and_eq_true] at hd
    have hc := dig_ok hd.1
    unfold Lib.atoiAll
    simp only
    rw [if_neg (by omega), show Lib.parseMag (c :: r) = .ok (valN 0 (c :: r)) by unfold Lib.parseMag; rw [if_neg (by simp)]; exact hp]
    simp only
    rw [if_neg (by omega), if_neg (by omega), if_neg (by omega)]
/-- A line's code, whether more follow, its enhanced code, its text. -/
abbrev RLine := Nat × Bool × List UInt8 × List UInt8
def headOk (l : List UInt8) : Bool := decide (4 ≤ l.length) && (decide (l.getD 3 0 = 32 ∨ l.getD 3 0 = 45) && ((l.take 3).all digC && decide (200 ≤ valN 0 (l.take 3) ∧ valN 0 (l.take 3) ≤ 599)))
def lineQ (enh : Bool) (l : List UInt8) : Option RLine :=
  if headOk l = true then
    (if enh = true then
      (if ((Lib.cut (l.drop 4) [32]).2.2 && (fitsB (Lib.cut (l.drop 4) [32]).1 (valN 0 (l.take 3)) && lineB (Lib.cut (l.drop 4) [32]).2.1)) = true then some (valN 0 (l.take 3), decide (l.getD 3 0 = 45), (Lib.cut (l.drop 4) [32]).1, (Lib.cut (l.drop 4) [32]).2.1) else none)
    else if lineB (l.drop 4) = true then some (valN 0 (l.take 3), decide (l.getD 3 0 = 45), [], l.drop 4) else none)
  else none
def ParsePost (R : Option RLine) (w : World) (r : Ending) (w' : World) : Prop :=
  ((R = none ∧ ∃ (a : Int) (b : Bool) (x y : ByteArray), r = .returned (.tuple #[.agg #[.int .i64 a, .bool b, .string x, .string y], .bool false])) ∨
   (∃ c m e t, R = some (c, m, e, t) ∧ r = .returned (.tuple #[.agg #[.int .i64 (c : Int), .bool m, .string ⟨e.toArray⟩, .string ⟨t.toArray⟩], .bool true]))) ∧ Below w.heap.size w w'
theorem take8_ext (l : List UInt8) (k : Nat) : (⟨l.toArray⟩ : ByteArray).extract 0 k = ⟨(l.take k).toArray⟩ := by
  apply ByteArray.ext
  simp only [ByteArray.data_extract]
  apply Array.ext'
  rw [Array.toList_extract]
  simp
theorem drop8_ext (l : List UInt8) (k : Nat) : (⟨l.toArray⟩ : ByteArray).extract k l.length = ⟨(l.drop k).toArray⟩ := by
  apply ByteArray.ext
  simp only [ByteArray.data_extract]
  apply Array.ext'
  rw [Array.toList_extract]
  simp [List.take_of_length_le]
theorem cut_len8 (l sep : List UInt8) : (Lib.cut l sep).1.length ≤ l.length ∧ (Lib.cut l sep).2.1.length ≤ l.length := by
  unfold Lib.cut
  split
  · exact ⟨by simp only [List.length_take]; omega, by simp⟩
  · exact ⟨Nat.le_refl _, by simp⟩
theorem drewN_belP (n : Nat) (X : World) : Below X.heap.size X (X.drewN n) := by
  induction n with
  | zero => exact Below.refl _ _
  | succ n ih => exact ih.drew
theorem cut8_calls (l : List UInt8) (sep : List UInt8) (hs : l.length ≤ 100000000) {w : World} (hw : LibAt w) :
    Calls Tryd.prog 59 #[.string ⟨l.toArray⟩, .string ⟨sep.toArray⟩] w fun e w' => e = .returned (.tuple #[.string ⟨(Lib.cut l sep).1.toArray⟩, .string ⟨(Lib.cut l sep).2.1.toArray⟩, .bool (Lib.cut l sep).2.2]) ∧ Below w.heap.size w w' := by
  obtain ⟨m, hm⟩ := hw.max
  refine (Tryd.strings_Cut ⟨l.toArray⟩ ⟨sep.toArray⟩ m w (by show l.toArray.size < _; rw [List.size_toArray]; omega) hm).mono fun e w' ⟨h1, n, h2⟩ => ⟨h1, ?_⟩
  subst h2
  exact drewN_belP _ _
set_option maxHeartbeats 16000000 in
theorem parse_calls (l : List UInt8) (enh : Bool) (hl : l.length ≤ 1000000) {w : World} (hw : LibAt w) : Calls Tryd.prog 43 #[.string ⟨l.toArray⟩, .bool enh] w (ParsePost (lineQ enh l) w) := by
  have hsz : (⟨l.toArray⟩ : ByteArray).size = l.length := by show l.toArray.size = _; simp
  have hlib := fun (W : World) (hW : Below w.heap.size w W) => hw.below hW
  have hno : lineQ enh l = none → ∀ (a : Int) (b : Bool) (x y : ByteArray) w', Below w.heap.size w w' → ParsePost (lineQ enh l) w (.returned (.tuple #[.agg #[.int .i64 a, .bool b, .string x, .string y], .bool false])) w' := fun h a b x y w' hb => ⟨.inl ⟨h, a, b, x, y, rfl⟩, hb⟩
  have hyes : ∀ c m e t, lineQ enh l = some (c, m, e, t) → ∀ w', Below w.heap.size w w' → ParsePost (lineQ enh l) w (.returned (.tuple #[.agg #[.int .i64 (c : Int), .bool m, .string ⟨e.toArray⟩, .string ⟨t.toArray⟩], .bool true])) w' := fun c m e t h w' hb => ⟨.inr ⟨c, m, e, t, h, rfl⟩, hb⟩
  have hQ : lineQ enh l = if headOk l = true then
    (if enh = true then
      (if ((Lib.cut (l.drop 4) [32]).2.2 && (fitsB (Lib.cut (l.drop 4) [32]).1 (valN 0 (l.take 3)) && lineB (Lib.cut (l.drop 4) [32]).2.1)) = true then some (valN 0 (l.take 3), decide (l.getD 3 0 = 45), (Lib.cut (l.drop 4) [32]).1, (Lib.cut (l.drop 4) [32]).2.1) else none)
    else if lineB (l.drop 4) = true then some (valN 0 (l.take 3), decide (l.getD 3 0 = 45), [], l.drop 4) else none)
  else none := rfl
  generalize lineQ enh l = Q at *
  by_cases h4 : l.length < 4
  · have h4i : (l.length : Int) < 4 := by omega
    have hh : headOk l = false := by unfold headOk; rw [decide_eq_false (by omega)]; rfl
    rw [hh, if_neg (by simp)] at hQ
    replace hno := Lib.hid (hno hQ)
    clear hyes hQ hh hw hlib
    go_enter Tryd.func43, Tryd.ntmps43
    go_wp2
    exact bodyPost_ret (v := .tuple #[.agg #[.int .i64 0, .bool false, .string ⟨#[]⟩, .string ⟨#[]⟩], .bool false]) (by simp [results, Tryd.results43, go_sem]) rfl (hno.out _ _ _ _ _ (by (repeat' (first | (with_reducible exact Below.refl _ _) | (with_reducible refine Below.app ?_ ?_ _ _) | (with_reducible refine Below.alloc ?_ ?_ _) | (with_reducible refine Below.drew ?_) | (with_reducible refine Below.setCell ?_ ?_ _) | (with_reducible assumption) | omega | (simp; omega) | (simp; done)))))
  · have h4i : ¬ (l.length : Int) < 4 := by omega
    have hg3 : (⟨l.toArray⟩ : ByteArray)[3]'(by rw [hsz]; omega) = l.getD 3 0 := by simp [List.getD, show 3 < l.length by omega]; rfl
    have ht3 := take8_ext l 3
    have hd4 := drop8_ext l 4
    have hl3 : (l.take 3).length = 3 := by rw [List.length_take]; omega
    have hl4 : (l.drop 4).length ≤ 1000000 := by rw [List.length_drop]; omega
    have hho : headOk l = (decide (l.getD 3 0 = 32 ∨ l.getD 3 0 = 45) && ((l.take 3).all digC && decide (200 ≤ valN 0 (l.take 3) ∧ valN 0 (l.take 3) ≤ 599))) := by unfold headOk; rw [decide_eq_true (by omega)]; rfl
    rw [hho] at hQ
    clear hho
    generalize l.getD 3 0 = d at *
    generalize l.take 3 = p3 at *
    generalize l.drop 4 = t4 at *
    have n32 : ((d.toNat : Int) != 32) = !decide (d = 32) := by rw [Bool.eq_iff_iff]; simp [← UInt8.toNat_inj]; omega
    have n45 : ((d.toNat : Int) != 45) = !decide (d = 45) := by rw [Bool.eq_iff_iff]; simp [← UInt8.toNat_inj]; omega
    have m45 : ((d.toNat : Int) == 45) = decide (d = 45) := by rw [Bool.eq_iff_iff]; simp [← UInt8.toNat_inj]; omega
    by_cases hd : d = 32 ∨ d = 45
    · rw [decide_eq_true hd, Bool.true_and] at hQ
      by_cases hok : (p3.all digC && decide (200 ≤ valN 0 p3 ∧ valN 0 p3 ≤ 599)) = true
      · rw [if_pos hok] at hQ
        rw [Bool.and_eq_true, decide_eq_true_eq] at hok
        obtain ⟨hdg, hc2, hc5⟩ := hok
        have hat := fun W => atoi_ok (atoi_digits hl3 hdg).1 (by omega) W
        have hco := fun W => isCode_calls (valN 0 p3 : Int) W
        rw [show codeB (valN 0 p3 : Int) = true by unfold codeB; rw [decide_eq_true_eq]; omega] at hco
        have hft := fun x (W : World) (hW : Below w.heap.size w W) => fun (h : x.length ≤ 10000000) => fits_calls x (valN 0 p3 : Int) h (by omega) (by omega) (hw.below hW)
        have hcu := fun (W : World) (hW : Below w.heap.size w W) => cut8_calls t4 [32] (by omega) (hw.below hW)
        generalize valN 0 p3 = cd at *
        replace hat := Lib.hid hat
        replace hco := Lib.hid hco
        have hil := fun W => isLine_calls ⟨t4.toArray⟩ (by show t4.toArray.size ≤ _; rw [List.size_toArray]; omega) W
        rw [show (⟨t4.toArray⟩ : ByteArray).data.toList = t4 from rfl] at hil
        cases enh
        · rw [if_neg (by simp)] at hQ
          generalize lineB t4 = lb at *
          replace hil := Lib.hid hil
          clear hw hlib hft hcu hdg hc2 hc5 n32 n45 m45
          cases lb
          · rw [if_neg (by simp)] at hQ
            replace hno := Lib.hid (hno hQ)
            clear hyes hQ
            rcases hd with rfl | rfl
            · go_enter Tryd.func43, Tryd.ntmps43
              go_wp2_with first
                | (go_at_call 52; ((refine (hat.out _).mono ?_); rintro r w1 ⟨rfl, hb⟩; obtain ⟨b1, b1d, rfl⟩ := of_below hb; clear hb))
                | (go_at_call 39; ((refine (hco.out _).mono ?_); rintro _ _ ⟨rfl, rfl⟩))
              (apply wp_region_text 7; kernel_rfl; kernel_rfl; intro Fin hFin; (repeat (first | (apply text_run; exact rfl; (focus (intro bs d hF K hK; (repeat rw [app_app] at hK); (repeat rw [app_app]); (repeat rw [Array.append_assoc] at hK); (repeat rw [Array.append_assoc]); go_step; first  | (exfalso; assumption)  | (refine hK _ ?_; (repeat' (first | (with_reducible exact Below.refl _ _) | (with_reducible refine Below.app ?_ ?_ _ _) | (with_reducible refine Below.alloc ?_ ?_ _) | (with_reducible refine Below.drew ?_) | (with_reducible refine Below.setCell ?_ ?_ _) | (with_reducible assumption) | omega | (simp; omega) | (simp; done)))))); (try simp only [Act.put, List.setIfInBounds_toArray, List.set_cons_zero, List.set_cons_succ])) | (apply text_skip; exact rfl; (try simp only [Act.put, List.setIfInBounds_toArray, List.set_cons_zero, List.set_cons_succ])))); apply text_end; apply hFin; clear hFin Fin; intro bs d hfa)
              go_wp2
              (apply wp_region_ph0 6; kernel_rfl; (intro Fin hFin; (repeat (first | (apply ph_here_none; exact rfl; exact rfl; exact rfl; (focus (intro bs d hF K hK; go_step; first | (go_at_call 41; ((with_reducible refine (hil.out _).mono ?_); rintro r w1 ⟨rfl, hb⟩; simp only []; exact hK _ hb)) | (refine hK _ ?_; (repeat' (first | (with_reducible exact Below.refl _ _) | (with_reducible refine Below.app ?_ ?_ _ _) | (with_reducible refine Below.alloc ?_ ?_ _) | (with_reducible refine Below.drew ?_) | (with_reducible refine Below.setCell ?_ ?_ _) | (with_reducible assumption) | omega | (simp; omega) | (simp; done))); done)))) | (apply ph_any; exact rfl; (focus (intro wq hF K hK; go_step; first | (go_at_call 41; ((with_reducible refine (hil.out _).mono ?_); rintro r w1 ⟨rfl, hb⟩; simp only []; exact hK _ hb)) | (refine hK _ ?_; exact Below.refl _ _))); (try simp only [Act.put, List.setIfInBounds_toArray, List.set_cons_zero, List.set_cons_succ])) | (apply ph_here; exact rfl; exact rfl; (focus (intro bs d hF K hK; go_step; first | (go_at_call 41; ((with_reducible refine (hil.out _).mono ?_); rintro r w1 ⟨rfl, hb⟩; simp only []; exact hK _ hb)) | (refine hK _ ?_; (repeat' (first | (with_reducible exact Below.refl _ _) | (with_reducible refine Below.app ?_ ?_ _ _) | (with_reducible refine Below.alloc ?_ ?_ _) | (with_reducible refine Below.drew ?_) | (with_reducible refine Below.setCell ?_ ?_ _) | (with_reducible assumption) | omega | (simp; omega) | (simp; done))); done))); (try simp only [Act.put, List.setIfInBounds_toArray, List.set_cons_zero, List.set_cons_succ])) | (apply ph_skip_none; exact rfl; exact rfl) | (apply ph_skip; exact rfl; (try simp only [Act.put, List.setIfInBounds_toArray, List.set_cons_zero, List.set_cons_succ])))); apply ph_end; refine hFin _ _ _ _ _ rfl ?_; clear hFin Fin; intro hpsz bs d hfa; clear hpsz); rotate_left; kernel_rfl)
              go_wp2
              exact bodyPost_ret (v := .tuple #[.agg #[.int .i64 (cd : Int), .bool false, .string ⟨#[]⟩, .string ⟨t4.toArray⟩], .bool false]) (by simp [results, Tryd.results43, go_sem]) rfl (hno.out _ _ _ _ _ (by (repeat' (first | (with_reducible exact Below.refl _ _) | (with_reducible refine Below.app ?_ ?_ _ _) | (with_reducible refine Below.alloc ?_ ?_ _) | (with_reducible refine Below.drew ?_) | (with_reducible refine Below.setCell ?_ ?_ _) | (with_reducible assumption) | omega | (simp; omega) | (simp; done)))))
            · go_enter Tryd.func43, Tryd.ntmps43
              go_wp2_with first
                | (go_at_call 52; ((refine (hat.out _).mono ?_); rintro r w1 ⟨rfl, hb⟩; obtain ⟨b1, b1d, rfl⟩ := of_below hb; clear hb))
                | (go_at_call 39; ((refine (hco.out _).mono ?_); rintro _ _ ⟨rfl, rfl⟩))
              (apply wp_region_text 7; kernel_rfl; kernel_rfl; intro Fin hFin; (repeat (first | (apply text_run; exact rfl; (focus (intro bs d hF K hK; (repeat rw [app_app] at hK); (repeat rw [app_app]); (repeat rw [Array.append_assoc] at hK); (repeat rw [Array.append_assoc]); go_step; first  | (exfalso; assumption)  | (refine hK _ ?_; (repeat' (first | (with_reducible exact Below.refl _ _) | (with_reducible refine Below.app ?_ ?_ _ _) | (with_reducible refine Below.alloc ?_ ?_ _) | (with_reducible refine Below.drew ?_) | (with_reducible refine Below.setCell ?_ ?_ _) | (with_reducible assumption) | omega | (simp; omega) | (simp; done)))))); (try simp only [Act.put, List.setIfInBounds_toArray, List.set_cons_zero, List.set_cons_succ])) | (apply text_skip; exact rfl; (try simp only [Act.put, List.setIfInBounds_toArray, List.set_cons_zero, List.set_cons_succ])))); apply text_end; apply hFin; clear hFin Fin; intro bs d hfa)
              go_wp2
              (apply wp_region_ph0 6; kernel_rfl; (intro Fin hFin; (repeat (first | (apply ph_here_none; exact rfl; exact rfl; exact rfl; (focus (intro bs d hF K hK; go_step; first | (go_at_call 41; ((with_reducible refine (hil.out _).mono ?_); rintro r w1 ⟨rfl, hb⟩; simp only []; exact hK _ hb)) | (refine hK _ ?_; (repeat' (first | (with_reducible exact Below.refl _ _) | (with_reducible refine Below.app ?_ ?_ _ _) | (with_reducible refine Below.alloc ?_ ?_ _) | (with_reducible refine Below.drew ?_) | (with_reducible refine Below.setCell ?_ ?_ _) | (with_reducible assumption) | omega | (simp; omega) | (simp; done))); done)))) | (apply ph_any; exact rfl; (focus (intro wq hF K hK; go_step; first | (go_at_call 41; ((with_reducible refine (hil.out _).mono ?_); rintro r w1 ⟨rfl, hb⟩; simp only []; exact hK _ hb)) | (refine hK _ ?_; exact Below.refl _ _))); (try simp only [Act.put, List.setIfInBounds_toArray, List.set_cons_zero, List.set_cons_succ])) | (apply ph_here; exact rfl; exact rfl; (focus (intro bs d hF K hK; go_step; first | (go_at_call 41; ((with_reducible refine (hil.out _).mono ?_); rintro r w1 ⟨rfl, hb⟩; simp only []; exact hK _ hb)) | (refine hK _ ?_; (repeat' (first | (with_reducible exact Below.refl _ _) | (with_reducible refine Below.app ?_ ?_ _ _) | (with_reducible refine Below.alloc ?_ ?_ _) | (with_reducible refine Below.drew ?_) | (with_reducible refine Below.setCell ?_ ?_ _) | (with_reducible assumption) | omega | (simp; omega) | (simp; done))); done))); (try simp only [Act.put, List.setIfInBounds_toArray, List.set_cons_zero, List.set_cons_succ])) | (apply ph_skip_none; exact rfl; exact rfl) | (apply ph_skip; exact rfl; (try simp only [Act.put, List.setIfInBounds_toArray, List.set_cons_zero, List.set_cons_succ])))); apply ph_end; refine hFin _ _ _ _ _ rfl ?_; clear hFin Fin; intro hpsz bs d hfa; clear hpsz); rotate_left; kernel_rfl)
              go_wp2
              exact bodyPost_ret (v := .tuple #[.agg #[.int .i64 (cd : Int), .bool true, .string ⟨#[]⟩, .string ⟨t4.toArray⟩], .bool false]) (by simp [results, Tryd.results43, go_sem]) rfl (hno.out _ _ _ _ _ (by (repeat' (first | (with_reducible exact Below.refl _ _) | (with_reducible refine Below.app ?_ ?_ _ _) | (with_reducible refine Below.alloc ?_ ?_ _) | (with_reducible refine Below.drew ?_) | (with_reducible refine Below.setCell ?_ ?_ _) | (with_reducible assumption) | omega | (simp; omega) | (simp; done)))))
          · rw [if_pos rfl] at hQ
            replace hyes := Lib.hid (hyes _ _ _ _ hQ)
            clear hno hQ
            rcases hd with rfl | rfl
            · go_enter Tryd.func43, Tryd.ntmps43
              go_wp2_with first
                | (go_at_call 52; ((refine (hat.out _).mono ?_); rintro r w1 ⟨rfl, hb⟩; obtain ⟨b1, b1d, rfl⟩ := of_below hb; clear hb))
                | (go_at_call 39; ((refine (hco.out _).mono ?_); rintro _ _ ⟨rfl, rfl⟩))
              (apply wp_region_text 7; kernel_rfl; kernel_rfl; intro Fin hFin; (repeat (first | (apply text_run; exact rfl; (focus (intro bs d hF K hK; (repeat rw [app_app] at hK); (repeat rw [app_app]); (repeat rw [Array.append_assoc] at hK); (repeat rw [Array.append_assoc]); go_step; first  | (exfalso; assumption)  | (refine hK _ ?_; (repeat' (first | (with_reducible exact Below.refl _ _) | (with_reducible refine Below.app ?_ ?_ _ _) | (with_reducible refine Below.alloc ?_ ?_ _) | (with_reducible refine Below.drew ?_) | (with_reducible refine Below.setCell ?_ ?_ _) | (with_reducible assumption) | omega | (simp; omega) | (simp; done)))))); (try simp only [Act.put, List.setIfInBounds_toArray, List.set_cons_zero, List.set_cons_succ])) | (apply text_skip; exact rfl; (try simp only [Act.put, List.setIfInBounds_toArray, List.set_cons_zero, List.set_cons_succ])))); apply text_end; apply hFin; clear hFin Fin; intro bs d hfa)
              go_wp2
              (apply wp_region_ph0 6; kernel_rfl; (intro Fin hFin; (repeat (first | (apply ph_here_none; exact rfl; exact rfl; exact rfl; (focus (intro bs d hF K hK; go_step; first | (go_at_call 41; ((with_reducible refine (hil.out _).mono ?_); rintro r w1 ⟨rfl, hb⟩; simp only []; exact hK _ hb)) | (refine hK _ ?_; (repeat' (first | (with_reducible exact Below.refl _ _) | (with_reducible refine Below.app ?_ ?_ _ _) | (with_reducible refine Below.alloc ?_ ?_ _) | (with_reducible refine Below.drew ?_) | (with_reducible refine Below.setCell ?_ ?_ _) | (with_reducible assumption) | omega | (simp; omega) | (simp; done))); done)))) | (apply ph_any; exact rfl; (focus (intro wq hF K hK; go_step; first | (go_at_call 41; ((with_reducible refine (hil.out _).mono ?_); rintro r w1 ⟨rfl, hb⟩; simp only []; exact hK _ hb)) | (refine hK _ ?_; exact Below.refl _ _))); (try simp only [Act.put, List.setIfInBounds_toArray, List.set_cons_zero, List.set_cons_succ])) | (apply ph_here; exact rfl; exact rfl; (focus (intro bs d hF K hK; go_step; first | (go_at_call 41; ((with_reducible refine (hil.out _).mono ?_); rintro r w1 ⟨rfl, hb⟩; simp only []; exact hK _ hb)) | (refine hK _ ?_; (repeat' (first | (with_reducible exact Below.refl _ _) | (with_reducible refine Below.app ?_ ?_ _ _) | (with_reducible refine Below.alloc ?_ ?_ _) | (with_reducible refine Below.drew ?_) | (with_reducible refine Below.setCell ?_ ?_ _) | (with_reducible assumption) | omega | (simp; omega) | (simp; done))); done))); (try simp only [Act.put, List.setIfInBounds_toArray, List.set_cons_zero, List.set_cons_succ])) | (apply ph_skip_none; exact rfl; exact rfl) | (apply ph_skip; exact rfl; (try simp only [Act.put, List.setIfInBounds_toArray, List.set_cons_zero, List.set_cons_succ])))); apply ph_end; refine hFin _ _ _ _ _ rfl ?_; clear hFin Fin; intro hpsz bs d hfa; clear hpsz); rotate_left; kernel_rfl)
              go_wp2
              exact bodyPost_ret (v := .tuple #[.agg #[.int .i64 (cd : Int), .bool false, .string ⟨#[]⟩, .string ⟨t4.toArray⟩], .bool true]) (by simp [results, Tryd.results43, go_sem]) rfl (hyes.out _ (by (repeat' (first | (with_reducible exact Below.refl _ _) | (with_reducible refine Below.app ?_ ?_ _ _) | (with_reducible refine Below.alloc ?_ ?_ _) | (with_reducible refine Below.drew ?_) | (with_reducible refine Below.setCell ?_ ?_ _) | (with_reducible assumption) | omega | (simp; omega) | (simp; done)))))
            · go_enter Tryd.func43, Tryd.ntmps43
              go_wp2_with first
                | (go_at_call 52; ((refine (hat.out _).mono ?_); rintro r w1 ⟨rfl, hb⟩; obtain ⟨b1, b1d, rfl⟩ := of_below hb; clear hb))
                | (go_at_call 39; ((refine (hco.out _).mono ?_); rintro _ _ ⟨rfl, rfl⟩))
              (apply wp_region_text 7; kernel_rfl; kernel_rfl; intro Fin hFin; (repeat (first | (apply text_run; exact rfl; (focus (intro bs d hF K hK; (repeat rw [app_app] at hK); (repeat rw [app_app]); (repeat rw [Array.append_assoc] at hK); (repeat rw [Array.append_assoc]); go_step; first  | (exfalso; assumption)  | (refine hK _ ?_; (repeat' (first | (with_reducible exact Below.refl _ _) | (with_reducible refine Below.app ?_ ?_ _ _) | (with_reducible refine Below.alloc ?_ ?_ _) | (with_reducible refine Below.drew ?_) | (with_reducible refine Below.setCell ?_ ?_ _) | (with_reducible assumption) | omega | (simp; omega) | (simp; done)))))); (try simp only [Act.put, List.setIfInBounds_toArray, List.set_cons_zero, List.set_cons_succ])) | (apply text_skip; exact rfl; (try simp only [Act.put, List.setIfInBounds_toArray, List.set_cons_zero, List.set_cons_succ])))); apply text_end; apply hFin; clear hFin Fin; intro bs d hfa)
              go_wp2
              (apply wp_region_ph0 6; kernel_rfl; (intro Fin hFin; (repeat (first | (apply ph_here_none; exact rfl; exact rfl; exact rfl; (focus (intro bs d hF K hK; go_step; first | (go_at_call 41; ((with_reducible refine (hil.out _).mono ?_); rintro r w1 ⟨rfl, hb⟩; simp only []; exact hK _ hb)) | (refine hK _ ?_; (repeat' (first | (with_reducible exact Below.refl _ _) | (with_reducible refine Below.app ?_ ?_ _ _) | (with_reducible refine Below.alloc ?_ ?_ _) | (with_reducible refine Below.drew ?_) | (with_reducible refine Below.setCell ?_ ?_ _) | (with_reducible assumption) | omega | (simp; omega) | (simp; done))); done)))) | (apply ph_any; exact rfl; (focus (intro wq hF K hK; go_step; first | (go_at_call 41; ((with_reducible refine (hil.out _).mono ?_); rintro r w1 ⟨rfl, hb⟩; simp only []; exact hK _ hb)) | (refine hK _ ?_; exact Below.refl _ _))); (try simp only [Act.put, List.setIfInBounds_toArray, List.set_cons_zero, List.set_cons_succ])) | (apply ph_here; exact rfl; exact rfl; (focus (intro bs d hF K hK; go_step; first | (go_at_call 41; ((with_reducible refine (hil.out _).mono ?_); rintro r w1 ⟨rfl, hb⟩; simp only []; exact hK _ hb)) | (refine hK _ ?_; (repeat' (first | (with_reducible exact Below.refl _ _) | (with_reducible refine Below.app ?_ ?_ _ _) | (with_reducible refine Below.alloc ?_ ?_ _) | (with_reducible refine Below.drew ?_) | (with_reducible refine Below.setCell ?_ ?_ _) | (with_reducible assumption) | omega | (simp; omega) | (simp; done))); done))); (try simp only [Act.put, List.setIfInBounds_toArray, List.set_cons_zero, List.set_cons_succ])) | (apply ph_skip_none; exact rfl; exact rfl) | (apply ph_skip; exact rfl; (try simp only [Act.put, List.setIfInBounds_toArray, List.set_cons_zero, List.set_cons_succ])))); apply ph_end; refine hFin _ _ _ _ _ rfl ?_; clear hFin Fin; intro hpsz bs d hfa; clear hpsz); rotate_left; kernel_rfl)
              go_wp2
              exact bodyPost_ret (v := .tuple #[.agg #[.int .i64 (cd : Int), .bool true, .string ⟨#[]⟩, .string ⟨t4.toArray⟩], .bool true]) (by simp [results, Tryd.results43, go_sem]) rfl (hyes.out _ (by (repeat' (first | (with_reducible exact Below.refl _ _) | (with_reducible refine Below.app ?_ ?_ _ _) | (with_reducible refine Below.alloc ?_ ?_ _) | (with_reducible refine Below.drew ?_) | (with_reducible refine Below.setCell ?_ ?_ _) | (with_reducible assumption) | omega | (simp; omega) | (simp; done)))))
        · rw [if_pos rfl] at hQ
          have hcl := cut_len8 t4 [32]
          generalize Lib.cut t4 [32] = C at *
          obtain ⟨e1, x1, fd⟩ := C
          simp only at hQ hcu hcl
          have hft := fun (W : World) (hW : Below w.heap.size w W) => hft e1 W hW (by omega)
          have hil := fun W => isLine_calls ⟨x1.toArray⟩ (by show x1.toArray.size ≤ _; rw [List.size_toArray]; omega) W
          rw [show (⟨x1.toArray⟩ : ByteArray).data.toList = x1 from rfl] at hil
          generalize fitsB e1 cd = fb at *
          generalize lineB x1 = lb at *
          replace hft := Lib.hid hft
          replace hil := Lib.hid hil
          replace hcu := Lib.hid hcu
          clear hw hlib hdg hc2 hc5 n32 n45 m45 hcl
          cases fd
          · rw [Bool.false_and, if_neg (by simp)] at hQ
            replace hno := Lib.hid (hno hQ)
            clear hyes hQ hft hil
            rcases hd with rfl | rfl
            · go_enter Tryd.func43, Tryd.ntmps43
              go_wp2_with first
                | (go_at_call 52; ((refine (hat.out _).mono ?_); rintro r w1 ⟨rfl, hb⟩; obtain ⟨b1, b1d, rfl⟩ := of_below hb; clear hb))
                | (go_at_call 39; ((refine (hco.out _).mono ?_); rintro _ _ ⟨rfl, rfl⟩))
              (apply wp_region_text 7; kernel_rfl; kernel_rfl; intro Fin hFin; (repeat (first | (apply text_run; exact rfl; (focus (intro bs d hF K hK; (repeat rw [app_app] at hK); (repeat rw [app_app]); (repeat rw [Array.append_assoc] at hK); (repeat rw [Array.append_assoc]); go_step; first  | (exfalso; assumption)  | (refine hK _ ?_; (repeat' (first | (with_reducible exact Below.refl _ _) | (with_reducible refine Below.app ?_ ?_ _ _) | (with_reducible refine Below.alloc ?_ ?_ _) | (with_reducible refine Below.drew ?_) | (with_reducible refine Below.setCell ?_ ?_ _) | (with_reducible assumption) | omega | (simp; omega) | (simp; done)))))); (try simp only [Act.put, List.setIfInBounds_toArray, List.set_cons_zero, List.set_cons_succ])) | (apply text_skip; exact rfl; (try simp only [Act.put, List.setIfInBounds_toArray, List.set_cons_zero, List.set_cons_succ])))); apply text_end; apply hFin; clear hFin Fin; intro bs d hfa)
              go_wp2_with first
                | (go_at_call 59; ((refine (hcu.out _ (by (repeat' (first | (with_reducible exact Below.refl _ _) | (with_reducible refine Below.app ?_ ?_ _ _) | (with_reducible refine Below.alloc ?_ ?_ _) | (with_reducible refine Below.drew ?_) | (with_reducible refine Below.setCell ?_ ?_ _) | (with_reducible assumption) | omega | (simp; omega) | (simp; done))))).mono ?_); rintro r w1 ⟨rfl, hb⟩; obtain ⟨b2, b2d, rfl⟩ := of_below hb; clear hb))
                | (go_at_call 40; ((refine (hft.out _ (by (repeat' (first | (with_reducible exact Below.refl _ _) | (with_reducible refine Below.app ?_ ?_ _ _) | (with_reducible refine Below.alloc ?_ ?_ _) | (with_reducible refine Below.drew ?_) | (with_reducible refine Below.setCell ?_ ?_ _) | (with_reducible assumption) | omega | (simp; omega) | (simp; done))))).mono ?_); rintro r w1 ⟨rfl, hb⟩; obtain ⟨b3, b3d, rfl⟩ := of_below hb; clear hb))
              exact bodyPost_ret (v := .tuple #[.agg #[.int .i64 (cd : Int), .bool false, .string ⟨e1.toArray⟩, .string ⟨x1.toArray⟩], .bool false]) (by simp [results, Tryd.results43, go_sem]) rfl (hno.out _ _ _ _ _ (by (repeat' (first | (with_reducible exact Below.refl _ _) | (with_reducible refine Below.app ?_ ?_ _ _) | (with_reducible refine Below.alloc ?_ ?_ _) | (with_reducible refine Below.drew ?_) | (with_reducible refine Below.setCell ?_ ?_ _) | (with_reducible assumption) | omega | (simp; omega) | (simp; done)))))
            · go_enter Tryd.func43, Tryd.ntmps43
              go_wp2_with first
                | (go_at_call 52; ((refine (hat.out _).mono ?_); rintro r w1 ⟨rfl, hb⟩; obtain ⟨b1, b1d, rfl⟩ := of_below hb; clear hb))
                | (go_at_call 39; ((refine (hco.out _).mono ?_); rintro _ _ ⟨rfl, rfl⟩))
              (apply wp_region_text 7; kernel_rfl; kernel_rfl; intro Fin hFin; (repeat (first | (apply text_run; exact rfl; (focus (intro bs d hF K hK; (repeat rw [app_app] at hK); (repeat rw [app_app]); (repeat rw [Array.append_assoc] at hK); (repeat rw [Array.append_assoc]); go_step; first  | (exfalso; assumption)  | (refine hK _ ?_; (repeat' (first | (with_reducible exact Below.refl _ _) | (with_reducible refine Below.app ?_ ?_ _ _) | (with_reducible refine Below.alloc ?_ ?_ _) | (with_reducible refine Below.drew ?_) | (with_reducible refine Below.setCell ?_ ?_ _) | (with_reducible assumption) | omega | (simp; omega) | (simp; done)))))); (try simp only [Act.put, List.setIfInBounds_toArray, List.set_cons_zero, List.set_cons_succ])) | (apply text_skip; exact rfl; (try simp only [Act.put, List.setIfInBounds_toArray, List.set_cons_zero, List.set_cons_succ])))); apply text_end; apply hFin; clear hFin Fin; intro bs d hfa)
              go_wp2_with first
                | (go_at_call 59; ((refine (hcu.out _ (by (repeat' (first | (with_reducible exact Below.refl _ _) | (with_reducible refine Below.app ?_ ?_ _ _) | (with_reducible refine Below.alloc ?_ ?_ _) | (with_reducible refine Below.drew ?_) | (with_reducible refine Below.setCell ?_ ?_ _) | (with_reducible assumption) | omega | (simp; omega) | (simp; done))))).mono ?_); rintro r w1 ⟨rfl, hb⟩; obtain ⟨b2, b2d, rfl⟩ := of_below hb; clear hb))
                | (go_at_call 40; ((refine (hft.out _ (by (repeat' (first | (with_reducible exact Below.refl _ _) | (with_reducible refine Below.app ?_ ?_ _ _) | (with_reducible refine Below.alloc ?_ ?_ _) | (with_reducible refine Below.drew ?_) | (with_reducible refine Below.setCell ?_ ?_ _) | (with_reducible assumption) | omega | (simp; omega) | (simp; done))))).mono ?_); rintro r w1 ⟨rfl, hb⟩; obtain ⟨b3, b3d, rfl⟩ := of_below hb; clear hb))
              exact bodyPost_ret (v := .tuple #[.agg #[.int .i64 (cd : Int), .bool true, .string ⟨e1.toArray⟩, .string ⟨x1.toArray⟩], .bool false]) (by simp [results, Tryd.results43, go_sem]) rfl (hno.out _ _ _ _ _ (by (repeat' (first | (with_reducible exact Below.refl _ _) | (with_reducible refine Below.app ?_ ?_ _ _) | (with_reducible refine Below.alloc ?_ ?_ _) | (with_reducible refine Below.drew ?_) | (with_reducible refine Below.setCell ?_ ?_ _) | (with_reducible assumption) | omega | (simp; omega) | (simp; done)))))
          · cases fb
            · rw [Bool.false_and, Bool.and_false, if_neg (by simp)] at hQ
              replace hno := Lib.hid (hno hQ)
              clear hyes hQ hil
              rcases hd with rfl | rfl
              · go_enter Tryd.func43, Tryd.ntmps43
                go_wp2_with first
                  | (go_at_call 52; ((refine (hat.out _).mono ?_); rintro r w1 ⟨rfl, hb⟩; obtain ⟨b1, b1d, rfl⟩ := of_below hb; clear hb))
                  | (go_at_call 39; ((refine (hco.out _).mono ?_); rintro _ _ ⟨rfl, rfl⟩))
                (apply wp_region_text 7; kernel_rfl; kernel_rfl; intro Fin hFin; (repeat (first | (apply text_run; exact rfl; (focus (intro bs d hF K hK; (repeat rw [app_app] at hK); (repeat rw [app_app]); (repeat rw [Array.append_assoc] at hK); (repeat rw [Array.append_assoc]); go_step; first  | (exfalso; assumption)  | (refine hK _ ?_; (repeat' (first | (with_reducible exact Below.refl _ _) | (with_reducible refine Below.app ?_ ?_ _ _) | (with_reducible refine Below.alloc ?_ ?_ _) | (with_reducible refine Below.drew ?_) | (with_reducible refine Below.setCell ?_ ?_ _) | (with_reducible assumption) | omega | (simp; omega) | (simp; done)))))); (try simp only [Act.put, List.setIfInBounds_toArray, List.set_cons_zero, List.set_cons_succ])) | (apply text_skip; exact rfl; (try simp only [Act.put, List.setIfInBounds_toArray, List.set_cons_zero, List.set_cons_succ])))); apply text_end; apply hFin; clear hFin Fin; intro bs d hfa)
                go_wp2_with first
                  | (go_at_call 59; ((refine (hcu.out _ (by (repeat' (first | (with_reducible exact Below.refl _ _) | (with_reducible refine Below.app ?_ ?_ _ _) | (with_reducible refine Below.alloc ?_ ?_ _) | (with_reducible refine Below.drew ?_) | (with_reducible refine Below.setCell ?_ ?_ _) | (with_reducible assumption) | omega | (simp; omega) | (simp; done))))).mono ?_); rintro r w1 ⟨rfl, hb⟩; obtain ⟨b2, b2d, rfl⟩ := of_below hb; clear hb))
                  | (go_at_call 40; ((refine (hft.out _ (by (repeat' (first | (with_reducible exact Below.refl _ _) | (with_reducible refine Below.app ?_ ?_ _ _) | (with_reducible refine Below.alloc ?_ ?_ _) | (with_reducible refine Below.drew ?_) | (with_reducible refine Below.setCell ?_ ?_ _) | (with_reducible assumption) | omega | (simp; omega) | (simp; done))))).mono ?_); rintro r w1 ⟨rfl, hb⟩; obtain ⟨b3, b3d, rfl⟩ := of_below hb; clear hb))
                exact bodyPost_ret (v := .tuple #[.agg #[.int .i64 (cd : Int), .bool false, .string ⟨e1.toArray⟩, .string ⟨x1.toArray⟩], .bool false]) (by simp [results, Tryd.results43, go_sem]) rfl (hno.out _ _ _ _ _ (by (repeat' (first | (with_reducible exact Below.refl _ _) | (with_reducible refine Below.app ?_ ?_ _ _) | (with_reducible refine Below.alloc ?_ ?_ _) | (with_reducible refine Below.drew ?_) | (with_reducible refine Below.setCell ?_ ?_ _) | (with_reducible assumption) | omega | (simp; omega) | (simp; done)))))
              · go_enter Tryd.func43, Tryd.ntmps43
                go_wp2_with first
                  | (go_at_call 52; ((refine (hat.out _).mono ?_); rintro r w1 ⟨rfl, hb⟩; obtain ⟨b1, b1d, rfl⟩ := of_below hb; clear hb))
                  | (go_at_call 39; ((refine (hco.out _).mono ?_); rintro _ _ ⟨rfl, rfl⟩))
                (apply wp_region_text 7; kernel_rfl; kernel_rfl; intro Fin hFin; (repeat (first | (apply text_run; exact rfl; (focus (intro bs d hF K hK; (repeat rw [app_app] at hK); (repeat rw [app_app]); (repeat rw [Array.append_assoc] at hK); (repeat rw [Array.append_assoc]); go_step; first  | (exfalso; assumption)  | (refine hK _ ?_; (repeat' (first | (with_reducible exact Below.refl _ _) | (with_reducible refine Below.app ?_ ?_ _ _) | (with_reducible refine Below.alloc ?_ ?_ _) | (with_reducible refine Below.drew ?_) | (with_reducible refine Below.setCell ?_ ?_ _) | (with_reducible assumption) | omega | (simp; omega) | (simp; done)))))); (try simp only [Act.put, List.setIfInBounds_toArray, List.set_cons_zero, List.set_cons_succ])) | (apply text_skip; exact rfl; (try simp only [Act.put, List.setIfInBounds_toArray, List.set_cons_zero, List.set_cons_succ])))); apply text_end; apply hFin; clear hFin Fin; intro bs d hfa)
                go_wp2_with first
                  | (go_at_call 59; ((refine (hcu.out _ (by (repeat' (first | (with_reducible exact Below.refl _ _) | (with_reducible refine Below.app ?_ ?_ _ _) | (with_reducible refine Below.alloc ?_ ?_ _) | (with_reducible refine Below.drew ?_) | (with_reducible refine Below.setCell ?_ ?_ _) | (with_reducible assumption) | omega | (simp; omega) | (simp; done))))).mono ?_); rintro r w1 ⟨rfl, hb⟩; obtain ⟨b2, b2d, rfl⟩ := of_below hb; clear hb))
                  | (go_at_call 40; ((refine (hft.out _ (by (repeat' (first | (with_reducible exact Below.refl _ _) | (with_reducible refine Below.app ?_ ?_ _ _) | (with_reducible refine Below.alloc ?_ ?_ _) | (with_reducible refine Below.drew ?_) | (with_reducible refine Below.setCell ?_ ?_ _) | (with_reducible assumption) | omega | (simp; omega) | (simp; done))))).mono ?_); rintro r w1 ⟨rfl, hb⟩; obtain ⟨b3, b3d, rfl⟩ := of_below hb; clear hb))
                exact bodyPost_ret (v := .tuple #[.agg #[.int .i64 (cd : Int), .bool true, .string ⟨e1.toArray⟩, .string ⟨x1.toArray⟩], .bool false]) (by simp [results, Tryd.results43, go_sem]) rfl (hno.out _ _ _ _ _ (by (repeat' (first | (with_reducible exact Below.refl _ _) | (with_reducible refine Below.app ?_ ?_ _ _) | (with_reducible refine Below.alloc ?_ ?_ _) | (with_reducible refine Below.drew ?_) | (with_reducible refine Below.setCell ?_ ?_ _) | (with_reducible assumption) | omega | (simp; omega) | (simp; done)))))
            · cases lb
              · rw [Bool.and_false, Bool.and_false, if_neg (by simp)] at hQ
                replace hno := Lib.hid (hno hQ)
                clear hyes hQ
                rcases hd with rfl | rfl
                · go_enter Tryd.func43, Tryd.ntmps43
                  go_wp2_with first
                    | (go_at_call 52; ((refine (hat.out _).mono ?_); rintro r w1 ⟨rfl, hb⟩; obtain ⟨b1, b1d, rfl⟩ := of_below hb; clear hb))
                    | (go_at_call 39; ((refine (hco.out _).mono ?_); rintro _ _ ⟨rfl, rfl⟩))
                  (apply wp_region_text 7; kernel_rfl; kernel_rfl; intro Fin hFin; (repeat (first | (apply text_run; exact rfl; (focus (intro bs d hF K hK; (repeat rw [app_app] at hK); (repeat rw [app_app]); (repeat rw [Array.append_assoc] at hK); (repeat rw [Array.append_assoc]); go_step; first  | (exfalso; assumption)  | (refine hK _ ?_; (repeat' (first | (with_reducible exact Below.refl _ _) | (with_reducible refine Below.app ?_ ?_ _ _) | (with_reducible refine Below.alloc ?_ ?_ _) | (with_reducible refine Below.drew ?_) | (with_reducible refine Below.setCell ?_ ?_ _) | (with_reducible assumption) | omega | (simp; omega) | (simp; done)))))); (try simp only [Act.put, List.setIfInBounds_toArray, List.set_cons_zero, List.set_cons_succ])) | (apply text_skip; exact rfl; (try simp only [Act.put, List.setIfInBounds_toArray, List.set_cons_zero, List.set_cons_succ])))); apply text_end; apply hFin; clear hFin Fin; intro bs d hfa)
                  go_wp2_with first
                    | (go_at_call 59; ((refine (hcu.out _ (by (repeat' (first | (with_reducible exact Below.refl _ _) | (with_reducible refine Below.app ?_ ?_ _ _) | (with_reducible refine Below.alloc ?_ ?_ _) | (with_reducible refine Below.drew ?_) | (with_reducible refine Below.setCell ?_ ?_ _) | (with_reducible assumption) | omega | (simp; omega) | (simp; done))))).mono ?_); rintro r w1 ⟨rfl, hb⟩; obtain ⟨b2, b2d, rfl⟩ := of_below hb; clear hb))
                    | (go_at_call 40; ((refine (hft.out _ (by (repeat' (first | (with_reducible exact Below.refl _ _) | (with_reducible refine Below.app ?_ ?_ _ _) | (with_reducible refine Below.alloc ?_ ?_ _) | (with_reducible refine Below.drew ?_) | (with_reducible refine Below.setCell ?_ ?_ _) | (with_reducible assumption) | omega | (simp; omega) | (simp; done))))).mono ?_); rintro r w1 ⟨rfl, hb⟩; obtain ⟨b3, b3d, rfl⟩ := of_below hb; clear hb))
                  (apply wp_region_ph0 6; kernel_rfl; (intro Fin hFin; (repeat (first | (apply ph_here_none; exact rfl; exact rfl; exact rfl; (focus (intro bs d hF K hK; go_step; first | (go_at_call 41; ((with_reducible refine (hil.out _).mono ?_); rintro r w1 ⟨rfl, hb⟩; simp only []; exact hK _ hb)) | (refine hK _ ?_; (repeat' (first | (with_reducible exact Below.refl _ _) | (with_reducible refine Below.app ?_ ?_ _ _) | (with_reducible refine Below.alloc ?_ ?_ _) | (with_reducible refine Below.drew ?_) | (with_reducible refine Below.setCell ?_ ?_ _) | (with_reducible assumption) | omega | (simp; omega) | (simp; done))); done)))) | (apply ph_any; exact rfl; (focus (intro wq hF K hK; go_step; first | (go_at_call 41; ((with_reducible refine (hil.out _).mono ?_); rintro r w1 ⟨rfl, hb⟩; simp only []; exact hK _ hb)) | (refine hK _ ?_; exact Below.refl _ _))); (try simp only [Act.put, List.setIfInBounds_toArray, List.set_cons_zero, List.set_cons_succ])) | (apply ph_here; exact rfl; exact rfl; (focus (intro bs d hF K hK; go_step; first | (go_at_call 41; ((with_reducible refine (hil.out _).mono ?_); rintro r w1 ⟨rfl, hb⟩; simp only []; exact hK _ hb)) | (refine hK _ ?_; (repeat' (first | (with_reducible exact Below.refl _ _) | (with_reducible refine Below.app ?_ ?_ _ _) | (with_reducible refine Below.alloc ?_ ?_ _) | (with_reducible refine Below.drew ?_) | (with_reducible refine Below.setCell ?_ ?_ _) | (with_reducible assumption) | omega | (simp; omega) | (simp; done))); done))); (try simp only [Act.put, List.setIfInBounds_toArray, List.set_cons_zero, List.set_cons_succ])) | (apply ph_skip_none; exact rfl; exact rfl) | (apply ph_skip; exact rfl; (try simp only [Act.put, List.setIfInBounds_toArray, List.set_cons_zero, List.set_cons_succ])))); apply ph_end; refine hFin _ _ _ _ _ rfl ?_; clear hFin Fin; intro hpsz bs d hfa; clear hpsz); rotate_left; kernel_rfl)
                  go_wp2
                  exact bodyPost_ret (v := .tuple #[.agg #[.int .i64 (cd : Int), .bool false, .string ⟨e1.toArray⟩, .string ⟨x1.toArray⟩], .bool false]) (by simp [results, Tryd.results43, go_sem]) rfl (hno.out _ _ _ _ _ (by (repeat' (first | (with_reducible exact Below.refl _ _) | (with_reducible refine Below.app ?_ ?_ _ _) | (with_reducible refine Below.alloc ?_ ?_ _) | (with_reducible refine Below.drew ?_) | (with_reducible refine Below.setCell ?_ ?_ _) | (with_reducible assumption) | omega | (simp; omega) | (simp; done)))))
                · go_enter Tryd.func43, Tryd.ntmps43
                  go_wp2_with first
                    | (go_at_call 52; ((refine (hat.out _).mono ?_); rintro r w1 ⟨rfl, hb⟩; obtain ⟨b1, b1d, rfl⟩ := of_below hb; clear hb))
                    | (go_at_call 39; ((refine (hco.out _).mono ?_); rintro _ _ ⟨rfl, rfl⟩))
                  (apply wp_region_text 7; kernel_rfl; kernel_rfl; intro Fin hFin; (repeat (first | (apply text_run; exact rfl; (focus (intro bs d hF K hK; (repeat rw [app_app] at hK); (repeat rw [app_app]); (repeat rw [Array.append_assoc] at hK); (repeat rw [Array.append_assoc]); go_step; first  | (exfalso; assumption)  | (refine hK _ ?_; (repeat' (first | (with_reducible exact Below.refl _ _) | (with_reducible refine Below.app ?_ ?_ _ _) | (with_reducible refine Below.alloc ?_ ?_ _) | (with_reducible refine Below.drew ?_) | (with_reducible refine Below.setCell ?_ ?_ _) | (with_reducible assumption) | omega | (simp; omega) | (simp; done)))))); (try simp only [Act.put, List.setIfInBounds_toArray, List.set_cons_zero, List.set_cons_succ])) | (apply text_skip; exact rfl; (try simp only [Act.put, List.setIfInBounds_toArray, List.set_cons_zero, List.set_cons_succ])))); apply text_end; apply hFin; clear hFin Fin; intro bs d hfa)
                  go_wp2_with first
                    | (go_at_call 59; ((refine (hcu.out _ (by (repeat' (first | (with_reducible exact Below.refl _ _) | (with_reducible refine Below.app ?_ ?_ _ _) | (with_reducible refine Below.alloc ?_ ?_ _) | (with_reducible refine Below.drew ?_) | (with_reducible refine Below.setCell ?_ ?_ _) | (with_reducible assumption) | omega | (simp; omega) | (simp; done))))).mono ?_); rintro r w1 ⟨rfl, hb⟩; obtain ⟨b2, b2d, rfl⟩ := of_below hb; clear hb))
                    | (go_at_call 40; ((refine (hft.out _ (by (repeat' (first | (with_reducible exact Below.refl _ _) | (with_reducible refine Below.app ?_ ?_ _ _) | (with_reducible refine Below.alloc ?_ ?_ _) | (with_reducible refine Below.drew ?_) | (with_reducible refine Below.setCell ?_ ?_ _) | (with_reducible assumption) | omega | (simp; omega) | (simp; done))))).mono ?_); rintro r w1 ⟨rfl, hb⟩; obtain ⟨b3, b3d, rfl⟩ := of_below hb; clear hb))
                  (apply wp_region_ph0 6; kernel_rfl; (intro Fin hFin; (repeat (first | (apply ph_here_none; exact rfl; exact rfl; exact rfl; (focus (intro bs d hF K hK; go_step; first | (go_at_call 41; ((with_reducible refine (hil.out _).mono ?_); rintro r w1 ⟨rfl, hb⟩; simp only []; exact hK _ hb)) | (refine hK _ ?_; (repeat' (first | (with_reducible exact Below.refl _ _) | (with_reducible refine Below.app ?_ ?_ _ _) | (with_reducible refine Below.alloc ?_ ?_ _) | (with_reducible refine Below.drew ?_) | (with_reducible refine Below.setCell ?_ ?_ _) | (with_reducible assumption) | omega | (simp; omega) | (simp; done))); done)))) | (apply ph_any; exact rfl; (focus (intro wq hF K hK; go_step; first | (go_at_call 41; ((with_reducible refine (hil.out _).mono ?_); rintro r w1 ⟨rfl, hb⟩; simp only []; exact hK _ hb)) | (refine hK _ ?_; exact Below.refl _ _))); (try simp only [Act.put, List.setIfInBounds_toArray, List.set_cons_zero, List.set_cons_succ])) | (apply ph_here; exact rfl; exact rfl; (focus (intro bs d hF K hK; go_step; first | (go_at_call 41; ((with_reducible refine (hil.out _).mono ?_); rintro r w1 ⟨rfl, hb⟩; simp only []; exact hK _ hb)) | (refine hK _ ?_; (repeat' (first | (with_reducible exact Below.refl _ _) | (with_reducible refine Below.app ?_ ?_ _ _) | (with_reducible refine Below.alloc ?_ ?_ _) | (with_reducible refine Below.drew ?_) | (with_reducible refine Below.setCell ?_ ?_ _) | (with_reducible assumption) | omega | (simp; omega) | (simp; done))); done))); (try simp only [Act.put, List.setIfInBounds_toArray, List.set_cons_zero, List.set_cons_succ])) | (apply ph_skip_none; exact rfl; exact rfl) | (apply ph_skip; exact rfl; (try simp only [Act.put, List.setIfInBounds_toArray, List.set_cons_zero, List.set_cons_succ])))); apply ph_end; refine hFin _ _ _ _ _ rfl ?_; clear hFin Fin; intro hpsz bs d hfa; clear hpsz); rotate_left; kernel_rfl)
                  go_wp2
                  exact bodyPost_ret (v := .tuple #[.agg #[.int .i64 (cd : Int), .bool true, .string ⟨e1.toArray⟩, .string ⟨x1.toArray⟩], .bool false]) (by simp [results, Tryd.results43, go_sem]) rfl (hno.out _ _ _ _ _ (by (repeat' (first | (with_reducible exact Below.refl _ _) | (with_reducible refine Below.app ?_ ?_ _ _) | (with_reducible refine Below.alloc ?_ ?_ _) | (with_reducible refine Below.drew ?_) | (with_reducible refine Below.setCell ?_ ?_ _) | (with_reducible assumption) | omega | (simp; omega) | (simp; done)))))
              · rw [Bool.and_true, Bool.and_true, if_pos rfl] at hQ
                replace hyes := Lib.hid (hyes _ _ _ _ hQ)
                clear hno hQ
                rcases hd with rfl | rfl
                · go_enter Tryd.func43, Tryd.ntmps43
                  go_wp2_with first
                    | (go_at_call 52; ((refine (hat.out _).mono ?_); rintro r w1 ⟨rfl, hb⟩; obtain ⟨b1, b1d, rfl⟩ := of_below hb; clear hb))
                    | (go_at_call 39; ((refine (hco.out _).mono ?_); rintro _ _ ⟨rfl, rfl⟩))
                  (apply wp_region_text 7; kernel_rfl; kernel_rfl; intro Fin hFin; (repeat (first | (apply text_run; exact rfl; (focus (intro bs d hF K hK; (repeat rw [app_app] at hK); (repeat rw [app_app]); (repeat rw [Array.append_assoc] at hK); (repeat rw [Array.append_assoc]); go_step; first  | (exfalso; assumption)  | (refine hK _ ?_; (repeat' (first | (with_reducible exact Below.refl _ _) | (with_reducible refine Below.app ?_ ?_ _ _) | (with_reducible refine Below.alloc ?_ ?_ _) | (with_reducible refine Below.drew ?_) | (with_reducible refine Below.setCell ?_ ?_ _) | (with_reducible assumption) | omega | (simp; omega) | (simp; done)))))); (try simp only [Act.put, List.setIfInBounds_toArray, List.set_cons_zero, List.set_cons_succ])) | (apply text_skip; exact rfl; (try simp only [Act.put, List.setIfInBounds_toArray, List.set_cons_zero, List.set_cons_succ])))); apply text_end; apply hFin; clear hFin Fin; intro bs d hfa)
                  go_wp2_with first
                    | (go_at_call 59; ((refine (hcu.out _ (by (repeat' (first | (with_reducible exact Below.refl _ _) | (with_reducible refine Below.app ?_ ?_ _ _) | (with_reducible refine Below.alloc ?_ ?_ _) | (with_reducible refine Below.drew ?_) | (with_reducible refine Below.setCell ?_ ?_ _) | (with_reducible assumption) | omega | (simp; omega) | (simp; done))))).mono ?_); rintro r w1 ⟨rfl, hb⟩; obtain ⟨b2, b2d, rfl⟩ := of_below hb; clear hb))
                    | (go_at_call 40; ((refine (hft.out _ (by (repeat' (first | (with_reducible exact Below.refl _ _) | (with_reducible refine Below.app ?_ ?_ _ _) | (with_reducible refine Below.alloc ?_ ?_ _) | (with_reducible refine Below.drew ?_) | (with_reducible refine Below.setCell ?_ ?_ _) | (with_reducible assumption) | omega | (simp; omega) | (simp; done))))).mono ?_); rintro r w1 ⟨rfl, hb⟩; obtain ⟨b3, b3d, rfl⟩ := of_below hb; clear hb))
                  (apply wp_region_ph0 6; kernel_rfl; (intro Fin hFin; (repeat (first | (apply ph_here_none; exact rfl; exact rfl; exact rfl; (focus (intro bs d hF K hK; go_step; first | (go_at_call 41; ((with_reducible refine (hil.out _).mono ?_); rintro r w1 ⟨rfl, hb⟩; simp only []; exact hK _ hb)) | (refine hK _ ?_; (repeat' (first | (with_reducible exact Below.refl _ _) | (with_reducible refine Below.app ?_ ?_ _ _) | (with_reducible refine Below.alloc ?_ ?_ _) | (with_reducible refine Below.drew ?_) | (with_reducible refine Below.setCell ?_ ?_ _) | (with_reducible assumption) | omega | (simp; omega) | (simp; done))); done)))) | (apply ph_any; exact rfl; (focus (intro wq hF K hK; go_step; first | (go_at_call 41; ((with_reducible refine (hil.out _).mono ?_); rintro r w1 ⟨rfl, hb⟩; simp only []; exact hK _ hb)) | (refine hK _ ?_; exact Below.refl _ _))); (try simp only [Act.put, List.setIfInBounds_toArray, List.set_cons_zero, List.set_cons_succ])) | (apply ph_here; exact rfl; exact rfl; (focus (intro bs d hF K hK; go_step; first | (go_at_call 41; ((with_reducible refine (hil.out _).mono ?_); rintro r w1 ⟨rfl, hb⟩; simp only []; exact hK _ hb)) | (refine hK _ ?_; (repeat' (first | (with_reducible exact Below.refl _ _) | (with_reducible refine Below.app ?_ ?_ _ _) | (with_reducible refine Below.alloc ?_ ?_ _) | (with_reducible refine Below.drew ?_) | (with_reducible refine Below.setCell ?_ ?_ _) | (with_reducible assumption) | omega | (simp; omega) | (simp; done))); done))); (try simp only [Act.put, List.setIfInBounds_toArray, List.set_cons_zero, List.set_cons_succ])) | (apply ph_skip_none; exact rfl; exact rfl) | (apply ph_skip; exact rfl; (try simp only [Act.put, List.setIfInBounds_toArray, List.set_cons_zero, List.set_cons_succ])))); apply ph_end; refine hFin _ _ _ _ _ rfl ?_; clear hFin Fin; intro hpsz bs d hfa; clear hpsz); rotate_left; kernel_rfl)
                  go_wp2
                  exact bodyPost_ret (v := .tuple #[.agg #[.int .i64 (cd : Int), .bool false, .string ⟨e1.toArray⟩, .string ⟨x1.toArray⟩], .bool true]) (by simp [results, Tryd.results43, go_sem]) rfl (hyes.out _ (by (repeat' (first | (with_reducible exact Below.refl _ _) | (with_reducible refine Below.app ?_ ?_ _ _) | (with_reducible refine Below.alloc ?_ ?_ _) | (with_reducible refine Below.drew ?_) | (with_reducible refine Below.setCell ?_ ?_ _) | (with_reducible assumption) | omega | (simp; omega) | (simp; done)))))
                · go_enter Tryd.func43, Tryd.ntmps43
                  go_wp2_with first
                    | (go_at_call 52; ((refine (hat.out _).mono ?_); rintro r w1 ⟨rfl, hb⟩; obtain ⟨b1, b1d, rfl⟩ := of_below hb; clear hb))
                    | (go_at_call 39; ((refine (hco.out _).mono ?_); rintro _ _ ⟨rfl, rfl⟩))
                  (apply wp_region_text 7; kernel_rfl; kernel_rfl; intro Fin hFin; (repeat (first | (apply text_run; exact rfl; (focus (intro bs d hF K hK; (repeat rw [app_app] at hK); (repeat rw [app_app]); (repeat rw [Array.append_assoc] at hK); (repeat rw [Array.append_assoc]); go_step; first  | (exfalso; assumption)  | (refine hK _ ?_; (repeat' (first | (with_reducible exact Below.refl _ _) | (with_reducible refine Below.app ?_ ?_ _ _) | (with_reducible refine Below.alloc ?_ ?_ _) | (with_reducible refine Below.drew ?_) | (with_reducible refine Below.setCell ?_ ?_ _) | (with_reducible assumption) | omega | (simp; omega) | (simp; done)))))); (try simp only [Act.put, List.setIfInBounds_toArray, List.set_cons_zero, List.set_cons_succ])) | (apply text_skip; exact rfl; (try simp only [Act.put, List.setIfInBounds_toArray, List.set_cons_zero, List.set_cons_succ])))); apply text_end; apply hFin; clear hFin Fin; intro bs d hfa)
                  go_wp2_with first
                    | (go_at_call 59; ((refine (hcu.out _ (by (repeat' (first | (with_reducible exact Below.refl _ _) | (with_reducible refine Below.app ?_ ?_ _ _) | (with_reducible refine Below.alloc ?_ ?_ _) | (with_reducible refine Below.drew ?_) | (with_reducible refine Below.setCell ?_ ?_ _) | (with_reducible assumption) | omega | (simp; omega) | (simp; done))))).mono ?_); rintro r w1 ⟨rfl, hb⟩; obtain ⟨b2, b2d, rfl⟩ := of_below hb; clear hb))
                    | (go_at_call 40; ((refine (hft.out _ (by (repeat' (first | (with_reducible exact Below.refl _ _) | (with_reducible refine Below.app ?_ ?_ _ _) | (with_reducible refine Below.alloc ?_ ?_ _) | (with_reducible refine Below.drew ?_) | (with_reducible refine Below.setCell ?_ ?_ _) | (with_reducible assumption) | omega | (simp; omega) | (simp; done))))).mono ?_); rintro r w1 ⟨rfl, hb⟩; obtain ⟨b3, b3d, rfl⟩ := of_below hb; clear hb))
                  (apply wp_region_ph0 6; kernel_rfl; (intro Fin hFin; (repeat (first | (apply ph_here_none; exact rfl; exact rfl; exact rfl; (focus (intro bs d hF K hK; go_step; first | (go_at_call 41; ((with_reducible refine (hil.out _).mono ?_); rintro r w1 ⟨rfl, hb⟩; simp only []; exact hK _ hb)) | (refine hK _ ?_; (repeat' (first | (with_reducible exact Below.refl _ _) | (with_reducible refine Below.app ?_ ?_ _ _) | (with_reducible refine Below.alloc ?_ ?_ _) | (with_reducible refine Below.drew ?_) | (with_reducible refine Below.setCell ?_ ?_ _) | (with_reducible assumption) | omega | (simp; omega) | (simp; done))); done)))) | (apply ph_any; exact rfl; (focus (intro wq hF K hK; go_step; first | (go_at_call 41; ((with_reducible refine (hil.out _).mono ?_); rintro r w1 ⟨rfl, hb⟩; simp only []; exact hK _ hb)) | (refine hK _ ?_; exact Below.refl _ _))); (try simp only [Act.put, List.setIfInBounds_toArray, List.set_cons_zero, List.set_cons_succ])) | (apply ph_here; exact rfl; exact rfl; (focus (intro bs d hF K hK; go_step; first | (go_at_call 41; ((with_reducible refine (hil.out _).mono ?_); rintro r w1 ⟨rfl, hb⟩; simp only []; exact hK _ hb)) | (refine hK _ ?_; (repeat' (first | (with_reducible exact Below.refl _ _) | (with_reducible refine Below.app ?_ ?_ _ _) | (with_reducible refine Below.alloc ?_ ?_ _) | (with_reducible refine Below.drew ?_) | (with_reducible refine Below.setCell ?_ ?_ _) | (with_reducible assumption) | omega | (simp; omega) | (simp; done))); done))); (try simp only [Act.put, List.setIfInBounds_toArray, List.set_cons_zero, List.set_cons_succ])) | (apply ph_skip_none; exact rfl; exact rfl) | (apply ph_skip; exact rfl; (try simp only [Act.put, List.setIfInBounds_toArray, List.set_cons_zero, List.set_cons_succ])))); apply ph_end; refine hFin _ _ _ _ _ rfl ?_; clear hFin Fin; intro hpsz bs d hfa; clear hpsz); rotate_left; kernel_rfl)
                  go_wp2
                  exact bodyPost_ret (v := .tuple #[.agg #[.int .i64 (cd : Int), .bool true, .string ⟨e1.toArray⟩, .string ⟨x1.toArray⟩], .bool true]) (by simp [results, Tryd.results43, go_sem]) rfl (hyes.out _ (by (repeat' (first | (with_reducible exact Below.refl _ _) | (with_reducible refine Below.app ?_ ?_ _ _) | (with_reducible refine Below.alloc ?_ ?_ _) | (with_reducible refine Below.drew ?_) | (with_reducible refine Below.setCell ?_ ?_ _) | (with_reducible assumption) | omega | (simp; omega) | (simp; done)))))
      · rw [if_neg hok] at hQ
        replace hno := Lib.hid (hno hQ)
        by_cases hv : ∃ v, Lib.atoiAll p3 = .ok v
        · obtain ⟨v, hv⟩ := hv
          have hcb : codeB v = false := by
            cases hcb : codeB v with
            | false => rfl
            | true =>
              exfalso
              unfold codeB at hcb
              rw [decide_eq_true_eq] at hcb
              obtain ⟨h5, h6⟩ := atoi_three hl3 hv hcb.1
              apply hok
              rw [h5, Bool.true_and, decide_eq_true_eq]; omega
          have hat := Lib.hid (fun W => atoi_ok hv (by omega) W)
          have hco := fun W => isCode_calls v W
          rw [hcb] at hco
          replace hco := Lib.hid hco
          clear hyes hQ hw hlib hv hcb hok
          rcases hd with rfl | rfl
          all_goals
            go_enter Tryd.func43, Tryd.ntmps43
            go_wp2_with first
              | (go_at_call 52; ((refine (hat.out _).mono ?_); rintro r w1 ⟨rfl, hb⟩; obtain ⟨b1, b1d, rfl⟩ := of_below hb; clear hb))
              | (go_at_call 39; ((refine (hco.out _).mono ?_); rintro _ _ ⟨rfl, rfl⟩))
            exact bodyPost_ret (v := .tuple #[.agg #[.int .i64 0, .bool false, .string ⟨#[]⟩, .string ⟨#[]⟩], .bool false]) (by simp [results, Tryd.results43, go_sem]) rfl (hno.out _ _ _ _ _ (by (repeat' (first | (with_reducible exact Below.refl _ _) | (with_reducible refine Below.app ?_ ?_ _ _) | (with_reducible refine Below.alloc ?_ ?_ _) | (with_reducible refine Below.drew ?_) | (with_reducible refine Below.setCell ?_ ?_ _) | (with_reducible assumption) | omega | (simp; omega) | (simp; done)))))
        · have hat := Lib.hid (fun W hW => atoi_no (fun v h => hv ⟨v, h⟩) (by omega) (w := W) hW)
          replace hlib := Lib.hid hlib
          clear hyes hQ hw hv hok
          rcases hd with rfl | rfl
          all_goals
            go_enter Tryd.func43, Tryd.ntmps43
            go_wp2_with (go_at_call 52; ((refine (hat.out _ (hlib.out _ (by (repeat' (first | (with_reducible exact Below.refl _ _) | (with_reducible refine Below.app ?_ ?_ _ _) | (with_reducible refine Below.alloc ?_ ?_ _) | (with_reducible refine Below.drew ?_) | (with_reducible refine Below.setCell ?_ ?_ _) | (with_reducible assumption) | omega | (simp; omega) | (simp; done)))))).mono ?_); rintro r1 w1 ⟨v, t1, p1, rfl, hb1⟩; obtain ⟨b1, d1, rfl⟩ := of_below hb1; clear hb1))
            exact bodyPost_ret (v := .tuple #[.agg #[.int .i64 0, .bool false, .string ⟨#[]⟩, .string ⟨#[]⟩], .bool false]) (by simp [results, Tryd.results43, go_sem]) rfl (hno.out _ _ _ _ _ (by (repeat' (first | (with_reducible exact Below.refl _ _) | (with_reducible refine Below.app ?_ ?_ _ _) | (with_reducible refine Below.alloc ?_ ?_ _) | (with_reducible refine Below.drew ?_) | (with_reducible refine Below.setCell ?_ ?_ _) | (with_reducible assumption) | omega | (simp; omega) | (simp; done)))))
    · rw [decide_eq_false hd, Bool.false_and, if_neg (by simp)] at hQ
      replace hno := Lib.hid (hno hQ)
      have e32 : d ≠ 32 := fun e => hd (.inl e)
      have e45 : d ≠ 45 := fun e => hd (.inr e)
      rw [decide_eq_false e32] at n32
      rw [decide_eq_false e45] at n45
      clear hyes hQ hw hlib hd e32 e45 ht3 hd4 m45
      go_enter Tryd.func43, Tryd.ntmps43
      go_wp2
      exact bodyPost_ret (v := .tuple #[.agg #[.int .i64 0, .bool false, .string ⟨#[]⟩, .string ⟨#[]⟩], .bool false]) (by simp [results, Tryd.results43, go_sem]) rfl (hno.out _ _ _ _ _ (by (repeat' (first | (with_reducible exact Below.refl _ _) | (with_reducible refine Below.app ?_ ?_ _ _) | (with_reducible refine Below.alloc ?_ ?_ _) | (with_reducible refine Below.drew ?_) | (with_reducible refine Below.setCell ?_ ?_ _) | (with_reducible assumption) | omega | (simp; omega) | (simp; done)))))
end Go.Proofs.YtalkglheaadigaaDoor
