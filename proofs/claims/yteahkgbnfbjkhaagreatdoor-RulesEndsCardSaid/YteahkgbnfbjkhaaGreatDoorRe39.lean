/-
  HeadNext2.
-/
import Derived.Test.YteahkgbnfbjkhaaGreatDoorRe37
import Derived.Test.YteahkgbnfbjkhaaGreatDoorRe14
set_option maxRecDepth 20000
set_option linter.unusedVariables false
set_option linter.unusedSimpArgs false
set_option linter.unusedSectionVars false
namespace Go.Proofs.YteahkgbnfbjkhaaGreatDoor
open Go.ChangeShapes Go.WideShapes Go.ChangeAt Go.RowKit
def NextPost (R : Option ((List UInt8 × List UInt8) × List UInt8)) (w : World) (r : Ending) (w' : World) : Prop :=
  ((R = none ∧ ∃ x y z : ByteArray, r = .returned (.tuple #[.agg #[.string x, .string y], .string z, .bool false])) ∨
   (∃ n v rest, R = some ((n, v), rest) ∧ r = .returned (.tuple #[.agg #[.string ⟨n.toArray⟩, .string ⟨v.toArray⟩], .string ⟨rest.toArray⟩, .bool true]))) ∧ Below w.heap.size w w'
theorem headBlank_cons (c : UInt8) (t : List UInt8) : headBlank (c :: t) = blankC c := by unfold headBlank headB; simp
theorem cut_len (l sep : List UInt8) : (Lib.cut l sep).1.length ≤ l.length ∧ (Lib.cut l sep).2.1.length ≤ l.length := by
 unfold Lib.cut
 split
 · exact ⟨by simp only [List.length_take]; omega, by simp⟩
 · exact ⟨Nat.le_refl _, by simp⟩
theorem trim_len (l : List UInt8) : (Lib.trimLeftS l [32, 9]).length ≤ l.length := by
 unfold Lib.trimLeftS
 exact (List.dropWhile_suffix _).length_le
def RelNx (V0 R0 : List UInt8) (w : World) (r v : Value) (wr : World) : Prop := ∃ (rest val : List UInt8), r = .string ⟨rest.toArray⟩ ∧ v = .string ⟨val.toArray⟩ ∧ rest.length + val.length ≤ 20000000 ∧
 (∃ bs d, wr = app (w.alloc (.cells #[.string ⟨#[]⟩, .string ⟨#[]⟩] 103)) bs d) ∧ Hid (contQ V0 R0 = contQ val rest)
set_option maxRecDepth 20000 in
set_option maxHeartbeats 8000000 in
theorem next_calls (l : List UInt8) (w : World) (hs : l.length ≤ 10000000) (hm : MaxLenAt w) : Calls Tryz.prog 99 #[.string ⟨l.toArray⟩] w (NextPost (nextQ l) w) := by
 have hpost : ∀ r w', (((nextQ l = none ∧ ∃ x y z : ByteArray, r = Ending.returned (.tuple #[.agg #[.string x, .string y], .string z, .bool false])) ∨ (∃ n v rest, nextQ l = some ((n, v), rest) ∧ r = .returned (.tuple #[.agg #[.string ⟨n.toArray⟩, .string ⟨v.toArray⟩], .string ⟨rest.toArray⟩, .bool true]))) ∧ Below w.heap.size w w') → NextPost (nextQ l) w r w' := fun _ _ h => h
 have hmx := fun (W : World) (hW : Below w.heap.size w W) => hm.below hW
 cases he : endQ false l with
 | none =>
  have hQ : nextQ l = none := by unfold nextQ; rw [he]
  rw [hQ] at hpost
  have hl := fun (W : World) (hW : Below w.heap.size w W) => line_no he W (by omega) (hmx W hW)
  replace hl := Lib.hid hl
  replace hpost := Lib.hid hpost
  rw [hQ]
  clear he hQ hm hmx
  go_enter Tryz.func99, Tryz.ntmps99
  go_wp2_with (go_at_call 150; ((refine (hl.out _ (by (repeat' (first | (with_reducible exact Below.refl _ _) | (with_reducible refine Below.app ?_ ?_ _ _) | (with_reducible refine Below.alloc ?_ ?_ _) | (with_reducible refine Below.drew ?_) | (with_reducible refine Below.setCell ?_ ?_ _) | (with_reducible assumption) | omega | (simp; omega) | (simp; done))))).mono ?_); rintro r w1 ⟨rfl, hb⟩; obtain ⟨b1, b1d, rfl⟩ := of_below hb; clear hb))
  exact bodyPost_ret (v := .tuple #[.agg #[.string ⟨#[]⟩, .string ⟨#[]⟩], .string ⟨#[]⟩, .bool false]) (by simp [results, Tryz.results99, go_sem]) rfl (hpost.out _ _ ⟨.inl ⟨trivial, _, _, _, rfl⟩, by (repeat' (first | (with_reducible exact Below.refl _ _) | (with_reducible refine Below.app ?_ ?_ _ _) | (with_reducible refine Below.alloc ?_ ?_ _) | (with_reducible refine Below.drew ?_) | (with_reducible refine Below.setCell ?_ ?_ _) | (with_reducible assumption) | omega | (simp; omega) | (simp; done)))⟩)
 | some n =>
  have hn2 := endQ_two_le _ _ he
  have hn1 := (endQ_le _ _ _ he).2
  have hl := fun (W : World) (hW : Below w.heap.size w W) => line_yes he W (by omega) (hmx W hW)
  have hcl := cut_len (l.take (n - 2)) [58]
  have hcu := fun (W : World) (hW : Below w.heap.size w W) => cut_calls (l.take (n - 2)) [58] W (by rw [List.length_take]; omega) (hmx W hW)
  have hnq : nextQ l = nextIn (Lib.cut (l.take (n - 2)) [58]) (l.drop n) := by unfold nextQ; rw [he]
  have hlt1 : (l.take (n - 2)).length ≤ 10000000 := by rw [List.length_take]; omega
  have hlt2 : (l.drop n).length ≤ 10000000 := by rw [List.length_drop]; omega
  generalize nextQ l = Q at *
  generalize l.take (n - 2) = L0 at *
  generalize l.drop n = R0 at *
  generalize Lib.cut L0 [58] = C at *
  obtain ⟨name, V0, fd⟩ := C
  simp only at hcl hcu hnq
  have hin := fun w => isName_calls ⟨name.toArray⟩ (by show name.toArray.size ≤ _; rw [List.size_toArray]; omega) w
  rw [show (⟨name.toArray⟩ : ByteArray).data.toList = name from rfl] at hin
  generalize hA : nameB name = A at *
  replace hA := Lib.hid hA
  replace hl := Lib.hid hl
  replace hcu := Lib.hid hcu
  replace hin := Lib.hid hin
  replace hpost := Lib.hid hpost
  replace hmx := Lib.hid hmx
  replace hnq := Lib.hid hnq
  clear he hm
  go_enter Tryz.func99, Tryz.ntmps99
  go_wp2_with first
   | (go_at_call 150; ((refine (hl.out _ (by (repeat' (first | (with_reducible exact Below.refl _ _) | (with_reducible refine Below.app ?_ ?_ _ _) | (with_reducible refine Below.alloc ?_ ?_ _) | (with_reducible refine Below.drew ?_) | (with_reducible refine Below.setCell ?_ ?_ _) | (with_reducible assumption) | omega | (simp; omega) | (simp; done))))).mono ?_); rintro r w1 ⟨rfl, hb⟩; obtain ⟨b1, b1d, rfl⟩ := of_below hb; clear hb))
   | (go_at_call 102; ((refine (hcu.out _ (by (repeat' (first | (with_reducible exact Below.refl _ _) | (with_reducible refine Below.app ?_ ?_ _ _) | (with_reducible refine Below.alloc ?_ ?_ _) | (with_reducible refine Below.drew ?_) | (with_reducible refine Below.setCell ?_ ?_ _) | (with_reducible assumption) | omega | (simp; omega) | (simp; done))))).mono ?_); rintro r w1 ⟨rfl, hb⟩; obtain ⟨b2, b2d, rfl⟩ := of_below hb; clear hb))
  go_loopw [3, 7] (fun r v wr => RelNx V0 R0 w r v wr) (fun r _ _ => match r with | .string s => s.size | _ => 0)
  case atStart => exact ⟨R0, V0, rfl, rfl, by omega, ⟨_, _, rfl⟩, by unfold Hid; rfl⟩
  case round =>
   obtain ⟨rest, val, rfl, rfl, hlen, ⟨bs, d, rfl⟩, hr⟩ := hrel
   have hnq := hnq.out
   by_cases h0 : rest = []
   · have hbk : headBlank rest = false := by rw [h0]; rfl
     have hx1 : (rest == []) = true := by rw [h0]; rfl
     have hx2 : rest.isEmpty = true := by rw [h0]; rfl
     clear h0
     have hE : contQ V0 R0 = some (val, rest) := by rw [hr.out, contQ_stop hbk]
     rw [nextIn_some hE] at hnq
     have ht := fun w => trim_calls ⟨val.toArray⟩ w
     rw [show (⟨val.toArray⟩ : ByteArray).data.toList = val from rfl] at ht
     have htl := trim_len val
     have hiv := fun w => isValue_calls ⟨(Lib.trimLeftS val [32, 9]).toArray⟩ (by show (Lib.trimLeftS val [32, 9]).toArray.size ≤ _; rw [List.size_toArray]; omega) w
     rw [show (⟨(Lib.trimLeftS val [32, 9]).toArray⟩ : ByteArray).data.toList = Lib.trimLeftS val [32, 9] from rfl] at hiv
     rw [hA.out] at hnq
     generalize Lib.trimLeftS val [32, 9] = T at *
     generalize valueB T = B at *
     replace ht := Lib.hid ht
     replace hiv := Lib.hid hiv
     clear hE hbk hr
     cases fd
     · rw [Bool.false_and, if_neg (by simp)] at hnq
       replace hnq := Lib.hid hnq
       go_wp2_with (go_at_call 152; ((refine (ht.out _).mono ?_); rintro r w1 ⟨rfl, hb⟩; obtain ⟨b2, b2d, rfl⟩ := of_below hb; clear hb))
       (apply wp_region_ph0 15; kernel_rfl; (intro Fin hFin; (repeat (first | (apply ph_here_none; exact rfl; exact rfl; exact rfl; (focus (intro bs d hF K hK; go_step; first | (go_at_call 153; ((with_reducible refine (hin.out _).mono ?_); rintro r w1 ⟨rfl, hb⟩; simp only []; exact hK _ hb)) | (go_at_call 154; ((with_reducible refine (hiv.out _).mono ?_); rintro r w1 ⟨rfl, hb⟩; simp only []; exact hK _ hb)) | (refine hK _ ?_; (repeat' (first | (with_reducible exact Below.refl _ _) | (with_reducible refine Below.app ?_ ?_ _ _) | (with_reducible refine Below.alloc ?_ ?_ _) | (with_reducible refine Below.drew ?_) | (with_reducible refine Below.setCell ?_ ?_ _) | (with_reducible assumption) | omega | (simp; omega) | (simp; done))); done)))) | (apply ph_any; exact rfl; (focus (intro wq hF K hK; go_step; first | (go_at_call 153; ((with_reducible refine (hin.out _).mono ?_); rintro r w1 ⟨rfl, hb⟩; simp only []; exact hK _ hb)) | (go_at_call 154; ((with_reducible refine (hiv.out _).mono ?_); rintro r w1 ⟨rfl, hb⟩; simp only []; exact hK _ hb)) | (refine hK _ ?_; exact Below.refl _ _))); (try simp only [Act.put, List.setIfInBounds_toArray, List.set_cons_zero, List.set_cons_succ])) | (apply ph_here; exact rfl; exact rfl; (focus (intro bs d hF K hK; go_step; first | (go_at_call 153; ((with_reducible refine (hin.out _).mono ?_); rintro r w1 ⟨rfl, hb⟩; simp only []; exact hK _ hb)) | (go_at_call 154; ((with_reducible refine (hiv.out _).mono ?_); rintro r w1 ⟨rfl, hb⟩; simp only []; exact hK _ hb)) | (refine hK _ ?_; (repeat' (first | (with_reducible exact Below.refl _ _) | (with_reducible refine Below.app ?_ ?_ _ _) | (with_reducible refine Below.alloc ?_ ?_ _) | (with_reducible refine Below.drew ?_) | (with_reducible refine Below.setCell ?_ ?_ _) | (with_reducible assumption) | omega | (simp; omega) | (simp; done))); done))); (try simp only [Act.put, List.setIfInBounds_toArray, List.set_cons_zero, List.set_cons_succ])) | (apply ph_skip_none; exact rfl; exact rfl) | (apply ph_skip; exact rfl; (try simp only [Act.put, List.setIfInBounds_toArray, List.set_cons_zero, List.set_cons_succ])))); apply ph_end; refine hFin _ _ _ _ _ rfl ?_; clear hFin Fin; intro hpsz bs d hfa; clear hpsz); rotate_left; kernel_rfl)
       go_wp2
       exact bodyPost_ret (v := .tuple #[.agg #[.string ⟨name.toArray⟩, .string ⟨T.toArray⟩], .string ⟨rest.toArray⟩, .bool false]) (by simp [results, Tryz.results99, go_sem]) rfl (hpost.out _ _ ⟨.inl ⟨hnq.out, _, _, _, rfl⟩, by (repeat' (first | (with_reducible exact Below.refl _ _) | (with_reducible refine Below.app ?_ ?_ _ _) | (with_reducible refine Below.alloc ?_ ?_ _) | (with_reducible refine Below.drew ?_) | (with_reducible refine Below.setCell ?_ ?_ _) | (with_reducible assumption) | omega | (simp; omega) | (simp; done)))⟩)
     · cases A
       · rw [Bool.false_and, Bool.true_and, if_neg (by simp)] at hnq
         replace hnq := Lib.hid hnq
         go_wp2_with (go_at_call 152; ((refine (ht.out _).mono ?_); rintro r w1 ⟨rfl, hb⟩; obtain ⟨b2, b2d, rfl⟩ := of_below hb; clear hb))
         (apply wp_region_ph0 15; kernel_rfl; (intro Fin hFin; (repeat (first | (apply ph_here_none; exact rfl; exact rfl; exact rfl; (focus (intro bs d hF K hK; go_step; first | (go_at_call 153; ((with_reducible refine (hin.out _).mono ?_); rintro r w1 ⟨rfl, hb⟩; simp only []; exact hK _ hb)) | (go_at_call 154; ((with_reducible refine (hiv.out _).mono ?_); rintro r w1 ⟨rfl, hb⟩; simp only []; exact hK _ hb)) | (refine hK _ ?_; (repeat' (first | (with_reducible exact Below.refl _ _) | (with_reducible refine Below.app ?_ ?_ _ _) | (with_reducible refine Below.alloc ?_ ?_ _) | (with_reducible refine Below.drew ?_) | (with_reducible refine Below.setCell ?_ ?_ _) | (with_reducible assumption) | omega | (simp; omega) | (simp; done))); done)))) | (apply ph_any; exact rfl; (focus (intro wq hF K hK; go_step; first | (go_at_call 153; ((with_reducible refine (hin.out _).mono ?_); rintro r w1 ⟨rfl, hb⟩; simp only []; exact hK _ hb)) | (go_at_call 154; ((with_reducible refine (hiv.out _).mono ?_); rintro r w1 ⟨rfl, hb⟩; simp only []; exact hK _ hb)) | (refine hK _ ?_; exact Below.refl _ _))); (try simp only [Act.put, List.setIfInBounds_toArray, List.set_cons_zero, List.set_cons_succ])) | (apply ph_here; exact rfl; exact rfl; (focus (intro bs d hF K hK; go_step; first | (go_at_call 153; ((with_reducible refine (hin.out _).mono ?_); rintro r w1 ⟨rfl, hb⟩; simp only []; exact hK _ hb)) | (go_at_call 154; ((with_reducible refine (hiv.out _).mono ?_); rintro r w1 ⟨rfl, hb⟩; simp only []; exact hK _ hb)) | (refine hK _ ?_; (repeat' (first | (with_reducible exact Below.refl _ _) | (with_reducible refine Below.app ?_ ?_ _ _) | (with_reducible refine Below.alloc ?_ ?_ _) | (with_reducible refine Below.drew ?_) | (with_reducible refine Below.setCell ?_ ?_ _) | (with_reducible assumption) | omega | (simp; omega) | (simp; done))); done))); (try simp only [Act.put, List.setIfInBounds_toArray, List.set_cons_zero, List.set_cons_succ])) | (apply ph_skip_none; exact rfl; exact rfl) | (apply ph_skip; exact rfl; (try simp only [Act.put, List.setIfInBounds_toArray, List.set_cons_zero, List.set_cons_succ])))); apply ph_end; refine hFin _ _ _ _ _ rfl ?_; clear hFin Fin; intro hpsz bs d hfa; clear hpsz); rotate_left; kernel_rfl)
         go_wp2
         exact bodyPost_ret (v := .tuple #[.agg #[.string ⟨name.toArray⟩, .string ⟨T.toArray⟩], .string ⟨rest.toArray⟩, .bool false]) (by simp [results, Tryz.results99, go_sem]) rfl (hpost.out _ _ ⟨.inl ⟨hnq.out, _, _, _, rfl⟩, by (repeat' (first | (with_reducible exact Below.refl _ _) | (with_reducible refine Below.app ?_ ?_ _ _) | (with_reducible refine Below.alloc ?_ ?_ _) | (with_reducible refine Below.drew ?_) | (with_reducible refine Below.setCell ?_ ?_ _) | (with_reducible assumption) | omega | (simp; omega) | (simp; done)))⟩)
       · cases B
         · rw [Bool.true_and, Bool.true_and, if_neg (by simp)] at hnq
           replace hnq := Lib.hid hnq
           go_wp2_with (go_at_call 152; ((refine (ht.out _).mono ?_); rintro r w1 ⟨rfl, hb⟩; obtain ⟨b2, b2d, rfl⟩ := of_below hb; clear hb))
           (apply wp_region_ph0 15; kernel_rfl; (intro Fin hFin; (repeat (first | (apply ph_here_none; exact rfl; exact rfl; exact rfl; (focus (intro bs d hF K hK; go_step; first | (go_at_call 153; ((with_reducible refine (hin.out _).mono ?_); rintro r w1 ⟨rfl, hb⟩; simp only []; exact hK _ hb)) | (go_at_call 154; ((with_reducible refine (hiv.out _).mono ?_); rintro r w1 ⟨rfl, hb⟩; simp only []; exact hK _ hb)) | (refine hK _ ?_; (repeat' (first | (with_reducible exact Below.refl _ _) | (with_reducible refine Below.app ?_ ?_ _ _) | (with_reducible refine Below.alloc ?_ ?_ _) | (with_reducible refine Below.drew ?_) | (with_reducible refine Below.setCell ?_ ?_ _) | (with_reducible assumption) | omega | (simp; omega) | (simp; done))); done)))) | (apply ph_any; exact rfl; (focus (intro wq hF K hK; go_step; first | (go_at_call 153; ((with_reducible refine (hin.out _).mono ?_); rintro r w1 ⟨rfl, hb⟩; simp only []; exact hK _ hb)) | (go_at_call 154; ((with_reducible refine (hiv.out _).mono ?_); rintro r w1 ⟨rfl, hb⟩; simp only []; exact hK _ hb)) | (refine hK _ ?_; exact Below.refl _ _))); (try simp only [Act.put, List.setIfInBounds_toArray, List.set_cons_zero, List.set_cons_succ])) | (apply ph_here; exact rfl; exact rfl; (focus (intro bs d hF K hK; go_step; first | (go_at_call 153; ((with_reducible refine (hin.out _).mono ?_); rintro r w1 ⟨rfl, hb⟩; simp only []; exact hK _ hb)) | (go_at_call 154; ((with_reducible refine (hiv.out _).mono ?_); rintro r w1 ⟨rfl, hb⟩; simp only []; exact hK _ hb)) | (refine hK _ ?_; (repeat' (first | (with_reducible exact Below.refl _ _) | (with_reducible refine Below.app ?_ ?_ _ _) | (with_reducible refine Below.alloc ?_ ?_ _) | (with_reducible refine Below.drew ?_) | (with_reducible refine Below.setCell ?_ ?_ _) | (with_reducible assumption) | omega | (simp; omega) | (simp; done))); done))); (try simp only [Act.put, List.setIfInBounds_toArray, List.set_cons_zero, List.set_cons_succ])) | (apply ph_skip_none; exact rfl; exact rfl) | (apply ph_skip; exact rfl; (try simp only [Act.put, List.setIfInBounds_toArray, List.set_cons_zero, List.set_cons_succ])))); apply ph_end; refine hFin _ _ _ _ _ rfl ?_; clear hFin Fin; intro hpsz bs d hfa; clear hpsz); rotate_left; kernel_rfl)
           go_wp2
           exact bodyPost_ret (v := .tuple #[.agg #[.string ⟨name.toArray⟩, .string ⟨T.toArray⟩], .string ⟨rest.toArray⟩, .bool false]) (by simp [results, Tryz.results99, go_sem]) rfl (hpost.out _ _ ⟨.inl ⟨hnq.out, _, _, _, rfl⟩, by (repeat' (first | (with_reducible exact Below.refl _ _) | (with_reducible refine Below.app ?_ ?_ _ _) | (with_reducible refine Below.alloc ?_ ?_ _) | (with_reducible refine Below.drew ?_) | (with_reducible refine Below.setCell ?_ ?_ _) | (with_reducible assumption) | omega | (simp; omega) | (simp; done)))⟩)
         · rw [Bool.true_and, Bool.true_and, if_pos rfl] at hnq
           replace hnq := Lib.hid hnq
           go_wp2_with (go_at_call 152; ((refine (ht.out _).mono ?_); rintro r w1 ⟨rfl, hb⟩; obtain ⟨b2, b2d, rfl⟩ := of_below hb; clear hb))
           (apply wp_region_ph0 15; kernel_rfl; (intro Fin hFin; (repeat (first | (apply ph_here_none; exact rfl; exact rfl; exact rfl; (focus (intro bs d hF K hK; go_step; first | (go_at_call 153; ((with_reducible refine (hin.out _).mono ?_); rintro r w1 ⟨rfl, hb⟩; simp only []; exact hK _ hb)) | (go_at_call 154; ((with_reducible refine (hiv.out _).mono ?_); rintro r w1 ⟨rfl, hb⟩; simp only []; exact hK _ hb)) | (refine hK _ ?_; (repeat' (first | (with_reducible exact Below.refl _ _) | (with_reducible refine Below.app ?_ ?_ _ _) | (with_reducible refine Below.alloc ?_ ?_ _) | (with_reducible refine Below.drew ?_) | (with_reducible refine Below.setCell ?_ ?_ _) | (with_reducible assumption) | omega | (simp; omega) | (simp; done))); done)))) | (apply ph_any; exact rfl; (focus (intro wq hF K hK; go_step; first | (go_at_call 153; ((with_reducible refine (hin.out _).mono ?_); rintro r w1 ⟨rfl, hb⟩; simp only []; exact hK _ hb)) | (go_at_call 154; ((with_reducible refine (hiv.out _).mono ?_); rintro r w1 ⟨rfl, hb⟩; simp only []; exact hK _ hb)) | (refine hK _ ?_; exact Below.refl _ _))); (try simp only [Act.put, List.setIfInBounds_toArray, List.set_cons_zero, List.set_cons_succ])) | (apply ph_here; exact rfl; exact rfl; (focus (intro bs d hF K hK; go_step; first | (go_at_call 153; ((with_reducible refine (hin.out _).mono ?_); rintro r w1 ⟨rfl, hb⟩; simp only []; exact hK _ hb)) | (go_at_call 154; ((with_reducible refine (hiv.out _).mono ?_); rintro r w1 ⟨rfl, hb⟩; simp only []; exact hK _ hb)) | (refine hK _ ?_; (repeat' (first | (with_reducible exact Below.refl _ _) | (with_reducible refine Below.app ?_ ?_ _ _) | (with_reducible refine Below.alloc ?_ ?_ _) | (with_reducible refine Below.drew ?_) | (with_reducible refine Below.setCell ?_ ?_ _) | (with_reducible assumption) | omega | (simp; omega) | (simp; done))); done))); (try simp only [Act.put, List.setIfInBounds_toArray, List.set_cons_zero, List.set_cons_succ])) | (apply ph_skip_none; exact rfl; exact rfl) | (apply ph_skip; exact rfl; (try simp only [Act.put, List.setIfInBounds_toArray, List.set_cons_zero, List.set_cons_succ])))); apply ph_end; refine hFin _ _ _ _ _ rfl ?_; clear hFin Fin; intro hpsz bs d hfa; clear hpsz); rotate_left; kernel_rfl)
           go_wp2
           exact bodyPost_ret (v := .tuple #[.agg #[.string ⟨name.toArray⟩, .string ⟨T.toArray⟩], .string ⟨rest.toArray⟩, .bool true]) (by simp [results, Tryz.results99, go_sem]) rfl (hpost.out _ _ ⟨.inr ⟨_, _, _, hnq.out, rfl⟩, by (repeat' (first | (with_reducible exact Below.refl _ _) | (with_reducible refine Below.app ?_ ?_ _ _) | (with_reducible refine Below.alloc ?_ ?_ _) | (with_reducible refine Below.drew ?_) | (with_reducible refine Below.setCell ?_ ?_ _) | (with_reducible assumption) | omega | (simp; omega) | (simp; done)))⟩)
   · have hp : 0 < rest.length := List.length_pos_iff.2 h0
     have hbc := blank_calls rest[0]
     have hs0 : 0 < (⟨rest.toArray⟩ : ByteArray).size := by show 0 < rest.toArray.size; simpa using hp
     have hc0 : (⟨rest.toArray⟩ : ByteArray)[0]'hs0 = rest[0] := rfl
     have hbk0 : headBlank rest = blankC rest[0] := by
      cases rest with
      | nil => exact absurd rfl h0
      | cons c t => exact headBlank_cons c t
     have hx1 : (rest == []) = false := by simpa using h0
     have hx2 : rest.isEmpty = false := by simpa using h0
     generalize rest[0] = c at *
     clear h0
     cases hb : blankC c
     · have hbk : headBlank rest = false := by rw [hbk0, hb]
       rw [hb] at hbc
       replace hbc := Lib.hid hbc
       clear hb hbk0
       have hE : contQ V0 R0 = some (val, rest) := by rw [hr.out, contQ_stop hbk]
       rw [nextIn_some hE] at hnq
       have ht := fun w => trim_calls ⟨val.toArray⟩ w
       rw [show (⟨val.toArray⟩ : ByteArray).data.toList = val from rfl] at ht
       have htl := trim_len val
       have hiv := fun w => isValue_calls ⟨(Lib.trimLeftS val [32, 9]).toArray⟩ (by show (Lib.trimLeftS val [32, 9]).toArray.size ≤ _; rw [List.size_toArray]; omega) w
       rw [show (⟨(Lib.trimLeftS val [32, 9]).toArray⟩ : ByteArray).data.toList = Lib.trimLeftS val [32, 9] from rfl] at hiv
       rw [hA.out] at hnq
       generalize Lib.trimLeftS val [32, 9] = T at *
       generalize valueB T = B at *
       replace ht := Lib.hid ht
       replace hiv := Lib.hid hiv
       clear hE hbk hr
       cases fd
       · rw [Bool.false_and, if_neg (by simp)] at hnq
         replace hnq := Lib.hid hnq
         go_wp2_with first | (go_at_call 151; ((refine (hbc.out _).mono ?_); rintro _ _ ⟨rfl, rfl⟩)) | (go_at_call 152; ((refine (ht.out _).mono ?_); rintro r w1 ⟨rfl, hb⟩; obtain ⟨b2, b2d, rfl⟩ := of_below hb; clear hb))
         (apply wp_region_ph0 15; kernel_rfl; (intro Fin hFin; (repeat (first | (apply ph_here_none; exact rfl; exact rfl; exact rfl; (focus (intro bs d hF K hK; go_step; first | (go_at_call 153; ((with_reducible refine (hin.out _).mono ?_); rintro r w1 ⟨rfl, hb⟩; simp only []; exact hK _ hb)) | (go_at_call 154; ((with_reducible refine (hiv.out _).mono ?_); rintro r w1 ⟨rfl, hb⟩; simp only []; exact hK _ hb)) | (refine hK _ ?_; (repeat' (first | (with_reducible exact Below.refl _ _) | (with_reducible refine Below.app ?_ ?_ _ _) | (with_reducible refine Below.alloc ?_ ?_ _) | (with_reducible refine Below.drew ?_) | (with_reducible refine Below.setCell ?_ ?_ _) | (with_reducible assumption) | omega | (simp; omega) | (simp; done))); done)))) | (apply ph_any; exact rfl; (focus (intro wq hF K hK; go_step; first | (go_at_call 153; ((with_reducible refine (hin.out _).mono ?_); rintro r w1 ⟨rfl, hb⟩; simp only []; exact hK _ hb)) | (go_at_call 154; ((with_reducible refine (hiv.out _).mono ?_); rintro r w1 ⟨rfl, hb⟩; simp only []; exact hK _ hb)) | (refine hK _ ?_; exact Below.refl _ _))); (try simp only [Act.put, List.setIfInBounds_toArray, List.set_cons_zero, List.set_cons_succ])) | (apply ph_here; exact rfl; exact rfl; (focus (intro bs d hF K hK; go_step; first | (go_at_call 153; ((with_reducible refine (hin.out _).mono ?_); rintro r w1 ⟨rfl, hb⟩; simp only []; exact hK _ hb)) | (go_at_call 154; ((with_reducible refine (hiv.out _).mono ?_); rintro r w1 ⟨rfl, hb⟩; simp only []; exact hK _ hb)) | (refine hK _ ?_; (repeat' (first | (with_reducible exact Below.refl _ _) | (with_reducible refine Below.app ?_ ?_ _ _) | (with_reducible refine Below.alloc ?_ ?_ _) | (with_reducible refine Below.drew ?_) | (with_reducible refine Below.setCell ?_ ?_ _) | (with_reducible assumption) | omega | (simp; omega) | (simp; done))); done))); (try simp only [Act.put, List.setIfInBounds_toArray, List.set_cons_zero, List.set_cons_succ])) | (apply ph_skip_none; exact rfl; exact rfl) | (apply ph_skip; exact rfl; (try simp only [Act.put, List.setIfInBounds_toArray, List.set_cons_zero, List.set_cons_succ])))); apply ph_end; refine hFin _ _ _ _ _ rfl ?_; clear hFin Fin; intro hpsz bs d hfa; clear hpsz); rotate_left; kernel_rfl)
         go_wp2
         exact bodyPost_ret (v := .tuple #[.agg #[.string ⟨name.toArray⟩, .string ⟨T.toArray⟩], .string ⟨rest.toArray⟩, .bool false]) (by simp [results, Tryz.results99, go_sem]) rfl (hpost.out _ _ ⟨.inl ⟨hnq.out, _, _, _, rfl⟩, by (repeat' (first | (with_reducible exact Below.refl _ _) | (with_reducible refine Below.app ?_ ?_ _ _) | (with_reducible refine Below.alloc ?_ ?_ _) | (with_reducible refine Below.drew ?_) | (with_reducible refine Below.setCell ?_ ?_ _) | (with_reducible assumption) | omega | (simp; omega) | (simp; done)))⟩)
       · cases A
         · rw [Bool.false_and, Bool.true_and, if_neg (by simp)] at hnq
           replace hnq := Lib.hid hnq
           go_wp2_with first | (go_at_call 151; ((refine (hbc.out _).mono ?_); rintro _ _ ⟨rfl, rfl⟩)) | (go_at_call 152; ((refine (ht.out _).mono ?_); rintro r w1 ⟨rfl, hb⟩; obtain ⟨b2, b2d, rfl⟩ := of_below hb; clear hb))
           (apply wp_region_ph0 15; kernel_rfl; (intro Fin hFin; (repeat (first | (apply ph_here_none; exact rfl; exact rfl; exact rfl; (focus (intro bs d hF K hK; go_step; first | (go_at_call 153; ((with_reducible refine (hin.out _).mono ?_); rintro r w1 ⟨rfl, hb⟩; simp only []; exact hK _ hb)) | (go_at_call 154; ((with_reducible refine (hiv.out _).mono ?_); rintro r w1 ⟨rfl, hb⟩; simp only []; exact hK _ hb)) | (refine hK _ ?_; (repeat' (first | (with_reducible exact Below.refl _ _) | (with_reducible refine Below.app ?_ ?_ _ _) | (with_reducible refine Below.alloc ?_ ?_ _) | (with_reducible refine Below.drew ?_) | (with_reducible refine Below.setCell ?_ ?_ _) | (with_reducible assumption) | omega | (simp; omega) | (simp; done))); done)))) | (apply ph_any; exact rfl; (focus (intro wq hF K hK; go_step; first | (go_at_call 153; ((with_reducible refine (hin.out _).mono ?_); rintro r w1 ⟨rfl, hb⟩; simp only []; exact hK _ hb)) | (go_at_call 154; ((with_reducible refine (hiv.out _).mono ?_); rintro r w1 ⟨rfl, hb⟩; simp only []; exact hK _ hb)) | (refine hK _ ?_; exact Below.refl _ _))); (try simp only [Act.put, List.setIfInBounds_toArray, List.set_cons_zero, List.set_cons_succ])) | (apply ph_here; exact rfl; exact rfl; (focus (intro bs d hF K hK; go_step; first | (go_at_call 153; ((with_reducible refine (hin.out _).mono ?_); rintro r w1 ⟨rfl, hb⟩; simp only []; exact hK _ hb)) | (go_at_call 154; ((with_reducible refine (hiv.out _).mono ?_); rintro r w1 ⟨rfl, hb⟩; simp only []; exact hK _ hb)) | (refine hK _ ?_; (repeat' (first | (with_reducible exact Below.refl _ _) | (with_reducible refine Below.app ?_ ?_ _ _) | (with_reducible refine Below.alloc ?_ ?_ _) | (with_reducible refine Below.drew ?_) | (with_reducible refine Below.setCell ?_ ?_ _) | (with_reducible assumption) | omega | (simp; omega) | (simp; done))); done))); (try simp only [Act.put, List.setIfInBounds_toArray, List.set_cons_zero, List.set_cons_succ])) | (apply ph_skip_none; exact rfl; exact rfl) | (apply ph_skip; exact rfl; (try simp only [Act.put, List.setIfInBounds_toArray, List.set_cons_zero, List.set_cons_succ])))); apply ph_end; refine hFin _ _ _ _ _ rfl ?_; clear hFin Fin; intro hpsz bs d hfa; clear hpsz); rotate_left; kernel_rfl)
           go_wp2
           exact bodyPost_ret (v := .tuple #[.agg #[.string ⟨name.toArray⟩, .string ⟨T.toArray⟩], .string ⟨rest.toArray⟩, .bool false]) (by simp [results, Tryz.results99, go_sem]) rfl (hpost.out _ _ ⟨.inl ⟨hnq.out, _, _, _, rfl⟩, by (repeat' (first | (with_reducible exact Below.refl _ _) | (with_reducible refine Below.app ?_ ?_ _ _) | (with_reducible refine Below.alloc ?_ ?_ _) | (with_reducible refine Below.drew ?_) | (with_reducible refine Below.setCell ?_ ?_ _) | (with_reducible assumption) | omega | (simp; omega) | (simp; done)))⟩)
         · cases B
           · rw [Bool.true_and, Bool.true_and, if_neg (by simp)] at hnq
             replace hnq := Lib.hid hnq
             go_wp2_with first | (go_at_call 151; ((refine (hbc.out _).mono ?_); rintro _ _ ⟨rfl, rfl⟩)) | (go_at_call 152; ((refine (ht.out _).mono ?_); rintro r w1 ⟨rfl, hb⟩; obtain ⟨b2, b2d, rfl⟩ := of_below hb; clear hb))
             (apply wp_region_ph0 15; kernel_rfl; (intro Fin hFin; (repeat (first | (apply ph_here_none; exact rfl; exact rfl; exact rfl; (focus (intro bs d hF K hK; go_step; first | (go_at_call 153; ((with_reducible refine (hin.out _).mono ?_); rintro r w1 ⟨rfl, hb⟩; simp only []; exact hK _ hb)) | (go_at_call 154; ((with_reducible refine (hiv.out _).mono ?_); rintro r w1 ⟨rfl, hb⟩; simp only []; exact hK _ hb)) | (refine hK _ ?_; (repeat' (first | (with_reducible exact Below.refl _ _) | (with_reducible refine Below.app ?_ ?_ _ _) | (with_reducible refine Below.alloc ?_ ?_ _) | (with_reducible refine Below.drew ?_) | (with_reducible refine Below.setCell ?_ ?_ _) | (with_reducible assumption) | omega | (simp; omega) | (simp; done))); done)))) | (apply ph_any; exact rfl; (focus (intro wq hF K hK; go_step; first | (go_at_call 153; ((with_reducible refine (hin.out _).mono ?_); rintro r w1 ⟨rfl, hb⟩; simp only []; exact hK _ hb)) | (go_at_call 154; ((with_reducible refine (hiv.out _).mono ?_); rintro r w1 ⟨rfl, hb⟩; simp only []; exact hK _ hb)) | (refine hK _ ?_; exact Below.refl _ _))); (try simp only [Act.put, List.setIfInBounds_toArray, List.set_cons_zero, List.set_cons_succ])) | (apply ph_here; exact rfl; exact rfl; (focus (intro bs d hF K hK; go_step; first | (go_at_call 153; ((with_reducible refine (hin.out _).mono ?_); rintro r w1 ⟨rfl, hb⟩; simp only []; exact hK _ hb)) | (go_at_call 154; ((with_reducible refine (hiv.out _).mono ?_); rintro r w1 ⟨rfl, hb⟩; simp only []; exact hK _ hb)) | (refine hK _ ?_; (repeat' (first | (with_reducible exact Below.refl _ _) | (with_reducible refine Below.app ?_ ?_ _ _) | (with_reducible refine Below.alloc ?_ ?_ _) | (with_reducible refine Below.drew ?_) | (with_reducible refine Below.setCell ?_ ?_ _) | (with_reducible assumption) | omega | (simp; omega) | (simp; done))); done))); (try simp only [Act.put, List.setIfInBounds_toArray, List.set_cons_zero, List.set_cons_succ])) | (apply ph_skip_none; exact rfl; exact rfl) | (apply ph_skip; exact rfl; (try simp only [Act.put, List.setIfInBounds_toArray, List.set_cons_zero, List.set_cons_succ])))); apply ph_end; refine hFin _ _ _ _ _ rfl ?_; clear hFin Fin; intro hpsz bs d hfa; clear hpsz); rotate_left; kernel_rfl)
             go_wp2
             exact bodyPost_ret (v := .tuple #[.agg #[.string ⟨name.toArray⟩, .string ⟨T.toArray⟩], .string ⟨rest.toArray⟩, .bool false]) (by simp [results, Tryz.results99, go_sem]) rfl (hpost.out _ _ ⟨.inl ⟨hnq.out, _, _, _, rfl⟩, by (repeat' (first | (with_reducible exact Below.refl _ _) | (with_reducible refine Below.app ?_ ?_ _ _) | (with_reducible refine Below.alloc ?_ ?_ _) | (with_reducible refine Below.drew ?_) | (with_reducible refine Below.setCell ?_ ?_ _) | (with_reducible assumption) | omega | (simp; omega) | (simp; done)))⟩)
           · rw [Bool.true_and, Bool.true_and, if_pos rfl] at hnq
             replace hnq := Lib.hid hnq
             go_wp2_with first | (go_at_call 151; ((refine (hbc.out _).mono ?_); rintro _ _ ⟨rfl, rfl⟩)) | (go_at_call 152; ((refine (ht.out _).mono ?_); rintro r w1 ⟨rfl, hb⟩; obtain ⟨b2, b2d, rfl⟩ := of_below hb; clear hb))
             (apply wp_region_ph0 15; kernel_rfl; (intro Fin hFin; (repeat (first | (apply ph_here_none; exact rfl; exact rfl; exact rfl; (focus (intro bs d hF K hK; go_step; first | (go_at_call 153; ((with_reducible refine (hin.out _).mono ?_); rintro r w1 ⟨rfl, hb⟩; simp only []; exact hK _ hb)) | (go_at_call 154; ((with_reducible refine (hiv.out _).mono ?_); rintro r w1 ⟨rfl, hb⟩; simp only []; exact hK _ hb)) | (refine hK _ ?_; (repeat' (first | (with_reducible exact Below.refl _ _) | (with_reducible refine Below.app ?_ ?_ _ _) | (with_reducible refine Below.alloc ?_ ?_ _) | (with_reducible refine Below.drew ?_) | (with_reducible refine Below.setCell ?_ ?_ _) | (with_reducible assumption) | omega | (simp; omega) | (simp; done))); done)))) | (apply ph_any; exact rfl; (focus (intro wq hF K hK; go_step; first | (go_at_call 153; ((with_reducible refine (hin.out _).mono ?_); rintro r w1 ⟨rfl, hb⟩; simp only []; exact hK _ hb)) | (go_at_call 154; ((with_reducible refine (hiv.out _).mono ?_); rintro r w1 ⟨rfl, hb⟩; simp only []; exact hK _ hb)) | (refine hK _ ?_; exact Below.refl _ _))); (try simp only [Act.put, List.setIfInBounds_toArray, List.set_cons_zero, List.set_cons_succ])) | (apply ph_here; exact rfl; exact rfl; (focus (intro bs d hF K hK; go_step; first | (go_at_call 153; ((with_reducible refine (hin.out _).mono ?_); rintro r w1 ⟨rfl, hb⟩; simp only []; exact hK _ hb)) | (go_at_call 154; ((with_reducible refine (hiv.out _).mono ?_); rintro r w1 ⟨rfl, hb⟩; simp only []; exact hK _ hb)) | (refine hK _ ?_; (repeat' (first | (with_reducible exact Below.refl _ _) | (with_reducible refine Below.app ?_ ?_ _ _) | (with_reducible refine Below.alloc ?_ ?_ _) | (with_reducible refine Below.drew ?_) | (with_reducible refine Below.setCell ?_ ?_ _) | (with_reducible assumption) | omega | (simp; omega) | (simp; done))); done))); (try simp only [Act.put, List.setIfInBounds_toArray, List.set_cons_zero, List.set_cons_succ])) | (apply ph_skip_none; exact rfl; exact rfl) | (apply ph_skip; exact rfl; (try simp only [Act.put, List.setIfInBounds_toArray, List.set_cons_zero, List.set_cons_succ])))); apply ph_end; refine hFin _ _ _ _ _ rfl ?_; clear hFin Fin; intro hpsz bs d hfa; clear hpsz); rotate_left; kernel_rfl)
             go_wp2
             exact bodyPost_ret (v := .tuple #[.agg #[.string ⟨name.toArray⟩, .string ⟨T.toArray⟩], .string ⟨rest.toArray⟩, .bool true]) (by simp [results, Tryz.results99, go_sem]) rfl (hpost.out _ _ ⟨.inr ⟨_, _, _, hnq.out, rfl⟩, by (repeat' (first | (with_reducible exact Below.refl _ _) | (with_reducible refine Below.app ?_ ?_ _ _) | (with_reducible refine Below.alloc ?_ ?_ _) | (with_reducible refine Below.drew ?_) | (with_reducible refine Below.setCell ?_ ?_ _) | (with_reducible assumption) | omega | (simp; omega) | (simp; done)))⟩)
     · have hbk : headBlank rest = true := by rw [hbk0, hb]
       rw [hb] at hbc
       replace hbc := Lib.hid hbc
       clear hb hbk0
       cases he2 : endQ false rest with
       | none =>
        have hl2 := fun (W : World) (hW : Below w.heap.size w W) => line_no he2 W (by omega) (hmx.out W hW)
        have hE : contQ V0 R0 = none := by rw [hr.out, contQ_none hbk he2]
        rw [nextIn_none hE] at hnq
        replace hnq := Lib.hid hnq
        replace hl2 := Lib.hid hl2
        clear hr hE hbk he2
        go_wp2_with first
         | (go_at_call 151; ((refine (hbc.out _).mono ?_); rintro _ _ ⟨rfl, rfl⟩))
         | (go_at_call 150; ((refine (hl2.out _ (by (repeat' (first | (with_reducible exact Below.refl _ _) | (with_reducible refine Below.app ?_ ?_ _ _) | (with_reducible refine Below.alloc ?_ ?_ _) | (with_reducible refine Below.drew ?_) | (with_reducible refine Below.setCell ?_ ?_ _) | (with_reducible assumption) | omega | (simp; omega) | (simp; done))))).mono ?_); rintro r w1 ⟨rfl, hb⟩; obtain ⟨b3, b3d, rfl⟩ := of_below hb; clear hb))
        exact bodyPost_ret (v := .tuple #[.agg #[.string ⟨#[]⟩, .string ⟨#[]⟩], .string ⟨#[]⟩, .bool false]) (by simp [results, Tryz.results99, go_sem]) rfl (hpost.out _ _ ⟨.inl ⟨hnq.out, _, _, _, rfl⟩, by (repeat' (first | (with_reducible exact Below.refl _ _) | (with_reducible refine Below.app ?_ ?_ _ _) | (with_reducible refine Below.alloc ?_ ?_ _) | (with_reducible refine Below.drew ?_) | (with_reducible refine Below.setCell ?_ ?_ _) | (with_reducible assumption) | omega | (simp; omega) | (simp; done)))⟩)
       | some m =>
        have hm2 := endQ_two_le _ _ he2
        have hm1 := (endQ_le _ _ _ he2).2
        have hl2 := fun (W : World) (hW : Below w.heap.size w W) => line_yes he2 W (by omega) (hmx.out W hW)
        have hR : Hid (contQ V0 R0 = contQ (val ++ rest.take (m - 2)) (rest.drop m)) := by unfold Hid; rw [hr.out, contQ_go hbk he2]
        have hcat := Lib.hid (cat_two val (rest.take (m - 2)))
        have hle : (rest.drop m).length + (val ++ rest.take (m - 2)).length ≤ 20000000 := by simp; omega
        have hme : (rest.drop m).length < rest.length := by simp; omega
        have hMl : (rest.take (m - 2)).length ≤ 20000000 := by simp; omega
        have hvl : val.length ≤ 20000000 := by omega
        generalize rest.take (m - 2) = M1 at *
        generalize rest.drop m = R1 at *
        replace hl2 := Lib.hid hl2
        clear hr hbk he2 hnq
        go_wp2_with first
         | (go_at_call 151; ((refine (hbc.out _).mono ?_); rintro _ _ ⟨rfl, rfl⟩))
         | (go_at_call 150; ((refine (hl2.out _ (by (repeat' (first | (with_reducible exact Below.refl _ _) | (with_reducible refine Below.app ?_ ?_ _ _) | (with_reducible refine Below.alloc ?_ ?_ _) | (with_reducible refine Below.drew ?_) | (with_reducible refine Below.setCell ?_ ?_ _) | (with_reducible assumption) | omega | (simp; omega) | (simp; done))))).mono ?_); rintro r w1 ⟨rfl, hb⟩; obtain ⟨b3, b3d, rfl⟩ := of_below hb; clear hb))
        go_roundw
        case rel => exact ⟨R1, val ++ M1, rfl, by rw [hcat.out], hle, ⟨_, _, rfl⟩, hR⟩
        case measure => (show R1.toArray.size < rest.toArray.size; simp only [List.size_toArray]; exact hme)
end Go.Proofs.YteahkgbnfbjkhaaGreatDoor
