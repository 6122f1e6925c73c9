/-
  Rules.
-/
import Derived.Test.YteahkgbnfbjkhaaGreatDoorProg
import Derived.Test.YteahkgbnfbjkhaaGreatDoorRe00
import Derived.Test.YteahkgbnfbjkhaaGreatDoorRe02
set_option maxRecDepth 20000
set_option linter.unusedVariables false
set_option linter.unusedSimpArgs false
set_option linter.unusedSectionVars false
namespace Go.Proofs.YteahkgbnfbjkhaaGreatDoor
open Go.ChangeShapes Go.WideShapes Go.ChangeAt Go.RowKit
def OneLine (code : Int) (enh line : ByteArray) (W : World) (r : Ending) (w' : World) : Prop :=
 ∃ p, r = .returned (.agg #[.int .i64 code, .string enh, .slice (some ⟨p, 0, none⟩) 1 1]) ∧ w'.cell? ⟨p, 0, none⟩ = some (.string line) ∧ W.heap.size ≤ p ∧ p < w'.heap.size ∧ Below W.heap.size W w'
theorem say_calls (code : Int) (enh line : ByteArray) (w : World) : Calls Tryz.prog 75 #[.int .i64 code, .string enh, .string line] w (OneLine code enh line w) := by
 go_enter Tryz.func75, Tryz.ntmps75
 go_wp2
 go_returns
 exact ⟨_, rfl, by simp [go_sem], by omega, by simp, by (repeat' (first | (with_reducible exact Below.refl _ _) | (with_reducible refine Below.app ?_ ?_ _ _) | (with_reducible refine Below.alloc ?_ ?_ _) | (with_reducible refine Below.drew ?_) | (with_reducible refine Below.setCell ?_ ?_ _) | (with_reducible assumption) | omega | (simp; omega) | (simp; done)))⟩
theorem say_out {W V : World} {code : Int} {enh line : ByteArray} {p : Nat} {bs : Array Obj} {d : Nat} {w : World} (hs : W.heap.size = V.heap.size) (hw : Below w.heap.size w (app V bs d)) (hW : w.heap.size ≤ W.heap.size)
 (hc : (app W bs d).cell? ⟨p, 0, none⟩ = some (.string line)) (h1 : W.heap.size ≤ p) (h2 : p < (app W bs d).heap.size) :
 OneLine code enh line w (.returned (.agg #[.int .i64 code, .string enh, .slice (some ⟨p, 0, none⟩) 1 1])) (app V bs d) :=
 ⟨p, rfl, (app_cell_new hs.symm (by omega)).trans hc, by omega, by rw [app_size] at h2 ⊢; omega, hw⟩
theorem say_out2 {W V : World} {code code' : Int} {enh enh' line line' : ByteArray} {p : Nat} {bs : Array Obj} {d : Nat} {w : World} (e1 : code = code') (e2 : enh = enh') (e3 : line = line') (hs : W.heap.size = V.heap.size) (hw : Below w.heap.size w (app V bs d)) (hW : w.heap.size ≤ W.heap.size)
 (hc : (app W bs d).cell? ⟨p, 0, none⟩ = some (.string line)) (h1 : W.heap.size ≤ p) (h2 : p < (app W bs d).heap.size) :
 OneLine code' enh' line' w (.returned (.agg #[.int .i64 code, .string enh, .slice (some ⟨p, 0, none⟩) 1 1])) (app V bs d) := by
 subst e1; subst e2; subst e3; exact say_out hs hw hW hc h1 h2
theorem noRoom_calls (w : World) : Calls Tryz.prog 78 #[] w (OneLine 452 ⟨#[52, 46, 51, 46, 49]⟩ ⟨#[110, 111, 32, 114, 111, 111, 109]⟩ w) := by
 go_enter Tryz.func78, Tryz.ntmps78
 go_wp2_with (go_at_call 75; ((refine (say_calls _ _ _ _).mono ?_); rintro r w1 ⟨p, rfl, hc, h1, h2, hb⟩; obtain ⟨bs, d, rfl⟩ := of_below hb; clear hb))
 go_returns
 exact say_out (by simp) (by (repeat' (first | (with_reducible exact Below.refl _ _) | (with_reducible refine Below.app ?_ ?_ _ _) | (with_reducible refine Below.alloc ?_ ?_ _) | (with_reducible refine Below.drew ?_) | (with_reducible refine Below.setCell ?_ ?_ _) | (with_reducible assumption) | omega | (simp; omega) | (simp; done)))) (by simp) hc h1 h2
theorem notNow_calls (w : World) : Calls Tryz.prog 79 #[] w (OneLine 451 ⟨#[52, 46, 51, 46, 48]⟩ ⟨#[110, 111, 116, 32, 110, 111, 119]⟩ w) := by
 go_enter Tryz.func79, Tryz.ntmps79
 go_wp2_with (go_at_call 75; ((refine (say_calls _ _ _ _).mono ?_); rintro r w1 ⟨p, rfl, hc, h1, h2, hb⟩; obtain ⟨bs, d, rfl⟩ := of_below hb; clear hb))
 go_returns
 exact say_out (by simp) (by (repeat' (first | (with_reducible exact Below.refl _ _) | (with_reducible refine Below.app ?_ ?_ _ _) | (with_reducible refine Below.alloc ?_ ?_ _) | (with_reducible refine Below.drew ?_) | (with_reducible refine Below.setCell ?_ ?_ _) | (with_reducible assumption) | omega | (simp; omega) | (simp; done)))) (by simp) hc h1 h2
theorem noUser_calls (w : World) : Calls Tryz.prog 76 #[] w (OneLine 550 ⟨#[53, 46, 49, 46, 49]⟩ ⟨#[110, 111, 32, 115, 117, 99, 104, 32, 117, 115, 101, 114]⟩ w) := by
 go_enter Tryz.func76, Tryz.ntmps76
 go_wp2_with (go_at_call 75; ((refine (say_calls _ _ _ _).mono ?_); rintro r w1 ⟨p, rfl, hc, h1, h2, hb⟩; obtain ⟨bs, d, rfl⟩ := of_below hb; clear hb))
 go_returns
 exact say_out (by simp) (by (repeat' (first | (with_reducible exact Below.refl _ _) | (with_reducible refine Below.app ?_ ?_ _ _) | (with_reducible refine Below.alloc ?_ ?_ _) | (with_reducible refine Below.drew ?_) | (with_reducible refine Below.setCell ?_ ?_ _) | (with_reducible assumption) | omega | (simp; omega) | (simp; done)))) (by simp) hc h1 h2
theorem overQuota_calls (w : World) : Calls Tryz.prog 77 #[] w (OneLine 452 ⟨#[52, 46, 50, 46, 50]⟩ ⟨#[111, 118, 101, 114, 32, 113, 117, 111, 116, 97]⟩ w) := by
 go_enter Tryz.func77, Tryz.ntmps77
 go_wp2_with (go_at_call 75; ((refine (say_calls _ _ _ _).mono ?_); rintro r w1 ⟨p, rfl, hc, h1, h2, hb⟩; obtain ⟨bs, d, rfl⟩ := of_below hb; clear hb))
 go_returns
 exact say_out (by simp) (by (repeat' (first | (with_reducible exact Below.refl _ _) | (with_reducible refine Below.app ?_ ?_ _ _) | (with_reducible refine Below.alloc ?_ ?_ _) | (with_reducible refine Below.drew ?_) | (with_reducible refine Below.setCell ?_ ?_ _) | (with_reducible assumption) | omega | (simp; omega) | (simp; done)))) (by simp) hc h1 h2
def rcptCode (users e : Int) (room : Bool) : Int := if e = 3 then 553 else if e ≠ 0 then 550 else if users = 1 ∧ room = false then 452 else 250
def rcptEnh (users e : Int) (room : Bool) : ByteArray := if e = 3 then ⟨#[53, 46, 49, 46, 51]⟩ else if e ≠ 0 then ⟨#[53, 46, 49, 46, 49]⟩ else if users = 1 ∧ room = false then ⟨#[52, 46, 50, 46, 50]⟩ else ⟨#[50, 46, 49, 46, 53]⟩
def rcptLine (users e : Int) (room : Bool) : ByteArray := if e = 3 then ⟨#[98, 97, 100, 32, 109, 97, 105, 108, 98, 111, 120]⟩ else if e ≠ 0 then ⟨#[110, 111, 32, 115, 117, 99, 104, 32, 117, 115, 101, 114]⟩ else if users = 1 ∧ room = false then ⟨#[111, 118, 101, 114, 32, 113, 117, 111, 116, 97]⟩ else ⟨#[111, 107]⟩
set_option maxHeartbeats 400000 in
theorem rcpt_calls (users e : Int) (room : Bool) (w : World) : Calls Tryz.prog 23 #[.int .i64 users, .int .i64 e, .bool room] w (OneLine (rcptCode users e room) (rcptEnh users e room) (rcptLine users e room) w) := by
 cases room
 all_goals
  go_enter Tryz.func23, Tryz.ntmps23
  go_wp2_with first
   | (go_at_call 75; ((refine (say_calls _ _ _ _).mono ?_); rintro r w1 ⟨p, rfl, hc, h1, h2, hb⟩; obtain ⟨bs, d, rfl⟩ := of_below hb; clear hb))
   | (go_at_call 76; ((refine (noUser_calls _).mono ?_); rintro r w1 ⟨p, rfl, hc, h1, h2, hb⟩; obtain ⟨bs, d, rfl⟩ := of_below hb; clear hb))
   | (go_at_call 77; ((refine (overQuota_calls _).mono ?_); rintro r w1 ⟨p, rfl, hc, h1, h2, hb⟩; obtain ⟨bs, d, rfl⟩ := of_below hb; clear hb))
  all_goals
   go_returns
   refine say_out2 ?_ ?_ ?_ (by simp) (by (repeat' (first | (with_reducible exact Below.refl _ _) | (with_reducible refine Below.app ?_ ?_ _ _) | (with_reducible refine Below.alloc ?_ ?_ _) | (with_reducible refine Below.drew ?_) | (with_reducible refine Below.setCell ?_ ?_ _) | (with_reducible assumption) | omega | (simp; omega) | (simp; done)))) (by simp) hc h1 h2
   all_goals (go_light; simp_all [rcptCode, rcptEnh, rcptLine])
def queuedCode (e : Int) : Int := if e = 0 then 250 else if e = 10 ∨ e = 6 then 452 else 451
def queuedEnh (e : Int) : ByteArray := if e = 0 then ⟨#[50, 46, 48, 46, 48]⟩ else if e = 10 ∨ e = 6 then ⟨#[52, 46, 51, 46, 49]⟩ else ⟨#[52, 46, 51, 46, 48]⟩
def queuedLine (e : Int) : ByteArray := if e = 0 then ⟨#[113, 117, 101, 117, 101, 100]⟩ else if e = 10 ∨ e = 6 then ⟨#[110, 111, 32, 114, 111, 111, 109]⟩ else ⟨#[110, 111, 116, 32, 110, 111, 119]⟩
set_option maxHeartbeats 400000 in
theorem queued_calls (e : Int) (w : World) : Calls Tryz.prog 26 #[.int .i64 e] w (OneLine (queuedCode e) (queuedEnh e) (queuedLine e) w) := by
 go_enter Tryz.func26, Tryz.ntmps26
 go_wp2_with first
  | (go_at_call 75; ((refine (say_calls _ _ _ _).mono ?_); rintro r w1 ⟨p, rfl, hc, h1, h2, hb⟩; obtain ⟨bs, d, rfl⟩ := of_below hb; clear hb))
  | (go_at_call 78; ((refine (noRoom_calls _).mono ?_); rintro r w1 ⟨p, rfl, hc, h1, h2, hb⟩; obtain ⟨bs, d, rfl⟩ := of_below hb; clear hb))
  | (go_at_call 79; ((refine (notNow_calls _).mono ?_); rintro r w1 ⟨p, rfl, hc, h1, h2, hb⟩; obtain ⟨bs, d, rfl⟩ := of_below hb; clear hb))
 all_goals
  go_returns
  refine say_out2 ?_ ?_ ?_ (by simp) (by (repeat' (first | (with_reducible exact Below.refl _ _) | (with_reducible refine Below.app ?_ ?_ _ _) | (with_reducible refine Below.alloc ?_ ?_ _) | (with_reducible refine Below.drew ?_) | (with_reducible refine Below.setCell ?_ ?_ _) | (with_reducible assumption) | omega | (simp; omega) | (simp; done)))) (by simp) hc h1 h2
  all_goals (go_light; simp_all [queuedCode, queuedEnh, queuedLine])
def firstBad : List Int → Int
 | [] => 0
 | e :: r => if e = 0 then firstBad r else e
def givenCode (e : Int) : Int := if e = 0 then 250 else if e = 14 then 452 else if e = 7 then 550 else if e = 10 ∨ e = 6 then 452 else 451
def givenEnh (e : Int) : ByteArray := if e = 0 then ⟨#[50, 46, 48, 46, 48]⟩ else if e = 14 then ⟨#[52, 46, 50, 46, 50]⟩ else if e = 7 then ⟨#[53, 46, 49, 46, 49]⟩ else if e = 10 ∨ e = 6 then ⟨#[52, 46, 51, 46, 49]⟩ else ⟨#[52, 46, 51, 46, 48]⟩
def givenLine (e : Int) : ByteArray := if e = 0 then ⟨#[100, 101, 108, 105, 118, 101, 114, 101, 100]⟩ else if e = 14 then ⟨#[111, 118, 101, 114, 32, 113, 117, 111, 116, 97]⟩ else if e = 7 then ⟨#[110, 111, 32, 115, 117, 99, 104, 32, 117, 115, 101, 114]⟩ else if e = 10 ∨ e = 6 then ⟨#[110, 111, 32, 114, 111, 111, 109]⟩ else ⟨#[110, 111, 116, 32, 110, 111, 119]⟩
theorem firstBad_skip {l r : List Int} {e : Int} (h : l = e :: r) (h0 : e = 0) : firstBad l = firstBad r := by subst h; simp [firstBad, h0]
theorem firstBad_stop {l r : List Int} {e : Int} (h : l = e :: r) (h0 : ¬ e = 0) : firstBad l = e := by subst h; simp [firstBad, h0]
set_option maxHeartbeats 1000000 in
theorem given_calls (p : Option Addr) (zs : List Int) (cap : Nat) (w : World) (hz : Hid (IntsAt w p zs)) (hl : zs.length ≤ 9223372036854775807) :
 Calls Tryz.prog 27 #[.slice p zs.length cap] w (OneLine (givenCode (firstBad zs)) (givenEnh (firstBad zs)) (givenLine (firstBad zs)) w) := by
 go_enter Tryz.func27, Tryz.ntmps27
 go_wp2
 go_loop [7] (fun i => ∃ k : Nat, k ≤ zs.length ∧ i = .int .i64 k ∧ Hid (firstBad zs = firstBad (zs.drop k))) (fun i => zs.length - (intOf i).toNat)
 case atStart => exact ⟨0, by omega, rfl, rfl⟩
 case round =>
  obtain ⟨k, hk, rfl, hr⟩ := hrel
  by_cases hlt : k < zs.length
  · obtain ⟨b, off, rfl, hb, hc⟩ := hz.out k hlt
    have hs := Lib.hid (drop_step 0 zs k hlt)
    generalize zs.getD k 0 = e at *
    by_cases h0 : e = 0
    · have h3 : Hid (firstBad zs = firstBad (zs.drop (k + 1))) := hr.out.trans (firstBad_skip hs.out h0)
      subst h0
      go_wp2
      go_round
      case rel => exact ⟨k + 1, by omega, by go_num, h3⟩
      case measure => simp [intOf]; omega
    · have h3 : Hid (firstBad zs = e) := hr.out.trans (firstBad_stop hs.out h0)
      go_wp2_with first
       | (go_at_call 75; ((refine (say_calls _ _ _ _).mono ?_); rintro r w1 ⟨p1, rfl, hc1, h1, h2, hb1⟩; obtain ⟨bs, d, rfl⟩ := of_below hb1; clear hb1))
       | (go_at_call 76; ((refine (noUser_calls _).mono ?_); rintro r w1 ⟨p1, rfl, hc1, h1, h2, hb1⟩; obtain ⟨bs, d, rfl⟩ := of_below hb1; clear hb1))
       | (go_at_call 77; ((refine (overQuota_calls _).mono ?_); rintro r w1 ⟨p1, rfl, hc1, h1, h2, hb1⟩; obtain ⟨bs, d, rfl⟩ := of_below hb1; clear hb1))
       | (go_at_call 78; ((refine (noRoom_calls _).mono ?_); rintro r w1 ⟨p1, rfl, hc1, h1, h2, hb1⟩; obtain ⟨bs, d, rfl⟩ := of_below hb1; clear hb1))
       | (go_at_call 79; ((refine (notNow_calls _).mono ?_); rintro r w1 ⟨p1, rfl, hc1, h1, h2, hb1⟩; obtain ⟨bs, d, rfl⟩ := of_below hb1; clear hb1))
      all_goals
       go_returns
       refine say_out2 ?_ ?_ ?_ (by simp) (by (repeat' (first | (with_reducible exact Below.refl _ _) | (with_reducible refine Below.app ?_ ?_ _ _) | (with_reducible refine Below.alloc ?_ ?_ _) | (with_reducible refine Below.drew ?_) | (with_reducible refine Below.setCell ?_ ?_ _) | (with_reducible assumption) | omega | (simp; omega) | (simp; done)))) (by simp) hc1 h1 h2
       all_goals (go_light; rw [h3.out]; simp_all [givenCode, givenEnh, givenLine])
  · have h3 : Hid (firstBad zs = 0) := hr.out.trans (by rw [List.drop_of_length_le (by omega)]; rfl)
    go_wp2_with first
     | (go_at_call 75; ((refine (say_calls _ _ _ _).mono ?_); rintro r w1 ⟨p1, rfl, hc1, h1, h2, hb1⟩; obtain ⟨bs, d, rfl⟩ := of_below hb1; clear hb1))
    go_returns
    refine say_out2 ?_ ?_ ?_ (by simp) (by (repeat' (first | (with_reducible exact Below.refl _ _) | (with_reducible refine Below.app ?_ ?_ _ _) | (with_reducible refine Below.alloc ?_ ?_ _) | (with_reducible refine Below.drew ?_) | (with_reducible refine Below.setCell ?_ ?_ _) | (with_reducible assumption) | omega | (simp; omega) | (simp; done)))) (by simp) hc1 h1 h2
    all_goals (go_light; rw [h3.out]; rfl)
def originOf (id target : Int) (report : Bool) : Int := if id < 1 ∨ 1099511627776 < id ∨ target < 0 ∨ 20 ≤ target then 0 else 64 * id + 2 * target + (if report then 1 else 0)
theorem origin_calls (id target : Int) (report : Bool) (w : World) : Calls Tryz.prog 24 #[.int .i64 id, .int .i64 target, .bool report] w fun r w' => r = .returned (.int .i64 (originOf id target report)) ∧ w = w' := by
 cases report
 all_goals
  go_enter Tryz.func24, Tryz.ntmps24
  go_wp2
  all_goals (go_returns; refine ⟨ri ?_, rfl⟩; go_light; grind [originOf])
theorem least_calls (o : Int) (h0 : 0 ≤ o) (h1 : o ≤ 9223372036854775807) (w : World) : Calls Tryz.prog 25 #[.int .i64 o] w fun r w' => r = .returned (.int .i64 (o / 64 + 1)) ∧ w = w' := by
 go_enter Tryz.func25, Tryz.ntmps25
 go_wp2
 all_goals (go_returns; refine ⟨ri ?_, rfl⟩; go_light; grind)
end Go.Proofs.YteahkgbnfbjkhaaGreatDoor
