/-
  Sched.
-/
import Derived.Test.YteahkgbnfbjkhaaGreatDoorProg
import Derived.Test.YteahkgbnfbjkhaaGreatDoorRe00
set_option maxRecDepth 20000
set_option linter.unusedVariables false
set_option linter.unusedSimpArgs false
set_option linter.unusedSectionVars false
namespace Go.Proofs.YteahkgbnfbjkhaaGreatDoor
open Go.ChangeShapes Go.WideShapes Go.ChangeAt Go.RowKit
def okd (d : Int) : Bool := decide (1 ≤ d ∧ d ≤ 2147483648)
def good (zs : List Int) (e : Int) : Bool := zs.all okd && decide (1 ≤ zs.length ∧ zs.length ≤ 16 ∧ 1 ≤ e ∧ e ≤ 1099511627776)
theorem all_step {z : Bool} {zs : List Int} {k : Nat} {d : Int} (hr : z = (zs.drop k).all okd) (hs : zs.drop k = d :: zs.drop (k+1)) : z = (okd d && (zs.drop (k+1)).all okd) := by rw [hr, hs]; rfl
set_option maxHeartbeats 400000 in
theorem sdgood_calls (p : Option Addr) (zs : List Int) (cap : Nat) (e : Int) (w : World) (hz : Hid (IntsAt w p zs)) (hl : zs.length ≤ 9223372036854775807) :
    Calls Tryz.prog 87 #[.agg #[.slice p zs.length cap, .int .i64 e]] w fun r w' => r = .returned (.bool (good zs e)) ∧ Below w.heap.size w w' := by
  go_enter Tryz.func87, Tryz.ntmps87
  go_wp2
  go_loop [8] (fun i => ∃ k : Nat, k ≤ zs.length ∧ i = .int .i64 k ∧ Hid (zs.all okd = (zs.drop k).all okd)) (fun i => zs.length - (intOf i).toNat)
  case atStart => exact ⟨0, by omega, rfl, rfl⟩
  case round =>
    obtain ⟨k, hk, rfl, hr⟩ := hrel
    by_cases hlt : k < zs.length
    · obtain ⟨b, off, rfl, hb, hc⟩ := hz.out k hlt
      have hs := Lib.hid (all_step hr.out (drop_step 0 zs k hlt))
      generalize zs.getD k 0 = d at *
      go_wp2
      all_goals first
        | (go_returns; refine ⟨rb ?_, by go_grown⟩; go_light; have hs := hs.out; grind [good, okd])
        | (go_round
           case rel => exact ⟨k+1, by omega, by go_num, by go_light; have hs := hs.out; unfold Hid; grind [okd]⟩
           case measure => simp [intOf]; omega)
    · have hr : Hid (zs.all okd = true) := by rw [Hid, hr.out, List.drop_of_length_le (by omega)]; rfl
      go_wp2
      all_goals (go_returns; refine ⟨rb ?_, by go_grown⟩; go_light; have hr := hr.out; grind [good])

set_option maxHeartbeats 400000 in
theorem srgood_calls (p : Option Addr) (zs : List Int) (cap : Nat) (e : Int) (w : World) (hz : Hid (IntsAt w p zs)) (hl : zs.length ≤ 9223372036854775807) :
    Calls Tryz.prog 11 #[.agg #[.slice p zs.length cap, .int .i64 e]] w fun r w' => r = .returned (.bool (good zs e)) ∧ Below w.heap.size w w' := by
  go_enter Tryz.func11, Tryz.ntmps11
  go_wp2
  all_goals first | (go_returns; refine ⟨rb ?_, by go_grown⟩; go_light; grind [good]) | skip
  go_loop [3] (fun i => ∃ k : Nat, k ≤ zs.length ∧ i = .int .i64 k ∧ Hid (zs.all okd = (zs.drop k).all okd)) (fun i => zs.length - (intOf i).toNat)
  case atStart => exact ⟨0, by omega, rfl, rfl⟩
  case round =>
    obtain ⟨k, hk, rfl, hr⟩ := hrel
    by_cases hlt : k < zs.length
    · obtain ⟨b, off, rfl, hb, hc⟩ := hz.out k hlt
      have hs := Lib.hid (all_step hr.out (drop_step 0 zs k hlt))
      generalize zs.getD k 0 = d at *
      go_wp2
      all_goals first
        | (go_returns; refine ⟨rb ?_, by go_grown⟩; go_light; have hs := hs.out; grind [good, okd])
        | (go_round
           case rel => exact ⟨k+1, by omega, by go_num, by go_light; have hs := hs.out; unfold Hid; grind [okd]⟩
           case measure => simp [intOf]; omega)
    · have hr : Hid (zs.all okd = true) := by rw [Hid, hr.out, List.drop_of_length_le (by omega)]; rfl
      go_wp2
      all_goals (go_returns; refine ⟨rb ?_, by go_grown⟩; go_light; have hr := hr.out; grind [good])

def delay (zs : List Int) (e n : Int) : Int := if good zs e = true ∧ 1 ≤ n then zs.getD ((min n zs.length) - 1).toNat 0 else 0
theorem delay_lo {zs : List Int} {e n : Int} (h1 : good zs e = true) (h2 : 1 ≤ n) (h3 : n ≤ zs.length) : zs[n.toNat - 1]?.getD 0 = delay zs e n := by
 unfold delay; rw [if_pos ⟨h1, h2⟩, Int.min_eq_left h3, show (n - 1).toNat = n.toNat - 1 by omega]; rfl
theorem delay_hi {zs : List Int} {e n : Int} (h1 : good zs e = true) (h2 : 1 ≤ n) (h3 : (zs.length : Int) ≤ n) : zs[zs.length - 1]?.getD 0 = delay zs e n := by
 unfold delay; rw [if_pos ⟨h1, h2⟩, Int.min_eq_right h3, show ((zs.length : Int) - 1).toNat = zs.length - 1 by omega]; rfl
set_option maxHeartbeats 400000 in
theorem delay_calls (p : Option Addr) (zs : List Int) (cap : Nat) (e n : Int) (w : World) (hz : Hid (IntsAt w p zs)) (hl : zs.length ≤ 9223372036854775807) :
 Calls Tryz.prog 89 #[.agg #[.slice p zs.length cap, .int .i64 e], .int .i64 n] w fun r w' => r = .returned (.int .i64 (delay zs e n)) ∧ Below w.heap.size w w' := by
 go_enter Tryz.func89, Tryz.ntmps89
 go_wp2_with (go_at_call 87; ((refine (sdgood_calls _ _ _ _ _ (Lib.hid (hz.out.below (by go_grown) (Nat.le_refl _))) hl).mono ?_); rintro r w1 ⟨rfl, hb⟩; obtain ⟨hc1, hf1⟩ := bcell hb))
 all_goals first
  | (go_returns; refine ⟨ri ?_, bthen hb (by go_grown)⟩; go_light; grind [delay])
  | skip
 · have h1 : 1 ≤ zs.length := by go_light; grind [good]
   obtain ⟨b, off, rfl, hb2, hc⟩ := hz.out (zs.length - 1) (by omega)
   have e1 : ((zs.length : Int) - 1).toNat = zs.length - 1 := by omega
   go_simp; go_wp2
   go_returns; refine ⟨ri ?_, bthen hb (by go_grown)⟩; go_light; exact delay_hi (by assumption) (by omega) (by omega)
 · have h1 : 1 ≤ zs.length := by go_light; grind [good]
   obtain ⟨b, off, rfl, hb2, hc⟩ := hz.out (n.toNat - 1) (by omega)
   go_simp; go_wp2
   go_returns; refine ⟨ri ?_, bthen hb (by go_grown)⟩; go_light; exact delay_lo (by assumption) (by omega) (by omega)
def timeB (n : Int) : Bool := decide (0 ≤ n ∧ n ≤ 4503599627370496)
theorem isTime_calls (n : Int) (w : World) : Calls Tryz.prog 88 #[.int .i64 n] w fun r w' => r = .returned (.bool (timeB n)) ∧ w = w' := by
 go_enter Tryz.func88, Tryz.ntmps88
 go_wp2
 all_goals (go_returns; refine ⟨rb ?_, rfl⟩; go_light; grind [timeB])
def expired (zs : List Int) (e a n : Int) : Bool := good zs e && timeB a && timeB n && decide (e ≤ n - a)
set_option maxHeartbeats 400000 in
theorem expired_calls (p : Option Addr) (zs : List Int) (cap : Nat) (e a n : Int) (w : World) (hz : Hid (IntsAt w p zs)) (hl : zs.length ≤ 9223372036854775807) :
 Calls Tryz.prog 34 #[.agg #[.slice p zs.length cap, .int .i64 e], .int .i64 a, .int .i64 n] w fun r w' => r = .returned (.bool (expired zs e a n)) ∧ Below w.heap.size w w' := by
 go_enter Tryz.func34, Tryz.ntmps34
 by_cases ha : timeB a = true ∧ timeB n = true
 · obtain ⟨h1, h2⟩ := ha
   have h3 : 0 ≤ a ∧ a ≤ 4503599627370496 := by simpa [timeB] using h1
   have h4 : 0 ≤ n ∧ n ≤ 4503599627370496 := by simpa [timeB] using h2
   obtain ⟨h3, h3'⟩ := h3
   obtain ⟨h4, h4'⟩ := h4
   go_wp2_with first
    | (go_at_call 87; ((refine (sdgood_calls _ _ _ _ _ (Lib.hid (hz.out.below (by go_grown) (Nat.le_refl _))) hl).mono ?_); rintro r w1 ⟨rfl, hb⟩; obtain ⟨hc1, hf1⟩ := bcell hb))
    | (go_at_call 88; ((refine (isTime_calls _ _).mono ?_); rintro r w1 ⟨rfl, rfl⟩))
   all_goals (go_returns; refine ⟨rb ?_, bthen hb (by go_grown)⟩; go_light; grind [expired])
 · replace ha := Lib.hid ha
   go_wp2_with first
    | (go_at_call 87; ((refine (sdgood_calls _ _ _ _ _ (Lib.hid (hz.out.below (by go_grown) (Nat.le_refl _))) hl).mono ?_); rintro r w1 ⟨rfl, hb⟩; obtain ⟨hc1, hf1⟩ := bcell hb))
    | (go_at_call 88; ((refine (isTime_calls _ _).mono ?_); rintro r w1 ⟨rfl, rfl⟩))
   all_goals go_light
   all_goals first | (go_returns; refine ⟨rb ?_, bthen hb (by go_grown)⟩; have ha := ha.out; grind [expired]) | (exfalso; have ha := ha.out; grind)
theorem getD_all {zs : List Int} (h : zs.all okd = true) (k : Nat) (hk : k < zs.length) : 1 ≤ zs.getD k 0 ∧ zs.getD k 0 ≤ 2147483648 := by
 have h1 : zs.getD k 0 = zs[k] := by simp [List.getD, hk]
 rw [h1]
 have := List.all_eq_true.1 h zs[k] (List.getElem_mem hk)
 simpa [okd] using this
theorem delay_bd (zs : List Int) (e n : Int) : 0 ≤ delay zs e n ∧ delay zs e n ≤ 2147483648 := by
 unfold delay
 split
 · rename_i h
   obtain ⟨h1, h2⟩ := h
   have h3 : zs.all okd = true ∧ 1 ≤ zs.length := by grind [good]
   have := getD_all h3.1 ((min n zs.length) - 1).toNat (by omega)
   omega
 · omega
def tr1 (t : Int) : Int := if t < 65535 then t + 1 else t
def dueOf (now d : Int) : Int := if now ≤ 4503599627370496 - d then now + d else 4503599627370496
theorem tried_calls (s t d c n : Int) (w : World) (ht : -9223372036854775808 ≤ t) :
 Calls Tryz.prog 86 #[.agg #[.int .i64 s, .int .i64 t, .int .i64 d, .int .i64 c], .int .i64 n] w fun r w' => r = .returned (.agg #[.int .i64 s, .int .i64 (tr1 t), .int .i64 d, .int .i64 n]) ∧ Below w.heap.size w w' := by
 go_enter Tryz.func86, Tryz.ntmps86
 go_wp2
 all_goals (go_returns; refine ⟨?_, by go_grown⟩; go_light; simp [tr1]; try omega)
theorem sdend_calls (s t d c st n : Int) (w : World) (ht : -9223372036854775808 ≤ t) :
 Calls Tryz.prog 33 #[.agg #[.int .i64 s, .int .i64 t, .int .i64 d, .int .i64 c], .int .i64 st, .int .i64 n] w fun r w' => r = .returned (.agg #[.int .i64 st, .int .i64 (tr1 t), .int .i64 d, .int .i64 n]) ∧ Below w.heap.size w w' := by
 go_enter Tryz.func33, Tryz.ntmps33
 go_wp2_with (go_at_call 86; ((refine (tried_calls _ _ _ _ _ _ ht).mono ?_); rintro r w1 ⟨rfl, hb⟩; obtain ⟨bs, bsd, rfl⟩ := of_below hb; clear hb))
 go_returns
 refine ⟨rfl, ?_⟩
 (repeat' (first | (with_reducible exact Below.refl _ _) | (with_reducible refine Below.app ?_ ?_ _ _) | (with_reducible refine Below.alloc ?_ ?_ _) | (with_reducible refine Below.drew ?_) | (with_reducible refine Below.setCell ?_ ?_ _) | (with_reducible assumption) | omega | (simp; omega) | (simp; done)))
theorem tr1_lo {t : Int} (h : t < 65535) : tr1 t = t + 1 := by simp [tr1, h]
theorem dueOf_lo {n d : Int} (h : n ≤ 4503599627370496 - d) : dueOf n d = n + d := by simp [dueOf, h]
theorem dueOf_hi {n d : Int} (h : 4503599627370496 - d < n) : dueOf n d = 4503599627370496 := by simp [dueOf]; omega
set_option maxHeartbeats 400000 in
theorem fail_calls (p : Option Addr) (zs : List Int) (cap : Nat) (e s t d c n k : Int) (w : World) (hz : Hid (IntsAt w p zs)) (hl : zs.length ≤ 9223372036854775807) (ht : -9223372036854775808 ≤ t) (hn : -9223372036854775808 ≤ n) :
 Calls Tryz.prog 35 #[.agg #[.slice p zs.length cap, .int .i64 e], .agg #[.int .i64 s, .int .i64 t, .int .i64 d, .int .i64 c], .int .i64 n, .int .i64 k] w
  fun r w' => r = .returned (.agg #[.int .i64 s, .int .i64 (tr1 t), .int .i64 (dueOf n (delay zs e (tr1 t))), .int .i64 k]) ∧ Below w.heap.size w w' := by
 obtain ⟨h1, h2⟩ := delay_bd zs e (tr1 t)
 go_enter Tryz.func35, Tryz.ntmps35
 go_wp2_with first
  | (go_at_call 86; ((refine (tried_calls _ _ _ _ _ _ ht).mono ?_); rintro r w1 ⟨rfl, hb⟩; obtain ⟨bs, bsd, rfl⟩ := of_below hb; clear hb))
  | (go_at_call 89; ((refine (delay_calls _ _ _ _ _ _ (Lib.hid (hz.out.below (by (repeat' (first | (with_reducible exact Below.refl _ _) | (with_reducible refine Below.app ?_ ?_ _ _) | (with_reducible refine Below.alloc ?_ ?_ _) | (with_reducible refine Below.drew ?_) | (with_reducible refine Below.setCell ?_ ?_ _) | (with_reducible assumption) | omega | (simp; omega) | (simp; done)))) (Nat.le_refl _))) hl).mono ?_); rintro r w1 ⟨rfl, hb⟩; obtain ⟨cs, csd, rfl⟩ := of_below hb; clear hb))
 all_goals
  go_returns
  refine ⟨?_, by (repeat' (first | (with_reducible exact Below.refl _ _) | (with_reducible refine Below.app ?_ ?_ _ _) | (with_reducible refine Below.alloc ?_ ?_ _) | (with_reducible refine Below.drew ?_) | (with_reducible refine Below.setCell ?_ ?_ _) | (with_reducible assumption) | omega | (simp; omega) | (simp; done)))⟩
  go_light
  first | rw [dueOf_lo (by omega)] | rw [dueOf_hi (by omega)]
end Go.Proofs.YteahkgbnfbjkhaaGreatDoor
