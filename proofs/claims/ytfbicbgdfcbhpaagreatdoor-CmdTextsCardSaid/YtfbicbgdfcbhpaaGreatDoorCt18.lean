/-
  Route.
-/
import Derived.Test.YtfbicbgdfcbhpaaGreatDoorCt17
set_option maxRecDepth 20000
set_option linter.unusedVariables false
set_option linter.unusedSimpArgs false
set_option linter.unusedSectionVars false
namespace Go.Proofs.YtfbicbgdfcbhpaaGreatDoor
open Go.ChangeShapes Go.WideShapes Go.ChangeAt Go.RowKit
def routeT (l : List UInt8) : Option (Nat × Bool) :=
 match l with
 | [] => none
 | c :: r => if c = 64 then (match domP r with
  | none => none
  | some d => if r.getD d 0 = 44 then (routeT (r.drop (d + 1))).map fun x => (1 + d + 1 + x.1, decide (64 < (d : Int)) || x.2) else if r.getD d 0 = 58 then some (1 + d + 1, decide (64 < (d : Int))) else none) else none
termination_by l.length
decreasing_by simp; omega
theorem routeT_drop (l : List UInt8) (j : Nat) : routeT (l.drop j) = if l.getD j 0 = 64 then (match domP (l.drop (j + 1)) with
      | none => none
      | some d => if l.getD (j + 1 + d) 0 = 44 then (routeT (l.drop (j + 1 + d + 1))).map fun x => (1 + d + 1 + x.1, decide (64 < (d : Int)) || x.2) else if l.getD (j + 1 + d) 0 = 58 then some (1 + d + 1, decide (64 < (d : Int))) else none) else none := by
  rcases Nat.lt_or_ge j l.length with h | h
  · rw [List.drop_eq_getElem_cons h, routeT]
    have hg : ∀ d, (l.drop (j + 1)).getD d 0 = l.getD (j + 1 + d) 0 := fun d => by simp [List.getD]
    simp only [List.drop_drop, hg]
    simp only [List.getD_eq_getElem?_getD, List.getElem?_eq_getElem h, Option.getD_some]
    rfl
  · have h0 : l.getD j 0 = 0 := by simp [List.getD, List.getElem?_eq_none h]
    rw [List.drop_of_length_le h, routeT, h0, if_neg (by decide)]
def RPost (s : ByteArray) (b : Nat) : Option (Nat × Bool) → World → Ending → World → Prop
 | some (K, lg), w => After b #[.string s, .int .i64 K, .bool lg] (.returned (.bool true)) w
 | none, w => AfterF s b (.returned (.bool false)) w
theorem RPost.yes {s : ByteArray} {b : Nat} {w : World} {R : Option (Nat × Bool)} (K : Nat) (lg : Bool) (e : Ending) (w' : World) (h1 : R = some (K, lg)) (h2 : After b #[.string s, .int .i64 K, .bool lg] (.returned (.bool true)) w e w') : RPost s b R w e w' := by rw [h1]; exact h2
theorem RPost.no {s : ByteArray} {b : Nat} {w : World} {R : Option (Nat × Bool)} (e : Ending) (w' : World) (h1 : R = none) (h2 : AfterF s b (.returned (.bool false)) w e w') : RPost s b R w e w' := by rw [h1]; exact h2
def RelR (s : ByteArray) (b : Nat) (w0 : World) (R : Option (Nat × Bool)) (wr : World) : Prop :=
 ∃ (j : Nat) (lg : Bool) (bs : Array Obj) (d : Nat), j ≤ s.size ∧ wr = app (rd w0 b #[.string s, .int .i64 j, .bool lg]) bs d ∧ Hid ((routeT (s.data.toList.drop j)).map (fun x => (j + x.1, lg || x.2)) = R)
theorem getD_pos {s : ByteArray} {j : Nat} {c : UInt8} (h : s.data.toList.getD j 0 = c) (hc : c ≠ 0) : j < s.size := by
 rcases Nat.lt_or_ge j s.size with h' | h'
 · exact h'
 · rw [getD_ge h'] at h; exact absurd h.symm hc
set_option maxHeartbeats 8000000 in
theorem route_loop {s : ByteArray} {lg : Bool} {b : Nat} {w : World} (n : Nat) (R : Option (Nat × Bool)) (hx0 : s.data.toList.getD n 0 = 64) (hd : (routeT (s.data.toList.drop n)).map (fun x => (n + x.1, lg || x.2)) = R) (hn : n ≤ s.size) (hs : s.size ≤ 140000000000000) (h : RowIs w b #[.string s, .int .i64 n, .bool lg]) :
 Calls Tryz.prog 96 #[.pointer (some ⟨b, 0, none⟩)] w (RPost s b R w) := by
 refine h.lift (fun w0 hI => ?_)
 have hyes := Lib.hid (@RPost.yes s b w0 R)
 have hno := Lib.hid (@RPost.no s b w0 R)
 have hb := hI.lt
 have hnx0 := @next_calls s n lg b (rd w0 b #[.string s, .int .i64 n, .bool lg]) n rfl hn (rd_row hI _)
 rw [hx0] at hnx0
 replace hnx0 := Lib.hid hnx0
 replace hd := Lib.hid hd
 clear hx0
 go_enter Tryz.func96, Tryz.ntmps96
 go_wp2_with (go_at_call 92; ((with_reducible refine hnx0.out.mono ?_); rintro r w1 ⟨rfl, bs0, d0, rfl⟩))
 go_loopw [9] (fun _ wr => RelR s b w0 R wr) (fun _ wr => s.size - posOf wr b)
 case atStart => exact ⟨n, lg, bs0, d0, hn, rfl, hd⟩
 case round =>
  obtain ⟨j, lj, bs, d, j1, rfl, hr⟩ := hrel
  clear hnx0 hd
  have hdt := routeT_drop s.data.toList j
  by_cases hx : s.data.toList.getD j 0 = 64
  · have hlt := getD_pos hx (by decide)
    rw [if_pos hx] at hdt
    have hta := @take_yes s j 64 lj b (app (rd w0 b #[.string s, .int .i64 j, .bool lj]) bs d) j rfl hlt (by rw [hx]; rfl) (by omega) ((rd_row hI _).app _ _)
    clear hx
    cases hq : domP (s.data.toList.drop (j + 1)) with
    | none =>
     have hR : Hid (R = none) := by have := hr.out; rw [hdt, hq] at this; exact this.symm
     have hdo := fun bs d => @domain_no s ((j + 1 : Nat) : Int) lj b (app (rd w0 b #[.string s, .int .i64 ((j + 1 : Nat) : Int), .bool lj]) bs d) (j + 1) hq rfl hlt (by omega) ((rd_row hI _).app _ _)
     clear hdt hq hr
     replace hta := Lib.hid hta
     simp only [Int.natCast_add, Int.natCast_one] at hdo
     replace hdo := Lib.hid hdo
     go_wp2_with first
      | (go_at_call 95; ((refine hta.out.mono ?_); rintro r w1 ⟨rfl, bs1, d1, rfl⟩))
      | (go_at_call 69; ((with_reducible refine (hdo.out _ _).mono ?_); rintro r w1 ⟨n2, lg2, hn2, rfl, bs2, d2, rfl⟩))
     go_returns
     exact hno.out _ _ hR.out ⟨n2, lg2, hn2, by (first | exact ⟨rfl, _, _, rfl⟩ | exact ⟨rfl, #[], _, (app_nil _).symm⟩ | (refine ⟨rfl, ?_⟩; simp only [app_app]; exact ⟨_, _, rfl⟩) | (refine ⟨rfl, of_below ?_⟩; ((repeat' (first | (with_reducible exact Below.refl _ _) | (with_reducible refine Below.app ?_ ?_ _ _) | (with_reducible refine Below.alloc ?_ ?_ _) | (with_reducible refine Below.drew ?_) | (with_reducible refine Below.setCell ?_ ?_ _) | (with_reducible assumption) | omega | (simp; omega) | (simp; done))) <;> exact Below.refl _ _)))⟩
    | some k =>
     have hkl : j + 1 + k ≤ s.size := by have := domP_le hq; simp at this; omega
     have hdo := fun bs d => @domain_yes s ((j + 1 : Nat) : Int) lj b (app (rd w0 b #[.string s, .int .i64 ((j + 1 : Nat) : Int), .bool lj]) bs d) (j + 1) k hq rfl hlt (by omega) ((rd_row hI _).app _ _)
     rw [hq] at hdt
     simp only at hdt
     by_cases h44 : s.data.toList.getD (j + 1 + k) 0 = 44
     · have hlt2 := getD_pos h44 (by decide)
       rw [if_pos h44] at hdt
       have ht2 := fun bs d => @take_yes s ((j + 1 + k : Nat) : Int) 44 (lj || decide (64 < (k : Int))) b (app (rd w0 b #[.string s, .int .i64 ((j + 1 + k : Nat) : Int), .bool (lj || decide (64 < (k : Int)))]) bs d) (j + 1 + k) rfl hlt2 (by rw [h44]; rfl) (by omega) ((rd_row hI _).app _ _)
       have hr' : Hid ((routeT (s.data.toList.drop (j + 1 + k + 1))).map (fun x => (j + 1 + k + 1 + x.1, (lj || decide (64 < (k : Int))) || x.2)) = R) := by
        have h0 := hr.out
        rw [hdt, Option.map_map] at h0
        unfold Hid
        rw [← h0]
        congr 1
        funext x
        simp only [Function.comp, Bool.or_assoc, Prod.mk.injEq, and_true]; omega
       clear hdt hq hr h44
       replace hta := Lib.hid hta
       simp only [Int.natCast_add, Int.natCast_one] at hdo
       replace hdo := Lib.hid hdo
       simp only [Int.natCast_add, Int.natCast_one] at ht2
       replace ht2 := Lib.hid ht2
       go_wp2_with first
        | (go_at_call 95; ((with_reducible refine hta.out.mono ?_); rintro r w1 ⟨rfl, bs1, d1, rfl⟩))
        | (go_at_call 69; ((with_reducible refine (hdo.out _ _).mono ?_); rintro r w1 ⟨rfl, bs2, d2, rfl⟩))
        | (go_at_call 95; ((with_reducible refine (ht2.out _ _).mono ?_); rintro r w1 ⟨rfl, bs3, d3, rfl⟩))
       go_roundw
       case rel => first | exact ⟨j + 1 + k + 1, _, _, _, hlt2, rfl, hr'⟩ | ((repeat apply Exists.intro); refine ⟨?rl, ?fr⟩; case fr => ((repeat' apply And.intro) <;> exact rfl); case rl => exact ⟨j + 1 + k + 1, _, _, _, hlt2, rfl, hr'⟩)
       case measure => rw [posOf_rd hI, posOf_rd hI]; simp [intOf]; omega
     · rw [if_neg h44] at hdt
       have ht2 := fun bs d => @take_no s ((j + 1 + k : Nat) : Int) 44 (lj || decide (64 < (k : Int))) b (app (rd w0 b #[.string s, .int .i64 ((j + 1 + k : Nat) : Int), .bool (lj || decide (64 < (k : Int)))]) bs d) (j + 1 + k) rfl hkl (fun _ e => by rw [u8_int] at h44; exact h44 e.symm) ((rd_row hI _).app _ _)
       clear hq h44
       by_cases h58 : s.data.toList.getD (j + 1 + k) 0 = 58
       · have hlt2 := getD_pos h58 (by decide)
         rw [if_pos h58] at hdt
         have hR : Hid (R = some (j + 1 + k + 1, lj || decide (64 < (k : Int)))) := by have := hr.out; rw [hdt] at this; unfold Hid; rw [← this]; simp; omega
         have ht3 := fun bs d => @take_yes s ((j + 1 + k : Nat) : Int) 58 (lj || decide (64 < (k : Int))) b (app (rd w0 b #[.string s, .int .i64 ((j + 1 + k : Nat) : Int), .bool (lj || decide (64 < (k : Int)))]) bs d) (j + 1 + k) rfl hlt2 (by rw [h58]; rfl) (by omega) ((rd_row hI _).app _ _)
         clear hdt hr h58
         replace hta := Lib.hid hta
         simp only [Int.natCast_add, Int.natCast_one] at hdo
         replace hdo := Lib.hid hdo
         simp only [Int.natCast_add, Int.natCast_one] at ht2
         replace ht2 := Lib.hid ht2
         simp only [Int.natCast_add, Int.natCast_one] at ht3
         replace ht3 := Lib.hid ht3
         go_wp2_with first
          | (go_at_call 95; ((with_reducible refine hta.out.mono ?_); rintro r w1 ⟨rfl, bs1, d1, rfl⟩))
          | (go_at_call 69; ((with_reducible refine (hdo.out _ _).mono ?_); rintro r w1 ⟨rfl, bs2, d2, rfl⟩))
          | (go_at_call 95; ((with_reducible refine (ht2.out _ _).mono ?_); rintro r w1 ⟨rfl, bs3, d3, rfl⟩))
          | (go_at_call 95; ((with_reducible refine (ht3.out _ _).mono ?_); rintro r w1 ⟨rfl, bs4, d4, rfl⟩))
         go_returns
         exact hyes.out _ _ _ _ hR.out (by (first | exact ⟨rfl, _, _, rfl⟩ | exact ⟨rfl, #[], _, (app_nil _).symm⟩ | (refine ⟨rfl, ?_⟩; simp only [app_app]; exact ⟨_, _, rfl⟩) | (refine ⟨rfl, of_below ?_⟩; ((repeat' (first | (with_reducible exact Below.refl _ _) | (with_reducible refine Below.app ?_ ?_ _ _) | (with_reducible refine Below.alloc ?_ ?_ _) | (with_reducible refine Below.drew ?_) | (with_reducible refine Below.setCell ?_ ?_ _) | (with_reducible assumption) | omega | (simp; omega) | (simp; done))) <;> exact Below.refl _ _))))
       · rw [if_neg h58] at hdt
         have hR : Hid (R = none) := by have := hr.out; rw [hdt] at this; exact this.symm
         have ht3 := fun bs d => @take_no s ((j + 1 + k : Nat) : Int) 58 (lj || decide (64 < (k : Int))) b (app (rd w0 b #[.string s, .int .i64 ((j + 1 + k : Nat) : Int), .bool (lj || decide (64 < (k : Int)))]) bs d) (j + 1 + k) rfl hkl (fun _ e => by rw [u8_int] at h58; exact h58 e.symm) ((rd_row hI _).app _ _)
         clear hdt hr h58
         replace hta := Lib.hid hta
         simp only [Int.natCast_add, Int.natCast_one] at hdo
         replace hdo := Lib.hid hdo
         simp only [Int.natCast_add, Int.natCast_one] at ht2
         replace ht2 := Lib.hid ht2
         simp only [Int.natCast_add, Int.natCast_one] at ht3
         replace ht3 := Lib.hid ht3
         go_wp2_with first
          | (go_at_call 95; ((with_reducible refine hta.out.mono ?_); rintro r w1 ⟨rfl, bs1, d1, rfl⟩))
          | (go_at_call 69; ((with_reducible refine (hdo.out _ _).mono ?_); rintro r w1 ⟨rfl, bs2, d2, rfl⟩))
          | (go_at_call 95; ((with_reducible refine (ht2.out _ _).mono ?_); rintro r w1 ⟨rfl, bs3, d3, rfl⟩))
          | (go_at_call 95; ((with_reducible refine (ht3.out _ _).mono ?_); rintro r w1 ⟨rfl, bs4, d4, rfl⟩))
         go_returns
         exact hno.out _ _ hR.out ⟨j + 1 + k, _, hkl, by (first | exact ⟨rfl, _, _, rfl⟩ | exact ⟨rfl, #[], _, (app_nil _).symm⟩ | (refine ⟨rfl, ?_⟩; simp only [app_app]; exact ⟨_, _, rfl⟩) | (refine ⟨rfl, of_below ?_⟩; ((repeat' (first | (with_reducible exact Below.refl _ _) | (with_reducible refine Below.app ?_ ?_ _ _) | (with_reducible refine Below.alloc ?_ ?_ _) | (with_reducible refine Below.drew ?_) | (with_reducible refine Below.setCell ?_ ?_ _) | (with_reducible assumption) | omega | (simp; omega) | (simp; done))) <;> exact Below.refl _ _)))⟩
  · rw [if_neg hx] at hdt
    have hR : Hid (R = none) := by have := hr.out; rw [hdt] at this; exact this.symm
    have hta := @take_no s j 64 lj b (app (rd w0 b #[.string s, .int .i64 j, .bool lj]) bs d) j rfl j1 (fun _ e => by rw [u8_int] at hx; exact hx e.symm) ((rd_row hI _).app _ _)
    clear hx hdt hr
    replace hta := Lib.hid hta
    go_wp2_with (go_at_call 95; ((with_reducible refine hta.out.mono ?_); rintro r w1 ⟨rfl, bs1, d1, rfl⟩))
    go_returns
    exact hno.out _ _ hR.out ⟨j, lj, j1, by (first | exact ⟨rfl, _, _, rfl⟩ | exact ⟨rfl, #[], _, (app_nil _).symm⟩ | (refine ⟨rfl, ?_⟩; simp only [app_app]; exact ⟨_, _, rfl⟩) | (refine ⟨rfl, of_below ?_⟩; ((repeat' (first | (with_reducible exact Below.refl _ _) | (with_reducible refine Below.app ?_ ?_ _ _) | (with_reducible refine Below.alloc ?_ ?_ _) | (with_reducible refine Below.drew ?_) | (with_reducible refine Below.setCell ?_ ?_ _) | (with_reducible assumption) | omega | (simp; omega) | (simp; done))) <;> exact Below.refl _ _)))⟩
set_option maxHeartbeats 1000000 in
theorem route_none {s : ByteArray} {lg : Bool} {b : Nat} {w : World} (n : Nat) (hx0 : ¬ s.data.toList.getD n 0 = 64) (hn : n ≤ s.size) (h : RowIs w b #[.string s, .int .i64 n, .bool lg]) :
 Calls Tryz.prog 96 #[.pointer (some ⟨b, 0, none⟩)] w (RPost s b (some (n, lg)) w) := by
 refine h.lift (fun w0 hI => ?_)
 have hb := hI.lt
 have hnx0 := @next_calls s n lg b (rd w0 b #[.string s, .int .i64 n, .bool lg]) n rfl hn (rd_row hI _)
 have hx' : (((s.data.toList.getD n 0).toNat : Int) == 64) = false := by rw [u8_int] at hx0; simpa using hx0
 have hx'' : (((s.data.toList.getD n 0).toNat : Int) != 64) = true := by rw [bne, hx']; rfl
 clear hx0
 generalize s.data.toList.getD n 0 = x at *
 replace hnx0 := Lib.hid hnx0
 go_enter Tryz.func96, Tryz.ntmps96
 go_wp2_with (go_at_call 92; ((with_reducible refine hnx0.out.mono ?_); rintro r w1 ⟨rfl, bs0, d0, rfl⟩))
 go_returns
 show After _ _ _ _ _ _
 (first | exact ⟨rfl, _, _, rfl⟩ | exact ⟨rfl, #[], _, (app_nil _).symm⟩ | (refine ⟨rfl, ?_⟩; simp only [app_app]; exact ⟨_, _, rfl⟩) | (refine ⟨rfl, of_below ?_⟩; ((repeat' (first | (with_reducible exact Below.refl _ _) | (with_reducible refine Below.app ?_ ?_ _ _) | (with_reducible refine Below.alloc ?_ ?_ _) | (with_reducible refine Below.drew ?_) | (with_reducible refine Below.setCell ?_ ?_ _) | (with_reducible assumption) | omega | (simp; omega) | (simp; done))) <;> exact Below.refl _ _)))
end Go.Proofs.YtfbicbgdfcbhpaaGreatDoor
