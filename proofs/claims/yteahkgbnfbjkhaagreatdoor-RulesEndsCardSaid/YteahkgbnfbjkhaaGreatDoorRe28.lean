/-
  ReplyEnhW.
-/
import Derived.Test.YteahkgbnfbjkhaaGreatDoorRe27
import Derived.Test.YteahkgbnfbjkhaaGreatDoorRe14
set_option maxRecDepth 20000
set_option linter.unusedVariables false
set_option linter.unusedSimpArgs false
set_option linter.unusedSectionVars false
namespace Go.Proofs.YteahkgbnfbjkhaaGreatDoor
open Go.ChangeShapes Go.WideShapes Go.ChangeAt Go.RowKit
def enhV (e : Option (Nat × Nat × Nat)) : Value := match e with
 | some (a, b, c) => .tuple #[.int .i64 a, .int .i64 b, .int .i64 c, .bool true]
 | none => .tuple #[.int .i64 0, .int .i64 0, .int .i64 0, .bool false]
theorem bad_itoa {p : List UInt8} {v : Int} (hc : canonB p = false) (h3 : p.length ≤ 3) (h0 : 0 ≤ v) : (Lib.itoa v == p) = false := by
 rw [beq_eq_false_iff_ne]
 intro e
 rw [canon_of h3 h0 e] at hc; cases hc
set_option maxHeartbeats 8000000 in
theorem enh_calls (l : List UInt8) (hl : l.length ≤ 10000000) {w : World} (hw : LibAt w) : Calls Tryz.prog 63 #[.string ⟨l.toArray⟩] w fun r w' => r = .returned (enhV (enhQ l)) ∧ Below w.heap.size w w' := by
 have hsp := fun (W : World) (hW : LibAt W) => splitPt_calls l 46 (by omega) hW
 have hlib := fun (W : World) (hW : Below w.heap.size w W) => hw.below hW
 by_cases h3 : (Lib.split l [46]).length = 3
 · match hs : Lib.split l [46], h3 with
   | [p, q, r], _ =>
    have hE := enhQ_three hs
    have hlp : ∀ x ∈ [p, q, r], x.length ≤ 10000000 := fun x hx => by
     rw [← hs] at hx
     exact Nat.le_trans (split_le l x hx) hl
    rw [hs] at hsp
    simp only [List.map_cons, List.map_nil, List.length_cons, List.length_nil] at hsp
    generalize enhQ l = E at *
    have hlp0 := hlp p (by simp)
    have hlp1 := hlp q (by simp)
    have hlp2 := hlp r (by simp)
    replace hE := Lib.hid hE
    replace hsp := Lib.hid (hsp w hw)
    replace hlib := Lib.hid hlib
    clear hs hw hlp hl
    go_enter Tryz.func63, Tryz.ntmps63
    go_wp2_with (go_at_call 129; ((refine hsp.out.mono ?_); rintro r1 w1 ⟨rfl, rfl⟩))
    go_loopw [19] (fun i wr => ∃ (k : Nat) (a b c : Int) (bs : Array Obj) (d : Nat), k ≤ 3 ∧ i = .int .i64 k ∧ wr = app ((w.alloc (.cells #[.string ⟨p.toArray⟩, .string ⟨q.toArray⟩, .string ⟨r.toArray⟩] 9)).alloc (.cells #[.int .i64 a, .int .i64 b, .int .i64 c] 168)) bs d ∧
     Hid ((1 ≤ k → canonB p = true ∧ a = valN 0 p) ∧ (2 ≤ k → canonB q = true ∧ b = valN 0 q) ∧ (3 ≤ k → canonB r = true ∧ c = valN 0 r))) (fun i _ => 3 - (intOf i).toNat)
    case atStart => exact ⟨0, 0, 0, 0, #[], _, by omega, rfl, (app_nil _).symm, fun h => absurd h (by omega), fun h => absurd h (by omega), fun h => absurd h (by omega)⟩
    case round =>
     obtain ⟨k, a, b, c, bs, d, hk, rfl, rfl, hr⟩ := hrel
     obtain rfl | rfl | rfl | rfl : k = 0 ∨ k = 1 ∨ k = 2 ∨ k = 3 := by omega
     · have hszx : (⟨p.toArray⟩ : ByteArray).size = p.length := by show p.toArray.size = _; simp
       by_cases hc : canonB p = true
       rotate_left
       · have hc : canonB p = false := by simpa using hc
         have hE0 : Hid (E = none) := hE.out.trans (if_neg (by rw [hc]; simp))
         clear hE hr
         by_cases hok : ∃ v, Lib.atoiAll p = .ok v
         · obtain ⟨v, hx⟩ := hok
           have ha := fun W => atoi_ok hx (by omega) W
           have hv := Lib.atoiAll_bounds hx
           replace ha := Lib.hid ha
           by_cases h3 : 3 < (p.length : Int)
           · clear hc hx
             go_wp2_with (go_at_call 130; ((refine (ha.out _).mono ?_); rintro r w1 ⟨rfl, hb⟩; obtain ⟨b1, b1d, rfl⟩ := of_below hb; clear hb))
             go_returns
             exact ⟨by rw [hE0.out]; rfl, by (repeat' (first | (with_reducible exact Below.refl _ _) | (with_reducible refine Below.app ?_ ?_ _ _) | (with_reducible refine Below.alloc ?_ ?_ _) | (with_reducible refine Below.drew ?_) | (with_reducible refine Below.setCell ?_ ?_ _) | (with_reducible assumption) | omega | (simp; omega) | (simp; done)))⟩
           · by_cases h0 : v < 0
             · clear hc hx
               go_wp2_with (go_at_call 130; ((refine (ha.out _).mono ?_); rintro r w1 ⟨rfl, hb⟩; obtain ⟨b1, b1d, rfl⟩ := of_below hb; clear hb))
               go_returns
               exact ⟨by rw [hE0.out]; rfl, by (repeat' (first | (with_reducible exact Below.refl _ _) | (with_reducible refine Below.app ?_ ?_ _ _) | (with_reducible refine Below.alloc ?_ ?_ _) | (with_reducible refine Below.drew ?_) | (with_reducible refine Below.setCell ?_ ?_ _) | (with_reducible assumption) | omega | (simp; omega) | (simp; done)))⟩
             · have hz := bad_itoa hc (by omega) (by omega : 0 ≤ v)
               have hi := fun W hW => itoa_calls v (by omega) (by omega) (w := W) hW
               generalize Lib.itoa v = z at *
               replace hi := Lib.hid hi
               clear hc hx
               go_wp2_with first
                | (go_at_call 130; ((refine (ha.out _).mono ?_); rintro r w1 ⟨rfl, hb⟩; obtain ⟨b1, b1d, rfl⟩ := of_below hb; clear hb))
                | (go_at_call 90; ((refine (hi.out _ (hlib.out _ (by (repeat' (first | (with_reducible exact Below.refl _ _) | (with_reducible refine Below.app ?_ ?_ _ _) | (with_reducible refine Below.alloc ?_ ?_ _) | (with_reducible refine Below.drew ?_) | (with_reducible refine Below.setCell ?_ ?_ _) | (with_reducible assumption) | omega | (simp; omega) | (simp; done)))))).mono ?_); rintro r w1 ⟨rfl, hb⟩; obtain ⟨b2, b2d, rfl⟩ := of_below hb; clear hb))
               go_returns
               exact ⟨by rw [hE0.out]; rfl, by (repeat' (first | (with_reducible exact Below.refl _ _) | (with_reducible refine Below.app ?_ ?_ _ _) | (with_reducible refine Below.alloc ?_ ?_ _) | (with_reducible refine Below.drew ?_) | (with_reducible refine Below.setCell ?_ ?_ _) | (with_reducible assumption) | omega | (simp; omega) | (simp; done)))⟩
         · have ha := fun W hW => atoi_no (fun v h => hok ⟨v, h⟩) (by omega) (w := W) hW
           replace ha := Lib.hid ha
           clear hc hok
           go_wp2_with (go_at_call 130; ((refine (ha.out _ (hlib.out _ (by (repeat' (first | (with_reducible exact Below.refl _ _) | (with_reducible refine Below.app ?_ ?_ _ _) | (with_reducible refine Below.alloc ?_ ?_ _) | (with_reducible refine Below.drew ?_) | (with_reducible refine Below.setCell ?_ ?_ _) | (with_reducible assumption) | omega | (simp; omega) | (simp; done)))))).mono ?_); rintro r1 w1 ⟨v, t1, p1, rfl, hb1⟩; obtain ⟨b1, d1, rfl⟩ := of_below hb1; clear hb1))
           go_returns
           exact ⟨by rw [hE0.out]; rfl, by (repeat' (first | (with_reducible exact Below.refl _ _) | (with_reducible refine Below.app ?_ ?_ _ _) | (with_reducible refine Below.alloc ?_ ?_ _) | (with_reducible refine Below.drew ?_) | (with_reducible refine Below.setCell ?_ ?_ _) | (with_reducible assumption) | omega | (simp; omega) | (simp; done)))⟩
       · obtain ⟨hx, hv⟩ := canon_atoi hc
         have ha := fun W => atoi_ok hx (by omega) W
         have hi := fun W hW => itoa_calls (valN 0 p : Int) (by omega) (by omega) (w := W) hW
         rw [canon_itoa hc] at hi
         have hlx := (canon_parts hc).2.2.1
         have hlx3 : (p.length : Int) ≤ 3 := by omega
         obtain ⟨nv, hnv⟩ : ∃ nv : Int, nv = valN 0 p := ⟨_, rfl⟩
         have hn0 : 0 ≤ nv := by omega
         rw [← hnv] at ha hi
         have hR : Hid ((1 ≤ 1 → canonB p = true ∧ (nv : Int) = valN 0 p) ∧ (2 ≤ 1 → canonB q = true ∧ (b : Int) = valN 0 q) ∧ (3 ≤ 1 → canonB r = true ∧ (c : Int) = valN 0 r)) := by
          refine ⟨?_, ?_, ?_⟩
          · exact fun _ => ⟨hc, hnv⟩
          · exact fun h => absurd h (by omega)
          · exact fun h => absurd h (by omega)
         replace ha := Lib.hid ha
         replace hi := Lib.hid hi
         clear hE hr hc hx hv hnv
         go_wp2_with first
          | (go_at_call 130; ((refine (ha.out _).mono ?_); rintro r w1 ⟨rfl, hb⟩; obtain ⟨b1, b1d, rfl⟩ := of_below hb; clear hb))
          | (go_at_call 90; ((refine (hi.out _ (hlib.out _ (by (repeat' (first | (with_reducible exact Below.refl _ _) | (with_reducible refine Below.app ?_ ?_ _ _) | (with_reducible refine Below.alloc ?_ ?_ _) | (with_reducible refine Below.drew ?_) | (with_reducible refine Below.setCell ?_ ?_ _) | (with_reducible assumption) | omega | (simp; omega) | (simp; done)))))).mono ?_); rintro r w1 ⟨rfl, hb⟩; obtain ⟨b2, b2d, rfl⟩ := of_below hb; clear hb))
         go_roundw
         case rel => exact ⟨1, nv, b, c, _, _, by omega, by go_num, rfl, hR⟩
         case measure => first | (simp [intOf]; done) | (simp [intOf]; omega)
     · have hszx : (⟨q.toArray⟩ : ByteArray).size = q.length := by show q.toArray.size = _; simp
       by_cases hc : canonB q = true
       rotate_left
       · have hc : canonB q = false := by simpa using hc
         have hE0 : Hid (E = none) := hE.out.trans (if_neg (by rw [hc]; simp))
         clear hE hr
         by_cases hok : ∃ v, Lib.atoiAll q = .ok v
         · obtain ⟨v, hx⟩ := hok
           have ha := fun W => atoi_ok hx (by omega) W
           have hv := Lib.atoiAll_bounds hx
           replace ha := Lib.hid ha
           by_cases h3 : 3 < (q.length : Int)
           · clear hc hx
             go_wp2_with (go_at_call 130; ((refine (ha.out _).mono ?_); rintro r w1 ⟨rfl, hb⟩; obtain ⟨b1, b1d, rfl⟩ := of_below hb; clear hb))
             go_returns
             exact ⟨by rw [hE0.out]; rfl, by (repeat' (first | (with_reducible exact Below.refl _ _) | (with_reducible refine Below.app ?_ ?_ _ _) | (with_reducible refine Below.alloc ?_ ?_ _) | (with_reducible refine Below.drew ?_) | (with_reducible refine Below.setCell ?_ ?_ _) | (with_reducible assumption) | omega | (simp; omega) | (simp; done)))⟩
           · by_cases h0 : v < 0
             · clear hc hx
               go_wp2_with (go_at_call 130; ((refine (ha.out _).mono ?_); rintro r w1 ⟨rfl, hb⟩; obtain ⟨b1, b1d, rfl⟩ := of_below hb; clear hb))
               go_returns
               exact ⟨by rw [hE0.out]; rfl, by (repeat' (first | (with_reducible exact Below.refl _ _) | (with_reducible refine Below.app ?_ ?_ _ _) | (with_reducible refine Below.alloc ?_ ?_ _) | (with_reducible refine Below.drew ?_) | (with_reducible refine Below.setCell ?_ ?_ _) | (with_reducible assumption) | omega | (simp; omega) | (simp; done)))⟩
             · have hz := bad_itoa hc (by omega) (by omega : 0 ≤ v)
               have hi := fun W hW => itoa_calls v (by omega) (by omega) (w := W) hW
               generalize Lib.itoa v = z at *
               replace hi := Lib.hid hi
               clear hc hx
               go_wp2_with first
                | (go_at_call 130; ((refine (ha.out _).mono ?_); rintro r w1 ⟨rfl, hb⟩; obtain ⟨b1, b1d, rfl⟩ := of_below hb; clear hb))
                | (go_at_call 90; ((refine (hi.out _ (hlib.out _ (by (repeat' (first | (with_reducible exact Below.refl _ _) | (with_reducible refine Below.app ?_ ?_ _ _) | (with_reducible refine Below.alloc ?_ ?_ _) | (with_reducible refine Below.drew ?_) | (with_reducible refine Below.setCell ?_ ?_ _) | (with_reducible assumption) | omega | (simp; omega) | (simp; done)))))).mono ?_); rintro r w1 ⟨rfl, hb⟩; obtain ⟨b2, b2d, rfl⟩ := of_below hb; clear hb))
               go_returns
               exact ⟨by rw [hE0.out]; rfl, by (repeat' (first | (with_reducible exact Below.refl _ _) | (with_reducible refine Below.app ?_ ?_ _ _) | (with_reducible refine Below.alloc ?_ ?_ _) | (with_reducible refine Below.drew ?_) | (with_reducible refine Below.setCell ?_ ?_ _) | (with_reducible assumption) | omega | (simp; omega) | (simp; done)))⟩
         · have ha := fun W hW => atoi_no (fun v h => hok ⟨v, h⟩) (by omega) (w := W) hW
           replace ha := Lib.hid ha
           clear hc hok
           go_wp2_with (go_at_call 130; ((refine (ha.out _ (hlib.out _ (by (repeat' (first | (with_reducible exact Below.refl _ _) | (with_reducible refine Below.app ?_ ?_ _ _) | (with_reducible refine Below.alloc ?_ ?_ _) | (with_reducible refine Below.drew ?_) | (with_reducible refine Below.setCell ?_ ?_ _) | (with_reducible assumption) | omega | (simp; omega) | (simp; done)))))).mono ?_); rintro r1 w1 ⟨v, t1, p1, rfl, hb1⟩; obtain ⟨b1, d1, rfl⟩ := of_below hb1; clear hb1))
           go_returns
           exact ⟨by rw [hE0.out]; rfl, by (repeat' (first | (with_reducible exact Below.refl _ _) | (with_reducible refine Below.app ?_ ?_ _ _) | (with_reducible refine Below.alloc ?_ ?_ _) | (with_reducible refine Below.drew ?_) | (with_reducible refine Below.setCell ?_ ?_ _) | (with_reducible assumption) | omega | (simp; omega) | (simp; done)))⟩
       · obtain ⟨hx, hv⟩ := canon_atoi hc
         have ha := fun W => atoi_ok hx (by omega) W
         have hi := fun W hW => itoa_calls (valN 0 q : Int) (by omega) (by omega) (w := W) hW
         rw [canon_itoa hc] at hi
         have hlx := (canon_parts hc).2.2.1
         have hlx3 : (q.length : Int) ≤ 3 := by omega
         obtain ⟨nv, hnv⟩ : ∃ nv : Int, nv = valN 0 q := ⟨_, rfl⟩
         have hn0 : 0 ≤ nv := by omega
         rw [← hnv] at ha hi
         have hR : Hid ((1 ≤ 2 → canonB p = true ∧ (a : Int) = valN 0 p) ∧ (2 ≤ 2 → canonB q = true ∧ (nv : Int) = valN 0 q) ∧ (3 ≤ 2 → canonB r = true ∧ (c : Int) = valN 0 r)) := by
          refine ⟨?_, ?_, ?_⟩
          · exact fun _ => hr.out.1 (by omega)
          · exact fun _ => ⟨hc, hnv⟩
          · exact fun h => absurd h (by omega)
         replace ha := Lib.hid ha
         replace hi := Lib.hid hi
         clear hE hr hc hx hv hnv
         go_wp2_with first
          | (go_at_call 130; ((refine (ha.out _).mono ?_); rintro r w1 ⟨rfl, hb⟩; obtain ⟨b1, b1d, rfl⟩ := of_below hb; clear hb))
          | (go_at_call 90; ((refine (hi.out _ (hlib.out _ (by (repeat' (first | (with_reducible exact Below.refl _ _) | (with_reducible refine Below.app ?_ ?_ _ _) | (with_reducible refine Below.alloc ?_ ?_ _) | (with_reducible refine Below.drew ?_) | (with_reducible refine Below.setCell ?_ ?_ _) | (with_reducible assumption) | omega | (simp; omega) | (simp; done)))))).mono ?_); rintro r w1 ⟨rfl, hb⟩; obtain ⟨b2, b2d, rfl⟩ := of_below hb; clear hb))
         go_roundw
         case rel => exact ⟨2, a, nv, c, _, _, by omega, by go_num, rfl, hR⟩
         case measure => first | (simp [intOf]; done) | (simp [intOf]; omega)
     · have hszx : (⟨r.toArray⟩ : ByteArray).size = r.length := by show r.toArray.size = _; simp
       by_cases hc : canonB r = true
       rotate_left
       · have hc : canonB r = false := by simpa using hc
         have hE0 : Hid (E = none) := hE.out.trans (if_neg (by rw [hc]; simp))
         clear hE hr
         by_cases hok : ∃ v, Lib.atoiAll r = .ok v
         · obtain ⟨v, hx⟩ := hok
           have ha := fun W => atoi_ok hx (by omega) W
           have hv := Lib.atoiAll_bounds hx
           replace ha := Lib.hid ha
           by_cases h3 : 3 < (r.length : Int)
           · clear hc hx
             go_wp2_with (go_at_call 130; ((refine (ha.out _).mono ?_); rintro r w1 ⟨rfl, hb⟩; obtain ⟨b1, b1d, rfl⟩ := of_below hb; clear hb))
             go_returns
             exact ⟨by rw [hE0.out]; rfl, by (repeat' (first | (with_reducible exact Below.refl _ _) | (with_reducible refine Below.app ?_ ?_ _ _) | (with_reducible refine Below.alloc ?_ ?_ _) | (with_reducible refine Below.drew ?_) | (with_reducible refine Below.setCell ?_ ?_ _) | (with_reducible assumption) | omega | (simp; omega) | (simp; done)))⟩
           · by_cases h0 : v < 0
             · clear hc hx
               go_wp2_with (go_at_call 130; ((refine (ha.out _).mono ?_); rintro r w1 ⟨rfl, hb⟩; obtain ⟨b1, b1d, rfl⟩ := of_below hb; clear hb))
               go_returns
               exact ⟨by rw [hE0.out]; rfl, by (repeat' (first | (with_reducible exact Below.refl _ _) | (with_reducible refine Below.app ?_ ?_ _ _) | (with_reducible refine Below.alloc ?_ ?_ _) | (with_reducible refine Below.drew ?_) | (with_reducible refine Below.setCell ?_ ?_ _) | (with_reducible assumption) | omega | (simp; omega) | (simp; done)))⟩
             · have hz := bad_itoa hc (by omega) (by omega : 0 ≤ v)
               have hi := fun W hW => itoa_calls v (by omega) (by omega) (w := W) hW
               generalize Lib.itoa v = z at *
               replace hi := Lib.hid hi
               clear hc hx
               go_wp2_with first
                | (go_at_call 130; ((refine (ha.out _).mono ?_); rintro r w1 ⟨rfl, hb⟩; obtain ⟨b1, b1d, rfl⟩ := of_below hb; clear hb))
                | (go_at_call 90; ((refine (hi.out _ (hlib.out _ (by (repeat' (first | (with_reducible exact Below.refl _ _) | (with_reducible refine Below.app ?_ ?_ _ _) | (with_reducible refine Below.alloc ?_ ?_ _) | (with_reducible refine Below.drew ?_) | (with_reducible refine Below.setCell ?_ ?_ _) | (with_reducible assumption) | omega | (simp; omega) | (simp; done)))))).mono ?_); rintro r w1 ⟨rfl, hb⟩; obtain ⟨b2, b2d, rfl⟩ := of_below hb; clear hb))
               go_returns
               exact ⟨by rw [hE0.out]; rfl, by (repeat' (first | (with_reducible exact Below.refl _ _) | (with_reducible refine Below.app ?_ ?_ _ _) | (with_reducible refine Below.alloc ?_ ?_ _) | (with_reducible refine Below.drew ?_) | (with_reducible refine Below.setCell ?_ ?_ _) | (with_reducible assumption) | omega | (simp; omega) | (simp; done)))⟩
         · have ha := fun W hW => atoi_no (fun v h => hok ⟨v, h⟩) (by omega) (w := W) hW
           replace ha := Lib.hid ha
           clear hc hok
           go_wp2_with (go_at_call 130; ((refine (ha.out _ (hlib.out _ (by (repeat' (first | (with_reducible exact Below.refl _ _) | (with_reducible refine Below.app ?_ ?_ _ _) | (with_reducible refine Below.alloc ?_ ?_ _) | (with_reducible refine Below.drew ?_) | (with_reducible refine Below.setCell ?_ ?_ _) | (with_reducible assumption) | omega | (simp; omega) | (simp; done)))))).mono ?_); rintro r1 w1 ⟨v, t1, p1, rfl, hb1⟩; obtain ⟨b1, d1, rfl⟩ := of_below hb1; clear hb1))
           go_returns
           exact ⟨by rw [hE0.out]; rfl, by (repeat' (first | (with_reducible exact Below.refl _ _) | (with_reducible refine Below.app ?_ ?_ _ _) | (with_reducible refine Below.alloc ?_ ?_ _) | (with_reducible refine Below.drew ?_) | (with_reducible refine Below.setCell ?_ ?_ _) | (with_reducible assumption) | omega | (simp; omega) | (simp; done)))⟩
       · obtain ⟨hx, hv⟩ := canon_atoi hc
         have ha := fun W => atoi_ok hx (by omega) W
         have hi := fun W hW => itoa_calls (valN 0 r : Int) (by omega) (by omega) (w := W) hW
         rw [canon_itoa hc] at hi
         have hlx := (canon_parts hc).2.2.1
         have hlx3 : (r.length : Int) ≤ 3 := by omega
         obtain ⟨nv, hnv⟩ : ∃ nv : Int, nv = valN 0 r := ⟨_, rfl⟩
         have hn0 : 0 ≤ nv := by omega
         rw [← hnv] at ha hi
         have hR : Hid ((1 ≤ 3 → canonB p = true ∧ (a : Int) = valN 0 p) ∧ (2 ≤ 3 → canonB q = true ∧ (b : Int) = valN 0 q) ∧ (3 ≤ 3 → canonB r = true ∧ (nv : Int) = valN 0 r)) := by
          refine ⟨?_, ?_, ?_⟩
          · exact fun _ => hr.out.1 (by omega)
          · exact fun _ => hr.out.2.1 (by omega)
          · exact fun _ => ⟨hc, hnv⟩
         replace ha := Lib.hid ha
         replace hi := Lib.hid hi
         clear hE hr hc hx hv hnv
         go_wp2_with first
          | (go_at_call 130; ((refine (ha.out _).mono ?_); rintro r w1 ⟨rfl, hb⟩; obtain ⟨b1, b1d, rfl⟩ := of_below hb; clear hb))
          | (go_at_call 90; ((refine (hi.out _ (hlib.out _ (by (repeat' (first | (with_reducible exact Below.refl _ _) | (with_reducible refine Below.app ?_ ?_ _ _) | (with_reducible refine Below.alloc ?_ ?_ _) | (with_reducible refine Below.drew ?_) | (with_reducible refine Below.setCell ?_ ?_ _) | (with_reducible assumption) | omega | (simp; omega) | (simp; done)))))).mono ?_); rintro r w1 ⟨rfl, hb⟩; obtain ⟨b2, b2d, rfl⟩ := of_below hb; clear hb))
         go_roundw
         case rel => exact ⟨3, a, b, nv, _, _, by omega, by go_num, rfl, hR⟩
         case measure => first | (simp [intOf]; done) | (simp [intOf]; omega)
     · obtain ⟨⟨c1, rfl⟩, ⟨c2, rfl⟩, ⟨c3, rfl⟩⟩ := And.intro (hr.out.1 (by omega)) (And.intro (hr.out.2.1 (by omega)) (hr.out.2.2 (by omega)))
       have hE1 : Hid (E = if valN 0 p = 2 ∨ valN 0 p = 4 ∨ valN 0 p = 5 then some (valN 0 p, valN 0 q, valN 0 r) else none) := by
        unfold Hid
        rw [hE.out, c1, c2, c3]
        simp only [Bool.true_and, decide_eq_true_eq]
       clear hE hr c1 c2 c3
       generalize valN 0 p = a at *
       generalize valN 0 q = b at *
       generalize valN 0 r = c at *
       by_cases h2 : a = 2 ∨ a = 4 ∨ a = 5
       · rw [if_pos h2] at hE1
         rcases h2 with rfl | rfl | rfl
         all_goals
          go_wp2
          (apply wp_region_ph0 10; kernel_rfl; (intro Fin hFin; (repeat (first | (apply ph_here_none; exact rfl; exact rfl; exact rfl; (focus (intro bs d hF K hK; go_step; first  | (refine hK _ ?_; (repeat' (first | (with_reducible exact Below.refl _ _) | (with_reducible refine Below.app ?_ ?_ _ _) | (with_reducible refine Below.alloc ?_ ?_ _) | (with_reducible refine Below.drew ?_) | (with_reducible refine Below.setCell ?_ ?_ _) | (with_reducible assumption) | omega | (simp; omega) | (simp; done))); done)))) | (apply ph_any; exact rfl; (focus (intro wq hF K hK; go_step; first  | (refine hK _ ?_; exact Below.refl _ _))); (try simp only [Act.put, List.setIfInBounds_toArray, List.set_cons_zero, List.set_cons_succ])) | (apply ph_here; exact rfl; exact rfl; (focus (intro bs d hF K hK; go_step; first  | (refine hK _ ?_; (repeat' (first | (with_reducible exact Below.refl _ _) | (with_reducible refine Below.app ?_ ?_ _ _) | (with_reducible refine Below.alloc ?_ ?_ _) | (with_reducible refine Below.drew ?_) | (with_reducible refine Below.setCell ?_ ?_ _) | (with_reducible assumption) | omega | (simp; omega) | (simp; done))); done))); (try simp only [Act.put, List.setIfInBounds_toArray, List.set_cons_zero, List.set_cons_succ])) | (apply ph_skip_none; exact rfl; exact rfl) | (apply ph_skip; exact rfl; (try simp only [Act.put, List.setIfInBounds_toArray, List.set_cons_zero, List.set_cons_succ])))); apply ph_end; refine hFin _ _ _ _ _ rfl ?_; clear hFin Fin; intro hpsz bs d hfa; clear hpsz); rotate_left; kernel_rfl)
          go_wp2
          go_returns
          exact ⟨by rw [hE1.out]; rfl, by (repeat' (first | (with_reducible exact Below.refl _ _) | (with_reducible refine Below.app ?_ ?_ _ _) | (with_reducible refine Below.alloc ?_ ?_ _) | (with_reducible refine Below.drew ?_) | (with_reducible refine Below.setCell ?_ ?_ _) | (with_reducible assumption) | omega | (simp; omega) | (simp; done)))⟩
       · rw [if_neg h2] at hE1
         have n2 : ((a : Int) == 2) = false := by simp; omega
         have n4 : ((a : Int) == 4) = false := by simp; omega
         have n5 : ((a : Int) == 5) = false := by simp; omega
         have m2 : ((a : Int) != 2) = true := by simp; omega
         have m4 : ((a : Int) != 4) = true := by simp; omega
         have m5 : ((a : Int) != 5) = true := by simp; omega
         clear h2
         go_wp2
         go_returns
         exact ⟨by rw [hE1.out]; rfl, by (repeat' (first | (with_reducible exact Below.refl _ _) | (with_reducible refine Below.app ?_ ?_ _ _) | (with_reducible refine Below.alloc ?_ ?_ _) | (with_reducible refine Below.drew ?_) | (with_reducible refine Below.setCell ?_ ?_ _) | (with_reducible assumption) | omega | (simp; omega) | (simp; done)))⟩
 · have hE := enhQ_other h3
   generalize enhQ l = E at *
   subst hE
   have h3i : ((((Lib.split l [46]).length : Nat) : Int) == 3) = false := by simp; omega
   generalize Lib.split l [46] = S at *
   replace hsp := Lib.hid (hsp w hw)
   clear hw hlib hl h3
   go_enter Tryz.func63, Tryz.ntmps63
   go_wp2_with (go_at_call 129; ((refine hsp.out.mono ?_); rintro r1 w1 ⟨rfl, rfl⟩))
   go_returns
   exact ⟨rfl, by (repeat' (first | (with_reducible exact Below.refl _ _) | (with_reducible refine Below.app ?_ ?_ _ _) | (with_reducible refine Below.alloc ?_ ?_ _) | (with_reducible refine Below.drew ?_) | (with_reducible refine Below.setCell ?_ ?_ _) | (with_reducible assumption) | omega | (simp; omega) | (simp; done)))⟩
end Go.Proofs.YteahkgbnfbjkhaaGreatDoor
