/-
  dot.DotPieces answers true at every input: however bytes come in pieces, it is the same as if they came at once.
-/
import Derived.Test.YtnoiaeajpjhldaaDotPieceW
import Derived.IntWalk
namespace Go.Proofs.Ytnoiaeajpjhldaa
open Go.ChangeMaps Go.ChangeShapes Go.WideShapes Go.ChangeAt Go.RowKit

/-- Where the law's loop is: a bytes have come. -/
def RelPi (M b0 : Nat) (l : List UInt8) (w : World) (at0 : Value) (wr : World) : Prop := ∃ (a : Nat) (v : Value), a ≤ l.length ∧ at0 = .int .i64 a ∧ DecIs M b0 b0 (Dec.zero.feed (l.take a)).1 v wr ∧ Below w.heap.size w wr
theorem cellsInt7 : Try.prog.cellsOf 3 = 1 := by kernel_rfl
theorem same_any {w : World} {p2 : Option Addr} {n k2 : Nat} {T : List UInt8} {lo ba la : Bool} {x : Value} (h1 : ∃ p c, x = .agg #[.slice p n c, .bool lo, .bool ba, .bool la] ∧ TextOf w (.slice p n c) T) (h2 : TextOf w (.slice p2 n k2) T) :
    Calls Try.prog 15 #[x, .agg #[.slice p2 n k2, .bool lo, .bool ba, .bool la]] w fun r w' => r = .returned (.bool true) ∧ Below w.heap.size w w' := by
  obtain ⟨p, c, rfl, h1⟩ := h1
  have := same_calls lo lo ba ba la la h1 h2
  rwa [sameTB_self] at this
set_option maxRecDepth 20000 in
set_option maxHeartbeats 8000000 in
theorem dotPieces_walk (q : Option Addr) (l : List UInt8) (cap : Nat) (most : Int) (qc : Option Addr) (zs : List Int) (capc : Nat) (w : World) (h : BytesAt w q cap l) (hm2 : most ≤ 9223372036854775807) (hz : IntsAt w qc zs) (hzc : zs.length ≤ 9223372036854775807) (hmx : MaxLenAt w) :
    Calls Try.prog 5 #[.slice q l.length cap, .int .i64 most, .slice qc zs.length capc] w fun r w' => r = .returned (.bool true) ∧ Below w.heap.size w w' := by
  have hcap := h.cap

  have haw := Lib.hid (awake07 hmx)
  by_cases hbig : l.length ≤ 1000 ∧ zs.length ≤ 60
  · obtain ⟨g1, g2⟩ := hbig
    have hb1 : ¬ 1000 < (l.length : Int) := by omega
    have hb2 : ¬ 60 < (zs.length : Int) := by omega
    obtain ⟨M, hM⟩ : ∃ M : Nat, max most 0 = (M : Int) := ⟨(max most 0).toNat, by omega⟩
    have hMb : M ≤ 9223372036854775807 := by omega
    have cn := fun (W : World) => new_calls most W
    rw [hM] at cn
    replace cn := Lib.hid cn
    replace hM := Lib.hid hM
    go_enter Try.func5, Try.ntmps5
    go_wp2_with first
      | (go_at_call 8; ((refine (haw.out).mono ?_); rintro r w1 ⟨rfl, hb⟩; obtain ⟨b1, b1d, rfl⟩ := of_below hb; clear hb))
      | (go_at_call 16; ((refine (cn.out _).mono ?_); rintro r w1 ⟨rfl, rfl⟩))
    have hd0 := new_dec M (app w b1 b1d)
    rw [app_size] at hd0
    generalize hb0 : w.heap.size + b1.size = b0 at *
    have hb0w : w.heap.size ≤ b0 := by omega
    clear hb0
    go_loopw [8, 9] (fun a i wr => ∃ k : Nat, k ≤ zs.length + 1 ∧ i = .int .i64 k ∧ RelPi M b0 l w a wr) (fun _ i _ => zs.length + 1 - (intOf i).toNat)
    case atStart => exact ⟨0, by omega, rfl, 0, _, by omega, rfl, hd0, by (repeat' (first | (with_reducible exact Below.refl _ _) | (with_reducible refine Below.app ?_ ?_ _ _) | (with_reducible refine Below.alloc ?_ ?_ _) | (with_reducible refine Below.drew ?_) | (with_reducible refine Below.setCell ?_ ?_ _) | (with_reducible assumption) | omega | (simp; omega) | (simp; done)))⟩
    case round =>
      obtain ⟨k, hk, rfl, a, v, ha, rfl, hd, hbw⟩ := hrel
      clear hd0
      by_cases hlt : k ≤ zs.length
      · by_cases hlt2 : k < zs.length
        · obtain ⟨cb, co, hc1, hc2, hc3⟩ := hz k hlt2
          have hcr := (hbw.cell (p := ⟨cb, co + k, none⟩) hc2).trans hc3
          have hcb : cb < wr.heap.size := Nat.lt_of_lt_of_le hc2 hbw.size
          subst hc1
          have hlt3 : (k : Int) < zs.length := by omega
          generalize zs.getD k 0 = z at *
          clear hz
          obtain ⟨t, ht1, ht2, ht3⟩ : ∃ t : Nat, a ≤ t ∧ t ≤ l.length ∧ min (max z (a : Int)) (l.length : Int) = (t : Int) := ⟨(min (max z (a : Int)) (l.length : Int)).toNat, by omega, by omega, by omega⟩
          have hL := (h.below hbw).cut ht1 ht2
          have hL0 := fun (W : World) (hb : Below w.heap.size w W) => ((h.below hb).pre ht2).textOf
          have hLl : t - a = ((l.drop a).take (t - a)).length := by rw [List.length_take, List.length_drop]; omega
          obtain ⟨pc1, pc2⟩ := piece ht1 ht2
          have hlb := line_bounds (l.take a) Dec.zero (by decide)
          have hfb := feed_bounds (l.take a) Dec.zero (by decide)
          have hft := feed_bounds (l.take t) Dec.zero (by decide)
          have hta : (l.take a).length ≤ 1000 := by rw [List.length_take]; omega
          have htt : (l.take t).length ≤ 1000 := by rw [List.length_take]; omega
          have hz0 : Dec.zero.all.length = 0 := rfl
          have hz1 : Dec.zero.line = 0 := rfl
          rw [hz1] at hlb
          rw [hz0] at hfb hft
          have cf := fun (W : World) (p : Option Addr) (c : Nat) (hb : Below wr.heap.size wr W) (hown : W.ownsRow wr.heap.size 5 1 (.slice p (t - a) c) (t - a) (Lib.byteCells ((l.drop a).take (t - a)))) =>
            feed_own (hd.below hb) hown hLl hd.row.lt (fun k hk => (hd.own.lt k hk).2) (by have := hb.size; have := hd.row.lt; omega) hlb.2 (by omega) (by omega) (by omega) hMb
          rw [pc1, pc2] at cf
          obtain ⟨f1, f2, f3, f4, f5⟩ := feed_ref (l.take t)
          have cr := fun (W : World) (hb : Below w.heap.size w W) => rdec_calls hM.out hm2 (hL0 W hb) (by omega)
          have cx := fun (W : World) (v : Value) (hdW : DecIs M b0 b0 (Dec.zero.feed (l.take t)).1 v W) => text_text hdW (by omega)
          have cdn := fun (W : World) (v : Value) (hdW : DecIs M b0 b0 (Dec.zero.feed (l.take t)).1 v W) => done_calls hdW
          unfold RDecPost at cr
          rw [show (l.take t).length = t by rw [List.length_take]; omega] at cr
          rw [f1, f2, f3] at cx
          rw [f5] at cf cdn
          have hus : (Dec.zero.feed (l.take t)).2 ≤ 1000 := Nat.le_trans (feed_le _ _) htt
          rw [f4] at hus
          clear f1 f2 f3 f4 f5 pc1 pc2 hlb hfb hft hz0 hz1 hL0
          generalize hF : (Dec.zero.feed (l.take t)).1 = DT at *
          generalize decR (l.take t) Rdg.zero = R at *
          generalize hLx : (l.drop a).take (t - a) = L at *
          obtain ⟨all, lo, ba, us, dn⟩ := R
          simp only at cf cr cx cdn hus
          generalize decide (M < all.length) = la at *
          generalize all.take M = T at *
          generalize T.length = tl at *
          have hF2 := Lib.hid hF
          have hm1 : 0 ≤ min (t : Int) (us : Int) ∧ min (t : Int) (us : Int) ≤ 1000 := by omega
          have hm2' : 0 ≤ min (a : Int) (us : Int) ∧ min (a : Int) (us : Int) ≤ 1000 := by omega
          have hwr : IntKind.i64.wrap (min (t : Int) (us : Int) - min (a : Int) (us : Int)) = min (t : Int) (us : Int) - min (a : Int) (us : Int) := IntWalk.i64_in _ (by omega)
          have hb0r : b0 < wr.heap.size := hd.row.lt
          replace cf := Lib.hid cf
          replace cr := Lib.hid cr
          replace cx := Lib.hid cx
          replace cdn := Lib.hid cdn
          replace hwr := Lib.hid hwr
          replace hLl := Lib.hid hLl
          clear hLx hF haw cn hta htt
          by_cases hca : cap = a
          · subst hca
            rw [if_pos rfl, Nat.sub_self] at hL
            replace hL := Lib.hid hL
            go_wp2_with first
              | (at_builtin; refine wpList_append_bytes' rfl _ _ rfl wr.heap.size _ _ _ rfl (own_zero ?g1 ?g2) _ _ _ L hLl.out rfl (BytesAt.below (w := wr) ?g3 ?g4) ?g5 ?g6 ?_; (case g1 => (first | rfl | omega | (simp; done) | (simp; omega))); (case g2 => (first | rfl | omega | (simp; done) | (simp; omega))); (case g3 => exact hL.out); (case g4 => (repeat' (first | (with_reducible exact Below.refl _ _) | (with_reducible refine Below.app ?_ ?_ _ _) | (with_reducible refine Below.alloc ?_ ?_ _) | (with_reducible refine Below.drew ?_) | (with_reducible refine Below.setCell ?_ ?_ _) | (with_reducible assumption) | omega | (simp; omega) | (simp; done)))); (case g5 => omega); (case g6 => (first | rfl | omega | (simp; done) | (simp; omega))); intro p3 k3 w3 hown3 hg3 _; have hb3 := own_below_grown (w0 := wr) (by (repeat' (first | (with_reducible exact Below.refl _ _) | (with_reducible refine Below.app ?_ ?_ _ _) | (with_reducible refine Below.alloc ?_ ?_ _) | (with_reducible refine Below.drew ?_) | (with_reducible refine Below.setCell ?_ ?_ _) | (with_reducible assumption) | omega | (simp; omega) | (simp; done)))) (own_zero (by (first | rfl | omega | (simp; done) | (simp; omega))) (by (first | rfl | omega | (simp; done) | (simp; omega)))) hg3; (simp only [Nat.zero_add, List.nil_append] at hown3); clear hg3)
              | (go_at_call 17; ((refine (cf.out w3 _ _ hb3 hown3).mono ?_); rintro r w4 ⟨rfl, v4, hd4, hmv⟩; have hpa := PieceAt.made hd hb3 hown3 hLl.out hd4 hmv hbw hb0w; clear hd hb3 hown3 hd4 hmv))
            go_loopw [14] (fun kk wk => ∃ j : Nat, j ≤ t - cap ∧ kk = .int .i64 j ∧ PieceAt M b0 DT w p3 (t - cap) v4 wk) (fun kk _ => (t - cap) - (intOf kk).toNat)
            case atStart => exact ⟨0, by omega, rfl, hpa⟩
            case round =>
              obtain ⟨j, hj, rfl, hp⟩ := hrel
              clear hpa
              by_cases hjt : j < t - cap
              · exact absurd hjt (by omega)
              · go_wp2_with (go_at_call 14; ((refine (cr.out _ hp.2.1).mono ?_); rintro r w5 ⟨p5, k5, rfl, hv5, hb5⟩; obtain ⟨b5, d5, rfl⟩ := of_below hb5; replace hv5 := Lib.hid hv5; clear hb5))
                have hwr := hwr.out
                (apply wp_region_text 31; kernel_rfl; kernel_rfl; intro Fin hFin; (repeat (first | (apply text_run; exact rfl; (focus (intro bs d hF K hK; (repeat rw [app_app] at hK); (repeat rw [app_app]); (repeat rw [Array.append_assoc] at hK); (repeat rw [Array.append_assoc]); go_step; first  | (go_at_call 19; ((refine (cdn.out _ _ (hp.1.below (by (repeat' (first | (with_reducible exact Below.refl _ _) | (with_reducible refine Below.app ?_ ?_ _ _) | (with_reducible refine Below.alloc ?_ ?_ _) | (with_reducible refine Below.drew ?_) | (with_reducible refine Below.setCell ?_ ?_ _) | (with_reducible assumption) | omega | (simp; omega) | (simp; done)))))).mono ?_); rintro r w1 ⟨rfl, rfl⟩; simp only []; exact hK _ (Below.refl _ _)))  | (refine hK _ ?_; (repeat' (first | (with_reducible exact Below.refl _ _) | (with_reducible refine Below.app ?_ ?_ _ _) | (with_reducible refine Below.alloc ?_ ?_ _) | (with_reducible refine Below.drew ?_) | (with_reducible refine Below.setCell ?_ ?_ _) | (with_reducible assumption) | omega | (simp; omega) | (simp; done)))))); (try simp only [Act.put, List.setIfInBounds_toArray, List.set_cons_zero, List.set_cons_succ]))  | (apply text_has (fun v w => ∃ p c, v = .agg #[.slice p tl c, .bool lo, .bool ba, .bool la] ∧ TextOf w (.slice p tl c) T); exact rfl; exact fun _ _ _ hb ⟨p, c, h1, h2⟩ => ⟨p, c, h1, h2.below hb⟩; exact rfl; (focus (intro bs d hF K hK; (repeat rw [app_app] at hK); (repeat rw [app_app]); (repeat rw [Array.append_assoc] at hK); (repeat rw [Array.append_assoc]); go_step; (go_at_call 18; ((refine (cx.out _ _ (hp.1.below (by (repeat' (first | (with_reducible exact Below.refl _ _) | (with_reducible refine Below.app ?_ ?_ _ _) | (with_reducible refine Below.alloc ?_ ?_ _) | (with_reducible refine Below.drew ?_) | (with_reducible refine Below.setCell ?_ ?_ _) | (with_reducible assumption) | omega | (simp; omega) | (simp; done)))))).mono ?_); rintro r w1 ⟨x, rfl, hx, hb⟩; simp only []; exact hK _ _ hb hx)))); intro v; (try simp only [Act.put, factOf, List.setIfInBounds_toArray, List.set_cons_zero, List.set_cons_succ])) | (apply text_run; exact rfl; (focus (intro bs d hF K hK; (repeat rw [app_app] at hK); (repeat rw [app_app]); (repeat rw [Array.append_assoc] at hK); (repeat rw [Array.append_assoc]); have hx := hF.1 rfl; go_step; (go_at_call 15; ((refine (same_any hx (hv5.out.below (by (repeat' (first | (with_reducible exact Below.refl _ _) | (with_reducible refine Below.app ?_ ?_ _ _) | (with_reducible refine Below.alloc ?_ ?_ _) | (with_reducible refine Below.drew ?_) | (with_reducible refine Below.setCell ?_ ?_ _) | (with_reducible assumption) | omega | (simp; omega) | (simp; done)))))).mono ?_); rintro r w1 ⟨rfl, hb⟩; simp only []; exact hK _ hb)))); (try simp only [Act.put, List.setIfInBounds_toArray, List.set_cons_zero, List.set_cons_succ]))  | (apply text_skip; exact rfl; (try simp only [Act.put, List.setIfInBounds_toArray, List.set_cons_zero, List.set_cons_succ])))); apply text_end; apply hFin; clear hFin Fin; intro bs d hfa)
                go_wp2
                go_roundw
                case rel => exact ⟨k + 1, by omega, by go_num, t, v4, by omega, rfl, by rw [hF2.out]; exact hp.1.below (by (repeat' (first | (with_reducible exact Below.refl _ _) | (with_reducible refine Below.app ?_ ?_ _ _) | (with_reducible refine Below.alloc ?_ ?_ _) | (with_reducible refine Below.drew ?_) | (with_reducible refine Below.setCell ?_ ?_ _) | (with_reducible assumption) | omega | (simp; omega) | (simp; done)))), hp.2.1.trans (Below.mono (B := wr.heap.size) (by (repeat' (first | (with_reducible exact Below.refl _ _) | (with_reducible refine Below.app ?_ ?_ _ _) | (with_reducible refine Below.alloc ?_ ?_ _) | (with_reducible refine Below.drew ?_) | (with_reducible refine Below.setCell ?_ ?_ _) | (with_reducible assumption) | omega | (simp; omega) | (simp; done)))) hp.2.1.size)⟩
                case measure => first | (simp [intOf]; done) | (simp [intOf]; omega)
          · rw [if_neg hca] at hL
            replace hL := Lib.hid hL
            go_wp2_with first
              | (at_builtin; refine wpList_append_bytes' rfl _ _ rfl wr.heap.size _ _ _ rfl (own_zero ?g1 ?g2) _ _ _ L hLl.out rfl (BytesAt.below (w := wr) ?g3 ?g4) ?g5 ?g6 ?_; (case g1 => (first | rfl | omega | (simp; done) | (simp; omega))); (case g2 => (first | rfl | omega | (simp; done) | (simp; omega))); (case g3 => exact hL.out); (case g4 => (repeat' (first | (with_reducible exact Below.refl _ _) | (with_reducible refine Below.app ?_ ?_ _ _) | (with_reducible refine Below.alloc ?_ ?_ _) | (with_reducible refine Below.drew ?_) | (with_reducible refine Below.setCell ?_ ?_ _) | (with_reducible assumption) | omega | (simp; omega) | (simp; done)))); (case g5 => omega); (case g6 => (first | rfl | omega | (simp; done) | (simp; omega))); intro p3 k3 w3 hown3 hg3 _; have hb3 := own_below_grown (w0 := wr) (by (repeat' (first | (with_reducible exact Below.refl _ _) | (with_reducible refine Below.app ?_ ?_ _ _) | (with_reducible refine Below.alloc ?_ ?_ _) | (with_reducible refine Below.drew ?_) | (with_reducible refine Below.setCell ?_ ?_ _) | (with_reducible assumption) | omega | (simp; omega) | (simp; done)))) (own_zero (by (first | rfl | omega | (simp; done) | (simp; omega))) (by (first | rfl | omega | (simp; done) | (simp; omega)))) hg3; (simp only [Nat.zero_add, List.nil_append] at hown3); clear hg3)
              | (go_at_call 17; ((refine (cf.out w3 _ _ hb3 hown3).mono ?_); rintro r w4 ⟨rfl, v4, hd4, hmv⟩; have hpa := PieceAt.made hd hb3 hown3 hLl.out hd4 hmv hbw hb0w; clear hd hb3 hown3 hd4 hmv))
            go_loopw [14] (fun kk wk => ∃ j : Nat, j ≤ t - a ∧ kk = .int .i64 j ∧ PieceAt M b0 DT w p3 (t - a) v4 wk) (fun kk _ => (t - a) - (intOf kk).toNat)
            case atStart => exact ⟨0, by omega, rfl, hpa⟩
            case round =>
              obtain ⟨j, hj, rfl, hp⟩ := hrel
              clear hpa
              by_cases hjt : j < t - a
              · obtain ⟨g, rfl, e1, e2, e3, e4⟩ := hp.2.2 (by omega)
                obtain ⟨x, x1, x2, x3, x4, x5⟩ := e4.cell hjt
                have hset := fun (y : Int) (hy : 0 ≤ y ∧ y ≤ 255) => PieceAt.set (j := j) hp (by omega) hy
                clear hp e1 e2 e3 e4
                go_wp2
                go_roundw
                case rel => exact ⟨j + 1, by omega, by go_num, hset _ (by omega)⟩
                case measure => first | (simp [intOf]; done) | (simp [intOf]; omega)
              · go_wp2_with (go_at_call 14; ((refine (cr.out _ hp.2.1).mono ?_); rintro r w5 ⟨p5, k5, rfl, hv5, hb5⟩; obtain ⟨b5, d5, rfl⟩ := of_below hb5; replace hv5 := Lib.hid hv5; clear hb5))
                have hwr := hwr.out
                (apply wp_region_text 31; kernel_rfl; kernel_rfl; intro Fin hFin; (repeat (first | (apply text_run; exact rfl; (focus (intro bs d hF K hK; (repeat rw [app_app] at hK); (repeat rw [app_app]); (repeat rw [Array.append_assoc] at hK); (repeat rw [Array.append_assoc]); go_step; first  | (go_at_call 19; ((refine (cdn.out _ _ (hp.1.below (by (repeat' (first | (with_reducible exact Below.refl _ _) | (with_reducible refine Below.app ?_ ?_ _ _) | (with_reducible refine Below.alloc ?_ ?_ _) | (with_reducible refine Below.drew ?_) | (with_reducible refine Below.setCell ?_ ?_ _) | (with_reducible assumption) | omega | (simp; omega) | (simp; done)))))).mono ?_); rintro r w1 ⟨rfl, rfl⟩; simp only []; exact hK _ (Below.refl _ _)))  | (refine hK _ ?_; (repeat' (first | (with_reducible exact Below.refl _ _) | (with_reducible refine Below.app ?_ ?_ _ _) | (with_reducible refine Below.alloc ?_ ?_ _) | (with_reducible refine Below.drew ?_) | (with_reducible refine Below.setCell ?_ ?_ _) | (with_reducible assumption) | omega | (simp; omega) | (simp; done)))))); (try simp only [Act.put, List.setIfInBounds_toArray, List.set_cons_zero, List.set_cons_succ]))  | (apply text_has (fun v w => ∃ p c, v = .agg #[.slice p tl c, .bool lo, .bool ba, .bool la] ∧ TextOf w (.slice p tl c) T); exact rfl; exact fun _ _ _ hb ⟨p, c, h1, h2⟩ => ⟨p, c, h1, h2.below hb⟩; exact rfl; (focus (intro bs d hF K hK; (repeat rw [app_app] at hK); (repeat rw [app_app]); (repeat rw [Array.append_assoc] at hK); (repeat rw [Array.append_assoc]); go_step; (go_at_call 18; ((refine (cx.out _ _ (hp.1.below (by (repeat' (first | (with_reducible exact Below.refl _ _) | (with_reducible refine Below.app ?_ ?_ _ _) | (with_reducible refine Below.alloc ?_ ?_ _) | (with_reducible refine Below.drew ?_) | (with_reducible refine Below.setCell ?_ ?_ _) | (with_reducible assumption) | omega | (simp; omega) | (simp; done)))))).mono ?_); rintro r w1 ⟨x, rfl, hx, hb⟩; simp only []; exact hK _ _ hb hx)))); intro v; (try simp only [Act.put, factOf, List.setIfInBounds_toArray, List.set_cons_zero, List.set_cons_succ])) | (apply text_run; exact rfl; (focus (intro bs d hF K hK; (repeat rw [app_app] at hK); (repeat rw [app_app]); (repeat rw [Array.append_assoc] at hK); (repeat rw [Array.append_assoc]); have hx := hF.1 rfl; go_step; (go_at_call 15; ((refine (same_any hx (hv5.out.below (by (repeat' (first | (with_reducible exact Below.refl _ _) | (with_reducible refine Below.app ?_ ?_ _ _) | (with_reducible refine Below.alloc ?_ ?_ _) | (with_reducible refine Below.drew ?_) | (with_reducible refine Below.setCell ?_ ?_ _) | (with_reducible assumption) | omega | (simp; omega) | (simp; done)))))).mono ?_); rintro r w1 ⟨rfl, hb⟩; simp only []; exact hK _ hb)))); (try simp only [Act.put, List.setIfInBounds_toArray, List.set_cons_zero, List.set_cons_succ]))  | (apply text_skip; exact rfl; (try simp only [Act.put, List.setIfInBounds_toArray, List.set_cons_zero, List.set_cons_succ])))); apply text_end; apply hFin; clear hFin Fin; intro bs d hfa)
                go_wp2
                go_roundw
                case rel => exact ⟨k + 1, by omega, by go_num, t, v4, by omega, rfl, by rw [hF2.out]; exact hp.1.below (by (repeat' (first | (with_reducible exact Below.refl _ _) | (with_reducible refine Below.app ?_ ?_ _ _) | (with_reducible refine Below.alloc ?_ ?_ _) | (with_reducible refine Below.drew ?_) | (with_reducible refine Below.setCell ?_ ?_ _) | (with_reducible assumption) | omega | (simp; omega) | (simp; done)))), hp.2.1.trans (Below.mono (B := wr.heap.size) (by (repeat' (first | (with_reducible exact Below.refl _ _) | (with_reducible refine Below.app ?_ ?_ _ _) | (with_reducible refine Below.alloc ?_ ?_ _) | (with_reducible refine Below.drew ?_) | (with_reducible refine Below.setCell ?_ ?_ _) | (with_reducible assumption) | omega | (simp; omega) | (simp; done)))) hp.2.1.size)⟩
                case measure => first | (simp [intOf]; done) | (simp [intOf]; omega)
        · have hlt3 : ¬ (k : Int) < zs.length := by omega
          have ht1 : a ≤ l.length := ha
          have ht2 : l.length ≤ l.length := Nat.le_refl _
          have hL := (h.below hbw).cut ht1 ht2
          have hL0 := fun (W : World) (hb : Below w.heap.size w W) => ((h.below hb).pre ht2).textOf
          have hLl : (l.length) - a = ((l.drop a).take ((l.length) - a)).length := by rw [List.length_take, List.length_drop]; omega
          obtain ⟨pc1, pc2⟩ := piece ht1 ht2
          have hlb := line_bounds (l.take a) Dec.zero (by decide)
          have hfb := feed_bounds (l.take a) Dec.zero (by decide)
          have hft := feed_bounds (l.take (l.length)) Dec.zero (by decide)
          have hta : (l.take a).length ≤ 1000 := by rw [List.length_take]; omega
          have htt : (l.take (l.length)).length ≤ 1000 := by rw [List.length_take]; omega
          have hz0 : Dec.zero.all.length = 0 := rfl
          have hz1 : Dec.zero.line = 0 := rfl
          rw [hz1] at hlb
          rw [hz0] at hfb hft
          have cf := fun (W : World) (p : Option Addr) (c : Nat) (hb : Below wr.heap.size wr W) (hown : W.ownsRow wr.heap.size 5 1 (.slice p ((l.length) - a) c) ((l.length) - a) (Lib.byteCells ((l.drop a).take ((l.length) - a)))) =>
            feed_own (hd.below hb) hown hLl hd.row.lt (fun k hk => (hd.own.lt k hk).2) (by have := hb.size; have := hd.row.lt; omega) hlb.2 (by omega) (by omega) (by omega) hMb
          rw [pc1, pc2] at cf
          obtain ⟨f1, f2, f3, f4, f5⟩ := feed_ref (l.take (l.length))
          have cr := fun (W : World) (hb : Below w.heap.size w W) => rdec_calls hM.out hm2 (hL0 W hb) (by omega)
          have cx := fun (W : World) (v : Value) (hdW : DecIs M b0 b0 (Dec.zero.feed (l.take (l.length))).1 v W) => text_text hdW (by omega)
          have cdn := fun (W : World) (v : Value) (hdW : DecIs M b0 b0 (Dec.zero.feed (l.take (l.length))).1 v W) => done_calls hdW
          unfold RDecPost at cr
          rw [show (l.take (l.length)).length = (l.length) by rw [List.length_take]; omega] at cr
          rw [f1, f2, f3] at cx
          rw [f5] at cf cdn
          have hus : (Dec.zero.feed (l.take (l.length))).2 ≤ 1000 := Nat.le_trans (feed_le _ _) htt
          rw [f4] at hus
          clear f1 f2 f3 f4 f5 pc1 pc2 hlb hfb hft hz0 hz1 hL0
          generalize hF : (Dec.zero.feed (l.take (l.length))).1 = DT at *
          generalize decR (l.take (l.length)) Rdg.zero = R at *
          generalize hLx : (l.drop a).take ((l.length) - a) = L at *
          obtain ⟨all, lo, ba, us, dn⟩ := R
          simp only at cf cr cx cdn hus
          generalize decide (M < all.length) = la at *
          generalize all.take M = T at *
          generalize T.length = tl at *
          have hF2 := Lib.hid hF
          have hm1 : 0 ≤ min (l.length : Int) (us : Int) ∧ min (l.length : Int) (us : Int) ≤ 1000 := by omega
          have hm2' : 0 ≤ min (a : Int) (us : Int) ∧ min (a : Int) (us : Int) ≤ 1000 := by omega
          have hwr : IntKind.i64.wrap (min (l.length : Int) (us : Int) - min (a : Int) (us : Int)) = min (l.length : Int) (us : Int) - min (a : Int) (us : Int) := IntWalk.i64_in _ (by omega)
          have hb0r : b0 < wr.heap.size := hd.row.lt
          replace cf := Lib.hid cf
          replace cr := Lib.hid cr
          replace cx := Lib.hid cx
          replace cdn := Lib.hid cdn
          replace hwr := Lib.hid hwr
          replace hLl := Lib.hid hLl
          clear hLx hF haw cn hta htt
          by_cases hca : cap = a
          · subst hca
            rw [if_pos rfl, Nat.sub_self] at hL
            replace hL := Lib.hid hL
            have h00 : l.length - cap = 0 := by omega
            rw [h00] at cf hLl
            clear h00
            go_wp2_with first
              | (at_builtin; refine wpList_append_bytes' rfl _ _ rfl wr.heap.size _ _ _ rfl (own_zero ?g1 ?g2) _ _ _ L hLl.out rfl (BytesAt.below (w := wr) ?g3 ?g4) ?g5 ?g6 ?_; (case g1 => (first | rfl | omega | (simp; done) | (simp; omega))); (case g2 => (first | rfl | omega | (simp; done) | (simp; omega))); (case g3 => exact hL.out); (case g4 => (repeat' (first | (with_reducible exact Below.refl _ _) | (with_reducible refine Below.app ?_ ?_ _ _) | (with_reducible refine Below.alloc ?_ ?_ _) | (with_reducible refine Below.drew ?_) | (with_reducible refine Below.setCell ?_ ?_ _) | (with_reducible assumption) | omega | (simp; omega) | (simp; done)))); (case g5 => omega); (case g6 => (first | rfl | omega | (simp; done) | (simp; omega))); intro p3 k3 w3 hown3 hg3 _; have hb3 := own_below_grown (w0 := wr) (by (repeat' (first | (with_reducible exact Below.refl _ _) | (with_reducible refine Below.app ?_ ?_ _ _) | (with_reducible refine Below.alloc ?_ ?_ _) | (with_reducible refine Below.drew ?_) | (with_reducible refine Below.setCell ?_ ?_ _) | (with_reducible assumption) | omega | (simp; omega) | (simp; done)))) (own_zero (by (first | rfl | omega | (simp; done) | (simp; omega))) (by (first | rfl | omega | (simp; done) | (simp; omega)))) hg3; (simp only [Nat.zero_add, List.nil_append] at hown3); clear hg3)
              | (go_at_call 17; ((refine (cf.out w3 _ _ hb3 hown3).mono ?_); rintro r w4 ⟨rfl, v4, hd4, hmv⟩; have hpa := PieceAt.made hd hb3 hown3 hLl.out hd4 hmv hbw hb0w; clear hd hb3 hown3 hd4 hmv))
            go_loopw [14] (fun kk wk => ∃ j : Nat, j ≤ 0 ∧ kk = .int .i64 j ∧ PieceAt M b0 DT w p3 (0) v4 wk) (fun kk _ => (0) - (intOf kk).toNat)
            case atStart => exact ⟨0, by omega, rfl, hpa⟩
            case round =>
              obtain ⟨j, hj, rfl, hp⟩ := hrel
              clear hpa
              by_cases hjt : j < 0
              · exact absurd hjt (by omega)
              · go_wp2_with (go_at_call 14; ((refine (cr.out _ hp.2.1).mono ?_); rintro r w5 ⟨p5, k5, rfl, hv5, hb5⟩; obtain ⟨b5, d5, rfl⟩ := of_below hb5; replace hv5 := Lib.hid hv5; clear hb5))
                have hwr := hwr.out
                (apply wp_region_text 31; kernel_rfl; kernel_rfl; intro Fin hFin; (repeat (first | (apply text_run; exact rfl; (focus (intro bs d hF K hK; (repeat rw [app_app] at hK); (repeat rw [app_app]); (repeat rw [Array.append_assoc] at hK); (repeat rw [Array.append_assoc]); go_step; first  | (go_at_call 19; ((refine (cdn.out _ _ (hp.1.below (by (repeat' (first | (with_reducible exact Below.refl _ _) | (with_reducible refine Below.app ?_ ?_ _ _) | (with_reducible refine Below.alloc ?_ ?_ _) | (with_reducible refine Below.drew ?_) | (with_reducible refine Below.setCell ?_ ?_ _) | (with_reducible assumption) | omega | (simp; omega) | (simp; done)))))).mono ?_); rintro r w1 ⟨rfl, rfl⟩; simp only []; exact hK _ (Below.refl _ _)))  | (refine hK _ ?_; (repeat' (first | (with_reducible exact Below.refl _ _) | (with_reducible refine Below.app ?_ ?_ _ _) | (with_reducible refine Below.alloc ?_ ?_ _) | (with_reducible refine Below.drew ?_) | (with_reducible refine Below.setCell ?_ ?_ _) | (with_reducible assumption) | omega | (simp; omega) | (simp; done)))))); (try simp only [Act.put, List.setIfInBounds_toArray, List.set_cons_zero, List.set_cons_succ]))  | (apply text_has (fun v w => ∃ p c, v = .agg #[.slice p tl c, .bool lo, .bool ba, .bool la] ∧ TextOf w (.slice p tl c) T); exact rfl; exact fun _ _ _ hb ⟨p, c, h1, h2⟩ => ⟨p, c, h1, h2.below hb⟩; exact rfl; (focus (intro bs d hF K hK; (repeat rw [app_app] at hK); (repeat rw [app_app]); (repeat rw [Array.append_assoc] at hK); (repeat rw [Array.append_assoc]); go_step; (go_at_call 18; ((refine (cx.out _ _ (hp.1.below (by (repeat' (first | (with_reducible exact Below.refl _ _) | (with_reducible refine Below.app ?_ ?_ _ _) | (with_reducible refine Below.alloc ?_ ?_ _) | (with_reducible refine Below.drew ?_) | (with_reducible refine Below.setCell ?_ ?_ _) | (with_reducible assumption) | omega | (simp; omega) | (simp; done)))))).mono ?_); rintro r w1 ⟨x, rfl, hx, hb⟩; simp only []; exact hK _ _ hb hx)))); intro v; (try simp only [Act.put, factOf, List.setIfInBounds_toArray, List.set_cons_zero, List.set_cons_succ])) | (apply text_run; exact rfl; (focus (intro bs d hF K hK; (repeat rw [app_app] at hK); (repeat rw [app_app]); (repeat rw [Array.append_assoc] at hK); (repeat rw [Array.append_assoc]); have hx := hF.1 rfl; go_step; (go_at_call 15; ((refine (same_any hx (hv5.out.below (by (repeat' (first | (with_reducible exact Below.refl _ _) | (with_reducible refine Below.app ?_ ?_ _ _) | (with_reducible refine Below.alloc ?_ ?_ _) | (with_reducible refine Below.drew ?_) | (with_reducible refine Below.setCell ?_ ?_ _) | (with_reducible assumption) | omega | (simp; omega) | (simp; done)))))).mono ?_); rintro r w1 ⟨rfl, hb⟩; simp only []; exact hK _ hb)))); (try simp only [Act.put, List.setIfInBounds_toArray, List.set_cons_zero, List.set_cons_succ]))  | (apply text_skip; exact rfl; (try simp only [Act.put, List.setIfInBounds_toArray, List.set_cons_zero, List.set_cons_succ])))); apply text_end; apply hFin; clear hFin Fin; intro bs d hfa)
                go_wp2
                go_roundw
                case rel => exact ⟨k + 1, by omega, by go_num, (l.length), v4, by omega, rfl, by rw [hF2.out]; exact hp.1.below (by (repeat' (first | (with_reducible exact Below.refl _ _) | (with_reducible refine Below.app ?_ ?_ _ _) | (with_reducible refine Below.alloc ?_ ?_ _) | (with_reducible refine Below.drew ?_) | (with_reducible refine Below.setCell ?_ ?_ _) | (with_reducible assumption) | omega | (simp; omega) | (simp; done)))), hp.2.1.trans (Below.mono (B := wr.heap.size) (by (repeat' (first | (with_reducible exact Below.refl _ _) | (with_reducible refine Below.app ?_ ?_ _ _) | (with_reducible refine Below.alloc ?_ ?_ _) | (with_reducible refine Below.drew ?_) | (with_reducible refine Below.setCell ?_ ?_ _) | (with_reducible assumption) | omega | (simp; omega) | (simp; done)))) hp.2.1.size)⟩
                case measure => first | (simp [intOf]; done) | (simp [intOf]; omega)
          · rw [if_neg hca] at hL
            replace hL := Lib.hid hL
            go_wp2_with first
              | (at_builtin; refine wpList_append_bytes' rfl _ _ rfl wr.heap.size _ _ _ rfl (own_zero ?g1 ?g2) _ _ _ L hLl.out rfl (BytesAt.below (w := wr) ?g3 ?g4) ?g5 ?g6 ?_; (case g1 => (first | rfl | omega | (simp; done) | (simp; omega))); (case g2 => (first | rfl | omega | (simp; done) | (simp; omega))); (case g3 => exact hL.out); (case g4 => (repeat' (first | (with_reducible exact Below.refl _ _) | (with_reducible refine Below.app ?_ ?_ _ _) | (with_reducible refine Below.alloc ?_ ?_ _) | (with_reducible refine Below.drew ?_) | (with_reducible refine Below.setCell ?_ ?_ _) | (with_reducible assumption) | omega | (simp; omega) | (simp; done)))); (case g5 => omega); (case g6 => (first | rfl | omega | (simp; done) | (simp; omega))); intro p3 k3 w3 hown3 hg3 _; have hb3 := own_below_grown (w0 := wr) (by (repeat' (first | (with_reducible exact Below.refl _ _) | (with_reducible refine Below.app ?_ ?_ _ _) | (with_reducible refine Below.alloc ?_ ?_ _) | (with_reducible refine Below.drew ?_) | (with_reducible refine Below.setCell ?_ ?_ _) | (with_reducible assumption) | omega | (simp; omega) | (simp; done)))) (own_zero (by (first | rfl | omega | (simp; done) | (simp; omega))) (by (first | rfl | omega | (simp; done) | (simp; omega)))) hg3; (simp only [Nat.zero_add, List.nil_append] at hown3); clear hg3)
              | (go_at_call 17; ((refine (cf.out w3 _ _ hb3 hown3).mono ?_); rintro r w4 ⟨rfl, v4, hd4, hmv⟩; have hpa := PieceAt.made hd hb3 hown3 hLl.out hd4 hmv hbw hb0w; clear hd hb3 hown3 hd4 hmv))
            go_loopw [14] (fun kk wk => ∃ j : Nat, j ≤ (l.length) - a ∧ kk = .int .i64 j ∧ PieceAt M b0 DT w p3 ((l.length) - a) v4 wk) (fun kk _ => ((l.length) - a) - (intOf kk).toNat)
            case atStart => exact ⟨0, by omega, rfl, hpa⟩
            case round =>
              obtain ⟨j, hj, rfl, hp⟩ := hrel
              clear hpa
              by_cases hjt : j < (l.length) - a
              · obtain ⟨g, rfl, e1, e2, e3, e4⟩ := hp.2.2 (by omega)
                obtain ⟨x, x1, x2, x3, x4, x5⟩ := e4.cell hjt
                have hset := fun (y : Int) (hy : 0 ≤ y ∧ y ≤ 255) => PieceAt.set (j := j) hp (by omega) hy
                clear hp e1 e2 e3 e4
                go_wp2
                go_roundw
                case rel => exact ⟨j + 1, by omega, by go_num, hset _ (by omega)⟩
                case measure => first | (simp [intOf]; done) | (simp [intOf]; omega)
              · go_wp2_with (go_at_call 14; ((refine (cr.out _ hp.2.1).mono ?_); rintro r w5 ⟨p5, k5, rfl, hv5, hb5⟩; obtain ⟨b5, d5, rfl⟩ := of_below hb5; replace hv5 := Lib.hid hv5; clear hb5))
                have hwr := hwr.out
                (apply wp_region_text 31; kernel_rfl; kernel_rfl; intro Fin hFin; (repeat (first | (apply text_run; exact rfl; (focus (intro bs d hF K hK; (repeat rw [app_app] at hK); (repeat rw [app_app]); (repeat rw [Array.append_assoc] at hK); (repeat rw [Array.append_assoc]); go_step; first  | (go_at_call 19; ((refine (cdn.out _ _ (hp.1.below (by (repeat' (first | (with_reducible exact Below.refl _ _) | (with_reducible refine Below.app ?_ ?_ _ _) | (with_reducible refine Below.alloc ?_ ?_ _) | (with_reducible refine Below.drew ?_) | (with_reducible refine Below.setCell ?_ ?_ _) | (with_reducible assumption) | omega | (simp; omega) | (simp; done)))))).mono ?_); rintro r w1 ⟨rfl, rfl⟩; simp only []; exact hK _ (Below.refl _ _)))  | (refine hK _ ?_; (repeat' (first | (with_reducible exact Below.refl _ _) | (with_reducible refine Below.app ?_ ?_ _ _) | (with_reducible refine Below.alloc ?_ ?_ _) | (with_reducible refine Below.drew ?_) | (with_reducible refine Below.setCell ?_ ?_ _) | (with_reducible assumption) | omega | (simp; omega) | (simp; done)))))); (try simp only [Act.put, List.setIfInBounds_toArray, List.set_cons_zero, List.set_cons_succ]))  | (apply text_has (fun v w => ∃ p c, v = .agg #[.slice p tl c, .bool lo, .bool ba, .bool la] ∧ TextOf w (.slice p tl c) T); exact rfl; exact fun _ _ _ hb ⟨p, c, h1, h2⟩ => ⟨p, c, h1, h2.below hb⟩; exact rfl; (focus (intro bs d hF K hK; (repeat rw [app_app] at hK); (repeat rw [app_app]); (repeat rw [Array.append_assoc] at hK); (repeat rw [Array.append_assoc]); go_step; (go_at_call 18; ((refine (cx.out _ _ (hp.1.below (by (repeat' (first | (with_reducible exact Below.refl _ _) | (with_reducible refine Below.app ?_ ?_ _ _) | (with_reducible refine Below.alloc ?_ ?_ _) | (with_reducible refine Below.drew ?_) | (with_reducible refine Below.setCell ?_ ?_ _) | (with_reducible assumption) | omega | (simp; omega) | (simp; done)))))).mono ?_); rintro r w1 ⟨x, rfl, hx, hb⟩; simp only []; exact hK _ _ hb hx)))); intro v; (try simp only [Act.put, factOf, List.setIfInBounds_toArray, List.set_cons_zero, List.set_cons_succ])) | (apply text_run; exact rfl; (focus (intro bs d hF K hK; (repeat rw [app_app] at hK); (repeat rw [app_app]); (repeat rw [Array.append_assoc] at hK); (repeat rw [Array.append_assoc]); have hx := hF.1 rfl; go_step; (go_at_call 15; ((refine (same_any hx (hv5.out.below (by (repeat' (first | (with_reducible exact Below.refl _ _) | (with_reducible refine Below.app ?_ ?_ _ _) | (with_reducible refine Below.alloc ?_ ?_ _) | (with_reducible refine Below.drew ?_) | (with_reducible refine Below.setCell ?_ ?_ _) | (with_reducible assumption) | omega | (simp; omega) | (simp; done)))))).mono ?_); rintro r w1 ⟨rfl, hb⟩; simp only []; exact hK _ hb)))); (try simp only [Act.put, List.setIfInBounds_toArray, List.set_cons_zero, List.set_cons_succ]))  | (apply text_skip; exact rfl; (try simp only [Act.put, List.setIfInBounds_toArray, List.set_cons_zero, List.set_cons_succ])))); apply text_end; apply hFin; clear hFin Fin; intro bs d hfa)
                go_wp2
                go_roundw
                case rel => exact ⟨k + 1, by omega, by go_num, (l.length), v4, by omega, rfl, by rw [hF2.out]; exact hp.1.below (by (repeat' (first | (with_reducible exact Below.refl _ _) | (with_reducible refine Below.app ?_ ?_ _ _) | (with_reducible refine Below.alloc ?_ ?_ _) | (with_reducible refine Below.drew ?_) | (with_reducible refine Below.setCell ?_ ?_ _) | (with_reducible assumption) | omega | (simp; omega) | (simp; done)))), hp.2.1.trans (Below.mono (B := wr.heap.size) (by (repeat' (first | (with_reducible exact Below.refl _ _) | (with_reducible refine Below.app ?_ ?_ _ _) | (with_reducible refine Below.alloc ?_ ?_ _) | (with_reducible refine Below.drew ?_) | (with_reducible refine Below.setCell ?_ ?_ _) | (with_reducible assumption) | omega | (simp; omega) | (simp; done)))) hp.2.1.size)⟩
                case measure => first | (simp [intOf]; done) | (simp [intOf]; omega)
      · go_wp2
        go_returns
        exact ⟨rfl, hbw⟩
  · by_cases g1 : l.length ≤ 1000
    · have hb1 : ¬ 1000 < (l.length : Int) := by omega
      have hb2 : 60 < (zs.length : Int) := by omega
      clear h hmx hbig
      go_enter Try.func5, Try.ntmps5
      go_wp2_with (go_at_call 8; ((refine (haw.out).mono ?_); rintro r w1 ⟨rfl, hb⟩; obtain ⟨b1, b1d, rfl⟩ := of_below hb; clear hb))
      all_goals (go_returns; exact ⟨rfl, by (repeat' (first | (with_reducible exact Below.refl _ _) | (with_reducible refine Below.app ?_ ?_ _ _) | (with_reducible refine Below.alloc ?_ ?_ _) | (with_reducible refine Below.drew ?_) | (with_reducible refine Below.setCell ?_ ?_ _) | (with_reducible assumption) | omega | (simp; omega) | (simp; done)))⟩)
    · have hb1 : 1000 < (l.length : Int) := by omega
      clear h hmx hbig
      go_enter Try.func5, Try.ntmps5
      go_wp2_with (go_at_call 8; ((refine (haw.out).mono ?_); rintro r w1 ⟨rfl, hb⟩; obtain ⟨b1, b1d, rfl⟩ := of_below hb; clear hb))
      all_goals (go_returns; exact ⟨rfl, by (repeat' (first | (with_reducible exact Below.refl _ _) | (with_reducible refine Below.app ?_ ?_ _ _) | (with_reducible refine Below.alloc ?_ ?_ _) | (with_reducible refine Below.drew ?_) | (with_reducible refine Below.setCell ?_ ?_ _) | (with_reducible assumption) | omega | (simp; omega) | (simp; done)))⟩)

theorem dotPieces_law : LawWalk2 5 Try.f5 := by
  intro H enc W base args ds ps hA hval hsh
  rw [Try.params5] at hA hval
  obtain ⟨v0, vs0, d0, ds0, p0, q0, hargs, rfl, rfl, h0, r0⟩ := trodAll_cons hA
  obtain ⟨v1, vs1, d1, ds1, p1, q1, rfl, rfl, rfl, h1, r1⟩ := trodAll_cons r0
  obtain ⟨v2, vs2, d2, ds2, p2, q2, rfl, rfl, rfl, h2, r2⟩ := trodAll_cons r1
  obtain ⟨rfl, rfl, rfl⟩ := trodAll_nil r2
  obtain rfl : args = #[v0, v1, v2] := by cases args; simp_all
  obtain ⟨q, l, cap, rfl, h, _⟩ := open_bytes (hval 0 _ _ rfl rfl) h0
  obtain ⟨n, rfl, -, -, w2⟩ := open_int Try.underlying3 (hval 1 _ _ rfl rfl) h1
  obtain ⟨fuel, hf⟩ := h2
  obtain ⟨qc, zs, cap2, e, hl, hm, hz⟩ := open_shows Try.underlying36 cellsInt7 (by omega) (isInt_of Try.underlying3) hf
  obtain ⟨p', n', c', rfl⟩ := okWide_slice Try.underlying36 (hval 2 _ _ rfl rfl)
  simp [Value.cells] at e
  obtain ⟨rfl, rfl, rfl⟩ := e
  exact dotPieces_walk q l cap n p' zs c' W h (bounds_of_wf w2).2 (ints_of_shows hz) (by unfold maxLen at hm; omega) (MaxLenAt.of hsh)

set_option maxRecDepth 100000 in
theorem dotPieces_holds : Rows.DotPiecesSaid :=
  OpenClaim.holds_of_wide 5 Try.f5 rfl rfl rfl rfl rfl rfl rfl ⟨rfl, rfl, rfl, rfl, rfl⟩ rfl rfl rfl rfl rfl (by kernel_rfl) Try.func5 (by kernel_rfl)
    (of_decide_eq_true (by kernel_rfl)) (by unfold Func.isWrapper; first | (rw [if_pos (by decide +kernel)]; kernel_rfl) | (rw [if_neg (by decide +kernel)]; exact ⟨rfl, rfl⟩))
    (fun os started H enc _ => law_lift2 (s := Rows.dotPiecesSpec) Try.func5 (by kernel_rfl) (by kernel_rfl) rfl (fun H ds hd => by match ds, hd with | [_, _, _], _ => rfl) (by kernel_rfl) os started H enc
      (ChangeSpec.witness6 (enc := enc) (C := Try.checked) false ⟨#[], #[.slice none 0 0, .int .i64 0, .slice none 0 0], []⟩ 8 (by kernel_rfl) (by kernel_rfl) (by kernel_rfl) (by kernel_rfl)) dotPieces_law)
#print axioms dotPieces_holds
end Go.Proofs.Ytnoiaeajpjhldaa
