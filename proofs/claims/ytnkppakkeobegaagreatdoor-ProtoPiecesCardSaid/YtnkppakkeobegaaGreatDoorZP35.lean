/-
  ReplyBytesW.
-/
import Derived.Test.YtnkppakkeobegaaGreatDoorZP33
import Derived.Test.YtnkppakkeobegaaGreatDoorZP34
set_option maxRecDepth 20000
set_option linter.unusedVariables false
set_option linter.unusedSimpArgs false
set_option linter.unusedSectionVars false
namespace Go.Proofs.YtnkppakkeobegaaGreatDoor
open Go.ChangeShapes Go.WideShapes Go.ChangeAt Go.RowKit
theorem bytesL_at {code : Int} {e : List UInt8} {ss : List ByteArray} {k : Nat} (h : k < ss.length) : bytesL code e (ss.drop k) = lineL (if k + 1 = ss.length then 32 else 45) code e ss[k].data.toList ++ bytesL code e (ss.drop (k + 1)) := by
 rw [List.drop_eq_getElem_cons h]
 cases hx : ss.drop (k + 1) with
 | nil =>
  have := congrArg List.length hx
  rw [List.length_drop] at this
  rw [if_pos (by simp at this; omega)]
  simp [bytesL]
 | cons t r =>
  have := congrArg List.length hx
  rw [List.length_drop] at this
  rw [if_neg (by simp at this; omega)]
  rfl
theorem itoa_three {n : Int} (h0 : 200 ≤ n) (h1 : n ≤ 599) : Lib.itoa n = [UInt8.ofNat (48 + (n / 100).toNat), UInt8.ofNat (48 + (n / 10 % 10).toNat), UInt8.ofNat (48 + (n % 10).toNat)] := by
 obtain ⟨m, rfl⟩ : ∃ m : Nat, n = m := ⟨n.toNat, by omega⟩
 rw [Lib.itoa_nonneg, Lib.decDigits, dif_neg (by omega), Lib.decDigits_two (by omega) (by omega)]
 have e1 : ((m : Int) / 100).toNat = m / 10 / 10 := by omega
 have e2 : ((m : Int) / 10 % 10).toNat = m / 10 % 10 := by omega
 have e3 : ((m : Int) % 10).toNat = m % 10 := by omega
 rw [e1, e2, e3]; rfl
theorem itoa_len {n : Int} (h0 : 200 ≤ n) (h1 : n ≤ 599) : (Lib.itoa n).length = 3 := by rw [itoa_three h0 h1]; rfl
def BufN (b : Nat) (out : List UInt8) (n : Nat) (w : World) : Prop := BufAt b out w ∧ out.length ≤ n
theorem BufN.below {b n : Nat} {out : List UInt8} {w w' : World} (h : BufN b out n w) (hb : Below w.heap.size w w') : BufN b out n w' := ⟨buffer_below h.1 hb, h.2⟩
theorem bufStr {b n : Nat} {out : List UInt8} {w : World} (h : BufN b out n w) (s : ByteArray) (hs : s.size ≤ 1000) (hn : n ≤ 1000000000) :
 Calls Tryz.prog 80 #[.pointer (some ⟨b, 0, none⟩), .string s] w fun e w' => ∃ m, e = .returned (.tuple #[.int .i64 m, .nilIface]) ∧ BufN b (out ++ s.data.toList) (n + 1000) w' ∧ Below b w w' :=
 (bufWrite h.1 s (by have := h.2; omega)).mono fun _ _ ⟨⟨m, h1⟩, h2, h3⟩ => ⟨m, h1, ⟨h2, by have := h.2; rw [List.length_append]; have hsl : s.data.toList.length = s.size := (by simp); omega⟩, h3⟩
theorem bufChr {b n : Nat} {out : List UInt8} {w : World} (h : BufN b out n w) (c : UInt8) {v : Int} (hv : v = c.toNat) (hn : n ≤ 1000000000) :
 Calls Tryz.prog 82 #[.pointer (some ⟨b, 0, none⟩), .int .u8 v] w fun e w' => e = .returned .nilIface ∧ BufN b (out ++ [c]) (n + 1000) w' ∧ Below b w w' :=
 (bufByte h.1 c hv (by have := h.2; omega)).mono fun _ _ ⟨h1, h2, h3⟩ => ⟨h1, ⟨h2, by have := h.2; rw [List.length_append]; simp; omega⟩, h3⟩
theorem bufChr32 {b n : Nat} {out : List UInt8} {w : World} (h : BufN b out n w) (hn : n ≤ 1000000000) :
 Calls Tryz.prog 82 #[.pointer (some ⟨b, 0, none⟩), .int .u8 32] w fun e w' => e = .returned .nilIface ∧ BufN b (out ++ [32]) (n + 1000) w' ∧ Below b w w' := bufChr h 32 rfl hn
theorem bufChr45 {b n : Nat} {out : List UInt8} {w : World} (h : BufN b out n w) (hn : n ≤ 1000000000) :
 Calls Tryz.prog 82 #[.pointer (some ⟨b, 0, none⟩), .int .u8 45] w fun e w' => e = .returned .nilIface ∧ BufN b (out ++ [45]) (n + 1000) w' ∧ Below b w w' := bufChr h 45 rfl hn
theorem bufBytes2 {b : Nat} {out : List UInt8} {w : World} (h : BufAt b out w) : Calls Tryz.prog 83 #[.pointer (some ⟨b, 0, none⟩)] w fun e w' => ∃ p c, e = .returned (.slice p out.length c) ∧ w'.ownsRow b 5 1 (.slice p out.length c) out.length (Lib.byteCells out) ∧ Below w.heap.size w w' := by
 refine (Tryz.Buffer_Bytes b b _ w h).mono fun e w' ⟨v, h1, h2, n, h3⟩ => ?_
 rw [bytesCells_len] at h2
 obtain ⟨p, c, rfl⟩ := own_len h2
 refine ⟨p, c, h1, h2, ?_⟩
 subst h3
 exact drewN_bel _ _
def BytesPost (code : Int) (e : List UInt8) (ss : List ByteArray) (w : World) (r : Ending) (w' : World) : Prop :=
 (goodR code e ss = false ∧ r = .returned (.tuple #[.slice none 0 0, .int .i64 3]) ∧ Below w.heap.size w w') ∨
 (goodR code e ss = true ∧ ∃ p c, r = .returned (.tuple #[.slice p (bytesL code e ss).length c, .int .i64 0]) ∧ w'.ownsRow w.heap.size 5 1 (.slice p (bytesL code e ss).length c) (bytesL code e ss).length (Lib.byteCells (bytesL code e ss)) ∧ Below w.heap.size w w')
theorem good_code {code : Int} {e : List UInt8} {ss : List ByteArray} (h : goodR code e ss = true) : 200 ≤ code ∧ code ≤ 599 := by
 unfold goodR at h
 rw [Bool.and_eq_true] at h
 have := h.1
 unfold codeB at this
 rwa [decide_eq_true_eq] at this
set_option maxHeartbeats 16000000 in
theorem bytes_calls (code : Int) (e : List UInt8) (ss : List ByteArray) (cap : Nat) {p : Option Addr} {w : World} (hs : StrsAt w p ss) (hw : LibAt w) (he : e.length ≤ 1000) (hn : ss.length ≤ 1000) (hz : ∀ s ∈ ss, s.size ≤ 1000) :
 Calls Tryz.prog 50 #[.agg #[.int .i64 code, .string ⟨e.toArray⟩, .slice p ss.length cap]] w (BytesPost code e ss w) := by
 have hg := fun (W : World) (hW : Below w.heap.size w W) => good_calls code e ss cap (hs.later hW) (hw.below hW) (by omega) (by omega) (fun s h => by have := hz s h; omega)
 have hpost : ∀ r w', BytesPost code e ss w r w' → BytesPost code e ss w r w' := fun _ _ h => h
 cases hR : goodR code e ss
 · rw [hR] at hg
   have hp0 : ∀ w', Below w.heap.size w w' → BytesPost code e ss w (.returned (.tuple #[.slice none 0 0, .int .i64 3])) w' := fun w' h => .inl ⟨hR, rfl, h⟩
   replace hg := Lib.hid hg
   replace hp0 := Lib.hid hp0
   clear hR hs hw hz hpost
   go_enter Tryz.func50, Tryz.ntmps50
   go_wp2_with (go_at_call 33; ((refine (hg.out _ (by (repeat' (first | (with_reducible exact Below.refl _ _) | (with_reducible refine Below.app ?_ ?_ _ _) | (with_reducible refine Below.alloc ?_ ?_ _) | (with_reducible refine Below.drew ?_) | (with_reducible refine Below.setCell ?_ ?_ _) | (with_reducible assumption) | omega | (simp; omega) | (simp; done))))).mono ?_); rintro r w1 ⟨rfl, hb⟩; obtain ⟨b1, b1d, rfl⟩ := of_below hb; clear hb))
   go_ret2
   exact hp0.out _ (by (repeat' (first | (with_reducible exact Below.refl _ _) | (with_reducible refine Below.app ?_ ?_ _ _) | (with_reducible refine Below.alloc ?_ ?_ _) | (with_reducible refine Below.drew ?_) | (with_reducible refine Below.setCell ?_ ?_ _) | (with_reducible assumption) | omega | (simp; omega) | (simp; done))))
 · rw [hR] at hg
   obtain ⟨hc2, hc5⟩ := good_code hR
   have hit := fun (W : World) (hW : Below w.heap.size w W) => itoa_calls code (by omega) (by omega) (hw.below hW)
   have hil : (⟨(Lib.itoa code).toArray⟩ : ByteArray).size ≤ 1000 := by show (Lib.itoa code).toArray.size ≤ _; rw [List.size_toArray, itoa_len hc2 hc5]; decide
   have hel : (⟨e.toArray⟩ : ByteArray).size ≤ 1000 := by show e.toArray.size ≤ _; rw [List.size_toArray]; exact he
   have hO : Hid (bytesL code e ss = [] ++ bytesL code e (ss.drop 0)) := by unfold Hid; simp
   have hp1 : ∀ q c w', w'.ownsRow w.heap.size 5 1 (.slice q (bytesL code e ss).length c) (bytesL code e ss).length (Lib.byteCells (bytesL code e ss)) → Below w.heap.size w w' → BytesPost code e ss w (.returned (.tuple #[.slice q (bytesL code e ss).length c, .int .i64 0])) w' := fun q c w' h1 h2 => .inr ⟨hR, q, c, rfl, h1, h2⟩
   have hat := fun k (h : k < ss.length) => bytesL_at (code := code) (e := e) h
   generalize hOO : bytesL code e ss = O at *
   clear hOO hR hpost
   replace hg := Lib.hid hg
   replace hp1 := Lib.hid hp1
   replace hit := Lib.hid hit
   replace hat := Lib.hid hat
   replace hs := Lib.hid hs
   replace hz := Lib.hid hz
   clear hw
   go_enter Tryz.func50, Tryz.ntmps50
   go_wp2_with (go_at_call 33; ((refine (hg.out _ (by (repeat' (first | (with_reducible exact Below.refl _ _) | (with_reducible refine Below.app ?_ ?_ _ _) | (with_reducible refine Below.alloc ?_ ?_ _) | (with_reducible refine Below.drew ?_) | (with_reducible refine Below.setCell ?_ ?_ _) | (with_reducible assumption) | omega | (simp; omega) | (simp; done))))).mono ?_); rintro r w1 ⟨rfl, hb⟩; obtain ⟨b1, b1d, rfl⟩ := of_below hb; clear hb))
   have hwx := Lib.hid (fun (W : World) (hW : Below (w.heap.size + 1 + b1.size) (app (w.alloc (.cells #[.int .i64 code, .string ⟨e.toArray⟩, .slice p ss.length cap] 39)) b1 b1d) W) => ((show Below w.heap.size w (app (w.alloc (.cells #[.int .i64 code, .string ⟨e.toArray⟩, .slice p ss.length cap] 39)) b1 b1d) from by (repeat' (first | (with_reducible exact Below.refl _ _) | (with_reducible refine Below.app ?_ ?_ _ _) | (with_reducible refine Below.alloc ?_ ?_ _) | (with_reducible refine Below.drew ?_) | (with_reducible refine Below.setCell ?_ ?_ _) | (with_reducible assumption) | omega | (simp; omega) | (simp; done)))).trans (hW.mono (by omega))))
   have rb := Lib.hid (fun (W : World) (hW : Below (w.heap.size + 1 + b1.size) (app (w.alloc (.cells #[.int .i64 code, .string ⟨e.toArray⟩, .slice p ss.length cap] 39)) b1 b1d) W) =>
    (show W.cell? ⟨w.heap.size, 0, none⟩ = some (.int .i64 code) ∧ W.cell? ⟨w.heap.size, 1, none⟩ = some (.string ⟨e.toArray⟩) ∧ W.cell? ⟨w.heap.size, 2, none⟩ = some (.slice p ss.length cap) ∧ w.heap.size < W.heap.size from
     ⟨(hW.cell (p := ⟨w.heap.size, 0, none⟩) (by show w.heap.size < _; omega)).trans (by simp [go_sem]), (hW.cell (p := ⟨w.heap.size, 1, none⟩) (by show w.heap.size < _; omega)).trans (by simp [go_sem]), (hW.cell (p := ⟨w.heap.size, 2, none⟩) (by show w.heap.size < _; omega)).trans (by simp [go_sem]), by have := hW.size; simp at this; omega⟩))
   have hfr := Lib.fresh_isBuffer 124 5 (app (w.alloc (.cells #[.int .i64 code, .string ⟨e.toArray⟩, .slice p ss.length cap] 39)) b1 b1d)
   rw [show (app (w.alloc (.cells #[.int .i64 code, .string ⟨e.toArray⟩, .slice p ss.length cap] 39)) b1 b1d).heap.size = w.heap.size + 1 + b1.size by simp [go_sem]] at hfr
   go_loopw [14] (fun i wr => ∃ (k : Nat) (out : List UInt8), k ≤ ss.length ∧ i = .int .i64 k ∧ BufN (w.heap.size + 1 + b1.size) out (10000 * k) wr ∧ Below (w.heap.size + 1 + b1.size) (app (w.alloc (.cells #[.int .i64 code, .string ⟨e.toArray⟩, .slice p ss.length cap] 39)) b1 b1d) wr ∧ Hid (O = out ++ bytesL code e (ss.drop k))) (fun i _ => ss.length - (intOf i).toNat)
   case atStart => exact ⟨0, [], by omega, rfl, ⟨(show BufAt _ [] _ from hfr), by simp⟩, by (repeat' (first | (with_reducible exact Below.refl _ _) | (with_reducible refine Below.app ?_ ?_ _ _) | (with_reducible refine Below.alloc ?_ ?_ _) | (with_reducible refine Below.drew ?_) | (with_reducible refine Below.setCell ?_ ?_ _) | (with_reducible assumption) | omega | (simp; omega) | (simp; done))), hO⟩
   case round =>
    obtain ⟨k, out, hk, rfl, hB, hX, hr⟩ := hrel
    clear hfr hO
    have hwr := hwx.out _ hX
    have hbl := hB.1.lt
    obtain ⟨hc0, hc1, hc2', hlt0⟩ := rb.out _ hX
    by_cases hlt : k < ss.length
    · have hlti : (k : Int) < ss.length := by omega
      obtain ⟨bb, off, rfl, hbb, hcl⟩ := (hs.out.later hwr).cell hlt
      have hsz := hz.out _ (List.getElem_mem hlt)
      have hst := hat.out k hlt
      generalize ss[k] = s at *
      by_cases hlast : k + 1 = ss.length
      · have hli : ((k : Int) == (ss.length : Int) - 1) = true := by simp; omega
        rw [if_pos hlast] at hst
        unfold lineL at hst
        by_cases h0 : e = []
        · have hx1 : (e == []) = true := by rw [h0]; rfl
          have hx2 : e.isEmpty = true := by rw [h0]; rfl
          have hR : Hid (O = out ++ Lib.itoa code ++ [32] ++ s.data.toList ++ [13, 10] ++ bytesL code e (ss.drop (k + 1))) := by
           unfold Hid; rw [hr.out, hst, if_pos h0]; simp only [List.append_assoc, List.nil_append]
          clear hr hst h0
          go_wp2_with first
           | (go_at_call 81; ((refine (hit.out _ (by (repeat' (first | (with_reducible exact Below.refl _ _) | (with_reducible refine Below.app ?_ ?_ _ _) | (with_reducible refine Below.alloc ?_ ?_ _) | (with_reducible refine Below.drew ?_) | (with_reducible refine Below.setCell ?_ ?_ _) | (with_reducible assumption) | omega | (simp; omega) | (simp; done))))).mono ?_); rintro r w1 ⟨rfl, hb⟩; obtain ⟨b2, b2d, rfl⟩ := of_below hb; clear hb))
           | (go_at_call 80; (refine (bufStr (hB.below ?_) _ ?_ ?_).mono ?_); (focus (repeat' (first | (with_reducible exact Below.refl _ _) | (with_reducible refine Below.app ?_ ?_ _ _) | (with_reducible refine Below.alloc ?_ ?_ _) | (with_reducible refine Below.drew ?_) | (with_reducible refine Below.setCell ?_ ?_ _) | (with_reducible assumption) | omega | (simp; omega) | (simp; done)))); (focus first | assumption | decide); (focus omega); rintro r wq ⟨nq, rfl, hBq, hbq⟩; replace hX := hX.trans (Below.trans (by (repeat' (first | (with_reducible exact Below.refl _ _) | (with_reducible refine Below.app ?_ ?_ _ _) | (with_reducible refine Below.alloc ?_ ?_ _) | (with_reducible refine Below.drew ?_) | (with_reducible refine Below.setCell ?_ ?_ _) | (with_reducible assumption) | omega | (simp; omega) | (simp; done)))) hbq); replace hB := hBq; clear hbq; have hwr := hwx.out _ hX; have hbl := hB.1.lt; obtain ⟨hc0, hc1, hc2', hlt0⟩ := rb.out _ hX)
           | (go_at_call 82; (first | (with_reducible refine (bufChr32 (hB.below ?_) ?_).mono ?_) | (with_reducible refine (bufChr45 (hB.below ?_) ?_).mono ?_)); (focus (repeat' (first | (with_reducible exact Below.refl _ _) | (with_reducible refine Below.app ?_ ?_ _ _) | (with_reducible refine Below.alloc ?_ ?_ _) | (with_reducible refine Below.drew ?_) | (with_reducible refine Below.setCell ?_ ?_ _) | (with_reducible assumption) | omega | (simp; omega) | (simp; done)))); (focus omega); rintro r wq ⟨rfl, hBq, hbq⟩; replace hX := hX.trans (Below.trans (by (repeat' (first | (with_reducible exact Below.refl _ _) | (with_reducible refine Below.app ?_ ?_ _ _) | (with_reducible refine Below.alloc ?_ ?_ _) | (with_reducible refine Below.drew ?_) | (with_reducible refine Below.setCell ?_ ?_ _) | (with_reducible assumption) | omega | (simp; omega) | (simp; done)))) hbq); replace hB := hBq; clear hbq; have hwr := hwx.out _ hX; have hbl := hB.1.lt; obtain ⟨hc0, hc1, hc2', hlt0⟩ := rb.out _ hX)
          go_roundw
          case rel => exact ⟨k + 1, _, by omega, by go_num, ⟨hB.1, by have := hB.2; omega⟩, hX, hR⟩
          case measure => first | (simp [intOf]; done) | (simp [intOf]; omega)
        · have hx1 : (e == []) = false := by simpa using h0
          have hx2 : e.isEmpty = false := by simpa using h0
          have hR : Hid (O = out ++ Lib.itoa code ++ [32] ++ e ++ [32] ++ s.data.toList ++ [13, 10] ++ bytesL code e (ss.drop (k + 1))) := by
           unfold Hid; rw [hr.out, hst, if_neg h0]; simp only [List.append_assoc]
          clear hr hst h0
          go_wp2_with first
           | (go_at_call 81; ((refine (hit.out _ (by (repeat' (first | (with_reducible exact Below.refl _ _) | (with_reducible refine Below.app ?_ ?_ _ _) | (with_reducible refine Below.alloc ?_ ?_ _) | (with_reducible refine Below.drew ?_) | (with_reducible refine Below.setCell ?_ ?_ _) | (with_reducible assumption) | omega | (simp; omega) | (simp; done))))).mono ?_); rintro r w1 ⟨rfl, hb⟩; obtain ⟨b2, b2d, rfl⟩ := of_below hb; clear hb))
           | (go_at_call 80; (refine (bufStr (hB.below ?_) _ ?_ ?_).mono ?_); (focus (repeat' (first | (with_reducible exact Below.refl _ _) | (with_reducible refine Below.app ?_ ?_ _ _) | (with_reducible refine Below.alloc ?_ ?_ _) | (with_reducible refine Below.drew ?_) | (with_reducible refine Below.setCell ?_ ?_ _) | (with_reducible assumption) | omega | (simp; omega) | (simp; done)))); (focus first | assumption | decide); (focus omega); rintro r wq ⟨nq, rfl, hBq, hbq⟩; replace hX := hX.trans (Below.trans (by (repeat' (first | (with_reducible exact Below.refl _ _) | (with_reducible refine Below.app ?_ ?_ _ _) | (with_reducible refine Below.alloc ?_ ?_ _) | (with_reducible refine Below.drew ?_) | (with_reducible refine Below.setCell ?_ ?_ _) | (with_reducible assumption) | omega | (simp; omega) | (simp; done)))) hbq); replace hB := hBq; clear hbq; have hwr := hwx.out _ hX; have hbl := hB.1.lt; obtain ⟨hc0, hc1, hc2', hlt0⟩ := rb.out _ hX)
           | (go_at_call 82; (first | (with_reducible refine (bufChr32 (hB.below ?_) ?_).mono ?_) | (with_reducible refine (bufChr45 (hB.below ?_) ?_).mono ?_)); (focus (repeat' (first | (with_reducible exact Below.refl _ _) | (with_reducible refine Below.app ?_ ?_ _ _) | (with_reducible refine Below.alloc ?_ ?_ _) | (with_reducible refine Below.drew ?_) | (with_reducible refine Below.setCell ?_ ?_ _) | (with_reducible assumption) | omega | (simp; omega) | (simp; done)))); (focus omega); rintro r wq ⟨rfl, hBq, hbq⟩; replace hX := hX.trans (Below.trans (by (repeat' (first | (with_reducible exact Below.refl _ _) | (with_reducible refine Below.app ?_ ?_ _ _) | (with_reducible refine Below.alloc ?_ ?_ _) | (with_reducible refine Below.drew ?_) | (with_reducible refine Below.setCell ?_ ?_ _) | (with_reducible assumption) | omega | (simp; omega) | (simp; done)))) hbq); replace hB := hBq; clear hbq; have hwr := hwx.out _ hX; have hbl := hB.1.lt; obtain ⟨hc0, hc1, hc2', hlt0⟩ := rb.out _ hX)
          go_roundw
          case rel => exact ⟨k + 1, _, by omega, by go_num, ⟨hB.1, by have := hB.2; omega⟩, hX, hR⟩
          case measure => first | (simp [intOf]; done) | (simp [intOf]; omega)
      · have hli : ((k : Int) == (ss.length : Int) - 1) = false := by simp; omega
        rw [if_neg hlast] at hst
        unfold lineL at hst
        by_cases h0 : e = []
        · have hx1 : (e == []) = true := by rw [h0]; rfl
          have hx2 : e.isEmpty = true := by rw [h0]; rfl
          have hR : Hid (O = out ++ Lib.itoa code ++ [45] ++ s.data.toList ++ [13, 10] ++ bytesL code e (ss.drop (k + 1))) := by
           unfold Hid; rw [hr.out, hst, if_pos h0]; simp only [List.append_assoc, List.nil_append]
          clear hr hst h0
          go_wp2_with first
           | (go_at_call 81; ((refine (hit.out _ (by (repeat' (first | (with_reducible exact Below.refl _ _) | (with_reducible refine Below.app ?_ ?_ _ _) | (with_reducible refine Below.alloc ?_ ?_ _) | (with_reducible refine Below.drew ?_) | (with_reducible refine Below.setCell ?_ ?_ _) | (with_reducible assumption) | omega | (simp; omega) | (simp; done))))).mono ?_); rintro r w1 ⟨rfl, hb⟩; obtain ⟨b2, b2d, rfl⟩ := of_below hb; clear hb))
           | (go_at_call 80; (refine (bufStr (hB.below ?_) _ ?_ ?_).mono ?_); (focus (repeat' (first | (with_reducible exact Below.refl _ _) | (with_reducible refine Below.app ?_ ?_ _ _) | (with_reducible refine Below.alloc ?_ ?_ _) | (with_reducible refine Below.drew ?_) | (with_reducible refine Below.setCell ?_ ?_ _) | (with_reducible assumption) | omega | (simp; omega) | (simp; done)))); (focus first | assumption | decide); (focus omega); rintro r wq ⟨nq, rfl, hBq, hbq⟩; replace hX := hX.trans (Below.trans (by (repeat' (first | (with_reducible exact Below.refl _ _) | (with_reducible refine Below.app ?_ ?_ _ _) | (with_reducible refine Below.alloc ?_ ?_ _) | (with_reducible refine Below.drew ?_) | (with_reducible refine Below.setCell ?_ ?_ _) | (with_reducible assumption) | omega | (simp; omega) | (simp; done)))) hbq); replace hB := hBq; clear hbq; have hwr := hwx.out _ hX; have hbl := hB.1.lt; obtain ⟨hc0, hc1, hc2', hlt0⟩ := rb.out _ hX)
           | (go_at_call 82; (first | (with_reducible refine (bufChr32 (hB.below ?_) ?_).mono ?_) | (with_reducible refine (bufChr45 (hB.below ?_) ?_).mono ?_)); (focus (repeat' (first | (with_reducible exact Below.refl _ _) | (with_reducible refine Below.app ?_ ?_ _ _) | (with_reducible refine Below.alloc ?_ ?_ _) | (with_reducible refine Below.drew ?_) | (with_reducible refine Below.setCell ?_ ?_ _) | (with_reducible assumption) | omega | (simp; omega) | (simp; done)))); (focus omega); rintro r wq ⟨rfl, hBq, hbq⟩; replace hX := hX.trans (Below.trans (by (repeat' (first | (with_reducible exact Below.refl _ _) | (with_reducible refine Below.app ?_ ?_ _ _) | (with_reducible refine Below.alloc ?_ ?_ _) | (with_reducible refine Below.drew ?_) | (with_reducible refine Below.setCell ?_ ?_ _) | (with_reducible assumption) | omega | (simp; omega) | (simp; done)))) hbq); replace hB := hBq; clear hbq; have hwr := hwx.out _ hX; have hbl := hB.1.lt; obtain ⟨hc0, hc1, hc2', hlt0⟩ := rb.out _ hX)
          go_roundw
          case rel => exact ⟨k + 1, _, by omega, by go_num, ⟨hB.1, by have := hB.2; omega⟩, hX, hR⟩
          case measure => first | (simp [intOf]; done) | (simp [intOf]; omega)
        · have hx1 : (e == []) = false := by simpa using h0
          have hx2 : e.isEmpty = false := by simpa using h0
          have hR : Hid (O = out ++ Lib.itoa code ++ [45] ++ e ++ [32] ++ s.data.toList ++ [13, 10] ++ bytesL code e (ss.drop (k + 1))) := by
           unfold Hid; rw [hr.out, hst, if_neg h0]; simp only [List.append_assoc]
          clear hr hst h0
          go_wp2_with first
           | (go_at_call 81; ((refine (hit.out _ (by (repeat' (first | (with_reducible exact Below.refl _ _) | (with_reducible refine Below.app ?_ ?_ _ _) | (with_reducible refine Below.alloc ?_ ?_ _) | (with_reducible refine Below.drew ?_) | (with_reducible refine Below.setCell ?_ ?_ _) | (with_reducible assumption) | omega | (simp; omega) | (simp; done))))).mono ?_); rintro r w1 ⟨rfl, hb⟩; obtain ⟨b2, b2d, rfl⟩ := of_below hb; clear hb))
           | (go_at_call 80; (refine (bufStr (hB.below ?_) _ ?_ ?_).mono ?_); (focus (repeat' (first | (with_reducible exact Below.refl _ _) | (with_reducible refine Below.app ?_ ?_ _ _) | (with_reducible refine Below.alloc ?_ ?_ _) | (with_reducible refine Below.drew ?_) | (with_reducible refine Below.setCell ?_ ?_ _) | (with_reducible assumption) | omega | (simp; omega) | (simp; done)))); (focus first | assumption | decide); (focus omega); rintro r wq ⟨nq, rfl, hBq, hbq⟩; replace hX := hX.trans (Below.trans (by (repeat' (first | (with_reducible exact Below.refl _ _) | (with_reducible refine Below.app ?_ ?_ _ _) | (with_reducible refine Below.alloc ?_ ?_ _) | (with_reducible refine Below.drew ?_) | (with_reducible refine Below.setCell ?_ ?_ _) | (with_reducible assumption) | omega | (simp; omega) | (simp; done)))) hbq); replace hB := hBq; clear hbq; have hwr := hwx.out _ hX; have hbl := hB.1.lt; obtain ⟨hc0, hc1, hc2', hlt0⟩ := rb.out _ hX)
           | (go_at_call 82; (first | (with_reducible refine (bufChr32 (hB.below ?_) ?_).mono ?_) | (with_reducible refine (bufChr45 (hB.below ?_) ?_).mono ?_)); (focus (repeat' (first | (with_reducible exact Below.refl _ _) | (with_reducible refine Below.app ?_ ?_ _ _) | (with_reducible refine Below.alloc ?_ ?_ _) | (with_reducible refine Below.drew ?_) | (with_reducible refine Below.setCell ?_ ?_ _) | (with_reducible assumption) | omega | (simp; omega) | (simp; done)))); (focus omega); rintro r wq ⟨rfl, hBq, hbq⟩; replace hX := hX.trans (Below.trans (by (repeat' (first | (with_reducible exact Below.refl _ _) | (with_reducible refine Below.app ?_ ?_ _ _) | (with_reducible refine Below.alloc ?_ ?_ _) | (with_reducible refine Below.drew ?_) | (with_reducible refine Below.setCell ?_ ?_ _) | (with_reducible assumption) | omega | (simp; omega) | (simp; done)))) hbq); replace hB := hBq; clear hbq; have hwr := hwx.out _ hX; have hbl := hB.1.lt; obtain ⟨hc0, hc1, hc2', hlt0⟩ := rb.out _ hX)
          go_roundw
          case rel => exact ⟨k + 1, _, by omega, by go_num, ⟨hB.1, by have := hB.2; omega⟩, hX, hR⟩
          case measure => first | (simp [intOf]; done) | (simp [intOf]; omega)
    · have hlti : ¬ (k : Int) < ss.length := by omega
      have hOe : O = out := by rw [hr.out, List.drop_of_length_le (by omega), bytesL, List.append_nil]
      have hby := bufBytes2 hB.1
      rw [← hOe] at hby
      replace hby := Lib.hid hby
      clear hr hOe
      go_wp2_with (go_at_call 83; (refine hby.out.mono ?_); rintro r wq ⟨pq, cq, rfl, hBq, hbq⟩; have hfin := Lib.hid (hp1.out pq cq wq (Joins.ownsRow_le hBq (by omega)) (hwr.trans (hbq.mono (by omega)))))
      go_ret2
      exact hfin.out
end Go.Proofs.YtnkppakkeobegaaGreatDoor
