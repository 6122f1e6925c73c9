/-
  ref08.three, Bytes: how a reply is sent, by definition.
-/
import Derived.Test.YtalkglheaadigaaDoorReplyBytesW
set_option maxRecDepth 20000
set_option linter.unusedVariables false
set_option linter.unusedSimpArgs false
set_option linter.unusedSectionVars false
namespace Go.Proofs.YtalkglheaadigaaDoor
open Go.ChangeShapes Go.WideShapes Go.ChangeAt Go.RowKit

theorem three_conv (w : World) (a b c : Int) (x y z : UInt8) (ha : a = x.toNat) (hb : b = y.toNat) (hc : c = z.toNat) (g : Nat) (hg : g = w.heap.size) (W : World) (hW : W = w.alloc (.cells #[.int .u8 a, .int .u8 b, .int .u8 c] 5)) (cap : Nat) :
    (convert 34 9 (.slice (some ⟨g, 0, none⟩) 3 cap)).run Tryd.prog W = .ok (.string ⟨#[x, y, z]⟩) W := by
  subst ha hb hc hg hW
  refine run_convert_bytes_back (P := Tryd.prog) _ 34 9 5 ⟨w.heap.size, 0, none⟩ cap [x, y, z] rfl rfl rfl (fun j hj => ?_)
  rw [show (⟨w.heap.size, 0, none⟩ : Addr).add j = ⟨w.heap.size, j, none⟩ by simp [Addr.add]; exact fun h => h.symm, World.cell?_alloc_mark]
  match j, hj with
  | 0, _ => rfl
  | 1, _ => rfl
  | 2, _ => rfl
set_option maxHeartbeats 4000000 in
theorem three_calls (n : Int) (h0 : 200 ≤ n) (h1 : n ≤ 599) (w : World) : Calls Tryd.prog 50 #[.int .i64 n] w fun r w' => r = .returned (.string ⟨(Lib.itoa n).toArray⟩) ∧ Below w.heap.size w w' := by
  rw [itoa_three h0 h1]
  have e1 : n.tdiv 100 = n / 100 := Int.tdiv_eq_ediv_of_nonneg (by omega)
  have e2 : (n.tdiv 10).tmod 10 = n / 10 % 10 := by rw [Int.tdiv_eq_ediv_of_nonneg (by omega), Int.tmod_eq_emod_of_nonneg (by omega)]
  have e3 : n.tmod 10 = n % 10 := Int.tmod_eq_emod_of_nonneg (by omega)
  have k1 : (48 + n / 100) = ((UInt8.ofNat (48 + (n / 100).toNat)).toNat : Int) := by rw [UInt8.toNat_ofNat']; omega
  have k2 : (48 + n / 10 % 10) = ((UInt8.ofNat (48 + (n / 10 % 10).toNat)).toNat : Int) := by rw [UInt8.toNat_ofNat']; omega
  have k3 : (48 + n % 10) = ((UInt8.ofNat (48 + (n % 10).toNat)).toNat : Int) := by rw [UInt8.toNat_ofNat']; omega
  generalize UInt8.ofNat (48 + (n / 100).toNat) = x at *
  generalize UInt8.ofNat (48 + (n / 10 % 10).toNat) = y at *
  generalize UInt8.ofNat (48 + (n % 10).toNat) = z at *
  have hcv := fun cap => three_conv w _ _ _ _ _ _ k1 k2 k3 _ rfl _ rfl cap
  have b1 : 0 ≤ n / 100 ∧ n / 100 ≤ 9 := by omega
  have b2 : 0 ≤ n / 10 % 10 ∧ n / 10 % 10 ≤ 9 := by omega
  have b3 : 0 ≤ n % 10 ∧ n % 10 ≤ 9 := by omega
  have q2 : n.tdiv 10 = n / 10 := Int.tdiv_eq_ediv_of_nonneg (by omega)
  clear k1 k2 k3
  go_enter Tryd.func50, Tryd.ntmps50
  go_wp2
  go_returns
  exact ⟨rfl, by (repeat' (first | (with_reducible exact Below.refl _ _) | (with_reducible refine Below.app ?_ ?_ _ _) | (with_reducible refine Below.alloc ?_ ?_ _) | (with_reducible refine Below.drew ?_) | (with_reducible refine Below.setCell ?_ ?_ _) | (with_reducible assumption) | omega | (simp; omega) | (simp; done)))⟩
def TBytesPost (code : Int) (e : List UInt8) (ss : List ByteArray) (w : World) (r : Ending) (w' : World) : Prop :=
  (goodR code e ss = false ∧ r = .returned (.tuple #[.slice none 0 0, .int .i64 3]) ∧ Below w.heap.size w w') ∨
  (goodR code e ss = true ∧ ∃ p c, r = .returned (.tuple #[.slice p (bytesL code e ss).length c, .int .i64 0]) ∧ BytesAt w' p c (bytesL code e ss) ∧ (∀ a, p = some a → w.heap.size ≤ a.block) ∧ Below w.heap.size w w')
set_option maxHeartbeats 16000000 in
theorem rbytes_calls (code : Int) (e : List UInt8) (ss : List ByteArray) (cap : Nat) {p : Option Addr} {w : World} (hs : StrsAt w p ss) (he : e.length ≤ 1000) (hn : ss.length ≤ 1000) (hz : ∀ s ∈ ss, s.size ≤ 1000) :
    Calls Tryd.prog 24 #[.agg #[.int .i64 code, .string ⟨e.toArray⟩, .slice p ss.length cap]] w (TBytesPost code e ss w) := by
  have hg := fun (W : World) (hW : Below w.heap.size w W) => rgood_calls code e ss cap (hs.later hW) (by omega) (by omega) (fun s h => by have := hz s h; omega)
  cases hR : goodR code e ss
  · rw [hR] at hg
    have hp0 : ∀ w', Below w.heap.size w w' → TBytesPost code e ss w (.returned (.tuple #[.slice none 0 0, .int .i64 3])) w' := fun w' h => .inl ⟨hR, rfl, h⟩
    replace hg := Lib.hid hg
    replace hp0 := Lib.hid hp0
    clear hR hs hz
    go_enter Tryd.func24, Tryd.ntmps24
    go_wp2_with (go_at_call 28; ((refine (hg.out _ (by (repeat' (first | (with_reducible exact Below.refl _ _) | (with_reducible refine Below.app ?_ ?_ _ _) | (with_reducible refine Below.alloc ?_ ?_ _) | (with_reducible refine Below.drew ?_) | (with_reducible refine Below.setCell ?_ ?_ _) | (with_reducible assumption) | omega | (simp; omega) | (simp; done))))).mono ?_); rintro r w1 ⟨rfl, hb⟩; obtain ⟨b1, b1d, rfl⟩ := of_below hb; clear hb))
    go_ret2
    exact hp0.out _ (by (repeat' (first | (with_reducible exact Below.refl _ _) | (with_reducible refine Below.app ?_ ?_ _ _) | (with_reducible refine Below.alloc ?_ ?_ _) | (with_reducible refine Below.drew ?_) | (with_reducible refine Below.setCell ?_ ?_ _) | (with_reducible assumption) | omega | (simp; omega) | (simp; done))))
  · rw [hR] at hg
    obtain ⟨hc2, hc5⟩ := good_code hR
    have hit := fun (W : World) => three_calls code hc2 hc5 W
    have hil := itoa_len hc2 hc5
    have hO : Hid (bytesL code e ss = [] ++ bytesL code e (ss.drop 0)) := by unfold Hid; simp
    have hp1 : ∀ q c w', BytesAt w' q c (bytesL code e ss) → (∀ a, q = some a → w.heap.size ≤ a.block) → Below w.heap.size w w' → TBytesPost code e ss w (.returned (.tuple #[.slice q (bytesL code e ss).length c, .int .i64 0])) w' := fun q c w' h1 h3 h2 => .inr ⟨hR, q, c, rfl, h1, h3, h2⟩
    have hat := fun k (h : k < ss.length) => bytesL_at (code := code) (e := e) h
    unfold lineL at hat
    generalize hOO : bytesL code e ss = O at *
    generalize hII : Lib.itoa code = it at *
    clear hOO hR hII
    have hsz : ∀ l : List UInt8, (⟨l.toArray⟩ : ByteArray).size = l.length := fun l => by show l.toArray.size = _; simp
    have hes := hsz e
    have hits := hsz it
    replace hg := Lib.hid hg
    replace hp1 := Lib.hid hp1
    replace hit := Lib.hid hit
    replace hat := Lib.hid hat
    replace hs := Lib.hid hs
    replace hz := Lib.hid hz
    replace hsz := Lib.hid hsz
    go_enter Tryd.func24, Tryd.ntmps24
    go_wp2_with (go_at_call 28; ((refine (hg.out _ (by (repeat' (first | (with_reducible exact Below.refl _ _) | (with_reducible refine Below.app ?_ ?_ _ _) | (with_reducible refine Below.alloc ?_ ?_ _) | (with_reducible refine Below.drew ?_) | (with_reducible refine Below.setCell ?_ ?_ _) | (with_reducible assumption) | omega | (simp; omega) | (simp; done))))).mono ?_); rintro r w1 ⟨rfl, hb⟩; obtain ⟨b1, b1d, rfl⟩ := of_below hb; clear hb))
    go_loopw [4, 5] (fun o i wr => ∃ (k : Nat) (out : List UInt8), k ≤ ss.length ∧ i = .int .i64 k ∧ o = .string ⟨out.toArray⟩ ∧ out.length ≤ 10000 * k ∧ (∃ bs d, wr = app (w.alloc (.cells #[.int .i64 code, .string ⟨e.toArray⟩, .slice p ss.length cap] 27)) bs d) ∧ Hid (O = out ++ bytesL code e (ss.drop k))) (fun _ i _ => ss.length - (intOf i).toNat)
    case atStart => exact ⟨0, [], by omega, rfl, rfl, by simp, ⟨_, _, rfl⟩, hO⟩
    case round =>
      obtain ⟨k, out, hk, rfl, rfl, hol, ⟨bs, d, rfl⟩, hr⟩ := hrel
      clear hO
      have hos := hsz.out out
      by_cases hlt : k < ss.length
      · have hlti : (k : Int) < ss.length := by omega
        obtain ⟨bb, off, rfl, hbb, hcl⟩ := hs.out.cell hlt
        have hsl := hz.out _ (List.getElem_mem hlt)
        have hst := hat.out k hlt
        generalize ss[k] = s at *
        by_cases hlast : k + 1 = ss.length
        · have hli : ¬ (k : Int) < (ss.length : Int) - 1 := by omega
          rw [if_pos hlast] at hst
          by_cases h0 : e = []
          · have hx1 : (e == []) = true := by rw [h0]; rfl
            have hx2 : e.isEmpty = true := by rw [h0]; rfl
            have hR : Hid (O = (out ++ it ++ [32] ++ s.data.toList ++ [13, 10]) ++ bytesL code e (ss.drop (k + 1))) := by
              unfold Hid; rw [hr.out, hst, if_pos h0]; simp only [List.append_assoc, List.nil_append]
            have hcat : Hid ((⟨out.toArray⟩ : ByteArray) ++ (⟨it.toArray⟩ : ByteArray) ++ ⟨#[32]⟩ ++ s ++ ⟨#[13, 10]⟩ = ⟨(out ++ it ++ [32] ++ s.data.toList ++ [13, 10]).toArray⟩) := by unfold Hid; apply ByteArray.ext; simp
            have hlo : (out ++ it ++ [32] ++ s.data.toList ++ [13, 10]).length ≤ 10000 * (k + 1) := by
              have : s.data.toList.length = s.size := (by simp)
              simp only [List.length_append, List.length_cons, List.length_nil]; omega
            clear hr hst h0
            go_wp2_with (go_at_call 50; ((refine (hit.out _).mono ?_); rintro r w1 ⟨rfl, hb⟩; obtain ⟨b2, b2d, rfl⟩ := of_below hb; clear hb))
            go_roundw
            case rel => exact ⟨k + 1, _, by omega, by go_num, by rw [hcat.out], hlo, ⟨_, _, rfl⟩, hR⟩
            case measure => first | (simp [intOf]; done) | (simp [intOf]; omega)
          · have hx1 : (e == []) = false := by simpa using h0
            have hx2 : e.isEmpty = false := by simpa using h0
            have hR : Hid (O = (out ++ it ++ [32] ++ e ++ [32] ++ s.data.toList ++ [13, 10]) ++ bytesL code e (ss.drop (k + 1))) := by
              unfold Hid; rw [hr.out, hst, if_neg h0]; simp only [List.append_assoc]
            have hcat : Hid ((⟨out.toArray⟩ : ByteArray) ++ (⟨it.toArray⟩ : ByteArray) ++ ⟨#[32]⟩ ++ ⟨e.toArray⟩ ++ ⟨#[32]⟩ ++ s ++ ⟨#[13, 10]⟩ = ⟨(out ++ it ++ [32] ++ e ++ [32] ++ s.data.toList ++ [13, 10]).toArray⟩) := by unfold Hid; apply ByteArray.ext; simp
            have hlo : (out ++ it ++ [32] ++ e ++ [32] ++ s.data.toList ++ [13, 10]).length ≤ 10000 * (k + 1) := by
              have : s.data.toList.length = s.size := (by simp)
              simp only [List.length_append, List.length_cons, List.length_nil]; omega
            clear hr hst h0
            go_wp2_with (go_at_call 50; ((refine (hit.out _).mono ?_); rintro r w1 ⟨rfl, hb⟩; obtain ⟨b2, b2d, rfl⟩ := of_below hb; clear hb))
            go_roundw
            case rel => exact ⟨k + 1, _, by omega, by go_num, by rw [hcat.out], hlo, ⟨_, _, rfl⟩, hR⟩
            case measure => first | (simp [intOf]; done) | (simp [intOf]; omega)
        · have hli : (k : Int) < (ss.length : Int) - 1 := by omega
          rw [if_neg hlast] at hst
          by_cases h0 : e = []
          · have hx1 : (e == []) = true := by rw [h0]; rfl
            have hx2 : e.isEmpty = true := by rw [h0]; rfl
            have hR : Hid (O = (out ++ it ++ [45] ++ s.data.toList ++ [13, 10]) ++ bytesL code e (ss.drop (k + 1))) := by
              unfold Hid; rw [hr.out, hst, if_pos h0]; simp only [List.append_assoc, List.nil_append]
            have hcat : Hid ((⟨out.toArray⟩ : ByteArray) ++ (⟨it.toArray⟩ : ByteArray) ++ ⟨#[45]⟩ ++ s ++ ⟨#[13, 10]⟩ = ⟨(out ++ it ++ [45] ++ s.data.toList ++ [13, 10]).toArray⟩) := by unfold Hid; apply ByteArray.ext; simp
            have hlo : (out ++ it ++ [45] ++ s.data.toList ++ [13, 10]).length ≤ 10000 * (k + 1) := by
              have : s.data.toList.length = s.size := (by simp)
              simp only [List.length_append, List.length_cons, List.length_nil]; omega
            clear hr hst h0
            go_wp2_with (go_at_call 50; ((refine (hit.out _).mono ?_); rintro r w1 ⟨rfl, hb⟩; obtain ⟨b2, b2d, rfl⟩ := of_below hb; clear hb))
            go_roundw
            case rel => exact ⟨k + 1, _, by omega, by go_num, by rw [hcat.out], hlo, ⟨_, _, rfl⟩, hR⟩
            case measure => first | (simp [intOf]; done) | (simp [intOf]; omega)
          · have hx1 : (e == []) = false := by simpa using h0
            have hx2 : e.isEmpty = false := by simpa using h0
            have hR : Hid (O = (out ++ it ++ [45] ++ e ++ [32] ++ s.data.toList ++ [13, 10]) ++ bytesL code e (ss.drop (k + 1))) := by
              unfold Hid; rw [hr.out, hst, if_neg h0]; simp only [List.append_assoc]
            have hcat : Hid ((⟨out.toArray⟩ : ByteArray) ++ (⟨it.toArray⟩ : ByteArray) ++ ⟨#[45]⟩ ++ ⟨e.toArray⟩ ++ ⟨#[32]⟩ ++ s ++ ⟨#[13, 10]⟩ = ⟨(out ++ it ++ [45] ++ e ++ [32] ++ s.data.toList ++ [13, 10]).toArray⟩) := by unfold Hid; apply ByteArray.ext; simp
            have hlo : (out ++ it ++ [45] ++ e ++ [32] ++ s.data.toList ++ [13, 10]).length ≤ 10000 * (k + 1) := by
              have : s.data.toList.length = s.size := (by simp)
              simp only [List.length_append, List.length_cons, List.length_nil]; omega
            clear hr hst h0
            go_wp2_with (go_at_call 50; ((refine (hit.out _).mono ?_); rintro r w1 ⟨rfl, hb⟩; obtain ⟨b2, b2d, rfl⟩ := of_below hb; clear hb))
            go_roundw
            case rel => exact ⟨k + 1, _, by omega, by go_num, by rw [hcat.out], hlo, ⟨_, _, rfl⟩, hR⟩
            case measure => first | (simp [intOf]; done) | (simp [intOf]; omega)
      · have hlti : ¬ (k : Int) < ss.length := by omega
        have hOe : O = out := by rw [hr.out, List.drop_of_length_le (by omega), bytesL, List.append_nil]
        subst hOe
        obtain ⟨W, cp, hconv, hB, hbel⟩ := bytes_row (app (w.alloc (.cells #[.int .i64 code, .string ⟨e.toArray⟩, .slice p ss.length cap] 27)) bs d) ⟨O.toArray⟩
        have hsz2 : (app (w.alloc (.cells #[.int .i64 code, .string ⟨e.toArray⟩, .slice p ss.length cap] 27)) bs d).heap.size = w.heap.size + 1 + bs.size := by simp [go_sem]
        rw [hsz2] at hconv hB
        have hfin := Lib.hid (hp1.out _ _ W hB (fun a ha => by cases ha; show w.heap.size ≤ w.heap.size + 1 + bs.size; omega) (Below.trans (show Below w.heap.size w (app (w.alloc (.cells #[.int .i64 code, .string ⟨e.toArray⟩, .slice p ss.length cap] 27)) bs d) from by (repeat' (first | (with_reducible exact Below.refl _ _) | (with_reducible refine Below.app ?_ ?_ _ _) | (with_reducible refine Below.alloc ?_ ?_ _) | (with_reducible refine Below.drew ?_) | (with_reducible refine Below.setCell ?_ ?_ _) | (with_reducible assumption) | omega | (simp; omega) | (simp; done)))) (hbel.mono (by rw [app_size]; simp; omega))))
        rw [hos] at hconv
        clear hr hB
        go_wp2
        go_ret2
        exact hfin.out
end Go.Proofs.YtalkglheaadigaaDoor
