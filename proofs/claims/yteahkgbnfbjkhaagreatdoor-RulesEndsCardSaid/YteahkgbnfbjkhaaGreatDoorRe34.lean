/-
  HeadBuild2.
-/
import Derived.Test.YteahkgbnfbjkhaaGreatDoorRe33
set_option maxRecDepth 20000
set_option linter.unusedVariables false
set_option linter.unusedSimpArgs false
set_option linter.unusedSectionVars false
namespace Go.Proofs.YteahkgbnfbjkhaaGreatDoor
open Go.ChangeShapes Go.WideShapes Go.ChangeAt Go.RowKit
def buildQ (fs : List Fld) (body : List UInt8) : Option (List UInt8) := (fieldsL fs).map fun O => O ++ ([13, 10] ++ body)
def BuildPost (fs : List Fld) (body : List UInt8) (w : World) (r : Ending) (w' : World) : Prop :=
 (buildQ fs body = none ∧ r = .returned (.tuple #[.slice none 0 0, .int .i64 3]) ∧ Below w.heap.size w w') ∨
 (∃ O p c, buildQ fs body = some O ∧ r = .returned (.tuple #[.slice p O.length c, .int .i64 0]) ∧ w'.ownsRow w.heap.size 5 1 (.slice p O.length c) O.length (Lib.byteCells O) ∧ Below w.heap.size w w')
def RelBu (fs : List Fld) (w : World) (b : Nat) (k : Nat) (wr : World) : Prop := ∃ out : List UInt8, out.length ≤ 100000 * k ∧ Lib.IsBuffer 107 5 b b (Lib.byteCells out) wr ∧ Below w.heap.size w wr ∧ Hid (fieldsL fs = (fieldsL (fs.drop k)).map (out ++ ·))
theorem writeBody {B b : Nat} {out : List UInt8} {w : World} (h : Lib.IsBuffer 107 5 B b (Lib.byteCells out) w) (hBw : B ≤ w.heap.size) {q : Option Addr} {cap : Nat} {l : List UInt8} (hq : BytesAt w q cap l) (hfar : l ≠ [] → ∀ bb off, q = some ⟨bb, off, none⟩ → bb < B) (hlim : out.length + l.length ≤ 140737488355328) :
 Calls Tryz.prog 60 #[.pointer (some ⟨b, 0, none⟩), .slice q l.length cap] w fun e w' => (∃ n, e = .returned (.tuple #[.int .i64 n, .nilIface])) ∧ Lib.IsBuffer 107 5 B b (Lib.byteCells (out ++ l)) w' ∧ Below B w w' := by
 by_cases h0 : l = []
 · subst h0
   refine (writeNil_calls B b _ q cap w h).mono fun e w' ⟨h1, h2, h3⟩ => ⟨⟨0, h1⟩, ?_, h3⟩
   rw [List.append_nil]; exact h2
 · obtain ⟨bb, off, rfl, hbb, hc⟩ := hq.cell h0
   refine (Tryz.Buffer_Write B b _ (Lib.byteCells l) ⟨bb, off, none⟩ l.length cap w h hBw (one_bytes out) (bytesCells_len l) (hfar h0 bb off rfl) (fun j v hv => ?_) (one_bytes l) (by rw [bytesCells_len]; exact hlim)).mono fun e w' ⟨h1, h2, h3⟩ => ⟨⟨_, h1⟩, ?_, h3⟩
   · have hj : j < l.length := by have := (List.getElem?_eq_some_iff.1 hv).1; simpa [Lib.byteCells] using this
     rw [show (⟨bb, off, none⟩ : Addr).add j = ⟨bb, off + j, none⟩ by unfold Addr.add; split <;> simp_all, hc j hj]
     simpa [Lib.byteCells, hj] using hv
   · rw [← bytesCells_app]; exact h2
set_option maxRecDepth 20000 in
set_option maxHeartbeats 8000000 in
theorem build_calls {w : World} {q q2 : Option Addr} {cap cap2 : Nat} {fs : List Fld} {body : List UInt8} (hf : FieldsAt w q fs) (hb : BytesAt w q2 cap2 body) (hfs : ∀ f ∈ fs, f.1.size ≤ 10000 ∧ f.2.size ≤ 10000) (hn : fs.length ≤ 1000) (hbl : body.length ≤ 100000000) :
 Calls Tryz.prog 61 #[.slice q fs.length cap, .slice q2 body.length cap2] w (BuildPost fs body w) := by
 have hfr := Lib.hid (Lib.fresh_isBuffer 107 5 w)
 have hcell := fun i (hi : i < fs.length) => hf.cell hi
 have hpost : ∀ r w', BuildPost fs body w r w' → BuildPost fs body w r w' := fun _ _ h => h
 go_enter Tryz.func61, Tryz.ntmps61
 go_wp2
 go_loopw [11] (fun i wr => ∃ k : Nat, k ≤ fs.length ∧ i = .int .i64 k ∧ RelBu fs w w.heap.size k wr) (fun i _ => fs.length - (intOf i).toNat)
 case atStart => exact ⟨0, by omega, rfl, [], by simp, by simpa [Lib.byteCells] using hfr.out, by (repeat' (first | (with_reducible exact Below.refl _ _) | (with_reducible refine Below.app ?_ ?_ _ _) | (with_reducible refine Below.alloc ?_ ?_ _) | (with_reducible refine Below.drew ?_) | (with_reducible refine Below.setCell ?_ ?_ _) | (with_reducible assumption) | omega | (simp; omega) | (simp; done))), by unfold Hid; simp⟩
 case round =>
  obtain ⟨k, hk, rfl, out, ho, hB, hbw, hr⟩ := hrel
  have hws0 := hbw.size
  by_cases hlt : k < fs.length
  · obtain ⟨cb, co, rfl, hcb, hc1, hc2⟩ := hcell k hlt
    have hd1 := (hbw.cell (p := ⟨cb, co + k * 2, none⟩) hcb).trans hc1
    have hd2 := (hbw.cell (p := ⟨cb, co + k * 2 + 1, none⟩) hcb).trans hc2
    have hcb2 : cb < wr.heap.size := Nat.lt_of_lt_of_le hcb hbw.size
    have hsz := hfs _ (List.getElem_mem hlt)
    have hdr := List.drop_eq_getElem_cons hlt
    have hfl := fieldL_len fs[k]
    have hgd := fun w => hgood_calls fs[k].1 fs[k].2 (by omega) (by omega) w
    have hwt := fun w => hwritten_calls fs[k].1 fs[k].2 (by omega) (by omega) w
    have hge : goodF fs[k].1.data.toList fs[k].2.data.toList = goodQ fs[k] := rfl
    have hwe : writtenL (fs[k].1.data.toList ++ ([58, 32] ++ fs[k].2.data.toList)) (fs[k].1.size + 2) = fieldL fs[k] := rfl
    rw [hge] at hgd
    rw [hwe] at hwt
    have hr2 : fieldsL (fs.drop k) = if goodQ fs[k] = true then (fieldsL (fs.drop (k + 1))).map (fieldL fs[k] ++ ·) else none := by rw [hdr, fieldsL]
    clear hdr hge hwe hc1 hc2 hcell
    have hbo := bytesCells_len out
    have hws := fun (W : World) (hW : Below wr.heap.size wr W) => Tryz.Buffer_WriteString w.heap.size w.heap.size (Lib.byteCells out) ⟨(fieldL fs[k]).toArray⟩ W (buffer_below hB hW) (by have := hbw.size; have := hW.size; omega) (one_bytes out) (by
     rw [hbo]; show out.length + (fieldL fs[k]).toArray.size ≤ _
     rw [List.size_toArray]
     have : k ≤ 1000 := by omega
     omega)
    rw [show (⟨(fieldL fs[k]).toArray⟩ : ByteArray).data.toList = fieldL fs[k] from rfl, bytesCells_app] at hws
    generalize hFL : fieldL fs[k] = FL at *
    clear hFL hbo
    generalize goodQ fs[k] = G at *
    generalize fs[k].1 = f1 at *
    generalize fs[k].2 = f2 at *
    replace hgd := Lib.hid hgd
    replace hwt := Lib.hid hwt
    replace hws := Lib.hid hws
    cases G
    · have hnone : Hid (fieldsL fs = none) := by unfold Hid; rw [hr.out, hr2]; rfl
      clear hr hr2
      go_wp2_with (go_at_call 127; ((refine (hgd.out _).mono ?_); rintro r w1 ⟨rfl, hb⟩; obtain ⟨b1, b1d, rfl⟩ := of_below hb; clear hb))
      go_ret2
      exact .inl ⟨by unfold buildQ; rw [hnone.out]; rfl, rfl, by (repeat' (first | (with_reducible exact Below.refl _ _) | (with_reducible refine Below.app ?_ ?_ _ _) | (with_reducible refine Below.alloc ?_ ?_ _) | (with_reducible refine Below.drew ?_) | (with_reducible refine Below.setCell ?_ ?_ _) | (with_reducible assumption) | omega | (simp; omega) | (simp; done)))⟩
    · have hR : Hid (fieldsL fs = (fieldsL (fs.drop (k + 1))).map ((out ++ FL) ++ ·)) := by
       unfold Hid; rw [hr.out, hr2, if_pos rfl, Option.map_map]
       congr 1
       funext x; simp
      clear hr hr2
      go_wp2_with first
       | (go_at_call 127; ((refine (hgd.out _).mono ?_); rintro r w1 ⟨rfl, hb⟩; obtain ⟨b1, b1d, rfl⟩ := of_below hb; clear hb))
       | (go_at_call 128; ((refine (hwt.out _).mono ?_); rintro r w1 ⟨rfl, hb⟩; obtain ⟨b2, b2d, rfl⟩ := of_below hb; clear hb))
       | (go_at_call 56; ((refine (hws.out _ (by (repeat' (first | (with_reducible exact Below.refl _ _) | (with_reducible refine Below.app ?_ ?_ _ _) | (with_reducible refine Below.alloc ?_ ?_ _) | (with_reducible refine Below.drew ?_) | (with_reducible refine Below.setCell ?_ ?_ _) | (with_reducible assumption) | omega | (simp; omega) | (simp; done))))).mono ?_); rintro r w3 ⟨rfl, hB3, hb3⟩))
      go_roundw
      case rel => exact ⟨k + 1, by omega, by go_num, out ++ FL, by simp; omega, hB3, (Below.trans (b := wr) hbw (Below.mono (B := wr.heap.size) (by (repeat' (first | (with_reducible exact Below.refl _ _) | (with_reducible refine Below.app ?_ ?_ _ _) | (with_reducible refine Below.alloc ?_ ?_ _) | (with_reducible refine Below.drew ?_) | (with_reducible refine Below.setCell ?_ ?_ _) | (with_reducible assumption) | omega | (simp; omega) | (simp; done)))) hbw.size)).trans hb3, hR⟩
      case measure => first | (simp [intOf]; done) | (simp [intOf]; omega)
  · have hke : k = fs.length := by omega
    subst hke
    have hO : Hid (buildQ fs body = some (out ++ [13, 10] ++ body)) := by
     unfold Hid buildQ; rw [hr.out, List.drop_of_length_le (Nat.le_refl _), fieldsL]; simp
    have hbo := bytesCells_len out
    have hws := fun (W : World) (hW : Below wr.heap.size wr W) => Tryz.Buffer_WriteString w.heap.size w.heap.size (Lib.byteCells out) ⟨#[13, 10]⟩ W (buffer_below hB hW) (by have := hW.size; omega) (one_bytes out) (by
     rw [hbo]; show out.length + 2 ≤ _; omega)
    rw [show (⟨#[13, 10]⟩ : ByteArray).data.toList = [13, 10] from rfl, bytesCells_app] at hws
    have hwb := fun (W : World) (hB2 : Lib.IsBuffer 107 5 w.heap.size w.heap.size (Lib.byteCells (out ++ [13, 10])) W) (hW : Below w.heap.size w W) => writeBody hB2 hW.size (hb.below hW) (fun h0 bb off e => by
     obtain ⟨b2, o2, e2, h2, _⟩ := hb.cell h0
     rw [e] at e2; cases e2; exact h2) (by simp; omega)
    have hby := fun (W : World) (hB3 : Lib.IsBuffer 107 5 w.heap.size w.heap.size (Lib.byteCells (out ++ [13, 10] ++ body)) W) => Tryz.Buffer_Bytes w.heap.size w.heap.size _ W hB3
    rw [bytesCells_len] at hby
    generalize out ++ [13, 10] ++ body = O at *
    replace hws := Lib.hid hws
    replace hwb := Lib.hid hwb
    replace hby := Lib.hid hby
    clear hr hbo hcell
    go_wp2_with first
     | (go_at_call 56; ((refine (hws.out _ (Below.refl _ _)).mono ?_); rintro r w3 ⟨rfl, hB3, hb3⟩))
     | (go_at_call 60; ((refine (hwb.out w3 hB3 (hbw.trans hb3)).mono ?_); rintro r w4 ⟨⟨n4, rfl⟩, hB4, hb4⟩))
     | (go_at_call 62; ((refine (hby.out w4 hB4).mono ?_); rintro r w5 ⟨v5, rfl, ho5, n5, rfl⟩; obtain ⟨p5, c5, rfl⟩ := own_len ho5))
    go_ret2
    exact .inr ⟨O, p5, c5, hO.out, rfl, ho5, ((hbw.trans hb3).trans hb4).trans (by
     have : ∀ (n : Nat) (X : World), Below w.heap.size X (X.drewN n) := fun n X => by
      induction n with
      | zero => exact Below.refl _ _
      | succ n ih => exact ih.drew
     exact this _ _)⟩
end Go.Proofs.YteahkgbnfbjkhaaGreatDoor
