/-
  ref10.Build: what it gives.
-/
import Derived.Test.YtpoaegcaaflogaaDoorRefHead2
import Derived.Test.YtpoaegcaaflogaaDoorHeadBuild2
namespace Go.Proofs.YtpoaegcaaflogaaDoor
open Go.ChangeShapes Go.WideShapes Go.ChangeAt Go.RowKit

def TBuildPost (fs : List Fld) (body : List UInt8) (w : World) (r : Ending) (w' : World) : Prop :=
  (buildQ fs body = none ∧ r = .returned (.tuple #[.slice none 0 0, .int .i64 3]) ∧ Below w.heap.size w w') ∨
  (∃ O p c, buildQ fs body = some O ∧ r = .returned (.tuple #[.slice p O.length c, .int .i64 0]) ∧ TextOf w' (.slice p O.length c) O ∧ Below w.heap.size w w')
theorem BuildPost.text {fs : List Fld} {body : List UInt8} {w w' : World} {r : Ending} (h : BuildPost fs body w r w') : TBuildPost fs body w r w' := by
  rcases h with h | ⟨O, p, c, h1, h2, h3, h4⟩
  · exact .inl h
  · exact .inr ⟨O, p, c, h1, h2, own_textOf h3, h4⟩
set_option maxRecDepth 20000 in
set_option maxHeartbeats 8000000 in
theorem rbuild_calls {w : World} {q q2 : Option Addr} {cap cap2 : Nat} {fs : List Fld} {body : List UInt8} (hf : FieldsAt w q fs) (hb : BytesAt w q2 cap2 body) (hfs : ∀ f ∈ fs, f.1.size ≤ 10000 ∧ f.2.size ≤ 10000) (hn : fs.length ≤ 1000) (hbl : body.length ≤ 100000000) :
    Calls Tryd.prog 12 #[.slice q fs.length cap, .slice q2 body.length cap2] w (TBuildPost fs body w) := by
  have hcell := fun i (hi : i < fs.length) => hf.cell hi
  have htx := fun (W : World) (hW : Below w.heap.size w W) => hb.textOf W hW
  replace htx := Lib.hid htx
  clear hf hb
  go_enter Tryd.func12, Tryd.ntmps12
  go_wp2
  go_loopw [6, 7] (fun s i wr => ∃ (k : Nat) (out : List UInt8), k ≤ fs.length ∧ i = .int .i64 k ∧ s = .string ⟨out.toArray⟩ ∧ out.length ≤ 100000 * k ∧ Below w.heap.size w wr ∧ Hid (fieldsL fs = (fieldsL (fs.drop k)).map (out ++ ·))) (fun _ i _ => fs.length - (intOf i).toNat)
  case atStart => exact ⟨0, [], by omega, rfl, rfl, by simp, Below.refl _ _, by unfold Hid; simp⟩
  case round =>
    obtain ⟨k, out, hk, rfl, rfl, ho, hbw, hr⟩ := hrel
    have hws0 := hbw.size
    by_cases hlt : k < fs.length
    · have hlti : (k : Int) < fs.length := by omega
      obtain ⟨cb, co, rfl, hcb, hc1, hc2⟩ := hcell k hlt
      have hd1 := (hbw.cell (p := ⟨cb, co + k * 2, none⟩) hcb).trans hc1
      have hd2 := (hbw.cell (p := ⟨cb, co + k * 2 + 1, none⟩) hcb).trans hc2
      have hcb2 : cb < wr.heap.size := Nat.lt_of_lt_of_le hcb hbw.size
      have hsz := hfs _ (List.getElem_mem hlt)
      have hdr := List.drop_eq_getElem_cons hlt
      have hfl := fieldL_len fs[k]
      have hgd := fun w => rgood_calls fs[k].1 fs[k].2 (by omega) (by omega) w
      have hwt := fun w => rwritten_calls fs[k].1 fs[k].2 (by omega) (by omega) w
      have hge : goodF fs[k].1.data.toList fs[k].2.data.toList = goodQ fs[k] := rfl
      have hwe : writtenL (fs[k].1.data.toList ++ ([58, 32] ++ fs[k].2.data.toList)) (fs[k].1.size + 2) = fieldL fs[k] := rfl
      rw [hge] at hgd
      rw [hwe] at hwt
      have hr2 : fieldsL (fs.drop k) = if goodQ fs[k] = true then (fieldsL (fs.drop (k + 1))).map (fieldL fs[k] ++ ·) else none := by rw [hdr, fieldsL]
      clear hdr hge hwe hc1 hc2 hcell
      generalize hFL : fieldL fs[k] = FL at *
      clear hFL
      generalize goodQ fs[k] = G at *
      generalize fs[k].1 = f1 at *
      generalize fs[k].2 = f2 at *
      have hcat := Lib.hid (cat_two out FL)
      replace hgd := Lib.hid hgd
      replace hwt := Lib.hid hwt
      cases G
      · have hnone : Hid (fieldsL fs = none) := by unfold Hid; rw [hr.out, hr2]; rfl
        clear hr hr2
        go_wp2_with (go_at_call 10; ((refine (hgd.out _).mono ?_); rintro r w1 ⟨rfl, hb⟩; obtain ⟨b1, b1d, rfl⟩ := of_below hb; clear hb))
        go_ret2
        exact .inl ⟨by unfold buildQ; rw [hnone.out]; rfl, rfl, by (repeat' (first | (with_reducible exact Below.refl _ _) | (with_reducible refine Below.app ?_ ?_ _ _) | (with_reducible refine Below.alloc ?_ ?_ _) | (with_reducible refine Below.drew ?_) | (with_reducible refine Below.setCell ?_ ?_ _) | (with_reducible assumption) | omega | (simp; omega) | (simp; done)))⟩
      · have hR : Hid (fieldsL fs = (fieldsL (fs.drop (k + 1))).map ((out ++ FL) ++ ·)) := by
          unfold Hid; rw [hr.out, hr2, if_pos rfl, Option.map_map]
          congr 1
          funext x; simp
        clear hr hr2
        go_wp2_with first
          | (go_at_call 10; ((refine (hgd.out _).mono ?_); rintro r w1 ⟨rfl, hb⟩; obtain ⟨b1, b1d, rfl⟩ := of_below hb; clear hb))
          | (go_at_call 29; ((refine (hwt.out _).mono ?_); rintro r w1 ⟨rfl, hb⟩; obtain ⟨b2, b2d, rfl⟩ := of_below hb; clear hb))
        go_roundw
        case rel => exact ⟨k + 1, out ++ FL, by omega, by go_num, by rw [hcat.out], by simp; omega, by (repeat' (first | (with_reducible exact Below.refl _ _) | (with_reducible refine Below.app ?_ ?_ _ _) | (with_reducible refine Below.alloc ?_ ?_ _) | (with_reducible refine Below.drew ?_) | (with_reducible refine Below.setCell ?_ ?_ _) | (with_reducible assumption) | omega | (simp; omega) | (simp; done))), hR⟩
        case measure => first | (simp [intOf]; done) | (simp [intOf]; omega)
    · have hlti : ¬ (k : Int) < fs.length := by omega
      have hke : k = fs.length := by omega
      subst hke
      have hO : Hid (buildQ fs body = some (out ++ ([13, 10] ++ body))) := by
        unfold Hid buildQ; rw [hr.out, List.drop_of_length_le (Nat.le_refl _), fieldsL]; simp
      have hcat : (⟨out.toArray⟩ : ByteArray) ++ ⟨#[13, 10]⟩ ++ (⟨body.toArray⟩ : ByteArray) = ⟨(out ++ ([13, 10] ++ body)).toArray⟩ := by apply ByteArray.ext; simp
      obtain ⟨W, c2, hconv, hB, hbel⟩ := bytes_row wr ⟨(out ++ ([13, 10] ++ body)).toArray⟩
      replace hB : BytesAt W (some ⟨wr.heap.size, 0, none⟩) c2 (out ++ ([13, 10] ++ body)) := hB
      have hsz : (⟨(out ++ ([13, 10] ++ body)).toArray⟩ : ByteArray).size = (out ++ ([13, 10] ++ body)).length := by show (out ++ ([13, 10] ++ body)).toArray.size = _; simp
      rw [hsz] at hconv
      have ht2 := htx.out wr hbw
      have hol : (out ++ ([13, 10] ++ body)).length ≤ 300000000 := by simp; omega
      generalize out ++ ([13, 10] ++ body) = O at *
      have htt := Lib.hid hB.textOf
      clear hr hcell hB hsz
      go_wp2
      go_ret2
      exact .inr ⟨O, _, c2, hO.out, rfl, htt.out, hbw.trans (hbel.mono hws0)⟩
end Go.Proofs.YtpoaegcaaflogaaDoor
