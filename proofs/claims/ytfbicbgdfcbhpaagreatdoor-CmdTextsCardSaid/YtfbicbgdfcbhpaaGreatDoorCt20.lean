/-
  CmPrim, AddrGood, AddrLower.
-/
import Derived.Test.YtfbicbgdfcbhpaaGreatDoorCt11
import Derived.Test.YtfbicbgdfcbhpaaGreatDoorCt19
import Derived.Test.YtfbicbgdfcbhpaaGreatDoorCt17
import Derived.Lib.ConvBytes
import Derived.Laws.IdiomStrings
set_option maxRecDepth 20000
set_option linter.unusedVariables false
set_option linter.unusedSimpArgs false
set_option linter.unusedSectionVars false
namespace Go.Proofs.YtfbicbgdfcbhpaaGreatDoor
open Go.ChangeShapes Go.WideShapes Go.ChangeAt Go.RowKit
namespace AX
def asciiB (l : List UInt8) : Bool := l.all fun c => decide (c.toNat < 128)
theorem ascii_at {l : List UInt8} (h : asciiB l = true) : ∀ (j : Nat) b, (baOf l).data.toList[j]? = some b → b.toNat < 128 := fun j b hb => by
 rw [baOf_list] at hb
 unfold asciiB at h
 rw [List.all_eq_true] at h
 exact of_decide_eq_true (h b (List.mem_of_getElem? hb))
def pContains : List AV → Option AV
 | [.one (.str l), .one (.str c)] => bif decide (l.length ≤ 100000000) && (decide (c.length ≤ 1000) && (asciiB l && asciiB c)) then some (.one (.bool (Lib.containsAny l c))) else none
 | _ => none
theorem pContains_ok : PrimOk Tryz.prog 70 pContains := by
 refine ⟨fun args v h M w vals hI hl hA => ?_, ⟨Tryz.f70, by kernel_rfl, by kernel_rfl, of_decide_eq_true (by kernel_rfl)⟩⟩
 unfold pContains at h
 split at h
 · rename_i l c
   obtain ⟨hd, rfl⟩ := bif_some h
   simp only [Bool.and_eq_true, decide_eq_true_eq] at hd
   obtain ⟨h1, h2, h3, h4⟩ := hd
   obtain ⟨x, y, rfl, hx, hy⟩ := hA.two
   obtain rfl := Rc.str_inv hx
   obtain rfl := Rc.str_inv hy
   have s1 := baOf_size l
   have s2 := baOf_size c
   refine (Tryz.strings_ContainsAny_laid (baOf l) (baOf c) w (by omega) (by omega) (ascii_at h3) (ascii_at h4)).mono fun e w' ⟨h5, h6⟩ => ⟨_, M, h5, same_grow hl h6, ?_⟩
   rw [baOf_list, baOf_list]
   exact .data (.bool _)
 · cases h
def uintV (l : List UInt8) : Nat × Bool :=
 match Lib.parseUintB 64 l with
 | .ok v => (v, false)
 | .range => (18446744073709551615, true)
 | _ => (0, true)
def pParseU : List AV → Option AV
 | [.one (.str l), .one (.int .i64 10), .one (.int .i64 64)] => bif decide (l.length ≤ 100000000) then some (.tup [.one (.int .u64 ((uintV l).1 : Int)), .one (.err (uintV l).2)]) else none
 | _ => none
theorem pParseU_ok : PrimOk Tryz.prog 134 pParseU := by
 refine ⟨fun args v h M w vals hI hl hA => ?_, ⟨Tryz.f134, by kernel_rfl, by kernel_rfl, of_decide_eq_true (by kernel_rfl)⟩⟩
 unfold pParseU at h
 split at h
 · rename_i l
   obtain ⟨hd, rfl⟩ := bif_some h
   have hd := of_decide_eq_true hd
   obtain ⟨x, y, z, rfl, hx, hy, hz⟩ := hA.three
   obtain rfl := Rc.str_inv hx
   obtain rfl := Rc.int_inv hy
   obtain rfl := Rc.int_inv hz
   have hsz := baOf_size l
   have hlim : (baOf l).size ≤ 281474976710656 := by omega
   have hW : LibAt w := hI
   rcases hx : Lib.parseUintB 64 l with v | _ | _
   · have e : uintV l = (v, false) := by unfold uintV; rw [hx]
     rw [e]
     refine (Tryz.strconv_ParseUint_10_at64_ok (baOf l) (by omega) v (by rw [baOf_list]; exact hx) w).mono fun _ w' ⟨h1, h2⟩ => ⟨_, M, h1, same_grow hl ?_, two_rv (.data (.int _ _)) (.data .errN)⟩
     rcases h2 with rfl | rfl
     · exact Below.refl _ _
     · exact Lib.bytesWorld_below _ _ _
   · have e : uintV l = (0, true) := by unfold uintV; rw [hx]
     rw [e]
     obtain ⟨ev, h1, h2⟩ := hW.syn
     exact (Any.strconv_ParseUint_10_at64_syntax Tryz.laysPu14 (baOf l) hlim (by rw [baOf_list]; exact hx) ev w h1 h2).mono fun _ w' ⟨N, h3, _, _, h4⟩ => ⟨_, M, h3, same_grow hl h4, two_rv (.data (.int _ _)) (.data (.errS _ _))⟩
   · have e : uintV l = (18446744073709551615, true) := by unfold uintV; rw [hx]
     rw [e]
     obtain ⟨ev, h1, h2⟩ := hW.rng
     exact (Tryz.strconv_ParseUint_10_at64_range (baOf l) hlim (by rw [baOf_list]; exact hx) ev w h1 h2).mono fun _ w' ⟨N, h3, _, _, h4⟩ => ⟨_, M, h3, same_grow hl h4, two_rv (.data (.int _ _)) (.data (.errS _ _))⟩
 · cases h
def pADomain : List AV → Option AV
 | [.one (.str l)] => bif decide (l.length ≤ 100000000) then some (.one (.bool (domainB l))) else none
 | _ => none
theorem pADomain_ok : PrimOk Tryz.prog 35 pADomain := by
 refine ⟨fun args v h M w vals hI hl hA => ?_, ⟨Tryz.f35, by kernel_rfl, by kernel_rfl, of_decide_eq_true (by kernel_rfl)⟩⟩
 unfold pADomain at h
 split at h
 · rename_i l
   obtain ⟨hd, rfl⟩ := bif_some h
   have hd := of_decide_eq_true hd
   obtain ⟨u, rfl, hu⟩ := hA.one
   obtain rfl := Rc.str_inv hu
   have hsz := baOf_size l
   refine (domain_calls (baOf l) (by omega) w).mono fun e w' ⟨h1, h2⟩ => ⟨_, M, h1, same_grow hl h2, ?_⟩
   rw [baOf_list]
   exact .data (.bool _)
 · cases h
def areadV (l : List UInt8) (null : Bool) : List UInt8 × List UInt8 × Int × Int := ((readP (baOf l) null).1.data.toList, (readP (baOf l) null).2.1.data.toList, (readP (baOf l) null).2.2.1, (readP (baOf l) null).2.2.2)
def pARead : List AV → Option AV
 | [.one (.str l), .one (.bool null)] => bif decide (l.length ≤ 100000000) then some (.tup [.agg [.str (areadV l null).1, .str (areadV l null).2.1], .one (.int .i64 (areadV l null).2.2.1), .one (.int .i64 (areadV l null).2.2.2)]) else none
 | _ => none
theorem pARead_ok : PrimOk Tryz.prog 71 pARead := by
 refine ⟨fun args v h M w vals hI hl hA => ?_, ⟨Tryz.f71, by kernel_rfl, by kernel_rfl, of_decide_eq_true (by kernel_rfl)⟩⟩
 unfold pARead at h
 split at h
 · rename_i l null
   obtain ⟨hd, rfl⟩ := bif_some h
   have hd := of_decide_eq_true hd
   obtain ⟨x, y, rfl, hx, hy⟩ := hA.two
   obtain rfl := Rc.str_inv hx
   obtain rfl := Rc.bool_inv hy
   have hsz := baOf_size l
   refine (read_calls (baOf l) null (by omega) w).mono fun e w' h1 => ?_
   unfold ReadIs at h1
   obtain ⟨h1, h2⟩ := h1
   refine ⟨_, M, h1, same_grow hl h2, three_rv ⟨_, rfl, rfl, fun i u c hu hc => ?_⟩ (.data (.int _ _)) (.data (.int _ _))⟩
   match i, hu, hc with
   | 0, hu, hc => cases hu; cases hc; exact .data (.str _)
   | 1, hu, hc => cases hu; cases hc; exact .data (.str _)
   | n + 2, hu, _ => simp at hu
 · cases h
end AX
end Go.Proofs.YtfbicbgdfcbhpaaGreatDoor
set_option maxRecDepth 20000
set_option linter.unusedVariables false
set_option linter.unusedSimpArgs false
set_option linter.unusedSectionVars false
namespace Go.Proofs.YtfbicbgdfcbhpaaGreatDoor
open Go.ChangeShapes Go.WideShapes Go.ChangeAt Go.RowKit
theorem bytes_of (w : World) (s : ByteArray) : ∃ W cap, (convert 9 25 (.string s)).run Tryz.prog w = .ok (.slice (some ⟨w.heap.size, 0, none⟩) s.size cap) W ∧
 (∀ j (h : j < s.size), W.cell? ⟨w.heap.size, j, none⟩ = some (.int .u8 (s[j].toNat : Int))) ∧ Below w.heap.size w W := by
 refine ⟨_, _, run_bytes_of_string (P := Tryz.prog) w 9 25 5 s rfl rfl rfl, fun j h => ?_, by (repeat' (first | (with_reducible exact Below.refl _ _) | (with_reducible refine Below.app ?_ ?_ _ _) | (with_reducible refine Below.alloc ?_ ?_ _) | (with_reducible refine Below.drew ?_) | (with_reducible refine Below.setCell ?_ ?_ _) | (with_reducible assumption) | omega | (simp; omega) | (simp; done)))⟩
 exact (World.cell?_alloc_mark w.drew _ _ _ j).trans (bytesRow_at s _ j h)
def goodB (x y : ByteArray) : Bool := x.data.toList.all plainB && (!x.data.toList.isEmpty && decide (x.size ≤ 64) && domainB y.data.toList)
theorem all_drop {f : UInt8 → Bool} {l : List UInt8} {k : Nat} (h : k < l.length) : (l.drop k).all f = (f l[k] && (l.drop (k + 1)).all f) := by
 rw [List.drop_eq_getElem_cons h, List.all_cons]
set_option maxHeartbeats 4000000 in
theorem good_calls (x y : ByteArray) (hx : x.size ≤ 140000000000000) (hy : y.size ≤ 140000000000000) (w : World) : Calls Tryz.prog 108 #[.agg #[.string x, .string y]] w fun r w' => r = .returned (.bool (goodB x y)) ∧ Below w.heap.size w w' := by
 obtain ⟨W, cap, hconv, hcell, hbel⟩ := bytes_of (w.alloc (.cells #[.string x, .string y] 38)) x
 have hlen : x.data.toList.length = x.size := by simp
 have hsz : (w.alloc (.cells #[.string x, .string y] 38)).heap.size = w.heap.size + 1 := by simp
 rw [hsz] at hconv hcell
 clear hsz
 have hbel2 : Below w.heap.size w W := by
  have := hbel.mono (show w.heap.size ≤ (w.alloc (.cells #[.string x, .string y] 38)).heap.size by simp)
  exact (by (repeat' (first | (with_reducible exact Below.refl _ _) | (with_reducible refine Below.app ?_ ?_ _ _) | (with_reducible refine Below.alloc ?_ ?_ _) | (with_reducible refine Below.drew ?_) | (with_reducible refine Below.setCell ?_ ?_ _) | (with_reducible assumption) | omega | (simp; omega) | (simp; done))) : Below w.heap.size w (w.alloc (.cells #[.string x, .string y] 38))).trans this
 have hc0 : W.cell? ⟨w.heap.size, 0, none⟩ = some (.string x) := (hbel.cell (p := ⟨w.heap.size, 0, none⟩) (by simp)).trans (by go_simp)
 have hc1 : W.cell? ⟨w.heap.size, 1, none⟩ = some (.string y) := (hbel.cell (p := ⟨w.heap.size, 1, none⟩) (by simp)).trans (by go_simp)
 have hz : w.heap.size < W.heap.size := by have := hbel.size; simp at this; omega
 clear hbel
 have hdc := Lib.hid (domain_calls y hy)
 go_enter Tryz.func108, Tryz.ntmps108
 go_wp2
 go_loop [9] (fun i => ∃ k : Nat, k ≤ x.size ∧ i = .int .i64 k ∧ Hid (goodB x y = ((x.data.toList.drop k).all plainB && (!x.data.toList.isEmpty && decide (x.size ≤ 64) && domainB y.data.toList)))) (fun i => x.size - (intOf i).toNat)
 case atStart => exact ⟨0, by omega, rfl, by unfold Hid; rw [List.drop_zero]; rfl⟩
 case round =>
  obtain ⟨k, hk, rfl, hr⟩ := hrel
  by_cases hlt : k < x.size
  · have hce := hcell k hlt
    have had := @all_drop plainB x.data.toList k (by omega)
    have hgk : x.data.toList[k]'(by omega) = x[k] := rfl
    rw [hgk] at had
    have hpc := plain_calls x[k]
    clear hcell
    by_cases hp : plainB x[k] = true
    · have hr' : Hid (goodB x y = ((x.data.toList.drop (k + 1)).all plainB && (!x.data.toList.isEmpty && decide (x.size ≤ 64) && domainB y.data.toList))) := by unfold Hid; rw [hr.out, had, hp, Bool.true_and]
      rw [hp] at hpc
      clear had hgk hp hr
      replace hpc := Lib.hid hpc
      go_wp2_with (go_at_call 137; ((with_reducible refine (hpc.out _).mono ?_); rintro _ _ ⟨rfl, rfl⟩))
      go_round
      case rel => exact ⟨k + 1, by omega, by go_num, hr'⟩
      case measure => simp [intOf]; omega
    · rw [Bool.not_eq_true] at hp
      have hr' : Hid (goodB x y = false) := by unfold Hid; rw [hr.out, had, hp]; rfl
      rw [hp] at hpc
      clear had hgk hp hr
      replace hpc := Lib.hid hpc
      go_wp2_with (go_at_call 137; ((with_reducible refine (hpc.out _).mono ?_); rintro _ _ ⟨rfl, rfl⟩))
      go_returns
      exact ⟨rb hr'.out.symm, hbel2⟩
  · have hke : k = x.size := by omega
    subst hke
    have hr' : Hid (goodB x y = (!x.data.toList.isEmpty && decide (x.size ≤ 64) && domainB y.data.toList)) := by unfold Hid; rw [hr.out, List.drop_of_length_le (by omega)]; rfl
    have hxl : Hid (x.toList = x.data.toList) := by unfold Hid; exact (ByteArray.toList_mk x.data.toList)
    clear hr hcell
    obtain ⟨cs, e, rfl⟩ := of_below hbel2
    go_wp2_with (go_at_call 35; ((refine (hdc.out _).mono ?_); rintro r w1 ⟨rfl, hb⟩; obtain ⟨b1, b1d, rfl⟩ := of_below hb; clear hb))
    all_goals
     go_returns
     refine ⟨rb ?_, by (repeat' (first | (with_reducible exact Below.refl _ _) | (with_reducible refine Below.app ?_ ?_ _ _) | (with_reducible refine Below.alloc ?_ ?_ _) | (with_reducible refine Below.drew ?_) | (with_reducible refine Below.setCell ?_ ?_ _) | (with_reducible assumption) | omega | (simp; omega) | (simp; done)))⟩
     have hd64 : decide (x.size ≤ 64) = decide ((x.size : Int) ≤ 64) := by rw [decide_eq_decide]; omega
     rw [hr'.out, ← hxl.out, hd64]
     go_light
     first | (simp_all; done) | (simp_all; omega) | (rw [Bool.eq_iff_iff]; simp_all; done)
end Go.Proofs.YtfbicbgdfcbhpaaGreatDoor
set_option maxRecDepth 20000
set_option linter.unusedVariables false
set_option linter.unusedSimpArgs false
set_option linter.unusedSectionVars false
namespace Go.Proofs.YtfbicbgdfcbhpaaGreatDoor
open Go.ChangeShapes Go.WideShapes Go.ChangeAt Go.RowKit
end Go.Proofs.YtfbicbgdfcbhpaaGreatDoor
