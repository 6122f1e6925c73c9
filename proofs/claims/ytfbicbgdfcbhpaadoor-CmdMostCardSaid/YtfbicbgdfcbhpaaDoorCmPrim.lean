/-
  Go's library and the mailboxes' functions for the reckoning of layer 06: ContainsAny, ParseUint, addr.Domain, addr.Read.
-/
import Derived.Test.YtfbicbgdfcbhpaaDoorLpNum
import Derived.Test.YtfbicbgdfcbhpaaDoorLpSplit
import Derived.Test.YtfbicbgdfcbhpaaDoorRead
import Derived.Test.YtfbicbgdfcbhpaaDoorAddrTop
set_option maxRecDepth 20000
set_option linter.unusedVariables false
set_option linter.unusedSimpArgs false
set_option linter.unusedSectionVars false
namespace Go.Proofs.YtfbicbgdfcbhpaaDoor
open Go.ChangeShapes Go.WideShapes Go.ChangeAt Go.RowKit
namespace AX
def asciiB (l : List UInt8) : Bool := l.all fun c => decide (c.toNat < 128)
theorem ascii_at {l : List UInt8} (h : asciiB l = true) : ∀ (j : Nat) b, (baOf l).data.toList[j]? = some b → b.toNat < 128 := fun j b hb => by
  rw [baOf_list] at hb
  unfold asciiB at h
  rw [List.all_eq_true] at h
  exact of_decide_eq_true (h b (List.mem_of_getElem? hb))
def pContains : List AV → Option AV
  | [.one (.str l), .one (.str c)] => bif decide (l.length ≤ 100000000) && (decide (c.length ≤ 1000) && (asciiB l && asciiB c)) then some (.one (.bool (Lib.containsAny l c))) else none
  | _ => none
theorem pContains_ok : PrimOk Tryd.prog 64 pContains := by
  refine ⟨fun args v h M w vals hI hl hA => ?_, ⟨Tryd.f64, by kernel_rfl, by kernel_rfl, of_decide_eq_true (by kernel_rfl)⟩⟩
  unfold pContains at h
  split at h
  · rename_i l c
    obtain ⟨hd, rfl⟩ := bif_some h
    simp only [Bool.and_eq_true, decide_eq_true_eq] at hd
    obtain ⟨h1, h2, h3, h4⟩ := hd
    obtain ⟨x, y, rfl, hx, hy⟩ := hA.two
    obtain rfl := Rc.str_inv hx
    obtain rfl := Rc.str_inv hy
    have s1 := baOf_size l
    have s2 := baOf_size c
    refine (Tryd.strings_ContainsAny_laid (baOf l) (baOf c) w (by omega) (by omega) (ascii_at h3) (ascii_at h4)).mono fun e w' ⟨h5, h6⟩ => ⟨_, M, h5, same_grow hl h6, ?_⟩
    rw [baOf_list, baOf_list]
    exact .data (.bool _)
  · cases h
def uintV (l : List UInt8) : Nat × Bool :=
  match Lib.parseUintB 64 l with
  | .ok v => (v, false)
  | .range => (18446744073709551615, true)
  | _ => (0, true)
def pParseU : List AV → Option AV
  | [.one (.str l), .one (.int .i64 10), .one (.int .i64 64)] => bif decide (l.length ≤ 100000000) then some (.tup [.one (.int .u64 ((uintV l).1 : Int)), .one (.err (uintV l).2)]) else none
  | _ => none
theorem pParseU_ok : PrimOk Tryd.prog 112 pParseU := by
  refine ⟨fun args v h M w vals hI hl hA => ?_, ⟨Tryd.f112, by kernel_rfl, by kernel_rfl, of_decide_eq_true (by kernel_rfl)⟩⟩
  unfold pParseU at h
  split at h
  · rename_i l
    obtain ⟨hd, rfl⟩ := bif_some h
    have hd := of_decide_eq_true hd
    obtain ⟨x, y, z, rfl, hx, hy, hz⟩ := hA.three
    obtain rfl := Rc.str_inv hx
    obtain rfl := Rc.int_inv hy
    obtain rfl := Rc.int_inv hz
    have hsz := baOf_size l
    have hlim : (baOf l).size ≤ 281474976710656 := by omega
    have hW : LibAt w := hI
    rcases hx : Lib.parseUintB 64 l with v | _ | _
    · have e : uintV l = (v, false) := by unfold uintV; rw [hx]
      rw [e]
      refine (Tryd.strconv_ParseUint_10_at64_ok (baOf l) (by omega) v (by rw [baOf_list]; exact hx) w).mono fun _ w' ⟨h1, h2⟩ => ⟨_, M, h1, same_grow hl ?_, two_rv (.data (.int _ _)) (.data .errN)⟩
      rcases h2 with rfl | rfl
      · exact Below.refl _ _
      · exact Lib.bytesWorld_below _ _ _
    · have e : uintV l = (0, true) := by unfold uintV; rw [hx]
      rw [e]
      obtain ⟨ev, h1, h2⟩ := hW.syn
      exact (Any.strconv_ParseUint_10_at64_syntax Tryd.laysPu14 (baOf l) hlim (by rw [baOf_list]; exact hx) ev w h1 h2).mono fun _ w' ⟨N, h3, _, _, h4⟩ => ⟨_, M, h3, same_grow hl h4, two_rv (.data (.int _ _)) (.data (.errS _ _))⟩
    · have e : uintV l = (18446744073709551615, true) := by unfold uintV; rw [hx]
      rw [e]
      obtain ⟨ev, h1, h2⟩ := hW.rng
      exact (Tryd.strconv_ParseUint_10_at64_range (baOf l) hlim (by rw [baOf_list]; exact hx) ev w h1 h2).mono fun _ w' ⟨N, h3, _, _, h4⟩ => ⟨_, M, h3, same_grow hl h4, two_rv (.data (.int _ _)) (.data (.errS _ _))⟩
  · cases h
def pADomain : List AV → Option AV
  | [.one (.str l)] => bif decide (l.length ≤ 100000000) then some (.one (.bool (domainB l))) else none
  | _ => none
theorem pADomain_ok : PrimOk Tryd.prog 39 pADomain := by
  refine ⟨fun args v h M w vals hI hl hA => ?_, ⟨Tryd.f39, by kernel_rfl, by kernel_rfl, of_decide_eq_true (by kernel_rfl)⟩⟩
  unfold pADomain at h
  split at h
  · rename_i l
    obtain ⟨hd, rfl⟩ := bif_some h
    have hd := of_decide_eq_true hd
    obtain ⟨u, rfl, hu⟩ := hA.one
    obtain rfl := Rc.str_inv hu
    have hsz := baOf_size l
    refine (domain_calls (baOf l) (by omega) w).mono fun e w' ⟨h1, h2⟩ => ⟨_, M, h1, same_grow hl h2, ?_⟩
    rw [baOf_list]
    exact .data (.bool _)
  · cases h
def areadV (l : List UInt8) (null : Bool) : List UInt8 × List UInt8 × Int × Int := ((readP (baOf l) null).1.data.toList, (readP (baOf l) null).2.1.data.toList, (readP (baOf l) null).2.2.1, (readP (baOf l) null).2.2.2)
def pARead : List AV → Option AV
  | [.one (.str l), .one (.bool null)] => bif decide (l.length ≤ 100000000) then some (.tup [.agg [.str (areadV l null).1, .str (areadV l null).2.1], .one (.int .i64 (areadV l null).2.2.1), .one (.int .i64 (areadV l null).2.2.2)]) else none
  | _ => none
theorem pARead_ok : PrimOk Tryd.prog 65 pARead := by
  refine ⟨fun args v h M w vals hI hl hA => ?_, ⟨Tryd.f65, by kernel_rfl, by kernel_rfl, of_decide_eq_true (by kernel_rfl)⟩⟩
  unfold pARead at h
  split at h
  · rename_i l null
    obtain ⟨hd, rfl⟩ := bif_some h
    have hd := of_decide_eq_true hd
    obtain ⟨x, y, rfl, hx, hy⟩ := hA.two
    obtain rfl := Rc.str_inv hx
    obtain rfl := Rc.bool_inv hy
    have hsz := baOf_size l
    refine (read_calls (baOf l) null (by omega) w).mono fun e w' h1 => ?_
    unfold ReadIs at h1
    obtain ⟨h1, h2⟩ := h1
    refine ⟨_, M, h1, same_grow hl h2, three_rv ⟨_, rfl, rfl, fun i u c hu hc => ?_⟩ (.data (.int _ _)) (.data (.int _ _))⟩
    match i, hu, hc with
    | 0, hu, hc => cases hu; cases hc; exact .data (.str _)
    | 1, hu, hc => cases hu; cases hc; exact .data (.str _)
    | n + 2, hu, _ => simp at hu
  · cases h
end AX
end Go.Proofs.YtfbicbgdfcbhpaaDoor
