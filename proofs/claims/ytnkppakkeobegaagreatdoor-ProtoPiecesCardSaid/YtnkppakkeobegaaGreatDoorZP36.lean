/-
  PpPrim.
-/
import Derived.Test.YtnkppakkeobegaaGreatDoorZP30
import Derived.Test.YtnkppakkeobegaaGreatDoorZP35
set_option maxRecDepth 20000
set_option linter.unusedVariables false
set_option linter.unusedSimpArgs false
set_option linter.unusedSectionVars false
namespace Go.Proofs.YtnkppakkeobegaaGreatDoor
open Go.ChangeShapes Go.WideShapes Go.ChangeAt Go.RowKit
namespace AX
theorem ascii_at {l : List UInt8} (h : asciiB l = true) : ∀ (j : Nat) b, (baOf l).data.toList[j]? = some b → b.toNat < 128 := fun j b hb => by
 rw [baOf_list] at hb
 unfold asciiB at h
 rw [List.all_eq_true] at h
 exact of_decide_eq_true (h b (List.mem_of_getElem? hb))
theorem pContains_ok : PrimOk Tryz.prog 128 pContains := by
 refine ⟨fun args v h M w vals hI hl hA => ?_, ⟨Tryz.f128, by kernel_rfl, by kernel_rfl, of_decide_eq_true (by kernel_rfl)⟩⟩
 unfold pContains at h
 split at h
 · rename_i l c
   obtain ⟨hd, rfl⟩ := bif_some h
   simp only [Bool.and_eq_true, decide_eq_true_eq] at hd
   obtain ⟨h1, h2, h3, h4⟩ := hd
   obtain ⟨x, y, rfl, hx, hy⟩ := hA.two
   obtain rfl := Rc.str_inv hx
   obtain rfl := Rc.str_inv hy
   have s1 := baOf_size l
   have s2 := baOf_size c
   refine (Tryz.strings_ContainsAny_laid (baOf l) (baOf c) w (by omega) (by omega) (ascii_at h3) (ascii_at h4)).mono fun e w' ⟨h5, h6⟩ => ⟨_, M, h5, same_grow hl h6, ?_⟩
   rw [baOf_list, baOf_list]
   exact .data (.bool _)
 · cases h
theorem pParseU_ok : PrimOk Tryz.prog 178 pParseU := by
 refine ⟨fun args v h M w vals hI hl hA => ?_, ⟨Tryz.f178, by kernel_rfl, by kernel_rfl, of_decide_eq_true (by kernel_rfl)⟩⟩
 unfold pParseU at h
 split at h
 · rename_i l
   obtain ⟨hd, rfl⟩ := bif_some h
   have hd := of_decide_eq_true hd
   obtain ⟨x, y, z, rfl, hx, hy, hz⟩ := hA.three
   obtain rfl := Rc.str_inv hx
   obtain rfl := Rc.int_inv hy
   obtain rfl := Rc.int_inv hz
   have hsz := baOf_size l
   have hlim : (baOf l).size ≤ 281474976710656 := by omega
   have hW : LibAt w := hI
   rcases hx : Lib.parseUintB 64 l with v | _ | _
   · have e : uintV l = (v, false) := by unfold uintV; rw [hx]
     rw [e]
     refine (Tryz.strconv_ParseUint_10_at64_ok (baOf l) (by omega) v (by rw [baOf_list]; exact hx) w).mono fun _ w' ⟨h1, h2⟩ => ⟨_, M, h1, same_grow hl ?_, two_rv (.data (.int _ _)) (.data .errN)⟩
     rcases h2 with rfl | rfl
     · exact Below.refl _ _
     · exact Lib.bytesWorld_below _ _ _
   · have e : uintV l = (0, true) := by unfold uintV; rw [hx]
     rw [e]
     obtain ⟨ev, h1, h2⟩ := hW.syn
     exact (Any.strconv_ParseUint_10_at64_syntax Tryz.laysPu14 (baOf l) hlim (by rw [baOf_list]; exact hx) ev w h1 h2).mono fun _ w' ⟨N, h3, _, _, h4⟩ => ⟨_, M, h3, same_grow hl h4, two_rv (.data (.int _ _)) (.data (.errS _ _))⟩
   · have e : uintV l = (18446744073709551615, true) := by unfold uintV; rw [hx]
     rw [e]
     obtain ⟨ev, h1, h2⟩ := hW.rng
     exact (Tryz.strconv_ParseUint_10_at64_range (baOf l) hlim (by rw [baOf_list]; exact hx) ev w h1 h2).mono fun _ w' ⟨N, h3, _, _, h4⟩ => ⟨_, M, h3, same_grow hl h4, two_rv (.data (.int _ _)) (.data (.errS _ _))⟩
 · cases h
theorem strsAt_of {M : Mem} {w : World} {v : Value} {ls : List (List UInt8)} (h : Rd M w v (.sl none 1 (ls.map .str))) : ∃ p cap, v = .slice p (ls.map baOf).length cap ∧ StrsAt w p (ls.map baOf) := by
 obtain ⟨p, cap, h1, _, h2⟩ := row_at h
 refine ⟨p, cap, by simpa using h1, fun i hi => ?_⟩
 have hi' : i < ls.length := by simpa using hi
 obtain ⟨b, off, u, h3, h4, h5, h6⟩ := h2 i (.str ls[i]) (by simp [hi'])
 have : u = .string (baOf ls[i]) := by cases h6; rfl
 subst this
 exact ⟨b, off, [.string (baOf ls[i])], h3, h4, rfl, (fun j hj => match j, hj with | 0, _ => by simpa using h5), by simp [IsStr1]⟩
theorem pBytes_ok : PrimOk Tryz.prog 50 pBytes := by
 refine ⟨fun args v h M w vals hI hl hA => ?_, ⟨Tryz.f50, by kernel_rfl, by kernel_rfl, of_decide_eq_true (by kernel_rfl)⟩⟩
 unfold pBytes at h
 split at h
 · rename_i code e cs
   split at h
   · rename_i ls hls
     obtain rfl := strsOf_eq _ _ hls
     cases hd : (decide (e.length ≤ 1000) && (decide (ls.length ≤ 1000) && ls.all fun s => decide (s.length ≤ 1000))) with
     | false => rw [hd] at h; cases h
     | true =>
      rw [hd] at h
      simp only [cond_true] at h
      simp only [Bool.and_eq_true, decide_eq_true_eq, List.all_eq_true] at hd
      obtain ⟨u, rfl, hu⟩ := hA.one
      obtain ⟨x, y, z, rfl, h1, h2, h3⟩ := agg3 hu
      obtain rfl := Rc.int_inv h1
      obtain rfl := Rc.str_inv h2
      obtain ⟨p, cap, rfl, h4⟩ := strsAt_of h3.dataSl
      refine (bytes_calls code e (ls.map baOf) cap h4 hI hd.1 (by simpa using hd.2.1) (fun s hs => by
       obtain ⟨l, hl, rfl⟩ := List.mem_map.1 hs
       have := hd.2.2 l hl
       show l.toArray.size ≤ 1000
       simpa using this)).mono fun r w' hp => ?_
      rcases hp with ⟨hg, hr, hb⟩ | ⟨hg, q, c, hr, hown, hb⟩
      · rw [hg] at h
        simp only [cond_false, Option.some.injEq] at h
        subst h
        exact ⟨_, M, hr, same_grow hl hb, two_rv (.data (.slN 0)) (.data (.int _ _))⟩
      · rw [hg] at h
        simp only [cond_true, Option.some.injEq] at h
        subst h
        obtain ⟨M', hG, hR⟩ := own_res (cs := AX.byteCells (bytesL code e (ls.map baOf))) hl hb hown (by decide) (by simp [AX.byteCells, Lib.byteCells]) (byteCells_rel _)
        exact ⟨_, M', hr, hG, two_rv (.data hR) (.data (.int _ _))⟩
   · cases h
 · cases h
theorem replyK_some {β : Type} {args : List AV} {k : Int → List UInt8 → List (List UInt8) → Option β} {r : β} (h : replyK args k = some r) {M : Mem} {w : World} {vals : List Value} (hA : All2 (fun a u => Rv ⟨M, [], fun _ => none⟩ w u a) args vals) :
 ∃ code e ls p cap, k code e ls = some r ∧ vals = [.agg #[.int .i64 code, .string ⟨e.toArray⟩, .slice p (ls.map baOf).length cap]] ∧ StrsAt w p (ls.map baOf) := by
 unfold replyK at h
 split at h
 · rename_i code e cs
   split at h
   · rename_i ls hls
     obtain rfl := strsOf_eq _ _ hls
     obtain ⟨u, rfl, hu⟩ := hA.one
     obtain ⟨x, y, z, rfl, h1, h2, h3⟩ := agg3 hu
     obtain rfl := Rc.int_inv h1
     obtain rfl := Rc.str_inv h2
     obtain ⟨p, cap, rfl, h4⟩ := strsAt_of h3.dataSl
     exact ⟨code, e, ls, p, cap, h, rfl, h4⟩
   · cases h
 · cases h
theorem small_bd {m : Nat} {e : List UInt8} {ls : List (List UInt8)} (h : small m e ls = true) : e.length ≤ m ∧ (ls.map baOf).length ≤ m ∧ ∀ s ∈ ls.map baOf, s.size ≤ m := by
 simp only [small, Bool.and_eq_true, decide_eq_true_eq, List.all_eq_true] at h
 refine ⟨h.1, by simpa using h.2.1, fun s hs => ?_⟩
 obtain ⟨l, hl, rfl⟩ := List.mem_map.1 hs
 have := h.2.2 l hl
 show l.toArray.size ≤ m
 simpa using this
theorem pGood_ok : PrimOk Tryz.prog 33 pGood := by
 refine ⟨fun args v h M w vals hI hl hA => ?_, ⟨Tryz.f33, by kernel_rfl, by kernel_rfl, of_decide_eq_true (by kernel_rfl)⟩⟩
 obtain ⟨code, e, ls, p, cap, h, rfl, hs⟩ := replyK_some h hA
 obtain ⟨hsm, rfl⟩ := bif_some h
 obtain ⟨h1, h2, h3⟩ := small_bd hsm
 exact (good_calls code e (ls.map baOf) cap hs hI (by omega) (by omega) (fun s hs => by have := h3 s hs; omega)).mono fun r w' ⟨he, hb⟩ => ⟨_, M, he, same_grow hl hb, .data (.bool _)⟩
theorem bytesOf_eq : ∀ (cs : List Cell) (l : List UInt8), bytesOf cs = some l → cs = AX.byteCells l
 | [], l, h => by cases h; rfl
 | c :: r, l, h => by
  unfold bytesOf at h
  split at h
  · rename_i he; cases he
  · rename_i n r' he
    cases he
    cases hd : (decide (0 ≤ n) && decide (n < 256)) with
    | false => rw [hd] at h; cases h
    | true =>
     rw [hd] at h
     simp only [cond_true] at h
     simp only [Bool.and_eq_true, decide_eq_true_eq] at hd
     split at h
     · rename_i l' hr
       cases h
       rw [bytesOf_eq _ l' hr]
       have : ((UInt8.ofNat n.toNat).toNat : Int) = n := by
        rw [UInt8.toNat_ofNat_of_lt' (by show n.toNat < 256; omega)]; omega
       show _ = Cell.int .u8 ((UInt8.ofNat n.toNat).toNat : Int) :: AX.byteCells l'
       rw [this]
     · cases h
  · cases h
theorem bytesAt_of {M : Mem} {w : World} {v : Value} {l : List UInt8} (h : Rd M w v (.sl none 1 (AX.byteCells l))) : ∃ p cap, v = .slice p l.length cap ∧ BytesAt w p cap l := by
 generalize hcs : AX.byteCells l = cs at h
 cases h with
 | slN =>
  obtain rfl : l = [] := by cases l with | nil => rfl | cons => cases hcs
  exact ⟨none, 0, rfl, fun _ => ⟨rfl, rfl⟩, Nat.le_refl _, fun h => absurd rfl h⟩
 | sl0 a cap _ _ =>
  obtain rfl : l = [] := by cases l with | nil => rfl | cons => cases hcs
  exact ⟨some a, cap, rfl, fun h => (by cases h), Nat.zero_le _, fun h => absurd rfl h⟩
 | sl b off len cap _ f _ h1 h2 h3 h4 h5 =>
  subst hcs
  have hll : (AX.byteCells l).length = l.length := by simp [AX.byteCells]
  obtain rfl : l.length = len := by omega
  refine ⟨some ⟨b, off, none⟩, cap, rfl, fun h => (by cases h), h3, fun h0 => ⟨b, off, rfl, ?_, fun i hi => ?_⟩⟩
  · have hp : 0 < l.length := List.length_pos_iff.2 h0
    exact World.block_lt_of_cell? w _ (h4 0 (by omega)).2
  · rw [(h4 i (by omega)).2]
    have := h5 i (.int .u8 (l[i].toNat : Int)) (by simp [AX.byteCells, hi])
    rw [this.int_inv]
theorem bytesOf_natP (l : List UInt8) : Lib.bytesOf (l.map fun c => (c.toNat : Int)) = l := by
 unfold Lib.bytesOf
 rw [List.map_map]
 conv => rhs; rw [← List.map_id l]
 exact List.map_congr_left fun c _ => by simp
theorem bytes_atP {w : World} {q : Option Addr} {cap : Nat} {l : List UInt8} (hb : BytesAt w q cap l) {a : Addr} (hq : q = some a) : ∀ i, i < l.length → w.cell? (a.add i) = some (.int .u8 ((l.map fun c => (c.toNat : Int)).getD i 0)) := fun i hi => by
 have h0 : l ≠ [] := by intro e; subst e; simp at hi
 obtain ⟨bb, off, e1, e2, e3⟩ := hb.cell h0
 rw [hq] at e1
 injection e1 with e1
 subst e1
 rw [show (⟨bb, off, none⟩ : Addr).add i = ⟨bb, off + i, none⟩ by unfold Addr.add; split <;> simp_all, e3 i hi]
 simp [List.getD, hi]
theorem nat_small (l : List UInt8) : ∀ x ∈ l.map (fun c => (c.toNat : Int)), 0 ≤ x ∧ x < 256 := fun x hx => by
 obtain ⟨c, _, rfl⟩ := List.mem_map.1 hx
 have := c.toNat_lt
 omega
theorem indexP_calls {w : World} {q q2 : Option Addr} {cap cap2 : Nat} {l s : List UInt8} (hb : BytesAt w q cap l) (hl : l.length ≤ 100000000) (hs : BytesAt w q2 cap2 s) (h2 : s.length = 2) (hw : LibAt w) :
 Calls Tryz.prog 47 #[.slice q l.length cap, .slice q2 s.length cap2] w fun e w' => e = .returned (.int .i64 (Lib.index l s)) ∧ Below w.heap.size w w' := by
 obtain ⟨m, hm⟩ := hw.max
 have hne : s ≠ [] := by intro e; subst e; simp at h2
 obtain ⟨b2, o2, rfl, _, _⟩ := hs.cell hne
 have hc2 := hs.cap
 cases q with
 | none =>
  obtain ⟨rfl, rfl⟩ := hb.nil rfl
  refine (Tryz.bytes_Index_nil (some ⟨b2, o2, none⟩) s.length cap2 w (by omega) (fun h => by omega)).mono fun e w' ⟨h1, h2⟩ => ⟨?_, by rw [h2]; exact Below.refl _ _⟩
  rw [h1]
  have h3 : ∀ s : List UInt8, s.length = 2 → Lib.index ([] : List UInt8) s = -1 := fun s h => by
   match s, h with
   | [x, y], _ => rfl
  rw [h3 s ‹s.length = 2›, if_neg (by omega)]
 | some a =>
  refine (Tryz.bytes_Index_at a ⟨b2, o2, none⟩ l.length cap s.length cap2 (l.map fun c => (c.toNat : Int)) (s.map fun c => (c.toNat : Int)) m w (by simp) (by simp) (nat_small l) (nat_small s) (bytes_atP hb rfl) (bytes_atP hs rfl) hb.cap (by omega) (by omega) hm).mono fun e w' ⟨h1, n, h2⟩ => ⟨?_, ?_⟩
  · rw [h1, bytesOf_natP, bytesOf_natP]
  · subst h2
    exact lp_drewN _ _
theorem pBIndex_ok : PrimOk Tryz.prog 47 pBIndex := by
 refine ⟨fun args v h M w vals hI hl hA => ?_, ⟨Tryz.f47, by kernel_rfl, by kernel_rfl, of_decide_eq_true (by kernel_rfl)⟩⟩
 unfold pBIndex at h
 split at h
 · rename_i cs sep
   split at h
   · rename_i l s hl1 hs1
     obtain ⟨hd, rfl⟩ := bif_some h
     rw [Bool.and_eq_true] at hd
     have h1 := of_decide_eq_true hd.1
     have h2 := Nat.eq_of_beq_eq_true hd.2
     obtain rfl := bytesOf_eq _ _ hl1
     obtain rfl := bytesOf_eq _ _ hs1
     obtain ⟨x, y, rfl, hx, hy⟩ := hA.two
     have hx : Rc _ _ _ _ := hx
     have hy : Rc _ _ _ _ := hy
     obtain ⟨p, c, rfl, hb⟩ := bytesAt_of hx.dataSl
     obtain ⟨q, d, rfl, hs⟩ := bytesAt_of hy.dataSl
     exact (indexP_calls hb (by omega) hs h2 hI).mono fun e w' ⟨h3, h4⟩ => ⟨_, M, h3, same_grow hl h4, .data (.int _ _)⟩
   · cases h
 · cases h
theorem pBClone_ok : PrimOk Tryz.prog 52 pBClone := by
 refine ⟨fun args v h M w vals hI hl hA => ?_, ⟨Tryz.f52, by kernel_rfl, by kernel_rfl, of_decide_eq_true (by kernel_rfl)⟩⟩
 have key : ∀ (l : List UInt8) (x : Value), l.length ≤ 1000000 → Rd M w x (.sl none 1 (AX.byteCells l)) → Calls Tryz.prog 52 #[x] w fun e w' => ∃ u M', e = .returned u ∧ Grow ⟨M, [], fun _ => none⟩ w M' w' ∧ Rv ⟨M', [], fun _ => none⟩ w' u (.one (.sl none 1 (AX.byteCells l))) := fun l x hle hx => by
  obtain ⟨p, c, rfl, hb⟩ := bytesAt_of hx
  cases p with
  | none =>
   obtain ⟨rfl, rfl⟩ := hb.nil rfl
   exact (Tryz.bytes_Clone_nil 0 0 w).mono fun e w' ⟨h1, h2⟩ => ⟨_, M, h1, by rw [h2]; exact same_grow hl (Below.refl _ _), .data (.slN 1)⟩
  | some a =>
   refine (Tryz.bytes_Clone_at a l.length c (l.map fun c => (c.toNat : Int)) w (by simp) (by omega) (bytes_atP hb rfl)).mono fun e w' ⟨v', h1, h2, _, h4⟩ => ?_
   have e1 : (l.map fun c => (c.toNat : Int)).map (Value.int .u8) = Lib.byteCells l := by simp [Lib.byteCells]
   rw [e1] at h2
   obtain ⟨M', hG, hR⟩ := own_res (cs := AX.byteCells l) hl h4 h2 (by decide) (by simp [AX.byteCells, Lib.byteCells]) (byteCells_rel _)
   exact ⟨_, M', h1, hG, .data hR⟩
 unfold pBClone at h
 split at h
 · rename_i s cs
   obtain ⟨x, rfl, hx⟩ := hA.one
   have hx : Rc _ _ _ _ := hx
   cases hc : Nat.beq s 1 && decide (cs.length ≤ 1000000) with
   | true =>
    rw [hc, cond_true] at h
    rw [Bool.and_eq_true] at hc
    split at h
    · rename_i l hl1
      cases h
      obtain rfl := bytesOf_eq _ _ hl1
      have hs := Nat.eq_of_beq_eq_true hc.1
      subst hs
      exact key l x (by have := of_decide_eq_true hc.2; simpa [AX.byteCells] using this) hx.dataSl
    · cases h
   | false =>
    rw [hc, cond_false] at h
    obtain ⟨h0, rfl⟩ := bif_some h
    have h0 : cs = [] := List.eq_nil_of_length_eq_zero (Nat.eq_of_beq_eq_true h0)
    subst h0
    have hd : Rd M w x (.sl none s []) := hx.dataSl
    refine key [] x (by simp) ?_
    show Rd M w x (.sl none 1 [])
    cases hd with
    | slN => exact .slN 1
    | sl0 a cap => exact .sl0 a cap 1 (by decide)
    | sl b off len cap sz f cs h1 h2 h3 h4 h5 =>
     have : len = 0 := by
      have h2 : 0 = len * s := by simpa using h2
      rcases Nat.mul_eq_zero.1 h2.symm with h | h <;> omega
     subst this
     exact .sl0 _ cap 1 (by decide)
 · cases h
theorem pHasPrefix_ok : PrimOk Tryz.prog 144 pHasPrefix := by
 refine ⟨fun args v h M w vals hI hl hA => ?_, ⟨Tryz.f144, by kernel_rfl, by kernel_rfl, of_decide_eq_true (by kernel_rfl)⟩⟩
 unfold pHasPrefix at h
 split at h
 · rename_i l p
   cases h
   obtain ⟨x, y, rfl, hx, hy⟩ := hA.two
   obtain rfl := Rc.str_inv hx
   obtain rfl := Rc.str_inv hy
   refine (Tryz.strings_HasPrefix ⟨l.toArray⟩ ⟨p.toArray⟩ w).mono fun e w' ⟨h1, h2⟩ => ⟨_, M, h1, by rw [h2]; exact same_grow hl (Below.refl _ _), ?_⟩
   have e1 : Lib.hasPrefix (⟨l.toArray⟩ : ByteArray).data.toList (⟨p.toArray⟩ : ByteArray).data.toList = p.isPrefixOf l := by simp [Lib.hasPrefix]
   rw [e1]
   exact .data (.bool _)
 · cases h
theorem pIndexByte_ok : PrimOk Tryz.prog 193 pIndexByte := by
 refine ⟨fun args v h M w vals hI hl hA => ?_, ⟨Tryz.f193, by kernel_rfl, by kernel_rfl, of_decide_eq_true (by kernel_rfl)⟩⟩
 unfold pIndexByte at h
 split at h
 · rename_i l c
   obtain ⟨_, rfl⟩ := bif_some h
   obtain ⟨x, y, rfl, hx, hy⟩ := hA.two
   obtain rfl := Rc.str_inv hx
   obtain rfl := Rc.int_inv hy
   refine (Tryz.strings_IndexByte ⟨l.toArray⟩ c w).mono fun e w' ⟨h1, h2⟩ => ⟨_, M, h1, by rw [h2]; exact same_grow hl (Below.refl _ _), ?_⟩
   have e1 : Lib.indexByte (⟨l.toArray⟩ : ByteArray).data.toList c.toNat.toUInt8 = Lib.indexByte l (UInt8.ofNat c.toNat) := by simp
   rw [e1]
   exact .data (.int _ _)
 · cases h
end AX
end Go.Proofs.YtnkppakkeobegaaGreatDoor
