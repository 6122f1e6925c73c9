/-
  RefText, CmPrim2.
-/
import Derived.Test.YtfbicbgdfcbhpaaGreatDoorCt30
import Derived.Test.YtfbicbgdfcbhpaaGreatDoorCt25
import Derived.Test.YtfbicbgdfcbhpaaGreatDoorCt23
import Derived.Test.YtfbicbgdfcbhpaaGreatDoorCt20
import Derived.Test.YtfbicbgdfcbhpaaGreatDoorCt29
import Derived.Test.YtfbicbgdfcbhpaaGreatDoorCt24
set_option maxRecDepth 20000
set_option linter.unusedVariables false
set_option linter.unusedSimpArgs false
set_option linter.unusedSectionVars false
namespace Go.Proofs.YtfbicbgdfcbhpaaGreatDoor
open Go.ChangeShapes Go.WideShapes Go.ChangeAt Go.RowKit
theorem esc_two (L : List UInt8) (s : ByteArray) (k : Nat) (h : k < s.size) : (⟨L.toArray⟩ : ByteArray) ++ ⟨#[92]⟩ ++ s.extract k (k + 1) = ⟨(L ++ [92, s[k]]).toArray⟩ := by
 have e : (⟨L.toArray⟩ : ByteArray) ++ ⟨#[92]⟩ = ⟨(L ++ [92]).toArray⟩ := by apply ByteArray.ext; simp
 rw [e, str_snoc _ _ _ h]
 simp
def RelRT (x : ByteArray) (k : Nat) (v : Value) : Prop := v = .string ⟨(34 :: escL (x.data.toList.take k)).toArray⟩
set_option maxHeartbeats 4000000 in
theorem rtext_calls (x y : ByteArray) (hx : x.size ≤ 100000000000) (hy : y.size ≤ 100000000000) (w : World) : Calls Tryz.prog 78 #[.agg #[.string x, .string y]] w fun r w' => r = .returned (.tuple #[.string (textS x y), .int .i64 (textE x y)]) ∧ Below w.heap.size w w' := by
 have hlen : x.data.toList.length = x.size := by simp
 have hg := rgood_calls x y (by omega) (by omega)
 have hat := ratoms_calls x (by omega)
 generalize hT : textS x y = T
 unfold textE
 unfold textS at hT
 cases hb : goodB x y
 · rw [hb] at hg hT
   replace hg := Lib.hid hg
   replace hT : Hid (⟨#[]⟩ = T) := hT
   clear hb
   go_enter Tryz.func78, Tryz.ntmps78
   go_wp2_with (go_at_call 111; ((refine (hg.out _).mono ?_); rintro r w1 ⟨rfl, hb⟩; obtain ⟨b1, b1d, rfl⟩ := of_below hb; clear hb))
   go_returns
   exact ⟨by rw [← hT.out]; rfl, by (repeat' (first | (with_reducible exact Below.refl _ _) | (with_reducible refine Below.app ?_ ?_ _ _) | (with_reducible refine Below.alloc ?_ ?_ _) | (with_reducible refine Below.drew ?_) | (with_reducible refine Below.setCell ?_ ?_ _) | (with_reducible assumption) | omega | (simp; omega) | (simp; done)))⟩
 · rw [hb] at hg hT
   rw [if_pos rfl] at hT
   replace hg := Lib.hid hg
   have hlaw := ratoms_law x.data.toList
   rw [hlen] at hlaw
   unfold writtenS at hT
   cases ha : ratomsB x.data.toList
   · rw [if_neg (fun h => by have := hlaw.1 h; rw [ha] at this; cases this)] at hT
     rw [ha] at hat
     replace hat := Lib.hid hat
     replace hT := Lib.hid hT
     clear hb ha hlaw
     go_enter Tryz.func78, Tryz.ntmps78
     go_wp2_with first
      | (go_at_call 111; ((refine (hg.out _).mono ?_); rintro r w1 ⟨rfl, hb⟩; obtain ⟨b1, b1d, rfl⟩ := of_below hb; clear hb))
      | (go_at_call 112; ((refine (hat.out _).mono ?_); rintro r w1 ⟨rfl, hb⟩; obtain ⟨b2, b2d, rfl⟩ := of_below hb; clear hb))
     go_loop [4, 5] (fun v i => ∃ k : Nat, k ≤ x.size ∧ i = .int .i64 k ∧ RelRT x k v) (fun _ i => x.size - (intOf i).toNat)
     case atStart => exact ⟨0, by omega, rfl, rfl⟩
     case round =>
      obtain ⟨k, hk, rfl, hv⟩ := hrel
      unfold RelRT at hv
      subst hv
      have hle := escL_len (x.data.toList.take k)
      rw [List.length_take] at hle
      have hsz : (⟨(34 :: escL (x.data.toList.take k)).toArray⟩ : ByteArray).size ≤ 1000000000000 := by
       show (34 :: escL (x.data.toList.take k)).toArray.size ≤ _; simp; omega
      have hle2 : (escL (x.data.toList.take k)).length ≤ 200000000000 := by omega
      clear hle
      by_cases hlt : k < x.size
      · have hts := Lib.hid (take_esc hlt)
        by_cases hsp : x[k] = 34 ∨ x[k] = 92
        · have hb : ((x[k].toNat : Int) == 34) = true ∨ ((x[k].toNat : Int) == 34) = false ∧ ((x[k].toNat : Int) == 92) = true := by
           by_cases h34 : x[k] = 34
           · left; rw [h34]; rfl
           · right
             rcases hsp with h | h
             · exact absurd h h34
             · rw [h]; exact ⟨rfl, rfl⟩
          have he := Lib.hid (esc_two (34 :: escL (x.data.toList.take k)) x k hlt)
          replace hsp := Lib.hid hsp
          rcases hb with hb | ⟨hb, hb2⟩
          all_goals
           go_wp2
           go_round
           case rel => exact ⟨k + 1, by omega, by go_num, by unfold RelRT; rw [hts.out, if_pos hsp.out]; exact congrArg Value.string he.out⟩
           case measure => first | (simp [intOf]; done) | (simp [intOf]; omega)
        · have hb : ((x[k].toNat : Int) == 34) = false := by
           have : ¬ x[k] = 34 := fun h => hsp (.inl h)
           rw [u8_int] at this; simpa using this
          have hb2 : ((x[k].toNat : Int) == 92) = false := by
           have : ¬ x[k] = 92 := fun h => hsp (.inr h)
           rw [u8_int] at this; simpa using this
          have he := Lib.hid (str_snoc (34 :: escL (x.data.toList.take k)) x k hlt)
          replace hsp := Lib.hid hsp
          go_wp2
          go_round
          case rel => exact ⟨k + 1, by omega, by go_num, by unfold RelRT; rw [hts.out, if_neg hsp.out]; exact congrArg Value.string he.out⟩
          case measure => first | (simp [intOf]; done) | (simp [intOf]; omega)
      · have hke : k = x.size := by omega
        subst hke
        have htk : x.data.toList.take x.size = x.data.toList := List.take_of_length_le (by omega)
        rw [htk] at hsz ⊢
        clear htk hle2
        have he : Hid ((⟨(34 :: escL x.data.toList).toArray⟩ : ByteArray) ++ ⟨#[34, 64]⟩ ++ y = T) := by
         unfold Hid
         rw [← hT.out]
         apply ByteArray.ext
         simp
        generalize (⟨(34 :: escL x.data.toList).toArray⟩ : ByteArray) = U at hsz he ⊢
        go_wp2
        go_returns
        exact ⟨by rw [← he.out]; rfl, by (repeat' (first | (with_reducible exact Below.refl _ _) | (with_reducible refine Below.app ?_ ?_ _ _) | (with_reducible refine Below.alloc ?_ ?_ _) | (with_reducible refine Below.drew ?_) | (with_reducible refine Below.setCell ?_ ?_ _) | (with_reducible assumption) | omega | (simp; omega) | (simp; done)))⟩
   · rw [if_pos (hlaw.2 ha)] at hT
     rw [ha] at hat
     replace hat := Lib.hid hat
     replace hT := Lib.hid hT
     clear hb ha hlaw
     go_enter Tryz.func78, Tryz.ntmps78
     go_wp2_with first
      | (go_at_call 111; ((refine (hg.out _).mono ?_); rintro r w1 ⟨rfl, hb⟩; obtain ⟨b1, b1d, rfl⟩ := of_below hb; clear hb))
      | (go_at_call 112; ((refine (hat.out _).mono ?_); rintro r w1 ⟨rfl, hb⟩; obtain ⟨b2, b2d, rfl⟩ := of_below hb; clear hb))
     go_returns
     exact ⟨by rw [← hT.out]; rfl, by (repeat' (first | (with_reducible exact Below.refl _ _) | (with_reducible refine Below.app ?_ ?_ _ _) | (with_reducible refine Below.alloc ?_ ?_ _) | (with_reducible refine Below.drew ?_) | (with_reducible refine Below.setCell ?_ ?_ _) | (with_reducible assumption) | omega | (simp; omega) | (simp; done)))⟩
set_option maxHeartbeats 4000000 in
theorem rpath_calls (x y : ByteArray) (hx : x.size ≤ 100000000000) (hy : y.size ≤ 100000000000) (w : World) : Calls Tryz.prog 48 #[.agg #[.string x, .string y]] w fun r w' => r = .returned (.tuple #[.string (pathS x y), .int .i64 (pathE x y)]) ∧ Below w.heap.size w w' := by
 have ht := rtext_calls x y hx hy
 unfold pathS pathE
 unfold textE at ht
 by_cases h1 : x.toList = []
 · by_cases h2 : y.toList = []
   · rw [if_pos ⟨h1, h2⟩, if_pos ⟨h1, h2⟩]
     clear ht
     go_enter Tryz.func48, Tryz.ntmps48
     go_wp2
     go_returns
     exact ⟨rfl, by (repeat' (first | (with_reducible exact Below.refl _ _) | (with_reducible refine Below.app ?_ ?_ _ _) | (with_reducible refine Below.alloc ?_ ?_ _) | (with_reducible refine Below.drew ?_) | (with_reducible refine Below.setCell ?_ ?_ _) | (with_reducible assumption) | omega | (simp; omega) | (simp; done)))⟩
   · have hn : ¬ (x.toList = [] ∧ y.toList = []) := fun h => h2 h.2
     have h2' : (y.toList == []) = false := by simpa using h2
     have h2'' : y.toList.isEmpty = false := by simpa using h2
     rw [if_neg hn, if_neg hn]
     clear hn
     cases hb : goodB x y
     · rw [hb] at ht
       have hts : textS x y = ⟨#[]⟩ := by unfold textS; rw [hb]; rfl
       rw [hts] at ht
       unfold textE
       rw [hb]
       replace ht := Lib.hid ht
       clear hb hts
       go_enter Tryz.func48, Tryz.ntmps48
       go_wp2_with (go_at_call 78; ((refine (ht.out _).mono ?_); rintro r w1 ⟨rfl, hb⟩; obtain ⟨b1, b1d, rfl⟩ := of_below hb; clear hb))
       all_goals (go_returns; exact ⟨rfl, by (repeat' (first | (with_reducible exact Below.refl _ _) | (with_reducible refine Below.app ?_ ?_ _ _) | (with_reducible refine Below.alloc ?_ ?_ _) | (with_reducible refine Below.drew ?_) | (with_reducible refine Below.setCell ?_ ?_ _) | (with_reducible assumption) | omega | (simp; omega) | (simp; done)))⟩)
     · have hsz := textS_size x y
       have hsz2 : (textS x y).size ≤ 130000000000000 := by omega
       rw [hb] at ht
       unfold textE
       rw [hb]
       clear hb hsz
       generalize textS x y = u at *
       replace ht := Lib.hid ht
       go_enter Tryz.func48, Tryz.ntmps48
       go_wp2_with (go_at_call 78; ((refine (ht.out _).mono ?_); rintro r w1 ⟨rfl, hb⟩; obtain ⟨b1, b1d, rfl⟩ := of_below hb; clear hb))
       all_goals (go_returns; exact ⟨rfl, by (repeat' (first | (with_reducible exact Below.refl _ _) | (with_reducible refine Below.app ?_ ?_ _ _) | (with_reducible refine Below.alloc ?_ ?_ _) | (with_reducible refine Below.drew ?_) | (with_reducible refine Below.setCell ?_ ?_ _) | (with_reducible assumption) | omega | (simp; omega) | (simp; done)))⟩)
 · have hn : ¬ (x.toList = [] ∧ y.toList = []) := fun h => h1 h.1
   have h1' : (x.toList == []) = false := by simpa using h1
   have h1'' : x.toList.isEmpty = false := by simpa using h1
   rw [if_neg hn, if_neg hn]
   clear hn
   cases hb : goodB x y
   · rw [hb] at ht
     have hts : textS x y = ⟨#[]⟩ := by unfold textS; rw [hb]; rfl
     rw [hts] at ht
     unfold textE
     rw [hb]
     replace ht := Lib.hid ht
     clear hb hts
     go_enter Tryz.func48, Tryz.ntmps48
     go_wp2_with (go_at_call 78; ((refine (ht.out _).mono ?_); rintro r w1 ⟨rfl, hb⟩; obtain ⟨b1, b1d, rfl⟩ := of_below hb; clear hb))
     all_goals (go_returns; exact ⟨rfl, by (repeat' (first | (with_reducible exact Below.refl _ _) | (with_reducible refine Below.app ?_ ?_ _ _) | (with_reducible refine Below.alloc ?_ ?_ _) | (with_reducible refine Below.drew ?_) | (with_reducible refine Below.setCell ?_ ?_ _) | (with_reducible assumption) | omega | (simp; omega) | (simp; done)))⟩)
   · have hsz := textS_size x y
     have hsz2 : (textS x y).size ≤ 130000000000000 := by omega
     rw [hb] at ht
     unfold textE
     rw [hb]
     clear hb hsz
     generalize textS x y = u at *
     replace ht := Lib.hid ht
     go_enter Tryz.func48, Tryz.ntmps48
     go_wp2_with (go_at_call 78; ((refine (ht.out _).mono ?_); rintro r w1 ⟨rfl, hb⟩; obtain ⟨b1, b1d, rfl⟩ := of_below hb; clear hb))
     all_goals (go_returns; exact ⟨rfl, by (repeat' (first | (with_reducible exact Below.refl _ _) | (with_reducible refine Below.app ?_ ?_ _ _) | (with_reducible refine Below.alloc ?_ ?_ _) | (with_reducible refine Below.drew ?_) | (with_reducible refine Below.setCell ?_ ?_ _) | (with_reducible assumption) | omega | (simp; omega) | (simp; done)))⟩)
end Go.Proofs.YtfbicbgdfcbhpaaGreatDoor
set_option maxRecDepth 20000
set_option linter.unusedVariables false
set_option linter.unusedSimpArgs false
set_option linter.unusedSectionVars false
namespace Go.Proofs.YtfbicbgdfcbhpaaGreatDoor
open Go.ChangeShapes Go.WideShapes Go.ChangeAt Go.RowKit
namespace AX
theorem agg_two {g : Gh} {w : World} {v : Value} {a b : Cell} (h : Rv g w v (.agg [a, b])) : ∃ x y, v = .agg #[x, y] ∧ Rc g w x a ∧ Rc g w y b := by
 obtain ⟨vs, rfl, h1, h2⟩ := h
 obtain ⟨l⟩ := vs
 match l, h1 with
 | [x, y], _ => exact ⟨x, y, rfl, h2 0 x a rfl rfl, h2 1 y b rfl rfl⟩
def apathS (x y : List UInt8) : List UInt8 := (pathS (baOf x) (baOf y)).data.toList
def apathE (x y : List UInt8) : Int := pathE (baOf x) (baOf y)
def pAPath : List AV → Option AV
 | [.agg [.str x, .str y]] => bif decide (x.length ≤ 100000000) && decide (y.length ≤ 100000000) then some (.tup [.one (.str (apathS x y)), .one (.int .i64 (apathE x y))]) else none
 | _ => none
theorem pAPath_ok : PrimOk Tryz.prog 46 pAPath := by
 refine ⟨fun args v h M w vals hI hl hA => ?_, ⟨Tryz.f46, by kernel_rfl, by kernel_rfl, of_decide_eq_true (by kernel_rfl)⟩⟩
 unfold pAPath at h
 split at h
 · rename_i x y
   obtain ⟨hd, rfl⟩ := bif_some h
   rw [Bool.and_eq_true, decide_eq_true_eq, decide_eq_true_eq] at hd
   obtain ⟨u, rfl, hu⟩ := hA.one
   obtain ⟨a, b, rfl, ha, hb⟩ := agg_two hu
   obtain rfl := Rc.str_inv ha
   obtain rfl := Rc.str_inv hb
   have s1 := baOf_size x
   have s2 := baOf_size y
   exact (path_calls (baOf x) (baOf y) (by omega) (by omega) w).mono fun e w' ⟨h1, h2⟩ => ⟨_, M, h1, same_grow hl h2, two_rv (.data (.str _)) (.data (.int _ _))⟩
 · cases h
def pRPath : List AV → Option AV := pAPath
theorem pRPath_ok : PrimOk Tryz.prog 48 pRPath := by
 refine ⟨fun args v h M w vals hI hl hA => ?_, ⟨Tryz.f48, by kernel_rfl, by kernel_rfl, of_decide_eq_true (by kernel_rfl)⟩⟩
 unfold pRPath pAPath at h
 split at h
 · rename_i x y
   obtain ⟨hd, rfl⟩ := bif_some h
   rw [Bool.and_eq_true, decide_eq_true_eq, decide_eq_true_eq] at hd
   obtain ⟨u, rfl, hu⟩ := hA.one
   obtain ⟨a, b, rfl, ha, hb⟩ := agg_two hu
   obtain rfl := Rc.str_inv ha
   obtain rfl := Rc.str_inv hb
   have s1 := baOf_size x
   have s2 := baOf_size y
   exact (rpath_calls (baOf x) (baOf y) (by omega) (by omega) w).mono fun e w' ⟨h1, h2⟩ => ⟨_, M, h1, same_grow hl h2, two_rv (.data (.str _)) (.data (.int _ _))⟩
 · cases h
def pRDomain : List AV → Option AV := pADomain
theorem pRDomain_ok : PrimOk Tryz.prog 39 pRDomain := by
 refine ⟨fun args v h M w vals hI hl hA => ?_, ⟨Tryz.f39, by kernel_rfl, by kernel_rfl, of_decide_eq_true (by kernel_rfl)⟩⟩
 unfold pRDomain pADomain at h
 split at h
 · rename_i l
   obtain ⟨hd, rfl⟩ := bif_some h
   have hd := of_decide_eq_true hd
   obtain ⟨u, rfl, hu⟩ := hA.one
   obtain rfl := Rc.str_inv hu
   have hsz := baOf_size l
   refine (rdomain_calls (baOf l) (by omega) w).mono fun e w' ⟨h1, h2⟩ => ⟨_, M, h1, same_grow hl h2, ?_⟩
   rw [baOf_list, ← domain_law]
   exact .data (.bool _)
 · cases h
def pRRead : List AV → Option AV
 | [.one (.str l), .one (.bool null)] => bif decide (l.length ≤ 100000000) then some (.agg [.str (areadV l null).1, .str (areadV l null).2.1, .int .i64 (areadV l null).2.2.1, .int .i64 (areadV l null).2.2.2]) else none
 | _ => none
theorem pRRead_ok : PrimOk Tryz.prog 74 pRRead := by
 refine ⟨fun args v h M w vals hI hl hA => ?_, ⟨Tryz.f74, by kernel_rfl, by kernel_rfl, of_decide_eq_true (by kernel_rfl)⟩⟩
 unfold pRRead at h
 split at h
 · rename_i l null
   obtain ⟨hd, rfl⟩ := bif_some h
   have hd := of_decide_eq_true hd
   obtain ⟨x, y, rfl, hx, hy⟩ := hA.two
   obtain rfl := Rc.str_inv hx
   obtain rfl := Rc.bool_inv hy
   have hsz := baOf_size l
   refine (rread_calls (baOf l) null (by omega) w).mono fun e w' h1 => ?_
   unfold GotIs at h1
   obtain ⟨h1, h2⟩ := h1
   refine ⟨_, M, h1, same_grow hl h2, ⟨_, rfl, rfl, fun i u c hu hc => ?_⟩⟩
   match i, hu, hc with
   | 0, hu, hc => cases hu; cases hc; exact .data (.str _)
   | 1, hu, hc => cases hu; cases hc; exact .data (.str _)
   | 2, hu, hc => cases hu; cases hc; exact .data (.int _ _)
   | 3, hu, hc => cases hu; cases hc; exact .data (.int _ _)
   | n + 4, hu, _ => simp at hu
 · cases h
end AX
end Go.Proofs.YtfbicbgdfcbhpaaGreatDoor
