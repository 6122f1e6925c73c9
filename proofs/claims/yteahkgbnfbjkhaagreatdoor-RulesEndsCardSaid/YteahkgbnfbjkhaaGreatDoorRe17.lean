/-
  DsnAny, DsnAny2, DsnAny3, BytesOf.
-/
import Derived.Test.YteahkgbnfbjkhaaGreatDoorRe16
import Derived.Lib.AsciiSet
import Derived.Lib.Bytealg
import Derived.Laws.ResultCell
import Derived.Deep.WholeRow
import Derived.Shelf.Strings.AsciiSet
import Derived.Test.YteahkgbnfbjkhaaGreatDoorProg
import Derived.Test.YteahkgbnfbjkhaaGreatDoorRe00
import Derived.Lib.ConvBytes
import Derived.Laws.IdiomStrings
import Derived.OwnWalk
set_option maxRecDepth 20000
set_option linter.unusedVariables false
set_option linter.unusedSimpArgs false
set_option linter.unusedSectionVars false
namespace Go.Proofs.YteahkgbnfbjkhaaGreatDoor
open Go.ChangeShapes Go.WideShapes Go.ChangeAt Go.RowKit
theorem infoSet : (Tryz.prog.info? 225).map (·.size) = some 256 := by kernel_rfl
set_option maxHeartbeats 4000000 in
theorem set_calls (w : World) : Calls Tryz.prog 228 #[.string ⟨#[13, 10]⟩] w fun e w' => e = .returned (.tuple #[.agg (Lib.setCells [13, 10]), .bool true]) ∧ w' = w.alloc (.cells (Lib.setCells [13, 10]) 225) := by
 have hz : Tryz.zeroCells225 = Lib.setCells [] := by rw [Lib.setCells_nil]; kernel_rfl
 go_enter Tryz.func228, Tryz.ntmps228
 go_wp2
 clear hz
 go_loopw [4] (fun s4 wx => ∃ i : Nat, i ≤ 2 ∧ s4 = .int .i64 i ∧ wx = w.alloc (.cells (Lib.setCells (([13, 10] : List UInt8).take i)) 225)) (fun s4 _ => 2 - (intOf s4).toNat)
 case atStart => exact ⟨0, by omega, rfl, rfl⟩
 case round =>
  obtain ⟨i, hi, rfl, rfl⟩ := hrel
  have hsz := fun l => Lib.setCells_size l
  match i, hi with
  | 0, _ =>
   have hcell := Lib.setCells_at [] 13
   go_wp2
   all_goals go_roundw
   case measure => simp [intOf]
   case rel => exact ⟨1, by omega, by go_num, by simp [Lib.setCells]; rfl⟩
  | 1, _ =>
   have hcell := Lib.setCells_at [13] 10
   go_wp2
   all_goals go_roundw
   case measure => simp [intOf]
   case rel => exact ⟨2, by omega, by go_num, by simp [Lib.setCells]; rfl⟩
  | 2, _ =>
   have hld := run_loadVar_new (P := Tryz.prog) w 225 (Lib.setCells [13, 10]) 256 4 Tryz.underlying225 (by rw [Lib.setCells_size]; exact infoSet)
   have hlc := run_loadCellsFrom_new (P := Tryz.prog) w 225 (Lib.setCells [13, 10]) 256 (hsz _)
   have hsc := run_storeCells_new (P := Tryz.prog) w 225 (Lib.setCells [13, 10]) (Lib.setCells [13, 10]) (by rw [hsz]; exact infoSet) rfl (Lib.setCells_one _)
   have hl2 : (Instr.loadAt 225 (.pointer (some ⟨w.heap.size, 0, none⟩))).run Tryz.prog (w.alloc (.cells (Lib.setCells [13, 10]) 225)) = .ok (.agg (Lib.setCells [13, 10])) (w.alloc (.cells (Lib.setCells [13, 10]) 225)) := hld
   go_wp2
   unfold Oper.wp execOp
   simp only []
   show Oper.upon _ _ _ _ _ (Sem.run _ (do let v ← Instr.loadAt 225 (.pointer (some ⟨w.heap.size, 0, none⟩)); pure (Next.value v)) _)
   rw [Sem.run_bind, hl2, Result.andThen_ok, Sem.run_pure, Oper.upon_value]
   go_wp2
   refine bodyPost_ret (v := .tuple #[.agg (Lib.setCells [13, 10]), .bool true]) ?_ rfl ⟨rfl, rfl⟩
   rw [results_cell_tmp rfl]
   simp [asAddr, Result.andThen, hld]
def anyC (l : List UInt8) : Bool := l.any fun c => c == 13 || c == 10
theorem has_calls (b : Nat) (x : UInt8) (v : Bool) (w : World) (hc : w.cell? ⟨b, x.toNat, none⟩ = some (.bool v)) :
 Calls Tryz.prog 229 #[.pointer (some ⟨b, 0, none⟩), .int .u8 x.toNat] w fun e w' => e = .returned (.bool v) ∧ w' = w := by
 have hx := x.toNat_lt
 have hx256 : (x.toNat : Int) < 256 := by omega
 go_enter Tryz.func229, Tryz.ntmps229
 go_wp2
 go_returns
 exact ⟨rfl, rfl⟩
theorem use_calls (n : Nat) (w : World) : Calls Tryz.prog 227 #[.int .i64 n] w fun e w' => e = .returned (.bool (decide (8 < n))) ∧ w' = w := by
 by_cases h : 8 < n
 · have hi : (8 : Int) < n := by omega
   rw [decide_eq_true h]
   go_enter Tryz.func227, Tryz.ntmps227
   go_wp2
   go_returns
   exact ⟨rfl, rfl⟩
 · have hi : ¬ (8 : Int) < n := by omega
   rw [decide_eq_false h]
   go_enter Tryz.func227, Tryz.ntmps227
   go_wp2
   go_returns
   exact ⟨rfl, rfl⟩
end Go.Proofs.YteahkgbnfbjkhaaGreatDoor
set_option maxRecDepth 20000
set_option linter.unusedVariables false
set_option linter.unusedSimpArgs false
set_option linter.unusedSectionVars false
namespace Go.Proofs.YteahkgbnfbjkhaaGreatDoor
open Go.ChangeShapes Go.WideShapes Go.ChangeAt Go.RowKit
theorem crlf_at (c : UInt8) : Lib.indexByte [13, 10] c = if c = 13 then 0 else if c = 10 then 1 else -1 := by
 by_cases h : c = 13
 · subst h; rfl
 · by_cases h2 : c = 10
   · subst h2; rfl
   · have e1 : ((13 : UInt8) == c) = false := by rw [beq_eq_false_iff_ne]; exact fun e => h e.symm
     have e2 : ((10 : UInt8) == c) = false := by rw [beq_eq_false_iff_ne]; exact fun e => h2 e.symm
     rw [if_neg h, if_neg h2]
     simp [Lib.indexByte, e1, e2]
theorem ibs_run (c : UInt8) (W : World) : (callFunc 225 #[.string ⟨#[13, 10]⟩, .int .u8 (c.toNat : Int)]).run Tryz.prog W = .ok (.value (.int .i64 (Lib.indexByte [13, 10] c))) W := by
 rw [run_callFunc_extern (e := Extern.BytealgIndexByte.indexByte) Tryz.func225 (by kernel_rfl) (by kernel_rfl) (by kernel_rfl) (by kernel_rfl), Lib.run_indexByteString]
 have e : (c.toNat : Int).toNat.toUInt8 = c := by simp
 rw [e]; rfl
def AnyPost (l : List UInt8) (w : World) (e : Ending) (w' : World) : Prop := ∃ k : Int, e = .returned (.int .i64 k) ∧ decide (0 ≤ k) = anyC l ∧ Below w.heap.size w w'
theorem indexAny_one {w : World} {q : Option Addr} {cap : Nat} {l : List UInt8} (hb : BytesAt w q cap l) (h1 : l.length = 1) (ha : ∀ c ∈ l, c.toNat < 128) :
 Calls Tryz.prog 192 #[.slice q l.length cap, .string ⟨#[13, 10]⟩] w (AnyPost l w) := by
 match l, h1 with
 | [c], _ =>
  obtain ⟨bb, off, rfl, h2, h3⟩ := hb.cell (by simp)
  have hc := h3 0 (by simp)
  simp only [List.getElem_cons_zero, Nat.add_zero] at hc
  have hc128 := ha c (by simp)
  have hci : ¬ (128 : Int) ≤ (c.toNat : Int) := by omega
  have hpost : ∀ r w', AnyPost [c] w r w' → AnyPost [c] w r w' := fun _ _ h => h
  have hib := ibs_run c
  have hat := crlf_at c
  clear ha h3 hb
  have ha : anyC [c] = (c == 13 || c == 10) := by simp [anyC]
  rcases Decidable.em (c = 13) with e | e
  · rw [if_pos e] at hat
    simp only [hat] at hib
    replace e := Lib.hid e
    go_enter Tryz.func192, Tryz.ntmps192
    go_wp2
    go_returns
    exact ⟨_, rfl, by rw [ha, e.out]; rfl, Below.refl _ _⟩
  · rw [if_neg e] at hat
    rcases Decidable.em (c = 10) with e2 | e2
    · rw [if_pos e2] at hat
      simp only [hat] at hib
      replace e2 := Lib.hid e2
      go_enter Tryz.func192, Tryz.ntmps192
      go_wp2
      go_returns
      exact ⟨_, rfl, by rw [ha, e2.out]; rfl, Below.refl _ _⟩
    · rw [if_neg e2] at hat
      simp only [hat] at hib
      go_enter Tryz.func192, Tryz.ntmps192
      go_wp2
      go_returns
      exact ⟨_, rfl, by rw [ha]; simp [e, e2], Below.refl _ _⟩
theorem anyC_take {l : List UInt8} {k : Nat} (hk : k < l.length) : anyC (l.take (k + 1)) = (anyC (l.take k) || (l[k] == 13 || l[k] == 10)) := by
 unfold anyC
 rw [List.take_succ_eq_append_getElem hk, List.any_append]
 simp only [List.any_cons, List.any_nil, Bool.or_false]
theorem anyC_mono {l : List UInt8} {k : Nat} (h : anyC (l.take k) = true) : anyC l = true := by
 rw [anyC, List.any_eq_true] at h ⊢
 obtain ⟨x, h1, h2⟩ := h
 exact ⟨x, List.mem_of_mem_take h1, h2⟩
theorem indexAny_few {w : World} {q : Option Addr} {cap : Nat} {l : List UInt8} (hb : BytesAt w q cap l) (h1 : l.length ≠ 1) (h8 : l.length ≤ 8) (ha : ∀ c ∈ l, c.toNat < 128) :
 Calls Tryz.prog 192 #[.slice q l.length cap, .string ⟨#[13, 10]⟩] w (AnyPost l w) := by
 have hu := use_calls l.length w
 rw [show decide (8 < l.length) = false by simp; omega] at hu
 replace hu := Lib.hid hu
 have h1i : ¬ (l.length : Int) = 1 := by omega
 have hcap := hb.cap
 replace hb := Lib.hid hb
 replace ha := Lib.hid ha
 go_enter Tryz.func192, Tryz.ntmps192
 go_wp2_with (go_at_call 227; ((refine hu.out.mono ?_); rintro r w1 ⟨rfl, rfl⟩))
 go_loop [11, 12, 13] (fun _ s12 _ => ∃ k : Nat, k ≤ l.length ∧ s12 = .int .i64 k ∧ anyC (l.take k) = false) (fun _ s12 _ => l.length - (intOf s12).toNat)
 case atStart => exact ⟨0, by omega, rfl, rfl⟩
 case round =>
  obtain ⟨k, hk, rfl, hn⟩ := hrel
  by_cases hlt : k < l.length
  · have hki : (k : Int) < (l.length : Int) := by omega
    have hne : l ≠ [] := by intro e; subst e; simp at hlt
    obtain ⟨bb, off, rfl, h2, h3⟩ := hb.out.cell hne
    have hc := h3 k hlt
    have hc128 := ha.out l[k] (List.getElem_mem hlt)
    have hci : (l[k].toNat : Int) < 128 := by omega
    have hib := ibs_run l[k]
    have hat := crlf_at l[k]
    have htk := anyC_take hlt
    rw [hn, Bool.false_or] at htk
    clear h3
    generalize l[k] = c at hc hc128 hci hib hat htk
    by_cases e : c = 13
    · rw [if_pos e] at hat
      simp only [hat] at hib
      replace e := Lib.hid e
      go_wp2
      go_returns
      exact ⟨_, rfl, by rw [anyC_mono (l := l) (k := k + 1) (by rw [htk, e.out]; rfl)]; simp, Below.refl _ _⟩
    · rw [if_neg e] at hat
      by_cases e2 : c = 10
      · rw [if_pos e2] at hat
        simp only [hat] at hib
        replace e2 := Lib.hid e2
        go_wp2
        go_returns
        exact ⟨_, rfl, by rw [anyC_mono (l := l) (k := k + 1) (by rw [htk, e2.out]; rfl)]; simp, Below.refl _ _⟩
      · rw [if_neg e2] at hat
        simp only [hat] at hib
        go_wp2
        all_goals go_round
        case measure => simp [intOf]; omega
        case rel => exact ⟨k + 1, by omega, by go_num, by rw [htk]; simp [e, e2]⟩
  · obtain rfl : k = l.length := by omega
    rw [List.take_length] at hn
    go_wp2
    go_returns
    exact ⟨_, rfl, by rw [hn]; rfl, Below.refl _ _⟩
end Go.Proofs.YteahkgbnfbjkhaaGreatDoor
set_option maxRecDepth 20000
set_option linter.unusedVariables false
set_option linter.unusedSimpArgs false
set_option linter.unusedSectionVars false
namespace Go.Proofs.YteahkgbnfbjkhaaGreatDoor
open Go.ChangeShapes Go.WideShapes Go.ChangeAt Go.RowKit
set_option maxHeartbeats 2000000 in
theorem indexAny_many {w : World} {q : Option Addr} {cap : Nat} {l : List UInt8} (hb : BytesAt w q cap l) (h8 : 8 < l.length) (hl : l.length ≤ 100000000) :
 Calls Tryz.prog 192 #[.slice q l.length cap, .string ⟨#[13, 10]⟩] w (AnyPost l w) := by
 have hu := fun W => use_calls l.length W
 simp only [decide_eq_true h8] at hu
 replace hu := Lib.hid hu
 have hset := Lib.hid (fun W => set_calls W)
 have h1i : ¬ (l.length : Int) = 1 := by omega
 have hcap := hb.cap
 have hne : l ≠ [] := by intro e; subst e; simp at h8
 have hz : Tryz.zeroCells225 = Lib.setCells [] := by rw [Lib.setCells_nil]; kernel_rfl
 have hsz := fun l => Lib.setCells_size l
 have hs1 : (w.alloc (.cells (Lib.setCells [13, 10]) 225)).heap.size = w.heap.size + 1 := by simp
 have hsc := run_storeCells_new (P := Tryz.prog) (w.alloc (.cells (Lib.setCells [13, 10]) 225)) 225 (Lib.setCells []) (Lib.setCells [13, 10]) (by rw [hsz]; exact infoSet) (by rw [hsz, hsz]) (Lib.setCells_one _)
 rw [hs1] at hsc
 have hB2 : Below w.heap.size w ((w.alloc (.cells (Lib.setCells [13, 10]) 225)).alloc (.cells (Lib.setCells [13, 10]) 225)) := ((Below.refl _ _).alloc (Nat.le_refl _) _).alloc (by rw [hs1]; omega) _
 have hb2 := hb.below hB2
 have hin : ∀ x : UInt8, ((w.alloc (.cells (Lib.setCells [13, 10]) 225)).alloc (.cells (Lib.setCells [13, 10]) 225)).cell? ⟨w.heap.size + 1, x.toNat, none⟩ = some (.bool (([13, 10] : List UInt8).contains x)) := fun x => by
  rw [← hs1, World.cell?_alloc_mark]; exact Lib.setCells_at _ x
 replace hin := Lib.hid hin
 replace hb2 := Lib.hid hb2
 replace hB2 := Lib.hid hB2
 clear hb hs1
 go_enter Tryz.func192, Tryz.ntmps192
 go_wp2_with first
  | (go_at_call 227; ((refine (hu.out _).mono ?_); rintro r w1 ⟨rfl, hw1⟩; subst hw1))
  | (go_at_call 228; ((refine (hset.out _).mono ?_); rintro r w1 ⟨rfl, hw1⟩; subst hw1))
 clear hsc hsz
 generalize (World.alloc (World.alloc _ (.cells (Lib.setCells [13, 10]) 225)) (.cells (Lib.setCells [13, 10]) 225)) = W at hin hb2 hB2 ⊢
 obtain ⟨bb, off, rfl, h2, h3⟩ := hb2.out.cell hne
 go_loop [9, 10, 62] (fun _ _ s62 => ∃ k : Nat, k ≤ l.length ∧ s62 = .int .i64 k ∧ anyC (l.take k) = false) (fun _ _ s62 => l.length - (intOf s62).toNat)
 case atStart => exact ⟨0, by omega, rfl, rfl⟩
 case round =>
  obtain ⟨k, hk, rfl, hn⟩ := hrel
  by_cases hlt : k < l.length
  · have hki : (k : Int) < (l.length : Int) := by omega
    have hc := h3 k hlt
    have htk := anyC_take hlt
    rw [hn, Bool.false_or] at htk
    have hh := fun b => has_calls b l[k] (([13, 10] : List UInt8).contains l[k]) W
    have hin2 := hin.out l[k]
    have hcon : ([13, 10] : List UInt8).contains l[k] = (l[k] == 13 || l[k] == 10) := by
     simp only [List.contains, List.elem]
     cases (l[k] == 13) <;> cases (l[k] == 10) <;> rfl
    rw [hcon, ← htk] at hh hin2
    clear h3
    generalize l[k] = c at hc htk hh hin2
    replace hh := Lib.hid (hh _ hin2)
    cases hT : anyC (l.take (k + 1)) with
    | true =>
     rw [hT] at hh
     go_wp2_with (go_at_call 229; ((refine hh.out.mono ?_); rintro r w2 ⟨rfl, hw2⟩; subst hw2))
     go_returns
     exact ⟨_, rfl, by rw [anyC_mono hT]; simp, hB2.out⟩
    | false =>
     rw [hT] at hh
     go_wp2_with (go_at_call 229; ((refine hh.out.mono ?_); rintro r w2 ⟨rfl, hw2⟩; subst hw2))
     all_goals go_round
     case measure => simp [intOf]; omega
     case rel => exact ⟨k + 1, by omega, by go_num, hT⟩
  · obtain rfl : k = l.length := by omega
    rw [List.take_length] at hn
    go_wp2
    go_returns
    exact ⟨_, rfl, by rw [hn]; rfl, hB2.out⟩
theorem indexAny_calls {w : World} {q : Option Addr} {cap : Nat} {l : List UInt8} (hb : BytesAt w q cap l) (hl : l.length ≤ 100000000) (ha : l.length ≤ 8 → ∀ c ∈ l, c.toNat < 128) :
 Calls Tryz.prog 192 #[.slice q l.length cap, .string ⟨#[13, 10]⟩] w (AnyPost l w) := by
 by_cases h8 : 8 < l.length
 · exact indexAny_many hb h8 hl
 · have ha := ha (by omega)
   by_cases h1 : l.length = 1
   · exact indexAny_one hb h1 ha
   · exact indexAny_few hb h1 (by omega) ha
theorem containsAny_calls {w : World} {q : Option Addr} {cap : Nat} {l : List UInt8} (hb : BytesAt w q cap l) (hl : l.length ≤ 100000000) (ha : l.length ≤ 8 → ∀ c ∈ l, c.toNat < 128) :
 Calls Tryz.prog 137 #[.slice q l.length cap, .string ⟨#[13, 10]⟩] w fun e w' => e = .returned (.bool (anyC l)) ∧ Below w.heap.size w w' := by
 have hr := Lib.hid (indexAny_calls hb hl ha)
 cases hT : anyC l with
 | true =>
  go_enter Tryz.func137, Tryz.ntmps137
  go_wp2_with (go_at_call 192; ((refine hr.out.mono ?_); rintro r w1 ⟨k, rfl, hk, h2⟩; rw [hT] at hk; have hk := of_decide_eq_true hk))
  go_returns
  exact ⟨rfl, h2⟩
 | false =>
  go_enter Tryz.func137, Tryz.ntmps137
  go_wp2_with (go_at_call 192; ((refine hr.out.mono ?_); rintro r w1 ⟨k, rfl, hk, h2⟩; rw [hT] at hk; have hk := of_decide_eq_false hk))
  go_returns
  exact ⟨rfl, h2⟩
end Go.Proofs.YteahkgbnfbjkhaaGreatDoor
set_option maxRecDepth 20000
set_option linter.unusedVariables false
set_option linter.unusedSimpArgs false
set_option linter.unusedSectionVars false
namespace Go.Proofs.YteahkgbnfbjkhaaGreatDoor
open Go.ChangeShapes Go.WideShapes Go.ChangeAt Go.RowKit
theorem bytes_of (w : World) (s : ByteArray) : ∃ W cap, (convert 9 29 (.string s)).run Tryz.prog w = .ok (.slice (some ⟨w.heap.size, 0, none⟩) s.size cap) W ∧
 (∀ j (h : j < s.size), W.cell? ⟨w.heap.size, j, none⟩ = some (.int .u8 (s[j].toNat : Int))) ∧ Below w.heap.size w W := by
 refine ⟨_, _, run_bytes_of_string (P := Tryz.prog) w 9 29 5 s rfl rfl rfl, fun j h => ?_, by (repeat' (first | (with_reducible exact Below.refl _ _) | (with_reducible refine Below.app ?_ ?_ _ _) | (with_reducible refine Below.alloc ?_ ?_ _) | (with_reducible refine Below.drew ?_) | (with_reducible refine Below.setCell ?_ ?_ _) | (with_reducible assumption) | omega | (simp; omega) | (simp; done)))⟩
 exact (World.cell?_alloc_mark w.drew _ _ _ j).trans (bytesRow_at s _ j h)
theorem all_drop {f : UInt8 → Bool} {l : List UInt8} {k : Nat} (h : k < l.length) : (l.drop k).all f = (f l[k] && (l.drop (k + 1)).all f) := by
 rw [List.drop_eq_getElem_cons h, List.all_cons]
theorem str_empty (s : ByteArray) : (s.data.toList == []) = s.data.toList.isEmpty := by cases s.data.toList <;> rfl
end Go.Proofs.YteahkgbnfbjkhaaGreatDoor
