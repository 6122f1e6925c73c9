/-
  BufferG, DsnLine, HeadGood, HeadGood2.
-/
import Derived.Test.YteahkgbnfbjkhaaGreatDoorRe08
import Derived.Test.YteahkgbnfbjkhaaGreatDoorRe15
import Derived.Lib.Buffer
import Derived.Test.YteahkgbnfbjkhaaGreatDoorRe29
import Derived.Test.YteahkgbnfbjkhaaGreatDoorRe30
import Derived.Test.YteahkgbnfbjkhaaGreatDoorProg
import Derived.Test.YteahkgbnfbjkhaaGreatDoorRe17
import Derived.Test.YteahkgbnfbjkhaaGreatDoorRe00
import Derived.Lib.ConvBytes
import Derived.Laws.IdiomStrings
import Derived.OwnWalk
set_option maxRecDepth 20000
set_option linter.unusedVariables false
set_option linter.unusedSimpArgs false
set_option linter.unusedSectionVars false
namespace Go.Proofs.YteahkgbnfbjkhaaGreatDoor
open Go.ChangeShapes Go.WideShapes Go.ChangeAt Go.RowKit
theorem buffer_below {T e : TypeId} {B b : Nat} {bs : List Value} {w w' : World} (h : Lib.IsBuffer T e B b bs w) (hb : Below w.heap.size w w') : Lib.IsBuffer T e B b bs w' := by
 obtain ⟨h1, v, lr, h2, h3, h4⟩ := h
 exact ⟨h1, v, lr, (hb.block b (Array.getElem?_eq_some_iff.1 h2).1).trans h2, own_below h3 hb, h4⟩
theorem one_bytes (l : List UInt8) : ∀ v ∈ Lib.byteCells l, v.oneCell' = true := fun v hv => by
 simp only [Lib.byteCells, List.mem_map] at hv
 obtain ⟨c, _, rfl⟩ := hv; rfl
theorem bytesCells_len (l : List UInt8) : (Lib.byteCells l).length = l.length := by simp [Lib.byteCells]
theorem bytesCells_app (a b : List UInt8) : Lib.byteCells a ++ Lib.byteCells b = Lib.byteCells (a ++ b) := by simp [Lib.byteCells]
theorem drewN_bel (n : Nat) (X : World) : Below X.heap.size X (X.drewN n) := by
 induction n with
 | zero => exact Below.refl _ _
 | succ n ih => exact ih.drew
abbrev BufAt (b : Nat) (out : List UInt8) (w : World) : Prop := Lib.IsBuffer 107 5 b b (Lib.byteCells out) w
theorem bufWrite {b : Nat} {out : List UInt8} {w : World} (h : BufAt b out w) (s : ByteArray) (hl : out.length + s.size ≤ 1000000000000) :
 Calls Tryz.prog 56 #[.pointer (some ⟨b, 0, none⟩), .string s] w fun e w' => (∃ n, e = .returned (.tuple #[.int .i64 n, .nilIface])) ∧ BufAt b (out ++ s.data.toList) w' ∧ Below b w w' := by
 have hbo := bytesCells_len out
 refine (Tryz.Buffer_WriteString b b (Lib.byteCells out) s w h (Nat.le_of_lt h.lt) (one_bytes out) (by rw [hbo]; omega)).mono fun e w' ⟨h1, h2, h3⟩ => ⟨⟨_, h1⟩, ?_, h3⟩
 rw [bytesCells_app] at h2
 exact h2
theorem bufBytes {b : Nat} {out : List UInt8} {w : World} (h : BufAt b out w) : Calls Tryz.prog 62 #[.pointer (some ⟨b, 0, none⟩)] w fun e w' => ∃ p c, e = .returned (.slice p out.length c) ∧ BytesAt w' p c out ∧ Below w.heap.size w w' := by
 refine (Tryz.Buffer_Bytes b b _ w h).mono fun e w' ⟨v, h1, h2, n, h3⟩ => ?_
 rw [bytesCells_len] at h2
 obtain ⟨p, c, rfl⟩ := own_len h2
 refine ⟨p, c, h1, own_bytesAt' h2 rfl rfl, ?_⟩
 subst h3
 exact drewN_bel _ _
end Go.Proofs.YteahkgbnfbjkhaaGreatDoor
set_option maxRecDepth 20000
set_option linter.unusedVariables false
set_option linter.unusedSimpArgs false
set_option linter.unusedSectionVars false
namespace Go.Proofs.YteahkgbnfbjkhaaGreatDoor
open Go.ChangeShapes Go.WideShapes Go.ChangeAt Go.RowKit
theorem mailbox_calls (x y : ByteArray) (hx : x.size ≤ 100000000) (hy : y.size ≤ 100000000) (w : World) : Calls Tryz.prog 58 #[.agg #[.string x, .string y]] w fun r w' => r = .returned (.string (textS x y)) ∧ Below w.heap.size w w' := by
 have ht := Lib.hid (fun W => text_calls x y (by omega) (by omega) W)
 go_enter Tryz.func58, Tryz.ntmps58
 go_wp2_with (go_at_call 126; ((with_reducible refine (ht.out _).mono ?_); rintro r w1 ⟨rfl, h1⟩; obtain ⟨b1, d1, rfl⟩ := of_below h1; clear h1))
 go_returns
 exact ⟨rfl, by (repeat' (first | (with_reducible exact Below.refl _ _) | (with_reducible refine Below.app ?_ ?_ _ _) | (with_reducible refine Below.alloc ?_ ?_ _) | (with_reducible refine Below.drew ?_) | (with_reducible refine Below.setCell ?_ ?_ _) | (with_reducible assumption) | omega | (simp; omega) | (simp; done)))⟩
theorem stampOf_calls (t : Int) (w : World) : Calls Tryz.prog 59 #[.int .i64 t] w fun r w' => r = .returned (.string (stampS t)) ∧ Below w.heap.size w w' := by
 have ht := Lib.hid (fun W => stamp11_calls t W)
 go_enter Tryz.func59, Tryz.ntmps59
 go_wp2_with (go_at_call 64; ((with_reducible refine (ht.out _).mono ?_); rintro r w1 ⟨rfl, h1⟩))
 go_returns
 exact ⟨rfl, h1⟩
def wordsL (xs : List ByteArray) : List UInt8 := (xs.map (·.data.toList)).flatten
theorem inter_nil : ∀ l : List (List UInt8), ([] : List UInt8).intercalate l = l.flatten
 | [] => rfl
 | [x] => by simp [List.intercalate]
 | x :: y :: l => by
  have := inter_nil (y :: l)
  simp only [List.intercalate] at this ⊢
  simp only [List.intersperse, List.flatten_cons, List.nil_append] at this ⊢
  rw [this]
theorem join_nil (xs : List ByteArray) : Lib.join (xs.map (·.data.toList)) [] = wordsL xs := inter_nil _
theorem line_calls {B g c : Nat} {out : List UInt8} {W : World} (h : BufAt B out W) (xs : List ByteArray) (hx : ∀ (j : Nat) x, xs[j]? = some x → W.cell? ⟨g, j, none⟩ = some (.string x)) (hg : g < W.heap.size) (hc : xs.length ≤ c) (hn : xs.length ≤ 1000)
 (hs : (wordsL xs).length ≤ 1000000000) (ho : out.length ≤ 1000000000) :
 Calls Tryz.prog 55 #[.slice (some ⟨g, 0, none⟩) xs.length c, .pointer (some ⟨B, 0, none⟩)] W fun e w' => e = .returned (.tuple #[]) ∧ BufAt B (out ++ (wordsL xs ++ [13, 10])) w' ∧ Below B W w' := by
 have hB : B < W.heap.size := h.lt
 have hj := Tryz.strings_Join g 0 c xs ⟨#[]⟩ W (fun j x hj => by rw [Nat.zero_add]; exact hx j x hj) hg (by omega) hc (by show (Lib.join (xs.map (·.data.toList)) []).length ≤ _; rw [join_nil]; omega)
 rw [show (⟨#[]⟩ : ByteArray).data.toList = [] from rfl, join_nil] at hj
 have hw := fun (W' : World) (hW : Below W.heap.size W W') => bufWrite (buffer_below h hW) (⟨(wordsL xs).toArray⟩ ++ ⟨#[13, 10]⟩) (by rw [ByteArray.size_append]; show out.length + ((wordsL xs).toArray.size + 2) ≤ _; simp; omega)
 have e : ((⟨(wordsL xs).toArray⟩ : ByteArray) ++ ⟨#[13, 10]⟩).data.toList = wordsL xs ++ [13, 10] := by simp
 rw [e] at hw
 have hz : (wordsL xs).length ≤ 1000000000 := hs
 generalize wordsL xs = L at *
 replace hj := Lib.hid hj
 replace hw := Lib.hid hw
 clear hx e
 go_enter Tryz.func55, Tryz.ntmps55
 go_wp2_with first
  | (go_at_call 57; ((with_reducible refine hj.out.mono ?_); rintro r w1 ⟨rfl, h1⟩))
  | (go_at_call 56; ((with_reducible refine (hw.out _ h1).mono ?_); rintro r w2 ⟨⟨m, rfl⟩, h2, h3⟩))
 go_end0
 exact ⟨rfl, h2, (h1.mono (Nat.le_of_lt hB)).trans h3⟩
end Go.Proofs.YteahkgbnfbjkhaaGreatDoor
set_option maxRecDepth 20000
set_option linter.unusedVariables false
set_option linter.unusedSimpArgs false
set_option linter.unusedSectionVars false
namespace Go.Proofs.YteahkgbnfbjkhaaGreatDoor
open Go.ChangeShapes Go.WideShapes Go.ChangeAt Go.RowKit
def nameC (c : UInt8) : Bool := decide (33 ≤ c.toNat ∧ c.toNat ≤ 126 ∧ c.toNat ≠ 58)
def blankC (c : UInt8) : Bool := decide (c.toNat = 32 ∨ c.toNat = 9)
def valC (c : UInt8) : Bool := decide (c.toNat = 9 ∨ (32 ≤ c.toNat ∧ c.toNat ≤ 126))
def nameB (l : List UInt8) : Bool := l.all nameC && !l.isEmpty
def headB (l : List UInt8) : Bool := match l with | [] => true | c :: _ => !blankC c
def valueB (l : List UInt8) : Bool := l.all valC && headB l
def goodF (n v : List UInt8) : Bool := nameB n && (valueB v && decide (n.length + v.length ≤ 900))
theorem blank_calls (c : UInt8) (w : World) : Calls Tryz.prog 151 #[.int .u8 (c.toNat : Int)] w fun r w' => r = .returned (.bool (blankC c)) ∧ w = w' := by
 unfold blankC
 by_cases h1 : (c.toNat : Int) == 32
 · go_enter Tryz.func151, Tryz.ntmps151
   go_wp2
   go_returns
   exact ⟨rbT (by simp at h1; omega), rfl⟩
 · have h1 : ((c.toNat : Int) == 32) = false := by simpa using h1
   by_cases h2 : (c.toNat : Int) == 9
   · go_enter Tryz.func151, Tryz.ntmps151
     go_wp2
     go_returns
     exact ⟨rbT (by simp at h2; omega), rfl⟩
   · have h2 : ((c.toNat : Int) == 9) = false := by simpa using h2
     go_enter Tryz.func151, Tryz.ntmps151
     go_wp2
     go_returns
     exact ⟨rbF (by simp at h1 h2; omega), rfl⟩
def NameAt (s : ByteArray) (R : Bool) (k : Nat) : Prop := R = ((s.data.toList.drop k).all nameC && !s.data.toList.isEmpty)
theorem NameAt.go {s : ByteArray} {R : Bool} {k : Nat} (h : NameAt s R k) (hk : k < s.size) (hc : nameC s[k] = true) : NameAt s R (k + 1) := by
 unfold NameAt at h ⊢
 have := @all_drop nameC s.data.toList k (by simpa using hk)
 rw [h, this, show s.data.toList[k]'(by simpa using hk) = s[k] from rfl, hc, Bool.true_and]
theorem NameAt.no {s : ByteArray} {R : Bool} {k : Nat} (h : NameAt s R k) (hk : k < s.size) (hc : nameC s[k] = false) : R = false := by
 unfold NameAt at h
 have := @all_drop nameC s.data.toList k (by simpa using hk)
 rw [h, this, show s.data.toList[k]'(by simpa using hk) = s[k] from rfl, hc]; rfl
theorem NameAt.done {s : ByteArray} {R : Bool} (h : NameAt s R s.size) : R = !s.data.toList.isEmpty := by
 unfold NameAt at h
 rw [h, List.drop_of_length_le (by simp)]; rfl
set_option maxHeartbeats 4000000 in
theorem isName_calls (s : ByteArray) (hs : s.size ≤ 100000000) (w : World) : Calls Tryz.prog 153 #[.string s] w fun r w' => r = .returned (.bool (nameB s.data.toList)) ∧ Below w.heap.size w w' := by
 obtain ⟨W, cap, hconv, hcell, hbel⟩ := bytes_of w s
 have hz : w.heap.size ≤ W.heap.size := hbel.size
 have hlt0 : 0 < s.size → w.heap.size < W.heap.size := fun h => World.block_lt_of_cell? W _ (hcell 0 h)
 have h0 : NameAt s (nameB s.data.toList) 0 := by unfold NameAt nameB; rfl
 generalize nameB s.data.toList = R at *
 replace h0 := Lib.hid h0
 go_enter Tryz.func153, Tryz.ntmps153
 go_wp2
 go_loop [8] (fun i => ∃ k : Nat, k ≤ s.size ∧ i = .int .i64 k ∧ Hid (NameAt s R k)) (fun i => s.size - (intOf i).toNat)
 case atStart => exact ⟨0, by omega, rfl, h0⟩
 case round =>
  obtain ⟨k, hk, rfl, hr⟩ := hrel
  clear h0
  by_cases hlt : k < s.size
  · have hce := hcell k hlt
    have hb := hlt0 (by omega)
    have hgo := hr.out.go hlt
    have hno := hr.out.no hlt
    unfold nameC at hgo hno
    clear hcell hr
    by_cases h1 : (s[k].toNat : Int) ≤ 32
    · have hR := Lib.hid (hno (decide_eq_false (by omega)))
      clear hgo hno
      go_wp2
      go_returns
      exact ⟨rb hR.out.symm, hbel⟩
    · by_cases h2 : 126 < (s[k].toNat : Int)
      · have hR := Lib.hid (hno (decide_eq_false (by omega)))
        clear hgo hno
        go_wp2
        go_returns
        exact ⟨rb hR.out.symm, hbel⟩
      · by_cases h3 : ((s[k].toNat : Int) == 58) = true
        · have hR := Lib.hid (hno (decide_eq_false (by simp at h3; omega)))
          clear hgo hno
          go_wp2
          go_returns
          exact ⟨rb hR.out.symm, hbel⟩
        · have h3 : ((s[k].toNat : Int) == 58) = false := by simpa using h3
          have hR := Lib.hid (hgo (decide_eq_true (by simp at h3; omega)))
          clear hgo hno
          go_wp2
          go_round
          case rel => exact ⟨k + 1, by omega, by go_num, hR⟩
          case measure => first | (simp [intOf]; done) | (simp [intOf]; omega)
  · have hke : k = s.size := by omega
    subst hke
    have hR := Lib.hid hr.out.done
    have hxl : Hid (s.toList = s.data.toList) := by unfold Hid; exact (ByteArray.toList_mk s.data.toList)
    clear hr hcell
    go_wp2
    go_returns
    exact ⟨rb (by rw [hxl.out]; exact hR.out.symm), hbel⟩
def ValAt (s : ByteArray) (R : Bool) (k : Nat) : Prop := R = ((s.data.toList.drop k).all valC && headB s.data.toList)
theorem ValAt.go {s : ByteArray} {R : Bool} {k : Nat} (h : ValAt s R k) (hk : k < s.size) (hc : valC s[k] = true) : ValAt s R (k + 1) := by
 unfold ValAt at h ⊢
 have := @all_drop valC s.data.toList k (by simpa using hk)
 rw [h, this, show s.data.toList[k]'(by simpa using hk) = s[k] from rfl, hc, Bool.true_and]
theorem ValAt.no {s : ByteArray} {R : Bool} {k : Nat} (h : ValAt s R k) (hk : k < s.size) (hc : valC s[k] = false) : R = false := by
 unfold ValAt at h
 have := @all_drop valC s.data.toList k (by simpa using hk)
 rw [h, this, show s.data.toList[k]'(by simpa using hk) = s[k] from rfl, hc]; rfl
theorem headB_at {s : ByteArray} (h : 0 < s.size) : headB s.data.toList = !blankC s[0] := by
 have hl : 0 < s.data.toList.length := by simpa using h
 have e : s.data.toList = s.data.toList[0] :: s.data.toList.drop 1 := by
  have := List.drop_eq_getElem_cons (l := s.data.toList) (i := 0) hl
  simpa using this
 rw [e]; rfl
theorem ValAt.done {s : ByteArray} {R : Bool} (h : ValAt s R s.size) : R = headB s.data.toList := by
 unfold ValAt at h
 rw [h, List.drop_of_length_le (by simp)]; rfl
set_option maxRecDepth 20000 in
set_option maxHeartbeats 4000000 in
theorem isValue_calls (s : ByteArray) (hs : s.size ≤ 100000000) (w : World) : Calls Tryz.prog 154 #[.string s] w fun r w' => r = .returned (.bool (valueB s.data.toList)) ∧ Below w.heap.size w w' := by
 obtain ⟨W, cap, hconv, hcell, hbel⟩ := bytes_of w s
 have hz : w.heap.size ≤ W.heap.size := hbel.size
 have hlt0 : 0 < s.size → w.heap.size < W.heap.size := fun h => World.block_lt_of_cell? W _ (hcell 0 h)
 have h0 : ValAt s (valueB s.data.toList) 0 := by unfold ValAt valueB; rfl
 generalize valueB s.data.toList = R at *
 replace h0 := Lib.hid h0
 go_enter Tryz.func154, Tryz.ntmps154
 go_wp2
 go_loop [8] (fun i => ∃ k : Nat, k ≤ s.size ∧ i = .int .i64 k ∧ Hid (ValAt s R k)) (fun i => s.size - (intOf i).toNat)
 case atStart => exact ⟨0, by omega, rfl, h0⟩
 case round =>
  obtain ⟨k, hk, rfl, hr⟩ := hrel
  clear h0
  by_cases hlt : k < s.size
  · have hce := hcell k hlt
    have hb := hlt0 (by omega)
    have hgo := hr.out.go hlt
    have hno := hr.out.no hlt
    unfold valC at hgo hno
    clear hcell hr
    by_cases h1 : (s[k].toNat : Int) < 32
    · by_cases h3 : ((s[k].toNat : Int) != 9) = true
      · have hR := Lib.hid (hno (decide_eq_false (by simp at h3; omega)))
        clear hgo hno
        go_wp2
        go_returns
        exact ⟨rb hR.out.symm, hbel⟩
      · have h3 : ((s[k].toNat : Int) != 9) = false := by simpa using h3
        have hR := Lib.hid (hgo (decide_eq_true (by simp at h3; omega)))
        clear hgo hno
        go_wp2
        go_round
        case rel => exact ⟨k + 1, by omega, by go_num, hR⟩
        case measure => first | (simp [intOf]; done) | (simp [intOf]; omega)
    · by_cases h2 : 126 < (s[k].toNat : Int)
      · have h3 : ((s[k].toNat : Int) != 9) = true := by simp; omega
        have hR := Lib.hid (hno (decide_eq_false (by omega)))
        clear hgo hno
        go_wp2
        go_returns
        exact ⟨rb hR.out.symm, hbel⟩
      · have hR := Lib.hid (hgo (decide_eq_true (by omega)))
        clear hgo hno
        go_wp2
        go_round
        case rel => exact ⟨k + 1, by omega, by go_num, hR⟩
        case measure => first | (simp [intOf]; done) | (simp [intOf]; omega)
  · have hke : k = s.size := by omega
    subst hke
    have hR := Lib.hid hr.out.done
    have hxl : Hid (s.toList = s.data.toList) := by unfold Hid; exact (ByteArray.toList_mk s.data.toList)
    clear hr hcell
    by_cases hs0 : 0 < s.size
    · have hx : (s.data.toList == []) = false := by
       rw [str_empty]
       have hsl : s.data.toList.length = s.size := by simp
       cases h : s.data.toList with
       | nil => rw [h] at hsl; simp only [List.length_nil] at hsl; omega
       | cons c r => rfl
      have hx2 : s.data.toList.isEmpty = false := by rw [← str_empty]; exact hx
      have hx3 : s.toList.isEmpty = false := by rw [hxl.out]; exact hx2
      have hR2 : Hid (R = !blankC s[0]) := by unfold Hid; rw [hR.out, headB_at hs0]
      have hbc := Lib.hid (blank_calls s[0])
      clear hR
      generalize blankC s[0] = B at *
      go_wp2_with (go_at_call 151; ((refine (hbc.out _).mono ?_); rintro _ _ ⟨rfl, rfl⟩))
      all_goals
       go_returns
       exact ⟨rb hR2.out.symm, hbel⟩
    · have hsl : s.data.toList.length = s.size := by simp
      have hx0 : s.data.toList = [] := List.eq_nil_of_length_eq_zero (by omega)
      clear hsl
      have hR2 : Hid (R = true) := by unfold Hid; rw [hR.out, hx0]; rfl
      have hx : (s.data.toList == []) = true := by rw [hx0]; rfl
      have hx2 : s.data.toList.isEmpty = true := by rw [hx0]; rfl
      have hx3 : s.toList.isEmpty = true := by rw [hxl.out]; exact hx2
      clear hR hx0
      go_wp2
      go_returns
      exact ⟨rb hR2.out.symm, hbel⟩
end Go.Proofs.YteahkgbnfbjkhaaGreatDoor
set_option maxRecDepth 20000
set_option linter.unusedVariables false
set_option linter.unusedSimpArgs false
set_option linter.unusedSectionVars false
namespace Go.Proofs.YteahkgbnfbjkhaaGreatDoor
open Go.ChangeShapes Go.WideShapes Go.ChangeAt Go.RowKit
set_option maxHeartbeats 4000000 in
theorem hgood_calls (n v : ByteArray) (hn : n.size ≤ 100000000) (hv : v.size ≤ 100000000) (w : World) : Calls Tryz.prog 127 #[.agg #[.string n, .string v]] w fun r w' => r = .returned (.bool (goodF n.data.toList v.data.toList)) ∧ Below w.heap.size w w' := by
 have h1 := isName_calls n hn
 have h2 := isValue_calls v hv
 have hnl : n.data.toList.length = n.size := by simp
 have hvl : v.data.toList.length = v.size := by simp
 have hg : Hid (goodF n.data.toList v.data.toList = (nameB n.data.toList && (valueB v.data.toList && decide ((n.size : Int) + v.size ≤ 900)))) := by
  unfold Hid goodF
  rw [hnl, hvl]
  congr 2
  rw [decide_eq_decide]; omega
 clear hnl hvl
 generalize goodF n.data.toList v.data.toList = G at *
 generalize nameB n.data.toList = A at *
 generalize valueB v.data.toList = B at *
 replace h1 := Lib.hid h1
 replace h2 := Lib.hid h2
 go_enter Tryz.func127, Tryz.ntmps127
 go_wp2_with first
  | (go_at_call 153; ((refine (h1.out _).mono ?_); rintro r w1 ⟨rfl, hb⟩; obtain ⟨b1, b1d, rfl⟩ := of_below hb; clear hb))
  | (go_at_call 154; ((refine (h2.out _).mono ?_); rintro r w1 ⟨rfl, hb⟩; obtain ⟨b2, b2d, rfl⟩ := of_below hb; clear hb))
 all_goals
  go_returns
  refine ⟨rb ?_, by (repeat' (first | (with_reducible exact Below.refl _ _) | (with_reducible refine Below.app ?_ ?_ _ _) | (with_reducible refine Below.alloc ?_ ?_ _) | (with_reducible refine Below.drew ?_) | (with_reducible refine Below.setCell ?_ ?_ _) | (with_reducible assumption) | omega | (simp; omega) | (simp; done)))⟩
  rw [hg.out]
  first | (simp_all; done) | (cases A <;> cases B <;> simp_all)
end Go.Proofs.YteahkgbnfbjkhaaGreatDoor
