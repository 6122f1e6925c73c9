/-
  head.isName, isValue, Good and the reference's: which fields are right.
-/
import Derived.Test.YtpoaegcaaflogaaDoorProg
import Derived.Test.YtpoaegcaaflogaaDoorBase
import Derived.Lib.ConvBytes
import Derived.Laws.IdiomStrings
import Derived.OwnWalk
namespace Go.Proofs.YtpoaegcaaflogaaDoor
open Go.ChangeShapes Go.WideShapes Go.ChangeAt Go.RowKit

def nameC (c : UInt8) : Bool := decide (33 ≤ c.toNat ∧ c.toNat ≤ 126 ∧ c.toNat ≠ 58)
def blankC (c : UInt8) : Bool := decide (c.toNat = 32 ∨ c.toNat = 9)
def valC (c : UInt8) : Bool := decide (c.toNat = 9 ∨ (32 ≤ c.toNat ∧ c.toNat ≤ 126))
def nameB (l : List UInt8) : Bool := l.all nameC && !l.isEmpty
def headB (l : List UInt8) : Bool := match l with | [] => true | c :: _ => !blankC c
def valueB (l : List UInt8) : Bool := l.all valC && headB l
def goodF (n v : List UInt8) : Bool := nameB n && (valueB v && decide (n.length + v.length ≤ 900))

theorem blank_calls (c : UInt8) (w : World) : Calls Tryd.prog 36 #[.int .u8 (c.toNat : Int)] w fun r w' => r = .returned (.bool (blankC c)) ∧ w = w' := by
  unfold blankC
  by_cases h1 : (c.toNat : Int) == 32
  · go_enter Tryd.func36, Tryd.ntmps36
    go_wp2
    go_returns
    exact ⟨rbT (by simp at h1; omega), rfl⟩
  · have h1 : ((c.toNat : Int) == 32) = false := by simpa using h1
    by_cases h2 : (c.toNat : Int) == 9
    · go_enter Tryd.func36, Tryd.ntmps36
      go_wp2
      go_returns
      exact ⟨rbT (by simp at h2; omega), rfl⟩
    · have h2 : ((c.toNat : Int) == 9) = false := by simpa using h2
      go_enter Tryd.func36, Tryd.ntmps36
      go_wp2
      go_returns
      exact ⟨rbF (by simp at h1 h2; omega), rfl⟩
theorem rblank_calls (c : UInt8) (w : World) : Calls Tryd.prog 33 #[.int .u8 (c.toNat : Int)] w fun r w' => r = .returned (.bool (blankC c)) ∧ w = w' := by
  unfold blankC
  by_cases h1 : (c.toNat : Int) == 32
  · go_enter Tryd.func33, Tryd.ntmps33
    go_wp2
    go_returns
    exact ⟨rbT (by simp at h1; omega), rfl⟩
  · have h1 : ((c.toNat : Int) == 32) = false := by simpa using h1
    by_cases h2 : (c.toNat : Int) == 9
    · go_enter Tryd.func33, Tryd.ntmps33
      go_wp2
      go_returns
      exact ⟨rbT (by simp at h2; omega), rfl⟩
    · have h2 : ((c.toNat : Int) == 9) = false := by simpa using h2
      go_enter Tryd.func33, Tryd.ntmps33
      go_wp2
      go_returns
      exact ⟨rbF (by simp at h1 h2; omega), rfl⟩
set_option maxRecDepth 20000 in
/-- '[]byte(s)': a new row that holds the bytes. -/
theorem bytes_of (w : World) (s : ByteArray) : ∃ W cap, (convert 9 23 (.string s)).run Tryd.prog w = .ok (.slice (some ⟨w.heap.size, 0, none⟩) s.size cap) W ∧
    (∀ j (h : j < s.size), W.cell? ⟨w.heap.size, j, none⟩ = some (.int .u8 (s[j].toNat : Int))) ∧ Below w.heap.size w W := by
  refine ⟨_, _, run_bytes_of_string (P := Tryd.prog) w 9 23 5 s rfl rfl rfl, fun j h => ?_, by (repeat' (first | (with_reducible exact Below.refl _ _) | (with_reducible refine Below.app ?_ ?_ _ _) | (with_reducible refine Below.alloc ?_ ?_ _) | (with_reducible refine Below.drew ?_) | (with_reducible refine Below.setCell ?_ ?_ _) | (with_reducible assumption) | omega | (simp; omega) | (simp; done)))⟩
  exact (World.cell?_alloc_mark w.drew _ _ _ j).trans (bytesRow_at s _ j h)
theorem all_drop {f : UInt8 → Bool} {l : List UInt8} {k : Nat} (h : k < l.length) : (l.drop k).all f = (f l[k] && (l.drop (k + 1)).all f) := by
  rw [List.drop_eq_getElem_cons h, List.all_cons]
theorem str_empty (s : ByteArray) : (s.data.toList == []) = s.data.toList.isEmpty := by cases s.data.toList <;> rfl
def NameAt (s : ByteArray) (R : Bool) (k : Nat) : Prop := R = ((s.data.toList.drop k).all nameC && !s.data.toList.isEmpty)
theorem NameAt.go {s : ByteArray} {R : Bool} {k : Nat} (h : NameAt s R k) (hk : k < s.size) (hc : nameC s[k] = true) : NameAt s R (k + 1) := by
  unfold NameAt at h ⊢
  have := @all_drop nameC s.data.toList k (by simpa using hk)
  rw [h, this, show s.data.toList[k]'(by simpa using hk) = s[k] from rfl, hc, Bool.true_and]
theorem NameAt.no {s : ByteArray} {R : Bool} {k : Nat} (h : NameAt s R k) (hk : k < s.size) (hc : nameC s[k] = false) : R = false := by
  unfold NameAt at h
  have := @all_drop nameC s.data.toList k (by simpa using hk)
  rw [h, this, show s.data.toList[k]'(by simpa using hk) = s[k] from rfl, hc]; rfl
theorem NameAt.done {s : ByteArray} {R : Bool} (h : NameAt s R s.size) : R = !s.data.toList.isEmpty := by
  unfold NameAt at h
  rw [h, List.drop_of_length_le (by simp)]; rfl
set_option maxHeartbeats 4000000 in
theorem isName_calls (s : ByteArray) (hs : s.size ≤ 100000000) (w : World) : Calls Tryd.prog 21 #[.string s] w fun r w' => r = .returned (.bool (nameB s.data.toList)) ∧ Below w.heap.size w w' := by
  obtain ⟨W, cap, hconv, hcell, hbel⟩ := bytes_of w s
  have hz : w.heap.size ≤ W.heap.size := hbel.size
  have hlt0 : 0 < s.size → w.heap.size < W.heap.size := fun h => World.block_lt_of_cell? W _ (hcell 0 h)
  have h0 : NameAt s (nameB s.data.toList) 0 := by unfold NameAt nameB; rfl
  generalize nameB s.data.toList = R at *
  replace h0 := Lib.hid h0
  go_enter Tryd.func21, Tryd.ntmps21
  go_wp2
  go_loop [8] (fun i => ∃ k : Nat, k ≤ s.size ∧ i = .int .i64 k ∧ Hid (NameAt s R k)) (fun i => s.size - (intOf i).toNat)
  case atStart => exact ⟨0, by omega, rfl, h0⟩
  case round =>
    obtain ⟨k, hk, rfl, hr⟩ := hrel
    clear h0
    by_cases hlt : k < s.size
    · have hce := hcell k hlt
      have hb := hlt0 (by omega)
      have hgo := hr.out.go hlt
      have hno := hr.out.no hlt
      unfold nameC at hgo hno
      clear hcell hr
      by_cases h1 : (s[k].toNat : Int) ≤ 32
      · have hR := Lib.hid (hno (decide_eq_false (by omega)))
        clear hgo hno
        go_wp2
        go_returns
        exact ⟨rb hR.out.symm, hbel⟩
      · by_cases h2 : 126 < (s[k].toNat : Int)
        · have hR := Lib.hid (hno (decide_eq_false (by omega)))
          clear hgo hno
          go_wp2
          go_returns
          exact ⟨rb hR.out.symm, hbel⟩
        · by_cases h3 : ((s[k].toNat : Int) == 58) = true
          · have hR := Lib.hid (hno (decide_eq_false (by simp at h3; omega)))
            clear hgo hno
            go_wp2
            go_returns
            exact ⟨rb hR.out.symm, hbel⟩
          · have h3 : ((s[k].toNat : Int) == 58) = false := by simpa using h3
            have hR := Lib.hid (hgo (decide_eq_true (by simp at h3; omega)))
            clear hgo hno
            go_wp2
            go_round
            case rel => exact ⟨k + 1, by omega, by go_num, hR⟩
            case measure => first | (simp [intOf]; done) | (simp [intOf]; omega)
    · have hke : k = s.size := by omega
      subst hke
      have hR := Lib.hid hr.out.done
      have hxl : Hid (s.toList = s.data.toList) := by unfold Hid; exact (ByteArray.toList_mk s.data.toList)
      clear hr hcell
      go_wp2
      go_returns
      exact ⟨rb (by rw [hxl.out]; exact hR.out.symm), hbel⟩
def ValAt (s : ByteArray) (R : Bool) (k : Nat) : Prop := R = ((s.data.toList.drop k).all valC && headB s.data.toList)
theorem ValAt.go {s : ByteArray} {R : Bool} {k : Nat} (h : ValAt s R k) (hk : k < s.size) (hc : valC s[k] = true) : ValAt s R (k + 1) := by
  unfold ValAt at h ⊢
  have := @all_drop valC s.data.toList k (by simpa using hk)
  rw [h, this, show s.data.toList[k]'(by simpa using hk) = s[k] from rfl, hc, Bool.true_and]
theorem ValAt.no {s : ByteArray} {R : Bool} {k : Nat} (h : ValAt s R k) (hk : k < s.size) (hc : valC s[k] = false) : R = false := by
  unfold ValAt at h
  have := @all_drop valC s.data.toList k (by simpa using hk)
  rw [h, this, show s.data.toList[k]'(by simpa using hk) = s[k] from rfl, hc]; rfl
theorem headB_at {s : ByteArray} (h : 0 < s.size) : headB s.data.toList = !blankC s[0] := by
  have hl : 0 < s.data.toList.length := by simpa using h
  have e : s.data.toList = s.data.toList[0] :: s.data.toList.drop 1 := by
    have := List.drop_eq_getElem_cons (l := s.data.toList) (i := 0) hl
    simpa using this
  rw [e]; rfl
theorem ValAt.done {s : ByteArray} {R : Bool} (h : ValAt s R s.size) : R = headB s.data.toList := by
  unfold ValAt at h
  rw [h, List.drop_of_length_le (by simp)]; rfl
set_option maxRecDepth 20000 in
set_option maxHeartbeats 4000000 in
theorem isValue_calls (s : ByteArray) (hs : s.size ≤ 100000000) (w : World) : Calls Tryd.prog 22 #[.string s] w fun r w' => r = .returned (.bool (valueB s.data.toList)) ∧ Below w.heap.size w w' := by
  obtain ⟨W, cap, hconv, hcell, hbel⟩ := bytes_of w s
  have hz : w.heap.size ≤ W.heap.size := hbel.size
  have hlt0 : 0 < s.size → w.heap.size < W.heap.size := fun h => World.block_lt_of_cell? W _ (hcell 0 h)
  have h0 : ValAt s (valueB s.data.toList) 0 := by unfold ValAt valueB; rfl
  generalize valueB s.data.toList = R at *
  replace h0 := Lib.hid h0
  go_enter Tryd.func22, Tryd.ntmps22
  go_wp2
  go_loop [8] (fun i => ∃ k : Nat, k ≤ s.size ∧ i = .int .i64 k ∧ Hid (ValAt s R k)) (fun i => s.size - (intOf i).toNat)
  case atStart => exact ⟨0, by omega, rfl, h0⟩
  case round =>
    obtain ⟨k, hk, rfl, hr⟩ := hrel
    clear h0
    by_cases hlt : k < s.size
    · have hce := hcell k hlt
      have hb := hlt0 (by omega)
      have hgo := hr.out.go hlt
      have hno := hr.out.no hlt
      unfold valC at hgo hno
      clear hcell hr
      by_cases h1 : (s[k].toNat : Int) < 32
      · by_cases h3 : ((s[k].toNat : Int) != 9) = true
        · have hR := Lib.hid (hno (decide_eq_false (by simp at h3; omega)))
          clear hgo hno
          go_wp2
          go_returns
          exact ⟨rb hR.out.symm, hbel⟩
        · have h3 : ((s[k].toNat : Int) != 9) = false := by simpa using h3
          have hR := Lib.hid (hgo (decide_eq_true (by simp at h3; omega)))
          clear hgo hno
          go_wp2
          go_round
          case rel => exact ⟨k + 1, by omega, by go_num, hR⟩
          case measure => first | (simp [intOf]; done) | (simp [intOf]; omega)
      · by_cases h2 : 126 < (s[k].toNat : Int)
        · have h3 : ((s[k].toNat : Int) != 9) = true := by simp; omega
          have hR := Lib.hid (hno (decide_eq_false (by omega)))
          clear hgo hno
          go_wp2
          go_returns
          exact ⟨rb hR.out.symm, hbel⟩
        · have hR := Lib.hid (hgo (decide_eq_true (by omega)))
          clear hgo hno
          go_wp2
          go_round
          case rel => exact ⟨k + 1, by omega, by go_num, hR⟩
          case measure => first | (simp [intOf]; done) | (simp [intOf]; omega)
    · have hke : k = s.size := by omega
      subst hke
      have hR := Lib.hid hr.out.done
      have hxl : Hid (s.toList = s.data.toList) := by unfold Hid; exact (ByteArray.toList_mk s.data.toList)
      clear hr hcell
      by_cases hs0 : 0 < s.size
      · have hx : (s.data.toList == []) = false := by
          rw [str_empty]
          have hsl : s.data.toList.length = s.size := by simp
          cases h : s.data.toList with
          | nil => rw [h] at hsl; simp only [List.length_nil] at hsl; omega
          | cons c r => rfl
        have hx2 : s.data.toList.isEmpty = false := by rw [← str_empty]; exact hx
        have hx3 : s.toList.isEmpty = false := by rw [hxl.out]; exact hx2
        have hR2 : Hid (R = !blankC s[0]) := by unfold Hid; rw [hR.out, headB_at hs0]
        have hbc := Lib.hid (blank_calls s[0])
        clear hR
        generalize blankC s[0] = B at *
        go_wp2_with (go_at_call 36; ((refine (hbc.out _).mono ?_); rintro _ _ ⟨rfl, rfl⟩))
        all_goals
          go_returns
          exact ⟨rb hR2.out.symm, hbel⟩
      · have hsl : s.data.toList.length = s.size := by simp
        have hx0 : s.data.toList = [] := List.eq_nil_of_length_eq_zero (by omega)
        clear hsl
        have hR2 : Hid (R = true) := by unfold Hid; rw [hR.out, hx0]; rfl
        have hx : (s.data.toList == []) = true := by rw [hx0]; rfl
        have hx2 : s.data.toList.isEmpty = true := by rw [hx0]; rfl
        have hx3 : s.toList.isEmpty = true := by rw [hxl.out]; exact hx2
        clear hR hx0
        go_wp2
        go_returns
        exact ⟨rb hR2.out.symm, hbel⟩
end Go.Proofs.YtpoaegcaaflogaaDoor
