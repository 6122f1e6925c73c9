/-
  AW26.
-/
import Derived.Test.YtnkppakkeobegaaGreatDoorZP09
set_option maxRecDepth 20000
set_option linter.unusedVariables false
set_option linter.unusedSimpArgs false
set_option linter.unusedSectionVars false
namespace Go.Proofs.YtnkppakkeobegaaGreatDoor
namespace AX
abbrev OR := Option RR
abbrev LB := List UInt8
abbrev LC := List Cell
section
variable {R : Type}
def cI (kd : IntKind) (l : List Cell) (k : Int → List Cell → Option R) : Option R := consK l fun c r => castI kd c fun n => k n r
def cB (l : List Cell) (k : Bool → List Cell → Option R) : Option R := consK l fun c r => castB c fun n => k n r
def cS (l : List Cell) (k : List UInt8 → List Cell → Option R) : Option R := consK l fun c r => castS c fun n => k n r
def oI (kd : IntKind) (v : AV) (k : Int → Option R) : Option R := castOne v fun c => castI kd c k
def oB (v : AV) (k : Bool → Option R) : Option R := castOne v fun c => castB c k
def oS (v : AV) (k : List UInt8 → Option R) : Option R := castOne v fun c => castS c k
def oL (sz : Nat) (v : AV) (k : List Cell → Option R) : Option R := castOne v fun c => castL sz c fun _ l => k l
def zI (kd : IntKind) (l : List V1) (k : Int → List V1 → Option R) : Option R := consK l fun z r => oneV z fun c => castI kd c fun n => k n r
def zB (l : List V1) (k : Bool → List V1 → Option R) : Option R := consK l fun z r => oneV z fun c => castB c fun n => k n r
def zS (l : List V1) (k : List UInt8 → List V1 → Option R) : Option R := consK l fun z r => oneV z fun c => castS c fun n => k n r
def zE (l : List V1) (k : Bool → List V1 → Option R) : Option R := consK l fun z r => oneV z fun c => castE c fun n => k n r
def zL (sz : Nat) (l : List V1) (k : List Cell → List V1 → Option R) : Option R := consK l fun z r => oneV z fun c => castL sz c fun _ n => k n r
@[simp] theorem cI_cons (kd : IntKind) (n : Int) (r : List Cell) (k : Int → List Cell → Option R) : cI kd (.int kd n :: r) k = k n r := if_pos rfl
@[simp] theorem cB_cons (n : Bool) (r : List Cell) (k : Bool → List Cell → Option R) : cB (.bool n :: r) k = k n r := rfl
@[simp] theorem cS_cons (n : List UInt8) (r : List Cell) (k : List UInt8 → List Cell → Option R) : cS (.str n :: r) k = k n r := rfl
@[simp] theorem castL_one (nm : Option Nm) (sz : Nat) (n : List Cell) (k : Option Nm → List Cell → Option R) : castL sz (.sl nm sz n) k = k nm n := by
 unfold castL; simp only [Nat.beq_refl, Bool.true_or, condA_true]
@[simp] theorem castN_one (a b e sz : Nat) (n : List Cell) (k : List Cell → Option R) : castN e sz (.sl (some ⟨a, b, e⟩) sz n) k = k n := by
 unfold castN; simp only [Nat.beq_refl, Bool.true_or, Bool.true_and, condA_true]
@[simp] theorem castI_one (kd : IntKind) (n : Int) (k : Int → Option R) : castI kd (.int kd n) k = k n := if_pos rfl
@[simp] theorem castB_one (n : Bool) (k : Bool → Option R) : castB (.bool n) k = k n := rfl
@[simp] theorem castS_one (n : List UInt8) (k : List UInt8 → Option R) : castS (.str n) k = k n := rfl
@[simp] theorem oI_one (kd : IntKind) (n : Int) (k : Int → Option R) : oI kd (.one (.int kd n)) k = k n := if_pos rfl
@[simp] theorem oB_one (n : Bool) (k : Bool → Option R) : oB (.one (.bool n)) k = k n := rfl
@[simp] theorem oS_one (n : List UInt8) (k : List UInt8 → Option R) : oS (.one (.str n)) k = k n := rfl
@[simp] theorem oL_one (nm : Option Nm) (sz : Nat) (n : List Cell) (k : List Cell → Option R) : oL sz (.one (.sl nm sz n)) k = k n := castL_one nm sz n fun _ n => k n
def oP (v : AV) (x : Option R) (k : Nat → Nat → Option R) : Option R := castOne v fun c => castP4 c x k
@[simp] theorem oP_gptr (b o : Nat) (x : Option R) (k : Nat → Nat → Option R) : oP (.one (.gptr b o)) x k = k b o := rfl
@[simp] theorem castOne1_one (c : Cell) (k : Cell → Option R) : castOne1 (.one c) k = k c := rfl
@[simp] theorem zI_cons (kd : IntKind) (n : Int) (r : List V1) (k : Int → List V1 → Option R) : zI kd (.one (.int kd n) :: r) k = k n r := if_pos rfl
@[simp] theorem zB_cons (n : Bool) (r : List V1) (k : Bool → List V1 → Option R) : zB (.one (.bool n) :: r) k = k n r := rfl
@[simp] theorem zS_cons (n : List UInt8) (r : List V1) (k : List UInt8 → List V1 → Option R) : zS (.one (.str n) :: r) k = k n r := rfl
@[simp] theorem zE_cons (n : Bool) (r : List V1) (k : Bool → List V1 → Option R) : zE (.one (.err n) :: r) k = k n r := rfl
@[simp] theorem zL_cons (nm : Option Nm) (sz : Nat) (n : List Cell) (r : List V1) (k : List Cell → List V1 → Option R) : zL sz (.one (.sl nm sz n) :: r) k = k n r := castL_one nm sz n fun _ n => k n r
@[simp] theorem consK_cons {α : Type} (c : α) (r : List α) (k : α → List α → Option R) : consK (c :: r) k = k c r := rfl
@[simp] theorem nilK_nil {α : Type} (k : Option R) : nilK ([] : List α) k = k := rfl
@[simp] theorem castAgg_agg (c : List Cell) (k : List Cell → Option R) : castAgg (.agg c) k = k c := rfl
@[simp] theorem castTup_tup (c : List V1) (k : List V1 → Option R) : castTup (.tup c) k = k c := rfl
@[simp] theorem aggV_agg (c : List Cell) (k : List Cell → Option R) : aggV (.agg c) k = k c := rfl
theorem callK_some {call : CallF} {f : FuncId} {args : List AV} {v : AV} {H : Heap} (h : call f args [] = some (v, H)) (k : AV → Option R) : callK call f args k = k v := by
 unfold callK; rw [h]
theorem callRK_some {call : CallF} {f : FuncId} {args : List AV} {H H1 : Heap} {v : AV} (h : call f args H = some (v, H1)) (k : AV → Heap → Option R) : callRK call f args H k = k v H1 := by
 unfold callRK; rw [h]
theorem primK_some {p : List AV → Option AV} {args : List AV} {v : AV} (h : p args = some v) (k : AV → Option R) : primK p args k = k v := by
 unfold primK; rw [h]
theorem primHK_some {p : List AV → List Cell → Option (AV × List Cell)} {args : List AV} {old new : List Cell} {v : AV} (h : p args old = some (v, new)) (k : AV → List Cell → Option R) : primHK p args old k = k v new := by
 unfold primHK; rw [h]
def primGK (p : List AV → List (List Cell) → Option AV) (args : List AV) (G : Heap) (k : AV → Option R) : Option R := match p args G with | some v => k v | none => none
theorem primGK_some {p : List AV → List (List Cell) → Option AV} {args : List AV} {G : Heap} {v : AV} (h : p args G = some v) (k : AV → Option R) : primGK p args G k = k v := by
 unfold primGK; rw [h]
theorem rowAt_at {cs : List Cell} {o : Nat} (h : o < cs.length) {k : Cell → Option R} : rowAt cs o k = k cs[o] := by
 unfold rowAt; rw [List.getElem?_eq_getElem h]
theorem rowAt_some {cs : List Cell} {o : Nat} {c : Cell} (h : cs[o]? = some c) {k : Cell → Option R} : rowAt cs o k = k c := by
 unfold rowAt; rw [h]
theorem wrap_ok {x : Int} (h1 : -9223372036854775808 ≤ x) (h2 : x < 9223372036854775808) : IntKind.wrap .i64 x = x := by rw [IntKind.wrap_i64]; omega
theorem item_at {α : Type} {l : List α} {i : Nat} (h : i < l.length) {k : α → Option R} : itemK l (i : Int) k = k l[i] := by
 unfold itemK
 rw [decide_eq_true (by omega), condA_true, Int.toNat_natCast, List.getElem?_eq_getElem h]
theorem item_some {α : Type} {l : List α} {i : Int} {j : Nat} {a : α} (hi : i = j) (h : l[j]? = some a) (k : α → Option R) : itemK l i k = k a := by
 subst hi; unfold itemK
 rw [decide_eq_true (by omega), condA_true, Int.toNat_natCast, h]
theorem byteCells_len (l : List UInt8) : (byteCells l).length = l.length := by simp [byteCells]
theorem byteCells_get {l : List UInt8} {i : Nat} (h : i < l.length) : (byteCells l)[i]'(by rw [byteCells_len]; exact h) = .int .u8 (l[i].toNat : Int) := by simp [byteCells]
theorem item_byte {l : List UInt8} {i : Nat} (h : i < l.length) {k : Cell → Option R} : itemK (byteCells l) (i : Int) k = k (.int .u8 (l[i].toNat : Int)) := by
 rw [item_at (by rw [byteCells_len]; exact h), byteCells_get h]
theorem guard_ok {b : Bool} {k : Option R} (h : b = true) : guardB b k = k := by rw [h]; rfl
def gI (kd : IntKind) (G : Heap) (b o : Nat) (k : Int → Option R) : Option R := gcell G b o fun c => castI kd c k
def gB (G : Heap) (b o : Nat) (k : Bool → Option R) : Option R := gcell G b o fun c => castB c k
def gS (G : Heap) (b o : Nat) (k : List UInt8 → Option R) : Option R := gcell G b o fun c => castS c k
def gL (sz : Nat) (G : Heap) (b o : Nat) (k : List Cell → Option R) : Option R := gcell G b o fun c => castGL sz c k
def gP (G : Heap) (b o : Nat) (x : Option R) (k : Nat → Nat → Option R) : Option R := gcell G b o fun c => castP c x k
def cG (sz : Nat) (l : List Cell) (k : List Cell → List Cell → Option R) : Option R := consK l fun c r => castGL sz c fun n => k n r
theorem gcell_at {G : Heap} {b o : Nat} {cs : List Cell} {c : Cell} (h : G[b]? = some cs) (hc : cs[o]? = some c) (k : Cell → Option R) : gcell G b o k = k c := by
 unfold gcell; rw [h]; exact rowAt_some hc
theorem gcells_at {n : Nat} {G : Heap} {b o : Nat} {cs : List Cell} (h : G[b]? = some cs) (hn : o + n ≤ cs.length) (k : List Cell → Option R) : gcells n G b o k = k (cs.drop o) := by
 unfold gcells; rw [h]; simp only; rw [Nat.ble_eq_true_of_le hn]; rfl
theorem gset_at {G : Heap} {b o : Nat} {cs : List Cell} {c : Cell} (h : G[b]? = some cs) (ho : o < cs.length) (k : Heap → Option R) : gset G b o c k = k (G.set b (cs.set o c)) := by
 unfold gset; rw [h]; simp only; rw [show Nat.blt o cs.length = true by rw [Nat.blt_eq]; exact ho]; rfl
theorem gsets_at {G : Heap} {b o : Nat} {cs l : List Cell} (h : G[b]? = some cs) (ho : o + l.length ≤ cs.length) (k : Heap → Option R) : gsets G b o l k = k (G.set b (setCells cs o l)) := by
 unfold gsets; rw [h]; simp only; rw [Nat.ble_eq_true_of_le ho]; rfl
theorem gtake_at {e sz : Nat} {G : Heap} {b o : Nat} {cs l : List Cell} (h : G[b]? = some cs) (hc : cs[o]? = some (.own e sz l)) (k : List Cell → Heap → Option R) : gtake e sz G b o k = k l (G.set b (cs.set o (.sl none sz l))) := by
 unfold gtake; rw [h]; simp only; rw [rowAt_some hc]; unfold castOwn; simp only [Nat.beq_refl, Bool.and_self, condA_true]
@[simp] theorem gnew_eq (G : Heap) (cs : List Cell) (k : Nat → Heap → Option R) : gnew G cs k = k G.length (G ++ [cs]) := rfl
@[simp] theorem castP_nil (x : Option R) (k : Nat → Nat → Option R) : castP .nilp x k = x := rfl
@[simp] theorem castP_ptr (b o : Nat) (x : Option R) (k : Nat → Nat → Option R) : castP (.gptr b o) x k = k b o := rfl
@[simp] theorem castGL_own (e sz : Nat) (n : List Cell) (k : List Cell → Option R) : castGL sz (.own e sz n) k = k n := by
 unfold castGL; simp only [Nat.beq_refl, condA_true]
@[simp] theorem castGL_sl (nm : Option Nm) (sz : Nat) (n : List Cell) (k : List Cell → Option R) : castGL sz (.sl nm sz n) k = k n := by
 unfold castGL; simp only [Nat.beq_refl, Bool.true_or, condA_true]
theorem callGK_some {call : CallF} {f : FuncId} {args : List AV} {v : AV} {G G' : Heap} (h : call f args G = some (v, G')) (k : AV → Heap → Option R) : callGK call f args G k = k v G' := by
 unfold callGK; rw [h]
@[simp] theorem joinK_eq {α β : Type} (j : α) (f : α → β) : joinK j f = f j := rfl
theorem consK_some {α : Type} {l : List α} {k : α → List α → Option R} {r : R} (h : consK l k = some r) : ∃ c q, l = c :: q ∧ k c q = some r := by
 cases l with
 | nil => cases h
 | cons c q => exact ⟨c, q, rfl, h⟩
end
end AX
end Go.Proofs.YtnkppakkeobegaaGreatDoor
