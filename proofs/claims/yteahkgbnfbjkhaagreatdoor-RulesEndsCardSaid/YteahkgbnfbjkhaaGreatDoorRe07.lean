/-
  Rd, Append.
-/
import Derived.Test.YteahkgbnfbjkhaaGreatDoorRe00
import Derived.Laws.Tables
import Derived.Deep.WholeRow
import Derived.OwnWalk
set_option maxRecDepth 20000
set_option linter.unusedVariables false
set_option linter.unusedSimpArgs false
set_option linter.unusedSectionVars false
namespace Go.Proofs.YteahkgbnfbjkhaaGreatDoor
open Go.RowKit
def rd (w : World) (b : Nat) (c : Array Value) : World := w.setRow b c
def IsRow (w : World) (b : Nat) : Prop := ∃ old T, w.heap[b]? = some (.cells old T (0, 0))
def RowIs (w : World) (b : Nat) (c : Array Value) : Prop := ∃ T, w.heap[b]? = some (.cells c T (0, 0))
section
variable {w : World} {b : Nat}
theorem RowIs.isRow {c : Array Value} (h : RowIs w b c) : IsRow w b := ⟨c, h⟩
theorem IsRow.lt (h : IsRow w b) : b < w.heap.size := by obtain ⟨o, T, h⟩ := h; exact (Array.getElem?_eq_some_iff.1 h).1
theorem RowIs.lt {c : Array Value} (h : RowIs w b c) : b < w.heap.size := h.isRow.lt
theorem rd_size (w : World) (b : Nat) (c : Array Value) : (rd w b c).heap.size = w.heap.size := by simp [rd, World.setRow]
theorem rd_block (h : IsRow w b) (c : Array Value) : ∃ T, (rd w b c).heap[b]? = some (.cells c T (0, 0)) := by
 obtain ⟨o, T, h⟩ := h
 refine ⟨T, ?_⟩
 show (w.heap.modify b _)[b]? = _
 rw [Array.getElem?_modify, if_pos rfl, h]; rfl
theorem rd_row (h : IsRow w b) (c : Array Value) : RowIs (rd w b c) b c := rd_block h c
theorem rd_block_ne (w : World) (b k : Nat) (c : Array Value) (h : k ≠ b) : (rd w b c).heap[k]? = w.heap[k]? := by
 show (w.heap.modify b _)[k]? = _
 rw [Array.getElem?_modify, if_neg (by omega)]
theorem rd_cell (h : IsRow w b) (c : Array Value) (i : Nat) : (rd w b c).cell? ⟨b, i, none⟩ = c[i]? := by obtain ⟨T, h⟩ := rd_block h c; simp [World.cell?, h]
theorem rd_frozen (h : IsRow w b) (c : Array Value) (i : Nat) : (rd w b c).frozen? ⟨b, i, none⟩ = false := by obtain ⟨T, h⟩ := rd_block h c; simp [World.frozen?, h]
theorem rd_cell_ne (w : World) (b k : Nat) (c : Array Value) (i : Nat) (h : k ≠ b) : (rd w b c).cell? ⟨k, i, none⟩ = w.cell? ⟨k, i, none⟩ := World.cell?_of_block (a := ⟨k, i, none⟩) (rd_block_ne w b k c h)
theorem rd_frozen_ne (w : World) (b k : Nat) (c : Array Value) (i : Nat) (h : k ≠ b) : (rd w b c).frozen? ⟨k, i, none⟩ = w.frozen? ⟨k, i, none⟩ := World.frozen?_of_block (a := ⟨k, i, none⟩) (rd_block_ne w b k c h)
theorem rd_rd (w : World) (b : Nat) (c c' : Array Value) : rd (rd w b c) b c' = rd w b c' := setRow_setRow w b c c'
theorem rd_setCell (h : IsRow w b) (c : Array Value) (i : Nat) (v : Value) : (rd w b c).setCell ⟨b, i, none⟩ v = rd w b (c.setIfInBounds i v) := by
 obtain ⟨T, h⟩ := rd_block h c
 rw [setCell_eq_setRow _ b i c T (0, 0) v h]
 exact setRow_setRow w b c _
theorem rd_self {c : Array Value} (h : RowIs w b c) : rd w b c = w := by
 obtain ⟨T, h⟩ := h
 obtain ⟨hp, tp, dr, os, out⟩ := w
 unfold rd World.setRow
 congr 1
 apply Array.ext_getElem?
 intro k
 rw [Array.getElem?_modify]
 split
 · rename_i hk; subst hk
   have h' : hp[b]? = some (.cells c T (0, 0)) := h
   rw [h']; rfl
 · rfl
theorem rd_app (w : World) (b : Nat) (c : Array Value) (bs : Array Obj) (d : Nat) (h : b < w.heap.size) : rd (app w bs d) b c = app (rd w b c) bs d := by
 unfold rd World.setRow app
 congr 1
 apply Array.ext_getElem?
 intro j
 simp only [Array.getElem?_modify, Array.getElem?_append, Array.size_modify]
 split <;> split <;> simp_all
theorem rd_alloc (w : World) (b : Nat) (c : Array Value) (o : Obj) (h : b < w.heap.size) : rd (w.alloc o) b c = (rd w b c).alloc o := by
 unfold rd World.setRow World.alloc
 congr 1
 apply Array.ext_getElem?
 intro j
 simp only [Array.getElem?_modify, Array.getElem?_push, Array.size_modify]
 split <;> split <;> simp_all
theorem rd_alloc_own (w : World) (c c' : Array Value) (T : TypeId) : rd (w.alloc (.cells c T)) w.heap.size c' = w.alloc (.cells c' T) := World.setRow_alloc_new w c c' T
theorem RowIs.app {c : Array Value} (h : RowIs w b c) (bs : Array Obj) (d : Nat) : RowIs (app w bs d) b c := ⟨_, (app_heap w bs d b h.lt).trans h.choose_spec⟩
theorem RowIs.new_at (w : World) (c : Array Value) (T : TypeId) (b : Nat) (h : b = w.heap.size) : RowIs (w.alloc (.cells c T (0, 0))) b c := by subst h; exact ⟨T, heap_alloc_last w _⟩
theorem RowIs.lift {P : Program} {f : FuncId} {args : Array Value} {c : Array Value} {Q : World → Ending → World → Prop} (h : RowIs w b c) (H : ∀ w0 : World, IsRow w0 b → Calls P f args (rd w0 b c) (Q w0)) : Calls P f args w (Q w) := by
 have := H w h.isRow
 rwa [rd_self h] at this
end
def After (b : Nat) (c : Array Value) (r : Ending) (w : World) (e : Ending) (w' : World) : Prop := e = r ∧ ∃ bs d, w' = app (rd w b c) bs d
attribute [simp] rd_size
attribute [go_sem] rd_size rd_cell rd_frozen rd_cell_ne rd_frozen_ne rd_rd rd_setCell rd_app rd_alloc rd_alloc_own
end Go.Proofs.YteahkgbnfbjkhaaGreatDoor
set_option maxRecDepth 20000
set_option linter.unusedVariables false
set_option linter.unusedSimpArgs false
set_option linter.unusedSectionVars false
namespace Go.Proofs.YteahkgbnfbjkhaaGreatDoor
open Go.RowKit
def Moved (w : World) (v v' : Value) : Prop := ∀ k, v'.ownBlock = some k → v.ownBlock = some k ∨ w.heap.size ≤ k
section
variable {P : Program} (w : World)
theorem run_append_moved (base : Nat) (t ty e : TypeId) (i : TypeInfo) (z : Value) (size bytes : Nat) (ht : P.underlying t = some (.slice e)) (hi : P.info? e = some i) (hz : i.zero = some z)
 (hsize : i.size = size) (hby : i.bytes = bytes) (hzs : z.cells.size = size) (hsz : 0 < size)
 (v : Value) (n : Nat) (xs : List Value) (hown : w.ownsRow base e size v n xs)
 (a : Addr) (m c : Nat) (news : List Value) (hl : news.length = m * size) (hnews : ∀ j u, news[j]? = some u → w.cell? (a.add j) = some u) (h1 : ∀ u ∈ news, u.oneCell' = true)
 (h63 : n + m ≤ maxLen) (hbytes : (n + m) * bytes ≤ 140737488355328) (hbase : base ≤ w.heap.size) :
 ∃ v' w', (Builtin.append_ #[t, t] ty #[v, .slice (some a) m c]).run P w = .ok v' w' ∧ w'.ownsRow base e size v' (n + m) (xs ++ news) ∧ w.grownBy w' v.ownBlock ∧
  (v' = .slice none 0 0 ↔ v = .slice none 0 0 ∧ m = 0) ∧ Moved w v v' := by
 obtain ⟨v', w', hr, h2, h3, h4⟩ := run_append_own (P := P) w base t ty e i z size bytes ht hi hz hsize hby hzs hsz v n xs hown a m c news hl hnews h1 h63 hbytes hbase
 refine ⟨v', w', hr, h2, h3, h4, fun k hk => ?_⟩
 rcases hown.2 with ⟨rfl, rfl⟩ | ⟨g, cap, cur, rfl, hbg, hg, hnc, hcm, hcs, htake⟩
 · have hx : xs = [] := List.eq_nil_of_length_eq_zero (by simpa using hown.1)
   subst hx
   obtain ⟨v2, w2, hr2, h22, _, _⟩ := run_append_own (P := P) w w.heap.size t ty e i z size bytes ht hi hz hsize hby hzs hsz (.slice none 0 0) 0 [] (World.ownsRow_nil _ _ _ _) a m c news hl hnews h1 h63 hbytes (Nat.le_refl _)
   rw [hr] at hr2
   injection hr2 with hv _
   subst hv
   exact .inr (h22.lt k hk).1
 · subst hsize
   subst hby
   by_cases hroom : n + m ≤ cap
   · have hfit : n * i.size + news.length ≤ cur.size := by rw [hl, hcs, ← Nat.add_mul]; exact Nat.mul_le_mul_right _ hroom
     have hr2 := run_append_room (P := P) w t ty e i ht hi g n cap cur hg a m c news hl hnews h1 hroom hfit
     rw [hr] at hr2
     injection hr2 with hv _
     subst hv
     exact .inl hk
   · have holds : ∀ j u, xs[j]? = some u → w.cell? ((⟨g, 0, none⟩ : Addr).add j) = some u := hown.cells (g := g) rfl
     have hr2 := run_append_grow (P := P) w t ty e i z ht hi hz ⟨g, 0, none⟩ n cap xs hown.1 holds a m c news hl hnews (by omega) (by simp only [maxLen] at h63; omega) (growslice_fits (by omega) hbytes)
     rw [hr] at hr2
     injection hr2 with hv _
     subst hv
     injection hk with hk
     exact .inr (by rw [← hk]; exact Nat.le_refl _)
end
end Go.Proofs.YteahkgbnfbjkhaaGreatDoor
