/-
  'string(b)' of a slice whose bytes are known: one that came in, or a row of the call's own.
-/
import Derived.Test.YtnoiaeajpjhldaaDotLines
import Derived.Laws.BytesArg
namespace Go.Proofs.Ytnoiaeajpjhldaa
open Go.ChangeShapes Go.WideShapes Go.ChangeAt Go.RowKit

theorem own_text {w : World} {B : Nat} {v : Value} {l : List UInt8} (h : w.ownsRow B 5 1 v l.length (Lib.byteCells l)) : (convert 22 9 v).run Try.prog w = .ok (.string ⟨l.toArray⟩) w := by
  obtain ⟨_, ⟨hv, hn⟩ | ⟨g, cap, cur, rfl, _, hg, _, _, _, ht⟩⟩ := h
  · have hl : l = [] := List.eq_nil_of_length_eq_zero hn
    subst hl
    rw [hv]; exact run_convert_bytes_nil w 22 5 rfl rfl _ _ 9 rfl
  · refine run_convert_bytes_back (P := Try.prog) w 22 9 5 ⟨g, 0, none⟩ cap l rfl rfl rfl (fun j hj => ?_)
    rw [show (⟨g, 0, none⟩ : Addr).add j = ⟨g, j, none⟩ by simp [Addr.add]; exact fun h => h.symm]
    have h1 : w.cell? ⟨g, j, none⟩ = cur[j]? := by simp [World.cell?, hg]
    have h2 : (cur.toList.take (l.length * 1))[j]? = cur[j]? := by rw [List.getElem?_take, if_pos (by omega)]; simp
    rw [h1, ← h2, ht]
    simp [Lib.byteCells, hj]
theorem BytesAt.text {w : World} {q : Option Addr} {cap : Nat} {l : List UInt8} (h : BytesAt w q cap l) : (convert 22 9 (.slice q l.length cap)).run Try.prog w = .ok (.string ⟨l.toArray⟩) w := by
  cases q with
  | none =>
    obtain ⟨rfl, rfl⟩ := h.nil rfl
    exact run_convert_bytes_nil w 22 5 rfl rfl _ _ 9 rfl
  | some a =>
    refine run_convert_bytes_back (P := Try.prog) w 22 9 5 a cap l rfl rfl rfl (fun j hj => ?_)
    obtain ⟨bb, off, e1, e2, e3⟩ := h.cell (by intro e; subst e; simp at hj)
    injection e1 with e1
    subst e1
    rw [show (⟨bb, off, none⟩ : Addr).add j = ⟨bb, off + j, none⟩ by unfold Addr.add; split <;> simp_all, e3 j hj]
end Go.Proofs.Ytnoiaeajpjhldaa
