/-
  PMany.
-/
import Derived.Test.YtnkppakkeobegaaGreatDoorZP37
set_option maxRecDepth 20000
set_option linter.unusedVariables false
set_option linter.unusedSimpArgs false
set_option linter.unusedSectionVars false
namespace Go.Proofs.YtnkppakkeobegaaGreatDoor
open Go.ChangeShapes Go.WideShapes Go.ChangeAt Go.RowKit
namespace AX
theorem many_calls (w : World) (blk : Nat) (lm : Bool) (a : Option Addr) (len cap : Nat) (h0 : w.cell? ⟨blk, 0, none⟩ = some (.bool lm)) (h5 : w.cell? ⟨blk, 5, none⟩ = some (.slice a len cap)) :
 Calls Tryz.prog 30 #[.pointer (some ⟨blk, 0, none⟩)] w fun e w' => e = .returned (.int .i64 (bif lm then (len : Int) else 1)) ∧ w' = w := by
 go_enter Tryz.func30, Tryz.ntmps30
 go_wp2
 · rename_i h
   subst h
   go_returns
   exact ⟨rfl, rfl⟩
 · rename_i h
   have h : lm = false := by simpa using h
   subst h
   go_returns
   exact ⟨rfl, rfl⟩
theorem pMany_ok : PrimGOk Tryz.prog 30 pMany := by
 refine ⟨fun args G v h g w vals hI hl hG hA => ?_, ⟨Tryz.f30, by kernel_rfl, by kernel_rfl, of_decide_eq_true (by kernel_rfl)⟩⟩
 unfold pMany at h
 split at h
 · rename_i b
   split at h
   · rename_i lm c1 c2 c3 c4 rc rest hb
     cases h
     obtain ⟨u, rfl, hu⟩ := hA.one
     obtain ⟨blk, hx, ho⟩ := hG.obj b _ hb
     have hu : Rc _ _ _ _ := hu
     obtain ⟨blk', rfl, hx'⟩ := Rc.gptr_inv hu
     have hx' : g.M.gx[b]? = some blk' := hx'
     rw [hx, Option.some.injEq] at hx'
     subst hx'
     cases ho with
     | cells vs e cs h1 h2 h3 =>
      have hlt : 5 < vs.size := by rw [h2]; simp
      obtain ⟨x0, g0⟩ : ∃ x, vs[0]? = some x := ⟨_, Array.getElem?_eq_getElem (by omega)⟩
      obtain ⟨x5, g5⟩ : ∃ x, vs[5]? = some x := ⟨_, Array.getElem?_eq_getElem hlt⟩
      have k0 := h3 0 _ _ g0 rfl
      have k5 := h3 5 _ _ g5 rfl
      have q0 : x0 = .bool lm := by
       cases k0 with
       | data k => cases k; rfl
      obtain ⟨a, len, cap, q5, q6⟩ : ∃ a len cap, x5 = .slice a len cap ∧ len = rc.length / 2 := by
       cases k5 with
       | data k => cases k
       | own e' k1 k2 =>
        cases k2 with
        | slN => exact ⟨_, _, _, rfl, rfl⟩
        | sl0 a cap => exact ⟨_, _, _, rfl, rfl⟩
        | sl b off len cap sz f cs h1 h2 h3 h4 h5 => exact ⟨_, _, _, rfl, by omega⟩
      rw [q0] at g0
      rw [q5] at g5
      refine (many_calls w blk lm a len cap ?_ ?_).mono fun e' w' ⟨z1, z2⟩ => ⟨_, g.M, z1, by rw [z2]; exact same_grow hl (Below.refl _ _), ?_⟩
      · rw [cell_of_row w blk 0 _ _ _ h1]; exact g0
      · rw [cell_of_row w blk 5 _ _ _ h1]; exact g5
      · rw [q6]; exact .data (.int _ _)
   · cases h
 · cases h
end AX
end Go.Proofs.YtnkppakkeobegaaGreatDoor
