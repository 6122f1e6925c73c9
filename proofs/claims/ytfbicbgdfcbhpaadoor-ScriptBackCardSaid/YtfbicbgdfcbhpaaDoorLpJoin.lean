/-
  strings.Join, for the reckoning.
-/
import Derived.Test.YtfbicbgdfcbhpaaDoorLpBase
import Derived.Test.YtfbicbgdfcbhpaaDoorShelf
set_option maxRecDepth 20000
set_option linter.unusedVariables false
set_option linter.unusedSimpArgs false
set_option linter.unusedSectionVars false
namespace Go.Proofs.YtfbicbgdfcbhpaaDoor
open Go.ChangeShapes Go.WideShapes Go.ChangeAt Go.RowKit
namespace AX
def pJoin : List AV → Option AV
  | [.one (.sl none 1 cs), .one (.str sep)] => (match strsOf cs with
    | some ls => bif decide (ls.length ≤ 100000000) && decide ((Lib.join ls sep).length ≤ 100000000) then some (.one (.str (Lib.join ls sep))) else none
    | none => none)
  | _ => none
theorem pJoin_ok : PrimOk Tryd.prog 56 pJoin := by
  refine ⟨fun args v h M w vals hI hl hA => ?_, ⟨Tryd.f56, by kernel_rfl, by kernel_rfl, of_decide_eq_true (by kernel_rfl)⟩⟩
  unfold pJoin at h
  split at h
  · rename_i cs sep
    split at h
    · rename_i ls hls
      obtain rfl := strsOf_eq _ _ hls
      obtain ⟨hd, rfl⟩ := bif_some h
      rw [Bool.and_eq_true, decide_eq_true_eq, decide_eq_true_eq] at hd
      obtain ⟨x, y, rfl, hx, hy⟩ := hA.two
      obtain rfl := Rc.str_inv hy
      have hx : Rd M w x (.sl none 1 (ls.map .str)) := Rc.dataSl hx
      have hmap : (ls.map baOf).map (·.data.toList) = ls := by
        rw [List.map_map]; conv => rhs; rw [← List.map_id ls]
        exact List.map_congr_left fun l _ => baOf_list l
      by_cases hne : ls = []
      · subst hne
        have hx2 : ∃ a c, x = .slice a 0 c := by
          generalize hcs : ([] : List (List UInt8)).map Cell.str = cs at hx
          cases hx with
          | slN => exact ⟨_, _, rfl⟩
          | sl0 => exact ⟨_, _, rfl⟩
          | sl b off len cap sz f cs hz hl2 _ _ _ =>
            subst hcs
            have : len = 0 := by simpa using hl2.symm
            subst this; exact ⟨_, _, rfl⟩
        obtain ⟨a, c, rfl⟩ := hx2
        refine (Tryd.strings_Join_none a c ⟨sep.toArray⟩ w).mono fun e w' ⟨h1, h2⟩ => ⟨_, M, h1, same_grow hl (by rw [h2]; exact Below.refl _ _), ?_⟩
        exact .data (.str [])
      · obtain ⟨b, off, cap, rfl, hle, hb, hcell⟩ := strs_cells hx hne
        have h3 := Tryd.strings_Join b off cap (ls.map baOf) ⟨sep.toArray⟩ w (fun j x hx => by
          rw [List.getElem?_map] at hx
          cases hj : ls[j]? with
          | none => rw [hj] at hx; cases hx
          | some l => rw [hj] at hx; cases hx; exact hcell j l hj) hb (by simp; omega) (by simpa using hle) (by rw [hmap]; show (Lib.join ls sep).length ≤ _; omega)
        rw [hmap, List.length_map] at h3
        exact h3.mono fun e w' ⟨h1, h2⟩ => ⟨_, M, h1, same_grow hl h2, .data (.str _)⟩
    · cases h
  · cases h
end AX
end Go.Proofs.YtfbicbgdfcbhpaaDoor
