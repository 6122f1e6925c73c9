/-
  The kinds of bytes, on both sides: letter, digit, plain, atext; alnum, Atom.
-/
import Derived.Test.YtfbicbgdfcbhpaaDoorProg
import Derived.Test.YtfbicbgdfcbhpaaDoorAddrPlain
import Derived.Test.YtfbicbgdfcbhpaaDoorShelf
import Derived.Lib.IndexAny
set_option maxRecDepth 20000
set_option linter.unusedVariables false
set_option linter.unusedSimpArgs false
set_option linter.unusedSectionVars false
namespace Go.Proofs.YtfbicbgdfcbhpaaDoor
open Go.ChangeShapes Go.WideShapes Go.ChangeAt Go.RowKit

theorem digit_calls (c : UInt8) (w : World) : Calls Tryd.prog 105 #[.int .u8 (c.toNat : Int)] w fun r w' => r = .returned (.bool (digitB c)) ∧ w = w' := by
  go_enter Tryd.func105, Tryd.ntmps105
  go_wp2
  all_goals (go_returns; refine ⟨rb ?_, rfl⟩; go_light; unfold digitB; first | (simp; done) | (rw [Bool.eq_iff_iff]; simp; omega))
theorem plain_calls (c : UInt8) (w : World) : Calls Tryd.prog 137 #[.int .u8 (c.toNat : Int)] w fun r w' => r = .returned (.bool (plainB c)) ∧ w = w' := by
  go_enter Tryd.func137, Tryd.ntmps137
  go_wp2
  all_goals (go_returns; refine ⟨rb ?_, rfl⟩; go_light; unfold plainB; first | (simp; done) | (rw [Bool.eq_iff_iff]; simp; omega))
theorem letter_bits (c : UInt8) : decide (97 ≤ bits .or .u8 (c.toNat : Int) 32 ∧ bits .or .u8 (c.toNat : Int) 32 ≤ 122) = letterB c := by
  have h : ∀ n : Fin 256, decide (97 ≤ bits .or .u8 (n.val : Int) 32 ∧ bits .or .u8 (n.val : Int) 32 ≤ 122) = decide ((97 ≤ n.val ∧ n.val ≤ 122) ∨ (65 ≤ n.val ∧ n.val ≤ 90)) := by decide +kernel
  exact h ⟨c.toNat, c.toNat_lt⟩
theorem letter_calls (c : UInt8) (w : World) : Calls Tryd.prog 104 #[.int .u8 (c.toNat : Int)] w fun r w' => r = .returned (.bool (letterB c)) ∧ w = w' := by
  go_enter Tryd.func104, Tryd.ntmps104
  go_wp2
  all_goals (go_returns; refine ⟨rb ?_, rfl⟩; go_light; rw [← letter_bits]; first | (simp; done) | (rw [Bool.eq_iff_iff]; simp; omega))
theorem others_calls (c : UInt8) (w : World) : Calls Tryd.prog 68 #[.string ⟨#[33, 35, 36, 37, 38, 39, 42, 43, 45, 47, 61, 63, 94, 95, 96, 123, 124, 125, 126]⟩, .int .u8 (c.toNat : Int)] w fun r w' => r = .returned (.int .i64 (Lib.indexByte othersL c)) ∧ w = w' :=
  (Tryd.strings_IndexByte ⟨#[33, 35, 36, 37, 38, 39, 42, 43, 45, 47, 61, 63, 94, 95, 96, 123, 124, 125, 126]⟩ (c.toNat : Int) w).mono fun e w' ⟨h1, h2⟩ => ⟨by
    rw [h1]
    have : ((c.toNat : Int)).toNat.toUInt8 = c := by simp
    rw [this]; rfl, h2.symm⟩
theorem atext_calls (c : UInt8) (w : World) : Calls Tryd.prog 139 #[.int .u8 (c.toNat : Int)] w fun r w' => r = .returned (.bool (atomB c)) ∧ w = w' := by
  have hk := Lib.hid (Lib.contains_iff_indexByte othersL c)
  go_enter Tryd.func139, Tryd.ntmps139
  go_wp2_with first
    | (go_at_call 104; ((with_reducible refine (letter_calls _ _).mono ?_); rintro _ _ ⟨rfl, rfl⟩))
    | (go_at_call 105; ((with_reducible refine (digit_calls _ _).mono ?_); rintro _ _ ⟨rfl, rfl⟩))
    | (go_at_call 68; ((with_reducible refine (others_calls _ _).mono ?_); rintro _ _ ⟨rfl, rfl⟩))
  all_goals (go_returns; refine ⟨rb ?_, rfl⟩; go_light; unfold atomB alnumB; first | (rw [hk.out]; simp_all; done) | (simp_all; done))
end Go.Proofs.YtfbicbgdfcbhpaaDoor
