/-
  strings.HasSuffix at a text of 31 bytes and the zone.
-/
import Derived.Test.YtbnghchniboggaaProg
import Derived.Test.YtbnghchniboggaaBase
import Derived.Lib.SlicesS
namespace Go.Proofs.Ytbnghchniboggaa
open Go.ChangeShapes Go.WideShapes Go.ChangeAt Go.RowKit

def zoneB : ByteArray := ⟨#[32, 43, 48, 48, 48, 48]⟩
theorem suffix_lite (s : ByteArray) (hs : s.size = 31) (w : World) : Calls Try.prog 46 #[.string s, .string ⟨#[32, 43, 48, 48, 48, 48]⟩] w fun r w' => r = .returned (.bool (decide (s.extract 25 31 = zoneB))) ∧ w = w' := by
  have hz : zoneB.toList = [32, 43, 48, 48, 48, 48] := ByteArray.toList_mk [32, 43, 48, 48, 48, 48]
  have hq : decide (s.extract 25 31 = zoneB) = ((s.extract 25 31).toList == [32, 43, 48, 48, 48, 48]) := by
    rw [← hz, Bool.eq_iff_iff, Lib.bytes_beq_iff]; simp
  rw [hq]
  clear hq hz
  go_enter Try.func46, Try.ntmps46
  go_wp2
  go_returns
  exact ⟨rfl, rfl⟩
theorem suffix_calls (s : ByteArray) (hs : s.size = 31) (w : World) : Calls Try.prog 36 #[.string s, .string ⟨#[32, 43, 48, 48, 48, 48]⟩] w fun r w' => r = .returned (.bool (decide (s.extract 25 31 = zoneB))) ∧ w = w' := by
  have hc := Lib.hid (suffix_lite s hs)
  go_enter Try.func36, Try.ntmps36
  go_wp2_with (go_at_call 46; ((refine (hc.out _).mono ?_); rintro r w1 ⟨rfl, rfl⟩))
  go_returns
  exact ⟨rfl, rfl⟩
end Go.Proofs.Ytbnghchniboggaa
