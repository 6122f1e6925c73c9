/-
  sched.Earliest: what it gives.
-/
import Derived.Test.YtncijlpnidomfaaProg
import Derived.Test.YtncijlpnidomfaaBase
import Derived.Test.YtncijlpnidomfaaSched
import Derived.Test.YtncijlpnidomfaaOpen
namespace Go.Proofs.Ytncijlpnidomfaa
open Go.ChangeShapes Go.WideShapes Go.ChangeAt Go.RowKit

structure SV where
  st : Int
  tr : Int
  du : Int
  co : Int
def IsState (_ : World) (cs : List Value) (s : SV) : Prop := cs = [.int .i64 s.st, .int .i64 s.tr, .int .i64 s.du, .int .i64 s.co]
theorem stays_state : Stays IsState := fun _ h => h
def IsJob (w : World) (cs : List Value) (l : List SV) : Prop := ∃ (i0 i1 : Int) (s2 s3 : ByteArray) (p4 : Option Addr) (n4 c4 : Nat) (p : Option Addr) (cap : Nat) (p6 : Option Addr) (n6 c6 : Nat),
  cs = [.int .i64 i0, .int .i64 i1, .string s2, .string s3, .slice p4 n4 c4, .slice p l.length cap, .slice p6 n6 c6] ∧ l.length ≤ 9223372036854775807 ∧ Shows w 4 IsState p l
theorem stays_job : Stays IsJob := fun hb ⟨i0, i1, s2, s3, p4, n4, c4, p, cap, p6, n6, c6, h, hl, hs⟩ => ⟨i0, i1, s2, s3, p4, n4, c4, p, cap, p6, n6, c6, h, hl, hs.below stays_state hb⟩

def stepS (r : Int × Bool) (s : SV) : Int × Bool := if s.st = 0 ∧ (r.2 = false ∨ s.du < r.1) then (s.du, true) else r
def earliest (l : List (List SV)) : Int × Bool := l.flatten.foldl stepS (0, false)

set_option maxHeartbeats 1000000 in
theorem earliest_calls (p : Option Addr) (l : List (List SV)) (cap : Nat) (w : World) (hz : Hid (Shows w 7 IsJob p l)) (hl : l.length ≤ 9223372036854775807) :
    Calls Try.prog 19 #[.slice p l.length cap] w fun r w' => r = .returned (.tuple #[.int .i64 (earliest l).1, .bool (earliest l).2]) ∧ Below w.heap.size w w' := by
  go_enter Try.func19, Try.ntmps19
  go_wp2
  go_loopw [4, 5, 12] (fun a s i wr => ∃ (k : Nat) (at_ : Int) (some_ : Bool), k ≤ l.length ∧ i = .int .i64 k ∧ a = .int .i64 at_ ∧ s = .bool some_ ∧ Hid (((l.drop k).flatten).foldl stepS (at_, some_) = earliest l) ∧ Ext w wr) (fun _ _ i _ => l.length - (intOf i).toNat)
  case atStart => exact ⟨0, 0, false, by omega, rfl, rfl, rfl, rfl, ext_of (Below.refl _ _)⟩
  case round =>
    obtain ⟨k, at_, some_, hk, rfl, rfl, rfl, hr, bs, d, rfl⟩ := hrel
    by_cases hlt : k < l.length
    · obtain ⟨b, off, cs, rfl, hb, hcl, hc, i0, i1, s2, s3, p4, n4, c4, q, qc, p6, n6, c6, rfl, hql, hq⟩ := hz.out k hlt
      have e0 := hc 0 (by omega)
      have e1 := hc 1 (by omega)
      have e2 := hc 2 (by omega)
      have e3 := hc 3 (by omega)
      have e4 := hc 4 (by omega)
      have e5 := hc 5 (by omega)
      have e6 := hc 6 (by omega)
      clear hc
      simp at e0 e1 e2 e3 e4 e5 e6
      have hdr := Lib.hid (drop_step [] l k hlt)
      have hlk : l.getD k [] = l[k] := by simp [List.getD, hlt]
      rw [hlk] at hdr
      generalize l[k] = sts at *
      clear hlk
      replace hq := Lib.hid hq
      go_wp2
      go_loopw [4, 5, 19] (fun a s i wr => ∃ (m : Nat) (at_ : Int) (some_ : Bool), m ≤ sts.length ∧ i = .int .i64 m ∧ a = .int .i64 at_ ∧ s = .bool some_ ∧ Hid ((sts.drop m ++ (l.drop (k + 1)).flatten).foldl stepS (at_, some_) = earliest l) ∧ Ext w wr) (fun _ _ i _ => sts.length - (intOf i).toNat)
      case atStart => exact ⟨0, at_, some_, by omega, rfl, rfl, rfl, by go_light; have h1 := hr.out; rw [hdr.out, List.flatten_cons] at h1; exact h1, ext_of (by (repeat' (first | (with_reducible exact Below.refl _ _) | (with_reducible refine Below.app ?_ ?_ _ _) | (with_reducible refine Below.alloc ?_ ?_ _) | (with_reducible refine Below.drew ?_) | (with_reducible refine Below.setCell ?_ ?_ _) | (with_reducible assumption) | omega | (simp; omega) | (simp; done))))⟩
      case round =>
        obtain ⟨m, at1, some1, hm, rfl, rfl, rfl, hr1, bs1, d1, rfl⟩ := hrel
        by_cases hlm : m < sts.length
        · obtain ⟨b2, off2, cs, rfl, hb2, hcl2, hc2, rfl⟩ := hq.out m hlm
          have f0 := hc2 0 (by omega)
          have f1 := hc2 1 (by omega)
          have f2 := hc2 2 (by omega)
          have f3 := hc2 3 (by omega)
          clear hc2
          simp at f0 f1 f2 f3
          have hdr2 := Lib.hid (drop_step ⟨0, 0, 0, 0⟩ sts m hlm)
          have hlk : sts.getD m ⟨0, 0, 0, 0⟩ = sts[m] := by simp [List.getD, hlm]
          rw [hlk] at hdr2
          generalize sts[m] = s1 at *
          clear hlk
          obtain ⟨x0, x1, x2, x3⟩ := s1
          simp only at f0 f1 f2 f3
          cases some1
          all_goals
            go_wp2
            all_goals
              go_roundw
              case rel => exact ⟨m + 1, _, _, by omega, by go_num, rfl, rfl, by go_light; have h1 := hr1.out; have h2 := hdr2.out; rw [h2] at h1; unfold Hid; rw [← h1]; simp only [List.cons_append, List.foldl_cons]; congr 1; simp [stepS]; grind, ext_of (by (repeat' (first | (with_reducible exact Below.refl _ _) | (with_reducible refine Below.app ?_ ?_ _ _) | (with_reducible refine Below.alloc ?_ ?_ _) | (with_reducible refine Below.drew ?_) | (with_reducible refine Below.setCell ?_ ?_ _) | (with_reducible assumption) | omega | (simp; omega) | (simp; done))))⟩
              case measure => simp [intOf]; omega
        · have hd : sts.drop m = [] := List.drop_of_length_le (by omega)
          go_wp2
          go_roundw
          case rel => exact ⟨k + 1, _, _, by omega, by go_num, rfl, rfl, by go_light; have h1 := hr1.out; rw [hd] at h1; exact h1, ext_of (by (repeat' (first | (with_reducible exact Below.refl _ _) | (with_reducible refine Below.app ?_ ?_ _ _) | (with_reducible refine Below.alloc ?_ ?_ _) | (with_reducible refine Below.drew ?_) | (with_reducible refine Below.setCell ?_ ?_ _) | (with_reducible assumption) | omega | (simp; omega) | (simp; done))))⟩
          case measure => simp [intOf]; omega
    · have hd : l.drop k = [] := List.drop_of_length_le (by omega)
      have h1 := hr.out
      rw [hd] at h1
      replace h1 : Hid (earliest l = (at_, some_)) := h1.symm
      clear hd
      go_wp2
      go_returns
      rw [h1.out]
      exact ⟨rfl, by (repeat' (first | (with_reducible exact Below.refl _ _) | (with_reducible refine Below.app ?_ ?_ _ _) | (with_reducible refine Below.alloc ?_ ?_ _) | (with_reducible refine Below.drew ?_) | (with_reducible refine Below.setCell ?_ ?_ _) | (with_reducible assumption) | omega | (simp; omega) | (simp; done)))⟩
end Go.Proofs.Ytncijlpnidomfaa
