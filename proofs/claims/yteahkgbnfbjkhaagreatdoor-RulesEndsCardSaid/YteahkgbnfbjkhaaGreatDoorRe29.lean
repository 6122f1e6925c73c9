/-
  DsnGood2, DsnMarkP.
-/
import Derived.Test.YteahkgbnfbjkhaaGreatDoorRe19
import Derived.Test.YteahkgbnfbjkhaaGreatDoorRe21
import Derived.Test.YteahkgbnfbjkhaaGreatDoorRe27
import Derived.Test.YteahkgbnfbjkhaaGreatDoorRe28
import Derived.Test.YteahkgbnfbjkhaaGreatDoorRe13
import Derived.Lib.ItoaNum
import Derived.Lib.ItoaMem
import Derived.Lib.ItoaLen
set_option maxRecDepth 20000
set_option linter.unusedVariables false
set_option linter.unusedSimpArgs false
set_option linter.unusedSectionVars false
namespace Go.Proofs.YteahkgbnfbjkhaaGreatDoor
open Go.ChangeShapes Go.WideShapes Go.ChangeAt Go.RowKit
def stampY (t : Int) : Bool := decide (0 ≤ t ∧ t ≤ 253402300799)
def stampS (t : Int) : ByteArray := if 0 ≤ t ∧ t ≤ 253402300799 then stampOf t else ⟨#[]⟩
theorem stamp11_calls (t : Int) (w : World) : Calls Tryz.prog 64 #[.int .i64 t] w fun r w' => r = .returned (.tuple #[.string (stampS t), .bool (stampY t)]) ∧ Below w.heap.size w w' := by
 unfold stampS stampY
 by_cases h : 0 ≤ t ∧ t ≤ 253402300799
 · rw [if_pos h, decide_eq_true h]; exact stamp_calls t h.1 h.2 w
 · rw [if_neg h, decide_eq_false h]; exact stamp_none t (by omega) w
structure Rep11 where
 host : ByteArray
 toL : ByteArray
 toD : ByteArray
 rcL : ByteArray
 rcD : ByteArray
 status : List UInt8
 reason : ByteArray
 id : ByteArray
 came : Int
 now : Int
 head : List UInt8
def Rep11.cells (r : Rep11) (q : Option Addr) (cap : Nat) : Array Value :=
 #[.string r.host, .string r.toL, .string r.toD, .string r.rcL, .string r.rcD, .string ⟨r.status.toArray⟩, .string r.reason, .string r.id, .int .i64 r.came, .int .i64 r.now, .slice q r.head.length cap]
structure Rep11.Small (r : Rep11) : Prop where
 h1 : r.host.size ≤ 100000000
 h2 : r.toL.size ≤ 100000000
 h3 : r.toD.size ≤ 100000000
 h4 : r.rcL.size ≤ 100000000
 h5 : r.rcD.size ≤ 100000000
 h6 : r.status.length ≤ 10000000
 h7 : r.reason.size ≤ 100000000
 h8 : r.id.size ≤ 100000000
 h9 : r.head.length ≤ 100000000
 h10 : (stripC r.head).length ≤ 8 → ∀ c ∈ stripC r.head, c.toNat < 128
def restB (r : Rep11) : Bool := stampY r.came && (stampY r.now && (domainB r.host.data.toList && (goodB r.toL r.toD && (goodB r.rcL r.rcD && (reasonB r.reason && (idB r.id && dheadB r.head))))))
def statusB (l : List UInt8) : Bool := match enhQ l with
 | some (a, _, _) => decide (4 ≤ a)
 | none => false
def dgoodB (r : Rep11) : Bool := statusB r.status && restB r
set_option maxHeartbeats 4000000 in
theorem dgood_calls {w : World} {q : Option Addr} {cap : Nat} (r : Rep11) (hr : r.Small) (hb : BytesAt w q cap r.head) (hw : LibAt w) :
 Calls Tryz.prog 21 #[.agg (r.cells q cap)] w fun e w' => e = .returned (.bool (dgoodB r)) ∧ Below w.heap.size w w' := by
 have k1 := Lib.hid (fun W (hW : Below w.heap.size w W) => enh_calls r.status hr.h6 (hw.below hW))
 have k2 := Lib.hid (fun t W => stamp11_calls t W)
 have k3 := Lib.hid (fun W => domain_calls r.host (by have := hr.h1; omega) W)
 have k4 := Lib.hid (fun W => good_calls r.toL r.toD (by have := hr.h2; omega) (by have := hr.h3; omega) W)
 have k5 := Lib.hid (fun W => good_calls r.rcL r.rcD (by have := hr.h4; omega) (by have := hr.h5; omega) W)
 have k6 := Lib.hid (fun W => isReason_calls r.reason hr.h7 W)
 have k7 := Lib.hid (fun W => isId_calls r.id hr.h8 W)
 have k8 := Lib.hid (fun W (hW : Below w.heap.size w W) => isHead_calls (hb.below hW) hr.h9 (hw.below hW) hr.h10)
 clear hb hw hr
 obtain ⟨host, toL, toD, rcL, rcD, status, reason, id, came, now, head⟩ := r
 unfold Rep11.cells
 have hd : dgoodB ⟨host, toL, toD, rcL, rcD, status, reason, id, came, now, head⟩ = (statusB status && (stampY came && (stampY now && (domainB host.data.toList && (goodB toL toD && (goodB rcL rcD && (reasonB reason && (idB id && dheadB head)))))))) := rfl
 rw [hd]
 clear hd
 dsimp only at k1 k2 k3 k4 k5 k6 k7 k8 ⊢
 unfold statusB
 generalize enhQ status = E at k1 ⊢
 cases E with
 | none =>
  simp only [enhV] at k1
  go_enter Tryz.func21, Tryz.ntmps21
  go_wp2_with first
   | (go_at_call 63; ((with_reducible refine (k1.out _ (by (repeat' (first | (with_reducible exact Below.refl _ _) | (with_reducible refine Below.app ?_ ?_ _ _) | (with_reducible refine Below.alloc ?_ ?_ _) | (with_reducible refine Below.drew ?_) | (with_reducible refine Below.setCell ?_ ?_ _) | (with_reducible assumption) | omega | (simp; omega) | (simp; done))))).mono ?_); rintro r w1 ⟨rfl, hb⟩; obtain ⟨b1, d1, rfl⟩ := of_below hb; clear hb))
   | (go_at_call 64; ((with_reducible refine (k2.out _ _).mono ?_); rintro r w1 ⟨rfl, hb⟩; obtain ⟨b1, d1, rfl⟩ := of_below hb; clear hb))
  go_returns
  exact ⟨rfl, by (repeat' (first | (with_reducible exact Below.refl _ _) | (with_reducible refine Below.app ?_ ?_ _ _) | (with_reducible refine Below.alloc ?_ ?_ _) | (with_reducible refine Below.drew ?_) | (with_reducible refine Below.setCell ?_ ?_ _) | (with_reducible assumption) | omega | (simp; omega) | (simp; done)))⟩
 | some t =>
  obtain ⟨a, b, c⟩ := t
  simp only [enhV] at k1
  go_enter Tryz.func21, Tryz.ntmps21
  go_wp2_with first
   | (go_at_call 63; ((with_reducible refine (k1.out _ (by (repeat' (first | (with_reducible exact Below.refl _ _) | (with_reducible refine Below.app ?_ ?_ _ _) | (with_reducible refine Below.alloc ?_ ?_ _) | (with_reducible refine Below.drew ?_) | (with_reducible refine Below.setCell ?_ ?_ _) | (with_reducible assumption) | omega | (simp; omega) | (simp; done))))).mono ?_); rintro r w1 ⟨rfl, hb⟩; obtain ⟨b1, d1, rfl⟩ := of_below hb; clear hb))
   | (go_at_call 64; ((with_reducible refine (k2.out _ _).mono ?_); rintro r w1 ⟨rfl, hb⟩; obtain ⟨b1, d1, rfl⟩ := of_below hb; clear hb))
   | (go_at_call 65; ((with_reducible refine (k3.out _).mono ?_); rintro r w1 ⟨rfl, hb⟩; obtain ⟨b1, d1, rfl⟩ := of_below hb; clear hb))
   | (go_at_call 66; ((with_reducible refine (k4.out _).mono ?_); rintro r w1 ⟨rfl, hb⟩; obtain ⟨b1, d1, rfl⟩ := of_below hb; clear hb))
   | (go_at_call 66; ((with_reducible refine (k5.out _).mono ?_); rintro r w1 ⟨rfl, hb⟩; obtain ⟨b1, d1, rfl⟩ := of_below hb; clear hb))
   | (go_at_call 67; ((with_reducible refine (k6.out _).mono ?_); rintro r w1 ⟨rfl, hb⟩; obtain ⟨b1, d1, rfl⟩ := of_below hb; clear hb))
   | (go_at_call 68; ((with_reducible refine (k7.out _).mono ?_); rintro r w1 ⟨rfl, hb⟩; obtain ⟨b1, d1, rfl⟩ := of_below hb; clear hb))
   | (go_at_call 69; ((with_reducible refine (k8.out _ (by (repeat' (first | (with_reducible exact Below.refl _ _) | (with_reducible refine Below.app ?_ ?_ _ _) | (with_reducible refine Below.alloc ?_ ?_ _) | (with_reducible refine Below.drew ?_) | (with_reducible refine Below.setCell ?_ ?_ _) | (with_reducible assumption) | omega | (simp; omega) | (simp; done))))).mono ?_); rintro r w1 ⟨rfl, hb⟩; obtain ⟨b1, d1, rfl⟩ := of_below hb; clear hb))
  all_goals go_returns
  all_goals refine ⟨rb ?_, by (repeat' (first | (with_reducible exact Below.refl _ _) | (with_reducible refine Below.app ?_ ?_ _ _) | (with_reducible refine Below.alloc ?_ ?_ _) | (with_reducible refine Below.drew ?_) | (with_reducible refine Below.setCell ?_ ?_ _) | (with_reducible assumption) | omega | (simp; omega) | (simp; done)))⟩
  all_goals clear k1 k2 k3 k4 k5 k6 k7 k8
  all_goals (try (simp_all; done))
  · rw [decide_eq_true (show 4 ≤ a by omega)]; simp_all
  · rw [decide_eq_false (show ¬ 4 ≤ a by omega)]; rfl
end Go.Proofs.YteahkgbnfbjkhaaGreatDoor
set_option maxRecDepth 20000
set_option linter.unusedVariables false
set_option linter.unusedSimpArgs false
set_option linter.unusedSectionVars false
namespace Go.Proofs.YteahkgbnfbjkhaaGreatDoor
def valD (l : List UInt8) : Nat := l.foldl (fun a c => a * 10 + (c.toNat - 48)) 0
theorem valD_dec (u : Nat) : valD (Lib.decDigits u) = u := by
 induction u using Nat.strongRecOn with
 | _ u ih =>
  rw [Lib.decDigits]
  by_cases h : u < 10
  · rw [dif_pos h]
    have e : (UInt8.ofNat (48 + u)).toNat = 48 + u := by rw [UInt8.toNat_ofNat']; omega
    simp [valD]
    omega
  · rw [dif_neg h]
    have e : (UInt8.ofNat (48 + u % 10)).toNat = 48 + u % 10 := by rw [UInt8.toNat_ofNat']; omega
    have hi := ih (u / 10) (by omega)
    unfold valD at hi ⊢
    rw [List.foldl_append, hi]
    simp [e]
    omega
theorem dec_inj {a b : Nat} (h : Lib.decDigits a = Lib.decDigits b) : a = b := by rw [← valD_dec a, h, valD_dec]
theorem nodup_bound : ∀ (M : Nat) (l : List Nat), l.Nodup → (∀ x ∈ l, x < M) → l.length ≤ M
 | 0, l, _, h => by
  cases l with
  | nil => exact Nat.le_refl _
  | cons x l => exact absurd (h x (List.mem_cons_self ..)) (Nat.not_lt_zero _)
 | M + 1, l, hn, h => by
  have ih := nodup_bound M (l.erase M) (hn.erase M) (fun x hx => by
   have h1 := h x (List.mem_of_mem_erase hx)
   have h2 : x ≠ M := fun e => by subst e; exact (hn.not_mem_erase) hx
   omega)
  rw [List.length_erase] at ih
  split at ih <;> omega
def beginsB (front head : List UInt8) : Bool := Lib.hasPrefix head front || Lib.contains head (13 :: 10 :: front)
theorem index_pre (s : List UInt8) : ∀ l : List UInt8, 0 ≤ Lib.index l s → ∃ p, p ≤ l.length ∧ s.isPrefixOf (l.drop p) = true
 | [], h => by
  unfold Lib.index at h
  split at h
  · rename_i e; exact ⟨0, Nat.le_refl _, by cases s with | nil => rfl | cons c s => cases e⟩
  · omega
 | c :: l, h => by
  unfold Lib.index at h
  split at h
  · rename_i e; exact ⟨0, Nat.zero_le _, by simpa using e⟩
  · split at h
    · omega
    · rename_i e1 e2
      have h3 : 0 ≤ Lib.index l s := by
       have := Lib.index_ge l s
       have : Lib.index l s ≠ -1 := by simpa using e2
       omega
      obtain ⟨p, hp, hq⟩ := index_pre s l h3
      exact ⟨p + 1, by simp; omega, by simpa using hq⟩
theorem begins_at {front head : List UInt8} (h : beginsB front head = true) : ∃ p, p ≤ head.length + 2 ∧ front <+: head.drop p := by
 unfold beginsB at h
 rw [Bool.or_eq_true] at h
 rcases h with h | h
 · exact ⟨0, Nat.zero_le _, by rw [List.drop_zero]; exact List.isPrefixOf_iff_prefix.1 h⟩
 · unfold Lib.contains at h
   obtain ⟨p, hp, hq⟩ := index_pre _ _ (of_decide_eq_true h)
   have hq := List.isPrefixOf_iff_prefix.1 hq
   obtain ⟨t, ht⟩ := hq
   refine ⟨p + 2, by omega, t, ?_⟩
   rw [← List.drop_drop, ← ht]; rfl
def frontT (pre : List UInt8) (n : Nat) : List UInt8 := pre ++ Lib.itoa (n : Int)
theorem mark_free (pre head : List UInt8) (hl : head.length ≤ 32768) : ∃ n, n < 1000000 ∧ beginsB (frontT pre n) head = false := by
 apply Classical.byContradiction
 intro hno
 have hall : ∀ n, n < 1000000 → ∃ p, p ≤ head.length + 2 ∧ frontT pre n <+: head.drop p := fun n hn => begins_at (by
  cases h : beginsB (frontT pre n) head with
  | true => rfl
  | false => exact absurd ⟨n, hn, h⟩ hno)
 have hch : ∀ n : Nat, ∃ p, n < 1000000 → p ≤ head.length + 2 ∧ frontT pre n <+: head.drop p := fun n => by
  by_cases h : n < 1000000
  · obtain ⟨p, hp⟩ := hall n h; exact ⟨p, fun _ => hp⟩
  · exact ⟨0, fun h2 => absurd h2 h⟩
 let P := fun n => Classical.choose (hch n)
 have hP : ∀ n, n < 1000000 → P n ≤ head.length + 2 ∧ frontT pre n <+: head.drop (P n) := fun n => Classical.choose_spec (hch n)
 have hlen : ∀ n : Nat, n < 1000000 → (Lib.itoa (n : Int)).length ≤ 21 := fun n hn => Lib.itoa_length_le n (by omega) (by omega)
 have hb := nodup_bound ((head.length + 3) * 22) ((List.range 1000000).map fun n => P n * 22 + (Lib.itoa (n : Int)).length) ?_ ?_
 · rw [List.length_map, List.length_range] at hb
   omega
 · show List.Pairwise (· ≠ ·) _
   rw [List.pairwise_map]
   refine List.Pairwise.imp_of_mem ?_ (List.pairwise_lt_range (n := 1000000))
   intro a b ha hb hab e
   have ha := List.mem_range.1 ha
   have hb := List.mem_range.1 hb
   have h1 := hlen a ha
   have h2 := hlen b hb
   have hp : P a = P b := by omega
   have hq : (Lib.itoa (a : Int)).length = (Lib.itoa (b : Int)).length := by omega
   obtain ⟨_, f1⟩ := hP a ha
   obtain ⟨_, f2⟩ := hP b hb
   rw [hp] at f1
   have hfl : (frontT pre a).length = (frontT pre b).length := by unfold frontT; rw [List.length_append, List.length_append, hq]
   have hfe := (List.prefix_of_prefix_length_le f1 f2 (Nat.le_of_eq hfl)).eq_of_length hfl
   have hie : Lib.itoa (a : Int) = Lib.itoa (b : Int) := List.append_cancel_left hfe
   rw [Lib.itoa_nonneg, Lib.itoa_nonneg] at hie
   have := dec_inj hie
   omega
 · intro x hx
   obtain ⟨n, hn, rfl⟩ := List.mem_map.1 hx
   have hn := List.mem_range.1 hn
   have := hlen n hn
   have := (hP n hn).1
   omega
theorem mark_least (pre head : List UInt8) (hl : head.length ≤ 32768) : ∃ n, n < 1000000 ∧ beginsB (frontT pre n) head = false ∧ ∀ m, m < n → beginsB (frontT pre m) head = true := by
 obtain ⟨n, hn, hb⟩ := mark_free pre head hl
 induction n using Nat.strongRecOn with
 | _ n ih =>
  by_cases h : ∃ m, m < n ∧ beginsB (frontT pre m) head = false
  · obtain ⟨m, hm, hmb⟩ := h
    exact ih m hm (by omega) hmb
  · refine ⟨n, hn, hb, fun m hm => ?_⟩
    cases hq : beginsB (frontT pre m) head with
    | true => rfl
    | false => exact absurd ⟨m, hm, hq⟩ h
end Go.Proofs.YteahkgbnfbjkhaaGreatDoor
