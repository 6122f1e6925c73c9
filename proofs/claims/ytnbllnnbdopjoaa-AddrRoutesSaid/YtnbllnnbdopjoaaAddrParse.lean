/-
  addr.Parse: what it gives.
-/
import Derived.Test.YtnbllnnbdopjoaaAddrTop
namespace Go.Proofs.Ytnbllnnbdopjoaa
open Go.ChangeShapes Go.WideShapes Go.ChangeAt Go.RowKit

/-- What a text is, if it is a mailbox: its local part, its domain, an error. -/
def parseP (s : ByteArray) : ByteArray × ByteArray × Int :=
  match mailboxP s.data.toList with
  | some (t, d, k) => if k = s.size then (if 64 < t.length ∨ 64 < d then (⟨#[]⟩, ⟨#[]⟩, 4) else (⟨t.toArray⟩, s.extract (k - d) k, 0)) else (⟨#[]⟩, ⟨#[]⟩, 3)
  | none => (⟨#[]⟩, ⟨#[]⟩, 3)
theorem end_at (w : World) (s : ByteArray) (A O : Obj) (T : TypeId) (bs bs' : Array Obj) (d d' : Nat) (m : Int) (lg : Bool) (x y : ByteArray) (ok : Bool) :
    Calls Try.prog 25 #[.pointer (some ⟨w.heap.size + 1, 0, none⟩), .agg #[.string x, .string y], .bool ok] (app ((app ((w.alloc A).alloc (.cells #[.string s, .int .i64 m, .bool lg] T)) bs d).alloc O) bs' d') fun r w' =>
      r = .returned (.tuple #[if ok && !lg then .agg #[.string x, .string y] else .agg #[.string ⟨#[]⟩, .string ⟨#[]⟩], .int .i64 (if ok then (if lg then 4 else 0) else 3)]) ∧ Below (app ((app ((w.alloc A).alloc (.cells #[.string s, .int .i64 m, .bool lg] T)) bs d).alloc O) bs' d').heap.size (app ((app ((w.alloc A).alloc (.cells #[.string s, .int .i64 m, .bool lg] T)) bs d).alloc O) bs' d') w' :=
  end_calls x y ok (((((RowIs.new_at _ _ _ _ (by simp))).app _ _).alloc _).app _ _)
set_option maxHeartbeats 4000000 in
theorem parse_calls (s : ByteArray) (hs : s.size ≤ 140000000000000) (w : World) : Calls Try.prog 9 #[.string s] w fun r w' =>
    r = .returned (.tuple #[.agg #[.string (parseP s).1, .string (parseP s).2.1], .int .i64 (parseP s).2.2]) ∧ Below w.heap.size w w' := by
  unfold parseP
  have hbox := fun o => RowIs.new_at (w.alloc o) #[.string s, .int .i64 0, .bool false] 45 (w.heap.size + 1) (by simp)
  cases hp : mailboxP s.data.toList with
  | none =>
    have hd := fun o => mailbox_any 0 none (by rw [List.drop_zero, hp]; rfl) rfl (Nat.zero_le _) hs (hbox o)
    clear hp hbox
    replace hd := Lib.hid hd
    go_enter Try.func9, Try.ntmps9
    go_wp2_with (go_at_call 24; ((refine (hd.out _).mono ?_); rintro r w1 ⟨x, y, n2, lg2, hn2, rfl, bs3, d3, rfl⟩))
    (apply wp_region_text 15; kernel_rfl; kernel_rfl; intro Fin hFin; (repeat (first | (apply text_run; exact rfl; (focus (intro bs d hF K hK; (repeat rw [app_app] at hK); (repeat rw [app_app]); (repeat rw [Array.append_assoc] at hK); (repeat rw [Array.append_assoc]); go_step; first  | (go_at_call 25; ((refine (end_at _ _ _ _ _ _ _ _ _ _ _ _ _ _).mono ?_); rintro r w1 ⟨rfl, hb⟩; simp only []; exact hK _ hb))  | (refine hK _ ?_; (repeat' (first | (with_reducible exact Below.refl _ _) | (with_reducible refine Below.app ?_ ?_ _ _) | (with_reducible refine Below.alloc ?_ ?_ _) | (with_reducible refine Below.drew ?_) | (with_reducible refine Below.setCell ?_ ?_ _) | (with_reducible assumption) | omega | (simp; omega) | (simp; done)))))); (try simp only [Act.put, List.setIfInBounds_toArray, List.set_cons_zero, List.set_cons_succ])) | (apply text_skip; exact rfl; (try simp only [Act.put, List.setIfInBounds_toArray, List.set_cons_zero, List.set_cons_succ])))); apply text_end; apply hFin; clear hFin Fin; intro bs d hfa)
    go_wp2
    go_returns
    exact ⟨rfl, by (repeat' (first | (with_reducible exact Below.refl _ _) | (with_reducible refine Below.app ?_ ?_ _ _) | (with_reducible refine Below.alloc ?_ ?_ _) | (with_reducible refine Below.drew ?_) | (with_reducible refine Below.setCell ?_ ?_ _) | (with_reducible assumption) | omega | (simp; omega) | (simp; done)))⟩
  | some x =>
    obtain ⟨t, d, k⟩ := x
    have hd := fun o => mailbox_any 0 (some (t, d, k)) (by rw [List.drop_zero, hp]; simp) rfl (Nat.zero_le _) hs (hbox o)
    clear hp hbox
    by_cases hk : k = s.size
    · subst hk
      by_cases h1 : 64 < t.length
      · simp only [h1, true_or, if_true]
        have h1' : decide (64 < (t.length : Int)) = true := by simp; omega
        clear h1
        replace hd := Lib.hid hd
        go_enter Try.func9, Try.ntmps9
        go_wp2_with (go_at_call 24; ((refine (hd.out _).mono ?_); rintro r w1 ⟨rfl, bs3, d3, rfl⟩))
        (apply wp_region_text 15; kernel_rfl; kernel_rfl; intro Fin hFin; (repeat (first | (apply text_run; exact rfl; (focus (intro bs d hF K hK; (repeat rw [app_app] at hK); (repeat rw [app_app]); (repeat rw [Array.append_assoc] at hK); (repeat rw [Array.append_assoc]); go_step; first  | (go_at_call 25; ((refine (end_at _ _ _ _ _ _ _ _ _ _ _ _ _ _).mono ?_); rintro r w1 ⟨rfl, hb⟩; simp only []; exact hK _ hb))  | (refine hK _ ?_; (repeat' (first | (with_reducible exact Below.refl _ _) | (with_reducible refine Below.app ?_ ?_ _ _) | (with_reducible refine Below.alloc ?_ ?_ _) | (with_reducible refine Below.drew ?_) | (with_reducible refine Below.setCell ?_ ?_ _) | (with_reducible assumption) | omega | (simp; omega) | (simp; done)))))); (try simp only [Act.put, List.setIfInBounds_toArray, List.set_cons_zero, List.set_cons_succ])) | (apply text_skip; exact rfl; (try simp only [Act.put, List.setIfInBounds_toArray, List.set_cons_zero, List.set_cons_succ])))); apply text_end; apply hFin; clear hFin Fin; intro bs d hfa)
        go_wp2
        go_returns
        exact ⟨rfl, by (repeat' (first | (with_reducible exact Below.refl _ _) | (with_reducible refine Below.app ?_ ?_ _ _) | (with_reducible refine Below.alloc ?_ ?_ _) | (with_reducible refine Below.drew ?_) | (with_reducible refine Below.setCell ?_ ?_ _) | (with_reducible assumption) | omega | (simp; omega) | (simp; done)))⟩
      · have h1' : decide (64 < (t.length : Int)) = false := by simp; omega
        by_cases h2 : 64 < d
        · simp only [h2, or_true, if_true]
          have h2' : decide (64 < (d : Int)) = true := by simp; omega
          clear h1 h2
          replace hd := Lib.hid hd
          go_enter Try.func9, Try.ntmps9
          go_wp2_with (go_at_call 24; ((refine (hd.out _).mono ?_); rintro r w1 ⟨rfl, bs3, d3, rfl⟩))
          (apply wp_region_text 15; kernel_rfl; kernel_rfl; intro Fin hFin; (repeat (first | (apply text_run; exact rfl; (focus (intro bs d hF K hK; (repeat rw [app_app] at hK); (repeat rw [app_app]); (repeat rw [Array.append_assoc] at hK); (repeat rw [Array.append_assoc]); go_step; first  | (go_at_call 25; ((refine (end_at _ _ _ _ _ _ _ _ _ _ _ _ _ _).mono ?_); rintro r w1 ⟨rfl, hb⟩; simp only []; exact hK _ hb))  | (refine hK _ ?_; (repeat' (first | (with_reducible exact Below.refl _ _) | (with_reducible refine Below.app ?_ ?_ _ _) | (with_reducible refine Below.alloc ?_ ?_ _) | (with_reducible refine Below.drew ?_) | (with_reducible refine Below.setCell ?_ ?_ _) | (with_reducible assumption) | omega | (simp; omega) | (simp; done)))))); (try simp only [Act.put, List.setIfInBounds_toArray, List.set_cons_zero, List.set_cons_succ])) | (apply text_skip; exact rfl; (try simp only [Act.put, List.setIfInBounds_toArray, List.set_cons_zero, List.set_cons_succ])))); apply text_end; apply hFin; clear hFin Fin; intro bs d hfa)
          go_wp2
          go_returns
          exact ⟨rfl, by (repeat' (first | (with_reducible exact Below.refl _ _) | (with_reducible refine Below.app ?_ ?_ _ _) | (with_reducible refine Below.alloc ?_ ?_ _) | (with_reducible refine Below.drew ?_) | (with_reducible refine Below.setCell ?_ ?_ _) | (with_reducible assumption) | omega | (simp; omega) | (simp; done)))⟩
        · simp only [h1, h2, or_false, if_true, if_false]
          have h2' : decide (64 < (d : Int)) = false := by simp; omega
          clear h1 h2
          replace hd := Lib.hid hd
          go_enter Try.func9, Try.ntmps9
          go_wp2_with (go_at_call 24; ((refine (hd.out _).mono ?_); rintro r w1 ⟨rfl, bs3, d3, rfl⟩))
          (apply wp_region_text 15; kernel_rfl; kernel_rfl; intro Fin hFin; (repeat (first | (apply text_run; exact rfl; (focus (intro bs d hF K hK; (repeat rw [app_app] at hK); (repeat rw [app_app]); (repeat rw [Array.append_assoc] at hK); (repeat rw [Array.append_assoc]); go_step; first  | (go_at_call 25; ((refine (end_at _ _ _ _ _ _ _ _ _ _ _ _ _ _).mono ?_); rintro r w1 ⟨rfl, hb⟩; simp only []; exact hK _ hb))  | (refine hK _ ?_; (repeat' (first | (with_reducible exact Below.refl _ _) | (with_reducible refine Below.app ?_ ?_ _ _) | (with_reducible refine Below.alloc ?_ ?_ _) | (with_reducible refine Below.drew ?_) | (with_reducible refine Below.setCell ?_ ?_ _) | (with_reducible assumption) | omega | (simp; omega) | (simp; done)))))); (try simp only [Act.put, List.setIfInBounds_toArray, List.set_cons_zero, List.set_cons_succ])) | (apply text_skip; exact rfl; (try simp only [Act.put, List.setIfInBounds_toArray, List.set_cons_zero, List.set_cons_succ])))); apply text_end; apply hFin; clear hFin Fin; intro bs d hfa)
          go_wp2
          go_returns
          exact ⟨rfl, by (repeat' (first | (with_reducible exact Below.refl _ _) | (with_reducible refine Below.app ?_ ?_ _ _) | (with_reducible refine Below.alloc ?_ ?_ _) | (with_reducible refine Below.drew ?_) | (with_reducible refine Below.setCell ?_ ?_ _) | (with_reducible assumption) | omega | (simp; omega) | (simp; done)))⟩
    · simp only [hk, if_false]
      have hk' : ((k : Int) == (s.size : Int)) = false := by simp; omega
      clear hk
      generalize hlg : ((false || decide (64 < (t.length : Int))) || decide (64 < (d : Int))) = lg at *
      clear hlg
      replace hd := Lib.hid hd
      go_enter Try.func9, Try.ntmps9
      go_wp2_with (go_at_call 24; ((refine (hd.out _).mono ?_); rintro r w1 ⟨rfl, bs3, d3, rfl⟩))
      (apply wp_region_text 15; kernel_rfl; kernel_rfl; intro Fin hFin; (repeat (first | (apply text_run; exact rfl; (focus (intro bs d hF K hK; (repeat rw [app_app] at hK); (repeat rw [app_app]); (repeat rw [Array.append_assoc] at hK); (repeat rw [Array.append_assoc]); go_step; first  | (go_at_call 25; ((refine (end_at _ _ _ _ _ _ _ _ _ _ _ _ _ _).mono ?_); rintro r w1 ⟨rfl, hb⟩; simp only []; exact hK _ hb))  | (refine hK _ ?_; (repeat' (first | (with_reducible exact Below.refl _ _) | (with_reducible refine Below.app ?_ ?_ _ _) | (with_reducible refine Below.alloc ?_ ?_ _) | (with_reducible refine Below.drew ?_) | (with_reducible refine Below.setCell ?_ ?_ _) | (with_reducible assumption) | omega | (simp; omega) | (simp; done)))))); (try simp only [Act.put, List.setIfInBounds_toArray, List.set_cons_zero, List.set_cons_succ])) | (apply text_skip; exact rfl; (try simp only [Act.put, List.setIfInBounds_toArray, List.set_cons_zero, List.set_cons_succ])))); apply text_end; apply hFin; clear hFin Fin; intro bs d hfa)
      go_wp2
      go_returns
      exact ⟨rfl, by (repeat' (first | (with_reducible exact Below.refl _ _) | (with_reducible refine Below.app ?_ ?_ _ _) | (with_reducible refine Below.alloc ?_ ?_ _) | (with_reducible refine Below.drew ?_) | (with_reducible refine Below.setCell ?_ ?_ _) | (with_reducible assumption) | omega | (simp; omega) | (simp; done)))⟩
end Go.Proofs.Ytnbllnnbdopjoaa
