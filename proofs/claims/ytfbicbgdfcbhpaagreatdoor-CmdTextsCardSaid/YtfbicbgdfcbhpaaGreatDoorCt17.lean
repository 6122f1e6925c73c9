/-
  Mailbox, AddrTop, AddrParse.
-/
import Derived.Test.YtfbicbgdfcbhpaaGreatDoorCt16
set_option maxRecDepth 20000
set_option linter.unusedVariables false
set_option linter.unusedSimpArgs false
set_option linter.unusedSectionVars false
namespace Go.Proofs.YtfbicbgdfcbhpaaGreatDoor
open Go.ChangeShapes Go.WideShapes Go.ChangeAt Go.RowKit
def MFail (s : ByteArray) (b : Nat) (w : World) (e : Ending) (w' : World) : Prop := ∃ x y, AfterF s b (.returned (.tuple #[.agg #[.string x, .string y], .bool false])) w e w'
def MPost (s : ByteArray) (lg : Bool) (b : Nat) : Option (List UInt8 × Nat × Nat) → World → Ending → World → Prop
 | some (t, d, K), w => After b #[.string s, .int .i64 K, .bool ((lg || decide (64 < (t.length : Int))) || decide (64 < (d : Int)))] (.returned (.tuple #[.agg #[.string ⟨t.toArray⟩, .string (s.extract (K - d) K)], .bool true])) w
 | none, w => MFail s b w
theorem MPost.yes {s : ByteArray} {lg : Bool} {b : Nat} {w : World} {R : Option (List UInt8 × Nat × Nat)} (t : List UInt8) (d K : Nat) (e : Ending) (w' : World) (h1 : R = some (t, d, K))
 (h2 : After b #[.string s, .int .i64 K, .bool ((lg || decide (64 < (t.length : Int))) || decide (64 < (d : Int)))] (.returned (.tuple #[.agg #[.string ⟨t.toArray⟩, .string (s.extract (K - d) K)], .bool true])) w e w') : MPost s lg b R w e w' := by rw [h1]; exact h2
theorem MPost.no {s : ByteArray} {lg : Bool} {b : Nat} {w : World} {R : Option (List UInt8 × Nat × Nat)} (x y : ByteArray) (e : Ending) (w' : World) (h1 : R = none) (h2 : AfterF s b (.returned (.tuple #[.agg #[.string x, .string y], .bool false])) w e w') : MPost s lg b R w e w' := by rw [h1]; exact ⟨x, y, h2⟩
theorem localP_le {l : List UInt8} {t : List UInt8} {k : Nat} (h : localP l = some (t, k)) : k ≤ l.length ∧ t.length ≤ k := by
 unfold localP at h
 split at h
 · split at h
   · rename_i t2 k2 hq
     have := quotedP_le _ _ (Nat.le_refl _) _ _ hq
     split at h
     · cases h
     · cases h; simp at this
       rename_i hx _ _
       have h1 : 1 ≤ l.length := by
        match l, hx with
        | [], hx => simp [List.getD] at hx
        | c :: r, _ => simp
       omega
   · cases h
 · cases hx : atomsP l with
   | none => rw [hx] at h; cases h
   | some y =>
    rw [hx] at h
    have := atomsP_pos hx
    simp only [Option.map_some, Option.some.injEq, Prod.mk.injEq] at h
    obtain ⟨rfl, rfl⟩ := h
    simp; omega
set_option maxHeartbeats 4000000 in
theorem mailbox_any {s : ByteArray} {m : Int} {lg : Bool} {b : Nat} {w : World} (n : Nat) (R : Option (List UInt8 × Nat × Nat)) (hd : (mailboxP (s.data.toList.drop n)).map (fun x => (x.1, x.2.1, n + x.2.2)) = R) (hm : m = n) (hn : n ≤ s.size) (hs : s.size ≤ 140000000000000) (h : RowIs w b #[.string s, .int .i64 m, .bool lg]) :
 Calls Tryz.prog 97 #[.pointer (some ⟨b, 0, none⟩)] w (MPost s lg b R w) := by
 subst hm
 refine h.lift (fun w0 hI => ?_)
 have hyes := Lib.hid (@MPost.yes s lg b w0 R)
 have hno := Lib.hid (@MPost.no s lg b w0 R)
 have hb := hI.lt
 have hlen : s.data.toList.length = s.size := by simp
 have hl := fun o => @local_any s (n : Int) lg b ((rd w0 b #[.string s, .int .i64 n, .bool lg]).alloc o) n
 unfold mailboxP at hd
 cases hp : localP (s.data.toList.drop n) with
 | none =>
  have hR : Hid (R = none) := by unfold Hid; rw [hp] at hd; exact hd.symm
  have hl2 := fun o => hl o none (by rw [hp]; rfl) rfl hn hs ((rd_row hI _).alloc _)
  clear hd hp hl
  replace hl2 := Lib.hid hl2
  go_enter Tryz.func97, Tryz.ntmps97
  go_wp2_with (go_at_call 133; ((refine (hl2.out _).mono ?_); rintro r w1 ⟨n2, lg2, hn2, rfl, bs1, d1, rfl⟩))
  go_returns
  exact hno.out _ _ _ _ hR.out ⟨n2, lg2, hn2, by (first | exact ⟨rfl, _, _, rfl⟩ | exact ⟨rfl, #[], _, (app_nil _).symm⟩ | (refine ⟨rfl, ?_⟩; simp only [app_app]; exact ⟨_, _, rfl⟩) | (refine ⟨rfl, of_below ?_⟩; ((repeat' (first | (with_reducible exact Below.refl _ _) | (with_reducible refine Below.app ?_ ?_ _ _) | (with_reducible refine Below.alloc ?_ ?_ _) | (with_reducible refine Below.drew ?_) | (with_reducible refine Below.setCell ?_ ?_ _) | (with_reducible assumption) | omega | (simp; omega) | (simp; done))) <;> exact Below.refl _ _)))⟩
 | some x =>
  obtain ⟨t, k⟩ := x
  have hle := localP_le hp
  have hkl : n + k ≤ s.size := by have := hle.1; simp at this; omega
  have hl2 := fun o => hl o (some (t, n + k)) (by rw [hp]; rfl) rfl hn hs ((rd_row hI _).alloc _)
  clear hl
  have hg : (s.data.toList.drop n).getD k 0 = s.data.toList.getD (n + k) 0 := by simp [List.getD]
  rw [hp] at hd
  simp only [hg, List.drop_drop] at hd
  by_cases hx : s.data.toList.getD (n + k) 0 = 64
  · rw [if_pos hx] at hd
    have hlt : n + k < s.size := by
     rcases Nat.lt_or_ge (n + k) s.size with h' | h'
     · exact h'
     · rw [getD_ge h'] at hx; cases hx
    have ht := fun o bs d => @take_yes s ((n + k : Nat) : Int) 64 (lg || decide (64 < (t.length : Int))) b (app ((rd w0 b #[.string s, .int .i64 ((n + k : Nat) : Int), .bool (lg || decide (64 < (t.length : Int)))]).alloc o) bs d) (n + k) rfl hlt (by rw [hx]; rfl) (by omega) (((rd_row hI _).alloc _).app _ _)
    clear hx hg
    cases hq : domP (s.data.toList.drop (n + (k + 1))) with
    | none =>
     have hR : Hid (R = none) := by unfold Hid; rw [hq] at hd; exact hd.symm
     have hdo := fun o bs d => @domain_no s ((n + k + 1 : Nat) : Int) (lg || decide (64 < (t.length : Int))) b (app ((rd w0 b #[.string s, .int .i64 ((n + k + 1 : Nat) : Int), .bool (lg || decide (64 < (t.length : Int)))]).alloc o) bs d) (n + k + 1) hq rfl (by omega) (by omega) (((rd_row hI _).alloc _).app _ _)
     clear hd hq hp
     replace hl2 := Lib.hid hl2
     replace ht := Lib.hid ht
     replace hdo := Lib.hid hdo
     go_enter Tryz.func97, Tryz.ntmps97
     go_wp2_with first
      | (go_at_call 133; ((refine (hl2.out _).mono ?_); rintro r w1 ⟨rfl, bs1, d1, rfl⟩))
      | (go_at_call 95; ((refine (ht.out _ _ _).mono ?_); rintro r w1 ⟨rfl, bs2, d2, rfl⟩))
      | (go_at_call 69; ((refine (hdo.out _ _ _).mono ?_); rintro r w1 ⟨n2, lg2, hn2, rfl, bs3, d3, rfl⟩))
     go_returns
     exact hno.out _ _ _ _ hR.out ⟨n2, lg2, hn2, by (first | exact ⟨rfl, _, _, rfl⟩ | exact ⟨rfl, #[], _, (app_nil _).symm⟩ | (refine ⟨rfl, ?_⟩; simp only [app_app]; exact ⟨_, _, rfl⟩) | (refine ⟨rfl, of_below ?_⟩; ((repeat' (first | (with_reducible exact Below.refl _ _) | (with_reducible refine Below.app ?_ ?_ _ _) | (with_reducible refine Below.alloc ?_ ?_ _) | (with_reducible refine Below.drew ?_) | (with_reducible refine Below.setCell ?_ ?_ _) | (with_reducible assumption) | omega | (simp; omega) | (simp; done))) <;> exact Below.refl _ _)))⟩
    | some d =>
     have hR : Hid (R = some (t, d, n + k + 1 + d)) := by unfold Hid; rw [hq] at hd; simp at hd; rw [← hd]; congr 3; omega
     have hdo := fun o bs e => @domain_yes s ((n + k + 1 : Nat) : Int) (lg || decide (64 < (t.length : Int))) b (app ((rd w0 b #[.string s, .int .i64 ((n + k + 1 : Nat) : Int), .bool (lg || decide (64 < (t.length : Int)))]).alloc o) bs e) (n + k + 1) d hq rfl (by omega) (by omega) (((rd_row hI _).alloc _).app _ _)
     clear hd hq hp
     replace hl2 := Lib.hid hl2
     replace ht := Lib.hid ht
     replace hdo := Lib.hid hdo
     go_enter Tryz.func97, Tryz.ntmps97
     go_wp2_with first
      | (go_at_call 133; ((refine (hl2.out _).mono ?_); rintro r w1 ⟨rfl, bs1, d1, rfl⟩))
      | (go_at_call 95; ((refine (ht.out _ _ _).mono ?_); rintro r w1 ⟨rfl, bs2, d2, rfl⟩))
      | (go_at_call 69; ((refine (hdo.out _ _ _).mono ?_); rintro r w1 ⟨rfl, bs3, d3, rfl⟩))
     go_returns
     refine hyes.out _ _ _ _ _ hR.out ?_
     rw [show n + k + 1 + d - d = n + k + 1 by omega]
     (first | exact ⟨rfl, _, _, rfl⟩ | exact ⟨rfl, #[], _, (app_nil _).symm⟩ | (refine ⟨rfl, ?_⟩; simp only [app_app]; exact ⟨_, _, rfl⟩) | (refine ⟨rfl, of_below ?_⟩; ((repeat' (first | (with_reducible exact Below.refl _ _) | (with_reducible refine Below.app ?_ ?_ _ _) | (with_reducible refine Below.alloc ?_ ?_ _) | (with_reducible refine Below.drew ?_) | (with_reducible refine Below.setCell ?_ ?_ _) | (with_reducible assumption) | omega | (simp; omega) | (simp; done))) <;> exact Below.refl _ _)))
  · rw [if_neg hx] at hd
    have hR : Hid (R = none) := hd.symm
    have ht := fun o bs d => @take_no s ((n + k : Nat) : Int) 64 (lg || decide (64 < (t.length : Int))) b (app ((rd w0 b #[.string s, .int .i64 ((n + k : Nat) : Int), .bool (lg || decide (64 < (t.length : Int)))]).alloc o) bs d) (n + k) rfl hkl (fun _ e => by rw [u8_int] at hx; exact hx e.symm) (((rd_row hI _).alloc _).app _ _)
    clear hx hg hd hp
    replace hl2 := Lib.hid hl2
    replace ht := Lib.hid ht
    go_enter Tryz.func97, Tryz.ntmps97
    go_wp2_with first
     | (go_at_call 133; ((refine (hl2.out _).mono ?_); rintro r w1 ⟨rfl, bs1, d1, rfl⟩))
     | (go_at_call 95; ((refine (ht.out _ _ _).mono ?_); rintro r w1 ⟨rfl, bs2, d2, rfl⟩))
    go_returns
    exact hno.out _ _ _ _ hR.out ⟨n + k, _, hkl, by (first | exact ⟨rfl, _, _, rfl⟩ | exact ⟨rfl, #[], _, (app_nil _).symm⟩ | (refine ⟨rfl, ?_⟩; simp only [app_app]; exact ⟨_, _, rfl⟩) | (refine ⟨rfl, of_below ?_⟩; ((repeat' (first | (with_reducible exact Below.refl _ _) | (with_reducible refine Below.app ?_ ?_ _ _) | (with_reducible refine Below.alloc ?_ ?_ _) | (with_reducible refine Below.drew ?_) | (with_reducible refine Below.setCell ?_ ?_ _) | (with_reducible assumption) | omega | (simp; omega) | (simp; done))) <;> exact Below.refl _ _)))⟩
set_option maxHeartbeats 2000000 in
theorem end_calls {s : ByteArray} {m : Int} {lg : Bool} {b : Nat} {w : World} (x y : ByteArray) (ok : Bool) (h : RowIs w b #[.string s, .int .i64 m, .bool lg]) :
 Calls Tryz.prog 98 #[.pointer (some ⟨b, 0, none⟩), .agg #[.string x, .string y], .bool ok] w fun r w' =>
  r = .returned (.tuple #[if ok && !lg then .agg #[.string x, .string y] else .agg #[.string ⟨#[]⟩, .string ⟨#[]⟩], .int .i64 (if ok then (if lg then 4 else 0) else 3)]) ∧ Below w.heap.size w w' := by
 obtain ⟨T, hT⟩ := h
 have c0 := cell_of_row w b 2 _ T (0, 0) hT
 have hb := (RowIs.lt ⟨T, hT⟩ : b < w.heap.size)
 clear hT
 cases ok <;> cases lg
 all_goals
  go_enter Tryz.func98, Tryz.ntmps98
  go_wp2
  go_returns
  exact ⟨rfl, by (repeat' (first | (with_reducible exact Below.refl _ _) | (with_reducible refine Below.app ?_ ?_ _ _) | (with_reducible refine Below.alloc ?_ ?_ _) | (with_reducible refine Below.drew ?_) | (with_reducible refine Below.setCell ?_ ?_ _) | (with_reducible assumption) | omega | (simp; omega) | (simp; done)))⟩
end Go.Proofs.YtfbicbgdfcbhpaaGreatDoor
set_option maxRecDepth 20000
set_option linter.unusedVariables false
set_option linter.unusedSimpArgs false
set_option linter.unusedSectionVars false
namespace Go.Proofs.YtfbicbgdfcbhpaaGreatDoor
open Go.ChangeShapes Go.WideShapes Go.ChangeAt Go.RowKit
theorem rd_alloc_at (w : World) (b : Nat) (c c' : Array Value) (T : TypeId) (h : b = w.heap.size) : rd (w.alloc (.cells c T)) b c' = w.alloc (.cells c' T) := by subst h; exact rd_alloc_own w c c' T
attribute [go_sem] rd_alloc_at
def domainB (l : List UInt8) : Bool := domP l == some l.length && decide (l.length ≤ 64)
theorem domP_le {l : List UInt8} {k : Nat} (h : domP l = some k) : k ≤ l.length := by
 have hT : ∀ m (l : List UInt8), l.length ≤ m → ∀ k, domT l = some k → k ≤ l.length := by
  intro m
  induction m with
  | zero => intro l hl k h; obtain rfl : l = [] := List.eq_nil_of_length_eq_zero (by omega); rw [domT] at h; cases h; simp
  | succ m ih =>
   intro l hl k h
   match l, h with
   | [], h => rw [domT] at h; cases h; simp
   | c :: r, h =>
    rw [domT] at h
    split at h
    · split at h
      · have hs := spanLen_le labelB r
        cases hx : domT (r.drop (spanLen labelB r)) with
        | none => rw [hx] at h; cases h
        | some y =>
         rw [hx] at h
         have := ih (r.drop (spanLen labelB r)) (by simp at hl ⊢; omega) y hx
         simp at h this ⊢
         omega
      · cases h
    · cases h; simp
 unfold domP at h
 split at h
 · have hs := spanLen_le labelB l
   cases hx : domT (l.drop (spanLen labelB l)) with
   | none => rw [hx] at h; cases h
   | some y =>
    rw [hx] at h
    have := hT _ _ (Nat.le_refl _) y hx
    simp at h this
    omega
 · cases h
set_option maxHeartbeats 2000000 in
theorem domain_calls (s : ByteArray) (hs : s.size ≤ 140000000000000) (w : World) : Calls Tryz.prog 35 #[.string s] w fun r w' => r = .returned (.bool (domainB s.data.toList)) ∧ Below w.heap.size w w' := by
 have hlen : s.data.toList.length = s.size := by simp
 have hrow := RowIs.new_at w #[.string s, .int .i64 0, .bool false] 91 _ rfl
 unfold domainB
 rw [hlen]
 cases hp : domP s.data.toList with
 | none =>
  have hd := domain_no 0 hp rfl (Nat.zero_le _) (by omega) hrow
  rw [show ((none : Option Nat) == some s.size) = false from rfl, Bool.false_and]
  clear hp hrow hlen
  replace hd := Lib.hid hd
  go_enter Tryz.func35, Tryz.ntmps35
  go_wp2_with (go_at_call 69; ((refine hd.out.mono ?_); rintro r w1 ⟨n2, lg2, hn2, rfl, bs3, d3, rfl⟩))
  go_returns
  exact ⟨rfl, by (repeat' (first | (with_reducible exact Below.refl _ _) | (with_reducible refine Below.app ?_ ?_ _ _) | (with_reducible refine Below.alloc ?_ ?_ _) | (with_reducible refine Below.drew ?_) | (with_reducible refine Below.setCell ?_ ?_ _) | (with_reducible assumption) | omega | (simp; omega) | (simp; done)))⟩
 | some k =>
  have hd := domain_yes 0 k hp rfl (Nat.zero_le _) (by omega) hrow
  have hk := domP_le hp
  rw [hlen] at hk
  have he : ((some k : Option Nat) == some s.size) = decide (k = s.size) := by rw [Bool.eq_iff_iff]; simp
  rw [he]
  rw [Nat.zero_add, Bool.false_or] at hd
  clear hp hrow hlen he
  by_cases hks : k = s.size
  · subst hks
    replace hd := Lib.hid hd
    go_enter Tryz.func35, Tryz.ntmps35
    go_wp2_with (go_at_call 69; ((refine hd.out.mono ?_); rintro r w1 ⟨rfl, bs3, d3, rfl⟩))
    all_goals
     go_returns
     refine ⟨rb ?_, by (repeat' (first | (with_reducible exact Below.refl _ _) | (with_reducible refine Below.app ?_ ?_ _ _) | (with_reducible refine Below.alloc ?_ ?_ _) | (with_reducible refine Below.drew ?_) | (with_reducible refine Below.setCell ?_ ?_ _) | (with_reducible assumption) | omega | (simp; omega) | (simp; done)))⟩
     go_light
     first | (simp; done) | (rw [Bool.eq_iff_iff]; simp; omega)
  · have hks' : ((k : Int) == (s.size : Int)) = false := by simp; omega
    have hks2 : ¬ (k : Int) = s.size := by omega
    rw [decide_eq_false hks]
    replace hd := Lib.hid hd
    go_enter Tryz.func35, Tryz.ntmps35
    go_wp2_with (go_at_call 69; ((refine hd.out.mono ?_); rintro r w1 ⟨rfl, bs3, d3, rfl⟩))
    all_goals
     go_returns
     exact ⟨rfl, by (repeat' (first | (with_reducible exact Below.refl _ _) | (with_reducible refine Below.app ?_ ?_ _ _) | (with_reducible refine Below.alloc ?_ ?_ _) | (with_reducible refine Below.drew ?_) | (with_reducible refine Below.setCell ?_ ?_ _) | (with_reducible assumption) | omega | (simp; omega) | (simp; done)))⟩
end Go.Proofs.YtfbicbgdfcbhpaaGreatDoor
set_option maxRecDepth 20000
set_option linter.unusedVariables false
set_option linter.unusedSimpArgs false
set_option linter.unusedSectionVars false
namespace Go.Proofs.YtfbicbgdfcbhpaaGreatDoor
open Go.ChangeShapes Go.WideShapes Go.ChangeAt Go.RowKit
end Go.Proofs.YtfbicbgdfcbhpaaGreatDoor
