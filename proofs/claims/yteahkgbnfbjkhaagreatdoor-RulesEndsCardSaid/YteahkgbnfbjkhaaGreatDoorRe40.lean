/-
  HeadSplit.
-/
import Derived.Test.YteahkgbnfbjkhaaGreatDoorRe39
set_option maxRecDepth 20000
set_option linter.unusedVariables false
set_option linter.unusedSimpArgs false
set_option linter.unusedSectionVars false
namespace Go.Proofs.YteahkgbnfbjkhaaGreatDoor
open Go.ChangeShapes Go.WideShapes Go.ChangeAt Go.RowKit
abbrev LFld := List UInt8 × List UInt8
theorem contQ_len : ∀ (m : Nat) (v r v' r' : List UInt8), r.length ≤ m → contQ v r = some (v', r') → r'.length ≤ r.length
 | 0, v, r, v', r', h, hc => by
  have : r = [] := List.eq_nil_of_length_eq_zero (by omega)
  subst this
  rw [contQ_stop rfl] at hc; cases hc; exact Nat.le_refl _
 | m + 1, v, r, v', r', h, hc => by
  cases hb : headBlank r
  · rw [contQ_stop hb] at hc; cases hc; exact Nat.le_refl _
  · cases he : endQ false r with
    | none => rw [contQ_none hb he] at hc; cases hc
    | some n =>
     have h1 := endQ_le _ _ _ he
     rw [contQ_go hb he] at hc
     have := contQ_len m _ (r.drop n) v' r' (by simp; omega) hc
     simp at this; omega
theorem nextQ_len {l : List UInt8} {f : LFld} {r : List UInt8} (h : nextQ l = some (f, r)) : r.length < l.length := by
 unfold nextQ at h
 cases he : endQ false l with
 | none => rw [he] at h; cases h
 | some n =>
  have h1 := endQ_le _ _ _ he
  rw [he] at h
  simp only at h
  unfold nextIn at h
  cases hc : contQ (Lib.cut (l.take (n - 2)) [58]).2.1 (l.drop n) with
  | none => rw [hc] at h; cases h
  | some vr =>
   obtain ⟨v, r2⟩ := vr
   rw [hc] at h
   simp only [Option.bind_some] at h
   split at h
   · cases h
     have := contQ_len _ _ _ _ _ (Nat.le_refl _) hc
     simp at this; omega
   · cases h
def loopQ (acc : List LFld) (l : List UInt8) : Option (List LFld × List UInt8) :=
 if Lib.hasPrefix l [13, 10] = true then some (acc, l.drop 2) else
 match _h : nextQ l with
 | none => none
 | some (f, r) => loopQ (acc ++ [f]) r
termination_by l.length
decreasing_by
 exact nextQ_len ‹_›
theorem loopQ_done {acc : List LFld} {l : List UInt8} (h : Lib.hasPrefix l [13, 10] = true) : loopQ acc l = some (acc, l.drop 2) := by rw [loopQ, if_pos h]
theorem loopQ_none {acc : List LFld} {l : List UInt8} (h : Lib.hasPrefix l [13, 10] = false) (h2 : nextQ l = none) : loopQ acc l = none := by
 rw [loopQ, if_neg (by rw [h]; simp)]; split
 · rfl
 · rename_i hm; rw [h2] at hm; cases hm
theorem loopQ_go {acc : List LFld} {l r : List UInt8} {f : LFld} (h : Lib.hasPrefix l [13, 10] = false) (h2 : nextQ l = some (f, r)) : loopQ acc l = loopQ (acc ++ [f]) r := by
 rw [loopQ, if_neg (by rw [h]; simp)]; split
 · rename_i hm; rw [h2] at hm; cases hm
 · rename_i g s hm; rw [h2] at hm; cases hm; rfl
def splitQ (l : List UInt8) : Option (List LFld × List UInt8) := if l = [] then some ([], []) else loopQ [] l
def fieldCells (fs : List LFld) : List Value := fs.flatMap fun f => [.string ⟨f.1.toArray⟩, .string ⟨f.2.toArray⟩]
theorem fieldCells_snoc (fs : List LFld) (f : LFld) : fieldCells (fs ++ [f]) = fieldCells fs ++ [.string ⟨f.1.toArray⟩, .string ⟨f.2.toArray⟩] := by simp [fieldCells]
theorem infoField : (Tryz.prog.info? 103).map (fun i => (i.zero, i.size, i.bytes)) = some (some (.agg #[.string ⟨#[]⟩, .string ⟨#[]⟩]), 2, 32) := by kernel_rfl
theorem own_belowN {w w' : World} {B sz : Nat} {e : TypeId} {v : Value} {n : Nat} {xs : List Value} (h : w.ownsRow B e sz v n xs) (hb : Below w.heap.size w w') : w'.ownsRow B e sz v n xs :=
 h.kept (row := none) ⟨hb.os, hb.tape, hb.output, hb.size, fun k hk _ => hb.block k hk⟩ (by cases v.ownBlock <;> simp)
theorem own_lenN {w : World} {B sz : Nat} {e : TypeId} {v : Value} {n : Nat} {xs : List Value} (h : w.ownsRow B e sz v n xs) : ∃ p cap, v = .slice p n cap := by
 rcases h.2 with ⟨rfl, rfl⟩ | ⟨g, cap, cur, rfl, _⟩
 · exact ⟨none, 0, rfl⟩
 · exact ⟨_, cap, rfl⟩
theorem next_none {l : List UInt8} (h : nextQ l = none) (w : World) (hs : l.length ≤ 10000000) (hm : MaxLenAt w) : Calls Tryz.prog 99 #[.string ⟨l.toArray⟩] w fun r w' => ∃ x y z : ByteArray, r = .returned (.tuple #[.agg #[.string x, .string y], .string z, .bool false]) ∧ Below w.heap.size w w' :=
 (next_calls l w hs hm).mono fun r w' ⟨h1, h2⟩ => by
  rcases h1 with ⟨_, x, y, z, e⟩ | ⟨_, _, _, e, _⟩
  · exact ⟨x, y, z, e, h2⟩
  · rw [h] at e; cases e
theorem next_some {l n v r0 : List UInt8} (h : nextQ l = some ((n, v), r0)) (w : World) (hs : l.length ≤ 10000000) (hm : MaxLenAt w) : Calls Tryz.prog 99 #[.string ⟨l.toArray⟩] w fun r w' => r = .returned (.tuple #[.agg #[.string ⟨n.toArray⟩, .string ⟨v.toArray⟩], .string ⟨r0.toArray⟩, .bool true]) ∧ Below w.heap.size w w' :=
 (next_calls l w hs hm).mono fun r w' ⟨h1, h2⟩ => by
  rcases h1 with ⟨e, _⟩ | ⟨_, _, _, e, e2⟩
  · rw [h] at e; cases e
  · rw [h] at e; cases e; exact ⟨e2, h2⟩
theorem two_cells (W : World) (b : Nat) (hb : b = W.heap.size) (x y : Value) (T : TypeId) : ∀ j u, [x, y][j]? = some u → (W.alloc (.cells #[x, y] T)).cell? ((⟨b, 0, none⟩ : Addr).add j) = some u := fun j u h => by
 subst hb
 rw [show (⟨W.heap.size, 0, none⟩ : Addr).add j = ⟨W.heap.size, j, none⟩ by simp [Addr.add]; exact fun h => h.symm, World.cell?_alloc_mark]
 simpa using h
theorem prefix_calls (l : List UInt8) (w : World) : Calls Tryz.prog 98 #[.string ⟨l.toArray⟩, .string ⟨#[13, 10]⟩] w fun e w' => e = .returned (.bool (Lib.hasPrefix l [13, 10])) ∧ w = w' :=
 (Tryz.strings_HasPrefix ⟨l.toArray⟩ ⟨#[13, 10]⟩ w).mono fun _ _ ⟨a, b⟩ => ⟨a, b.symm⟩
def SplitPost (R : Option (List LFld × List UInt8)) (w : World) (r : Ending) (w' : World) : Prop :=
  ((R = none ∧ r = .returned (.tuple #[.slice none 0 0, .slice none 0 0, .bool false])) ∨
   (∃ fs body p c q k, R = some (fs, body) ∧ r = .returned (.tuple #[.slice p fs.length c, .slice q body.length k, .bool true]) ∧
     w'.ownsRow w.heap.size 103 2 (.slice p fs.length c) fs.length (fieldCells fs) ∧ BytesAt w' q k body)) ∧ Below w.heap.size w w'
set_option maxRecDepth 20000 in
set_option maxHeartbeats 8000000 in
theorem split_calls {w : World} {q : Option Addr} {cap : Nat} {l : List UInt8} (hb : BytesAt w q cap l) (hs : l.length ≤ 10000000) (hm : MaxLenAt w) : Calls Tryz.prog 40 #[.slice q l.length cap] w (SplitPost (splitQ l) w) := by
 have ht := hb.textOf _ (Below.refl _ _)
 have hmx := fun (W : World) (hW : Below w.heap.size w W) => hm.below hW
 obtain ⟨i0, hi, hz0, hz1, hz2⟩ := info_parts infoField
 by_cases h0 : l = []
 · have hx1 : (l == []) = true := by rw [h0]; rfl
   have hx2 : l.isEmpty = true := by rw [h0]; rfl
   have hpost : SplitPost (splitQ l) w (.returned (.tuple #[.slice none 0 0, .slice none 0 0, .bool true])) w :=
    ⟨.inr ⟨[], [], none, 0, none, 0, by unfold splitQ; rw [if_pos h0], rfl, World.ownsRow_nil _ _ _ _, ⟨fun _ => ⟨rfl, rfl⟩, Nat.le_refl _, fun h => absurd rfl h⟩⟩, Below.refl _ _⟩
   replace hpost := Lib.hid hpost
   clear h0 hb
   go_enter Tryz.func40, Tryz.ntmps40
   go_wp2
   go_returns
   exact hpost.out
 · have hx1 : (l == []) = false := by simpa using h0
   have hx2 : l.isEmpty = false := by simpa using h0
   have hQ : Hid (splitQ l = loopQ [] l) := by unfold Hid splitQ; rw [if_neg h0]
   generalize splitQ l = Q at *
   replace hmx := Lib.hid hmx
   clear h0 hb hm
   go_enter Tryz.func40, Tryz.ntmps40
   go_wp2
   go_loopw [2, 5] (fun v s wr => ∃ (acc : List LFld) (rest : List UInt8), s = .string ⟨rest.toArray⟩ ∧ rest.length ≤ l.length ∧ acc.length ≤ l.length - rest.length ∧ wr.ownsRow w.heap.size 103 2 v acc.length (fieldCells acc) ∧ Below w.heap.size w wr ∧ Hid (Q = loopQ acc rest)) (fun _ s _ => match s with | .string s => s.size | _ => 0)
   case atStart => exact ⟨[], l, rfl, Nat.le_refl _, by simp, World.ownsRow_nil _ _ _ _, Below.refl _ _, hQ⟩
   case round =>
    obtain ⟨acc, rest, rfl, hrl, hal, hown, hbw, hr⟩ := hrel
    obtain ⟨p, c, rfl⟩ := own_lenN hown
    have hws0 := hbw.size
    clear hQ ht
    have hpf := fun w => prefix_calls rest w
    cases hp : Lib.hasPrefix rest [13, 10]
    · rw [hp] at hpf
      replace hpf := Lib.hid hpf
      cases hn : nextQ rest with
      | none =>
       have hnx := fun (W : World) (hW : Below w.heap.size w W) => next_none hn W (by omega) (hmx.out W hW)
       have hR : Hid (Q = none) := by unfold Hid; rw [hr.out, loopQ_none hp hn]
       replace hnx := Lib.hid hnx
       clear hr hp hn
       go_wp2_with first
        | (go_at_call 98; ((refine (hpf.out _).mono ?_); rintro r w1 ⟨rfl, rfl⟩))
        | (go_at_call 99; ((refine (hnx.out _ hbw).mono ?_); rintro r w1 ⟨x, y, z, rfl, hb1⟩; obtain ⟨b1, d1, rfl⟩ := of_below hb1; clear hb1))
       go_returns
       exact ⟨.inl ⟨hR.out, rfl⟩, by (repeat' (first | (with_reducible exact Below.refl _ _) | (with_reducible refine Below.app ?_ ?_ _ _) | (with_reducible refine Below.alloc ?_ ?_ _) | (with_reducible refine Below.drew ?_) | (with_reducible refine Below.setCell ?_ ?_ _) | (with_reducible assumption) | omega | (simp; omega) | (simp; done)))⟩
      | some fr =>
       obtain ⟨⟨fn, fv⟩, r2⟩ := fr
       have hnx := fun (W : World) (hW : Below w.heap.size w W) => next_some hn W (by omega) (hmx.out W hW)
       have hlt := nextQ_len hn
       have hR : Hid (Q = loopQ (acc ++ [(fn, fv)]) r2) := by unfold Hid; rw [hr.out, loopQ_go hp hn]
       have hfc := Lib.hid (fieldCells_snoc acc (fn, fv))
       replace hnx := Lib.hid hnx
       clear hr hp hn
       go_wp2_with first
        | (go_at_call 98; ((refine (hpf.out _).mono ?_); rintro r w1 ⟨rfl, rfl⟩))
        | (go_at_call 99; ((refine (hnx.out _ hbw).mono ?_); rintro r w1 ⟨rfl, hb1⟩; obtain ⟨b1, d1, rfl⟩ := of_below hb1; clear hb1))
        | (at_builtin; refine wpList_append_own _ rfl _ _ 83 rfl w.heap.size 103 i0 (.agg #[.string ⟨#[]⟩, .string ⟨#[]⟩]) 2 32 Tryz.underlying83 hi hz0 hz1 hz2 rfl (by decide) _ _ _ rfl (own_belowN (w := wr) hown ?c0) _ 1 1 [.string ⟨fn.toArray⟩, .string ⟨fv.toArray⟩] rfl rfl ?c1 ?c2 ?c3 ?c4 ?c5 ?_; (case c0 => (repeat' (first | (with_reducible exact Below.refl _ _) | (with_reducible refine Below.app ?_ ?_ _ _) | (with_reducible refine Below.alloc ?_ ?_ _) | (with_reducible refine Below.drew ?_) | (with_reducible refine Below.setCell ?_ ?_ _) | (with_reducible assumption) | omega | (simp; omega) | (simp; done)))); (case c1 => exact two_cells _ _ (by (first | rfl | omega | (simp; done) | (simp; omega))) _ _ _); (case c2 => (intro u hu; simp at hu; rcases hu with rfl | rfl <;> rfl)); (case c3 => (unfold maxLen; omega)); (case c4 => omega); (case c5 => (first | rfl | omega | (simp; done) | (simp; omega))); intro v2 w2 hown2 hg2 _; have hb2 := (show Below w.heap.size w _ from hbw.trans (Below.mono (B := wr.heap.size) (by (repeat' (first | (with_reducible exact Below.refl _ _) | (with_reducible refine Below.app ?_ ?_ _ _) | (with_reducible refine Below.alloc ?_ ?_ _) | (with_reducible refine Below.drew ?_) | (with_reducible refine Below.setCell ?_ ?_ _) | (with_reducible assumption) | omega | (simp; omega) | (simp; done)))) hws0)).grown hg2 (by (first | rfl | omega | (simp; done) | (simp; omega))) (fun k hk => (hown.lt k hk).1); clear hg2)
       obtain ⟨p2, c2, rfl⟩ := own_lenN hown2
       go_roundw
       case rel => exact ⟨acc ++ [(fn, fv)], r2, rfl, by omega, by simp; omega, by rw [hfc.out]; simpa using hown2, hb2, hR⟩
       case measure => (show r2.toArray.size < rest.toArray.size; simp only [List.size_toArray]; exact hlt)
    · rw [hp] at hpf
      replace hpf := Lib.hid hpf
      have hR : Hid (Q = some (acc, rest.drop 2)) := by unfold Hid; rw [hr.out, loopQ_done hp]
      have hde := drop_ext rest 2
      have hlen2 : 2 ≤ rest.length := by
       have := (List.isPrefixOf_iff_prefix.1 hp).length_le
       simpa using this
      have hsz : (⟨(rest.drop 2).toArray⟩ : ByteArray).size = (rest.drop 2).length := by show (rest.drop 2).toArray.size = _; simp
      have hby := fun w => bytes_row w ⟨(rest.drop 2).toArray⟩
      rw [hsz] at hby
      generalize rest.drop 2 = body at *
      replace hby := Lib.hid hby
      clear hr hp hsz
      go_wp2_with (go_at_call 98; ((refine (hpf.out _).mono ?_); rintro r w1 ⟨rfl, rfl⟩))
      (apply wp_region_text 7; kernel_rfl; kernel_rfl; intro Fin hFin; (repeat (first | (apply text_run; exact rfl; (focus (intro bs d hF K hK; (repeat rw [app_app] at hK); (repeat rw [app_app]); (repeat rw [Array.append_assoc] at hK); (repeat rw [Array.append_assoc]); go_step; first  | (exfalso; assumption)  | (refine hK _ ?_; (repeat' (first | (with_reducible exact Below.refl _ _) | (with_reducible refine Below.app ?_ ?_ _ _) | (with_reducible refine Below.alloc ?_ ?_ _) | (with_reducible refine Below.drew ?_) | (with_reducible refine Below.setCell ?_ ?_ _) | (with_reducible assumption) | omega | (simp; omega) | (simp; done)))))); (try simp only [Act.put, List.setIfInBounds_toArray, List.set_cons_zero, List.set_cons_succ]))  | (apply text_has (fun v w => ∃ q k, v = .slice q body.length k ∧ BytesAt w q k body); exact rfl; exact fun _ _ _ hb ⟨q, k, h1, h2⟩ => ⟨q, k, h1, h2.below hb⟩; exact rfl; (focus (intro bs d hF K hK; (repeat rw [app_app] at hK); (repeat rw [app_app]); (repeat rw [Array.append_assoc] at hK); (repeat rw [Array.append_assoc]); obtain ⟨W, c2, hconv, hB, hbel⟩ := hby.out (app wr bs d); go_step; exact hK _ _ hbel ⟨_, _, rfl, by first | exact hB | (simpa using hB)⟩)); intro v; (try simp only [Act.put, factOf, List.setIfInBounds_toArray, List.set_cons_zero, List.set_cons_succ])) | (apply text_has (fun v w => ∃ q k, v = .slice q body.length k ∧ BytesAt w q k body); exact rfl; exact fun _ _ _ hb ⟨q, k, h1, h2⟩ => ⟨q, k, h1, h2.below hb⟩; exact rfl; (focus (intro bs d hF K hK; (repeat rw [app_app] at hK); (repeat rw [app_app]); (repeat rw [Array.append_assoc] at hK); (repeat rw [Array.append_assoc]); obtain ⟨q1, k1, e1, hB⟩ := hF.1 rfl; go_step; exact hK _ _ (Below.refl _ _) ⟨q1, k1, e1, hB⟩)); intro v; (try simp only [Act.put, factOf, List.setIfInBounds_toArray, List.set_cons_zero, List.set_cons_succ]))  | (apply text_skip; exact rfl; (try simp only [Act.put, List.setIfInBounds_toArray, List.set_cons_zero, List.set_cons_succ])))); apply text_end; apply hFin; clear hFin Fin; intro bs d hfa)
      obtain ⟨⟨qb, kb, rfl, hB⟩, -⟩ := hfa
      go_wp2
      go_returns
      exact ⟨.inr ⟨acc, body, p, c, qb, kb, hR.out, rfl, own_belowN hown (by (repeat' (first | (with_reducible exact Below.refl _ _) | (with_reducible refine Below.app ?_ ?_ _ _) | (with_reducible refine Below.alloc ?_ ?_ _) | (with_reducible refine Below.drew ?_) | (with_reducible refine Below.setCell ?_ ?_ _) | (with_reducible assumption) | omega | (simp; omega) | (simp; done)))), hB⟩, by (repeat' (first | (with_reducible exact Below.refl _ _) | (with_reducible refine Below.app ?_ ?_ _ _) | (with_reducible refine Below.alloc ?_ ?_ _) | (with_reducible refine Below.drew ?_) | (with_reducible refine Below.setCell ?_ ?_ _) | (with_reducible assumption) | omega | (simp; omega) | (simp; done)))⟩
end Go.Proofs.YteahkgbnfbjkhaaGreatDoor
