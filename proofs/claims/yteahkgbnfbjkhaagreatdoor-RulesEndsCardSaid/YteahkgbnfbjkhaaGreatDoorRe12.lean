/-
  RulesTryW.
-/
import Derived.Test.YteahkgbnfbjkhaaGreatDoorRe08
import Derived.Test.YteahkgbnfbjkhaaGreatDoorRe09
import Derived.Test.YteahkgbnfbjkhaaGreatDoorRe11
set_option maxRecDepth 20000
set_option linter.unusedVariables false
set_option linter.unusedSimpArgs false
set_option linter.unusedSectionVars false
namespace Go.Proofs.YteahkgbnfbjkhaaGreatDoor
open Go.ChangeShapes Go.WideShapes Go.ChangeAt Go.RowKit
def TryPost (st tr du co : Int) (bounce : Bool) (R : Option (List UInt8)) (w : World) (r : Ending) (w' : World) : Prop :=
 ∃ v, r = .returned (.agg #[.int .i64 st, .int .i64 tr, .int .i64 du, .int .i64 co, .bool bounce, v]) ∧ RepPost R w (.returned v) w'
theorem TryPost.none {st tr du co : Int} {b : Bool} {w w' : World} (h : Below w.heap.size w w') : TryPost st tr du co b .none w (.returned (.agg #[.int .i64 st, .int .i64 tr, .int .i64 du, .int .i64 co, .bool b, .slice Option.none 0 0])) w' :=
 ⟨_, rfl, .inl ⟨rfl, rfl, h⟩⟩
structure TryAt (w : World) (id arr : Int) (fL fD : ByteArray) (nt ns nb : Nat) (p4 p5 p6 : Option Addr) (c4 c5 c6 k b off : Nat) (s1 s2 s3 : Int) : Prop where
 hp : p5 = some ⟨b, off, none⟩
 hb : b < w.heap.size
 hk : k < nt
 hkn : k < ns
 hnt : nt ≤ 1000
 e0 : w.cell? ⟨b, off + k * 4, none⟩ = some (.int .i64 0)
 e1 : w.cell? ⟨b, off + k * 4 + 1, none⟩ = some (.int .i64 s1)
 e2 : w.cell? ⟨b, off + k * 4 + 2, none⟩ = some (.int .i64 s2)
 e3 : w.cell? ⟨b, off + k * 4 + 3, none⟩ = some (.int .i64 s3)
 hs1 : -9223372036854775808 ≤ s1
 kg : ∀ W, Below w.heap.size w W → Calls Tryz.prog 31 #[.agg #[.int .i64 id, .int .i64 arr, .string fL, .string fD, .slice p4 nt c4, .slice p5 ns c5, .slice p6 nb c6]] W fun r w' => r = .returned (.bool true) ∧ Below W.heap.size W w'
set_option maxRecDepth 20000 in
set_option maxHeartbeats 8000000 in
theorem try_fail {w : World} {host fL fD : ByteArray} {id arr now ex s1 s2 s3 e : Int} {nt ns nb : Nat} {pz p4 p5 p6 : Option Addr} {cz c4 c5 c6 k b off : Nat} {zs : List Int} (h : TryAt w id arr fL fD nt ns nb p4 p5 p6 c4 c5 c6 k b off s1 s2 s3)
 (he : e ≠ 0) (he7 : e ≠ 7) (hz : IntsAt w pz zs) (hzl : zs.length ≤ 9223372036854775807) (hx : expired zs ex arr now = false) (hn : -9223372036854775808 ≤ now) :
 Calls Tryz.prog 12 #[.string host, .agg #[.slice pz zs.length cz, .int .i64 ex], .agg #[.int .i64 id, .int .i64 arr, .string fL, .string fD, .slice p4 nt c4, .slice p5 ns c5, .slice p6 nb c6], .int .i64 k, .int .i64 now, .int .i64 e] w (TryPost 0 (tr1 s1) (dueOf now (delay zs ex (tr1 s1))) (whyC e) false none w) := by
 obtain ⟨hp, hb, hk, hkn, hnt, e0, e1, e2, e3, hs1, kg⟩ := h
 subst hp
 have ke := fun W (hW : Below w.heap.size w W) => expired_calls pz zs cz ex arr now W (Lib.hid (hz.below hW (Nat.le_refl _))) hzl
 have kf := fun W (hW : Below w.heap.size w W) => fail_calls pz zs cz ex 0 s1 s2 s3 now (whyC e) W (Lib.hid (hz.below hW (Nat.le_refl _))) hzl hs1 hn
 rw [hx] at ke
 have kw := fun W => why_calls e W
 generalize whyC e = C at *
 generalize (⟨(whyS e).toArray⟩ : ByteArray) = st at *
 generalize whyR e = re at *
 replace kg := Lib.hid kg
 replace ke := Lib.hid ke
 replace kf := Lib.hid kf
 replace kw := Lib.hid kw
 have h0 : (e == 0) = false := by simpa using he
 have h7 : (e == 7) = false := by simpa using he7
 clear hz hx
 go_enter Tryz.func12, Tryz.ntmps12
 go_wp2_with first
  | (go_at_call 31; ((with_reducible refine (kg.out _ (by (repeat' (first | (with_reducible exact Below.refl _ _) | (with_reducible refine Below.app ?_ ?_ _ _) | (with_reducible refine Below.alloc ?_ ?_ _) | (with_reducible refine Below.drew ?_) | (with_reducible refine Below.setCell ?_ ?_ _) | (with_reducible assumption) | omega | (simp; omega) | (simp; done))))).mono ?_); rintro r w1 ⟨rfl, hb1⟩; obtain ⟨b1, d1, rfl⟩ := of_below hb1; clear hb1))
  | (go_at_call 32; ((refine (kw.out _).mono ?_); rintro r w1 ⟨rfl, rfl⟩))
  | (go_at_call 34; ((with_reducible refine (ke.out _ (by (repeat' (first | (with_reducible exact Below.refl _ _) | (with_reducible refine Below.app ?_ ?_ _ _) | (with_reducible refine Below.alloc ?_ ?_ _) | (with_reducible refine Below.drew ?_) | (with_reducible refine Below.setCell ?_ ?_ _) | (with_reducible assumption) | omega | (simp; omega) | (simp; done))))).mono ?_); rintro r w1 ⟨rfl, hb1⟩; obtain ⟨b2, d2, rfl⟩ := of_below hb1; clear hb1))
  | (go_at_call 35; ((with_reducible refine (kf.out _ (by (repeat' (first | (with_reducible exact Below.refl _ _) | (with_reducible refine Below.app ?_ ?_ _ _) | (with_reducible refine Below.alloc ?_ ?_ _) | (with_reducible refine Below.drew ?_) | (with_reducible refine Below.setCell ?_ ?_ _) | (with_reducible assumption) | omega | (simp; omega) | (simp; done))))).mono ?_); rintro r w1 ⟨rfl, hb1⟩; obtain ⟨b3, d3, rfl⟩ := of_below hb1; clear hb1))
 go_returns
 exact TryPost.none (by (repeat' (first | (with_reducible exact Below.refl _ _) | (with_reducible refine Below.app ?_ ?_ _ _) | (with_reducible refine Below.alloc ?_ ?_ _) | (with_reducible refine Below.drew ?_) | (with_reducible refine Below.setCell ?_ ?_ _) | (with_reducible assumption) | omega | (simp; omega) | (simp; done))))
theorem RepPost.below {R : Option (List UInt8)} {w w1 w2 : World} {v : Value} (h : RepPost R w (.returned v) w1) (hb : Below w1.heap.size w1 w2) (hs : w.heap.size ≤ w1.heap.size) : RepPost R w (.returned v) w2 := by
 rcases h with ⟨h1, h2, h3⟩ | ⟨O, p, c, h1, h2, h3, h4⟩
 · exact .inl ⟨h1, h2, h3.trans (hb.mono hs)⟩
 · exact .inr ⟨O, p, c, h1, h2, own_below h3 hb, h4.trans (hb.mono hs)⟩
theorem RepPost.bel {R : Option (List UInt8)} {w w1 : World} {r : Ending} (h : RepPost R w r w1) : Below w.heap.size w w1 := by
 rcases h with ⟨_, _, h3⟩ | ⟨_, _, _, _, _, _, h4⟩
 · exact h3
 · exact h4
theorem RepPost.base {R : Option (List UInt8)} {w w1 w2 : World} {r : Ending} (h : RepPost R w1 r w2) (hb : Below w.heap.size w w1) : ∃ p n c, r = .returned (.slice p n c) ∧ RepPost R w (.returned (.slice p n c)) w2 ∧ Below w1.heap.size w1 w2 := by
 rcases h with ⟨h1, rfl, h3⟩ | ⟨O, p, c, h1, rfl, h3, h4⟩
 · exact ⟨_, _, _, rfl, .inl ⟨h1, rfl, hb.trans (h3.mono hb.size)⟩, h3⟩
 · exact ⟨_, _, _, rfl, .inr ⟨O, p, c, h1, rfl, own_base h3 hb.size, hb.trans (h4.mono hb.size)⟩, h4⟩
set_option maxRecDepth 20000 in
set_option maxHeartbeats 8000000 in
theorem try_null {w : World} {host fL fD : ByteArray} {id arr now ex s1 s2 s3 e : Int} {nt ns nb : Nat} {pz p4 p5 p6 : Option Addr} {cz c4 c5 c6 k b off : Nat} {zs : List Int} (h : TryAt w id arr fL fD nt ns nb p4 p5 p6 c4 c5 c6 k b off s1 s2 s3)
 (he : e ≠ 0) (hz : IntsAt w pz zs) (hzl : zs.length ≤ 9223372036854775807) (hL : fL = ⟨#[]⟩) (hD : fD = ⟨#[]⟩) (hx : e = 7 ∨ expired zs ex arr now = true) :
 Calls Tryz.prog 12 #[.string host, .agg #[.slice pz zs.length cz, .int .i64 ex], .agg #[.int .i64 id, .int .i64 arr, .string fL, .string fD, .slice p4 nt c4, .slice p5 ns c5, .slice p6 nb c6], .int .i64 k, .int .i64 now, .int .i64 e] w (TryPost 3 (tr1 s1) s2 (whyC e) false none w) := by
 obtain ⟨hp, hb, hk, hkn, hnt, e0, e1, e2, e3, hs1, kg⟩ := h
 subst hp
 have ke := fun W (hW : Below w.heap.size w W) => expired_calls pz zs cz ex arr now W (Lib.hid (hz.below hW (Nat.le_refl _))) hzl
 have kw := fun W => why_calls e W
 subst hL hD
 have hx' : e ≠ 7 → expired zs ex arr now = true := fun h => hx.resolve_left h
 by_cases h7 : e = 7
 · clear hx hx'
   subst h7
   generalize whyC 7 = C at *
   generalize (⟨(whyS 7).toArray⟩ : ByteArray) = st at *
   generalize whyR 7 = re at *
   replace kg := Lib.hid kg
   replace ke := Lib.hid ke
   replace kw := Lib.hid kw
   go_enter Tryz.func12, Tryz.ntmps12
   go_wp2_with first
    | (go_at_call 31; ((with_reducible refine (kg.out _ (by (repeat' (first | (with_reducible exact Below.refl _ _) | (with_reducible refine Below.app ?_ ?_ _ _) | (with_reducible refine Below.alloc ?_ ?_ _) | (with_reducible refine Below.drew ?_) | (with_reducible refine Below.setCell ?_ ?_ _) | (with_reducible assumption) | omega | (simp; omega) | (simp; done))))).mono ?_); rintro r w1 ⟨rfl, hb1⟩; obtain ⟨b1, d1, rfl⟩ := of_below hb1; clear hb1))
    | (go_at_call 32; ((refine (kw.out _).mono ?_); rintro r w1 ⟨rfl, rfl⟩))
    | (go_at_call 34; ((with_reducible refine (ke.out _ (by (repeat' (first | (with_reducible exact Below.refl _ _) | (with_reducible refine Below.app ?_ ?_ _ _) | (with_reducible refine Below.alloc ?_ ?_ _) | (with_reducible refine Below.drew ?_) | (with_reducible refine Below.setCell ?_ ?_ _) | (with_reducible assumption) | omega | (simp; omega) | (simp; done))))).mono ?_); rintro r w1 ⟨rfl, hb1⟩; obtain ⟨b2, d2, rfl⟩ := of_below hb1; clear hb1))
    | (go_at_call 33; ((refine (sdend_calls _ _ _ _ _ _ _ hs1).mono ?_); rintro r w1 ⟨rfl, hb⟩; obtain ⟨b3, b3d, rfl⟩ := of_below hb; clear hb))
   go_returns
   exact TryPost.none (by (repeat' (first | (with_reducible exact Below.refl _ _) | (with_reducible refine Below.app ?_ ?_ _ _) | (with_reducible refine Below.alloc ?_ ?_ _) | (with_reducible refine Below.drew ?_) | (with_reducible refine Below.setCell ?_ ?_ _) | (with_reducible assumption) | omega | (simp; omega) | (simp; done))))
 · have h7' : (e == 7) = false := by simpa using h7
   rw [hx' h7] at ke
   clear hx hx'
   generalize whyC e = C at *
   generalize (⟨(whyS e).toArray⟩ : ByteArray) = st at *
   generalize whyR e = re at *
   replace kg := Lib.hid kg
   replace ke := Lib.hid ke
   replace kw := Lib.hid kw
   have h0 : (e == 0) = false := by simpa using he
   go_enter Tryz.func12, Tryz.ntmps12
   go_wp2_with first
    | (go_at_call 31; ((with_reducible refine (kg.out _ (by (repeat' (first | (with_reducible exact Below.refl _ _) | (with_reducible refine Below.app ?_ ?_ _ _) | (with_reducible refine Below.alloc ?_ ?_ _) | (with_reducible refine Below.drew ?_) | (with_reducible refine Below.setCell ?_ ?_ _) | (with_reducible assumption) | omega | (simp; omega) | (simp; done))))).mono ?_); rintro r w1 ⟨rfl, hb1⟩; obtain ⟨b1, d1, rfl⟩ := of_below hb1; clear hb1))
    | (go_at_call 32; ((refine (kw.out _).mono ?_); rintro r w1 ⟨rfl, rfl⟩))
    | (go_at_call 34; ((with_reducible refine (ke.out _ (by (repeat' (first | (with_reducible exact Below.refl _ _) | (with_reducible refine Below.app ?_ ?_ _ _) | (with_reducible refine Below.alloc ?_ ?_ _) | (with_reducible refine Below.drew ?_) | (with_reducible refine Below.setCell ?_ ?_ _) | (with_reducible assumption) | omega | (simp; omega) | (simp; done))))).mono ?_); rintro r w1 ⟨rfl, hb1⟩; obtain ⟨b2, d2, rfl⟩ := of_below hb1; clear hb1))
    | (go_at_call 33; ((refine (sdend_calls _ _ _ _ _ _ _ hs1).mono ?_); rintro r w1 ⟨rfl, hb⟩; obtain ⟨b3, b3d, rfl⟩ := of_below hb; clear hb))
   go_returns
   exact TryPost.none (by (repeat' (first | (with_reducible exact Below.refl _ _) | (with_reducible refine Below.app ?_ ?_ _ _) | (with_reducible refine Below.alloc ?_ ?_ _) | (with_reducible refine Below.drew ?_) | (with_reducible refine Below.setCell ?_ ?_ _) | (with_reducible assumption) | omega | (simp; omega) | (simp; done))))
theorem wp_gen27 {P : Program} {Q : Exit → Act → World → Prop} {c : Code} {a : Act} {w : World} (h : ∀ X, X = w → c.wp P Q a X) : c.wp P Q a w := h w rfl
theorem blk_new {W : World} {o : Obj} {k : Nat} (h : k = W.heap.size) : (W.alloc o).heap[k]? = some o := by subst h; show (W.heap.push o)[W.heap.size]? = _; simp
theorem blk_old {W : World} {o : Obj} {k : Nat} (h : k < W.heap.size) : (W.alloc o).heap[k]? = W.heap[k]? := by
 show (W.heap.push o)[k]? = _
 rw [Array.getElem?_push, if_neg (by omega)]
theorem own_setRow {W : World} {B b : Nat} {v : Value} {n : Nat} {xs : List Value} {old new : Array Value} {T : TypeId} (h : W.ownsRow B 5 1 v n xs) (hb : W.heap[b]? = some (.cells old T (0, 0))) (hT : T ≠ 5) : (W.setRow b new).ownsRow B 5 1 v n xs := by
 refine h.kept (row := some b) ⟨rfl, rfl, rfl, ?_, fun k hk hne => ?_⟩ ?_
 · show _ ≤ (W.heap.modify b _).size
   simp
 · show (W.heap.modify b _)[k]? = _
   rw [Array.getElem?_modify, if_neg (fun e => hne (by rw [e]))]
 · rcases h.2 with ⟨hv, _⟩ | ⟨g, cap, cur, hv, _, hg, _⟩
   · left; rw [hv]; rfl
   · right
     rw [hv]
     intro e
     have hgb : g = b := by simpa [Value.ownBlock] using e
     subst hgb
     rw [hg] at hb
     simp only [Option.some.injEq, Obj.cells.injEq] at hb
     exact hT hb.2.1.symm
theorem below_setRow {w W : World} {b : Nat} {new : Array Value} (h : Below w.heap.size w W) (hb : w.heap.size ≤ b) : Below w.heap.size w (W.setRow b new) := by
 refine ⟨h.os, h.tape, h.output, ?_, fun k hk => ?_⟩
 · show _ ≤ (W.heap.modify b _).size
   rw [Array.size_modify]; exact h.size
 · show (W.heap.modify b _)[k]? = _
   rw [Array.getElem?_modify, if_neg (by omega)]
   exact h.block k hk
theorem setRow_block {W : World} {b : Nat} {old new : Array Value} {T : TypeId} (hb : W.heap[b]? = some (.cells old T (0, 0))) : (W.setRow b new).heap[b]? = some (.cells new T (0, 0)) := by
 show (W.heap.modify b _)[b]? = _
 rw [Array.getElem?_modify, if_pos rfl, hb]
 rfl
theorem RepPost.setRow {R : Option (List UInt8)} {w W : World} {b : Nat} {v : Value} {old new : Array Value} {T : TypeId} (h : RepPost R w (.returned v) W) (hb : W.heap[b]? = some (.cells old T (0, 0))) (hT : T ≠ 5) (hwb : w.heap.size ≤ b) : RepPost R w (.returned v) (W.setRow b new) := by
 rcases h with ⟨h1, h2, h3⟩ | ⟨O, p, c, h1, h2, h3, h4⟩
 · exact .inl ⟨h1, h2, below_setRow h3 hwb⟩
 · exact .inr ⟨O, p, c, h1, h2, own_setRow h3 hb hT, below_setRow h4 hwb⟩
set_option maxRecDepth 20000 in
set_option maxHeartbeats 8000000 in
theorem try_bounce {w : World} {host fL fD : ByteArray} {id arr now ex s1 s2 s3 e : Int} {nt ns nb : Nat} {pz p4 p5 p6 : Option Addr} {cz c4 c5 c6 k b off : Nat} {zs : List Int} {R : Option (List UInt8)} (h : TryAt w id arr fL fD nt ns nb p4 p5 p6 c4 c5 c6 k b off s1 s2 s3)
 (he : e ≠ 0) (hz : IntsAt w pz zs) (hzl : zs.length ≤ 9223372036854775807) (h7 : ¬ e = 7) (hx : expired zs ex arr now = true) (hfrom : ¬ (fL.toList = [] ∧ fD.toList = []))
 (kr : ∀ W, Below w.heap.size w W → Calls Tryz.prog 36 #[.string host, .agg #[.int .i64 id, .int .i64 arr, .string fL, .string fD, .slice p4 nt c4, .slice p5 ns c5, .slice p6 nb c6], .int .i64 k, .int .i64 now, .int .i64 e] W (RepPost R W)) :
 Calls Tryz.prog 12 #[.string host, .agg #[.slice pz zs.length cz, .int .i64 ex], .agg #[.int .i64 id, .int .i64 arr, .string fL, .string fD, .slice p4 nt c4, .slice p5 ns c5, .slice p6 nb c6], .int .i64 k, .int .i64 now, .int .i64 e] w (TryPost 2 (tr1 s1) s2 (whyC e) true R w) := by
 obtain ⟨hp, hb, hk, hkn, hnt, e0, e1, e2, e3, hs1, kg⟩ := h
 subst hp
 have ke := fun W (hW : Below w.heap.size w W) => expired_calls pz zs cz ex arr now W (Lib.hid (hz.below hW (Nat.le_refl _))) hzl
 have kw := fun W => why_calls e W
 rw [hx] at ke
 generalize whyC e = C at *
 generalize (⟨(whyS e).toArray⟩ : ByteArray) = st at *
 generalize whyR e = re at *
 replace kg := Lib.hid kg
 replace ke := Lib.hid ke
 replace kw := Lib.hid kw
 replace kr := Lib.hid kr
 clear hx hz
 go_enter Tryz.func12, Tryz.ntmps12
 go_wp2_with first
  | (go_at_call 31; ((with_reducible refine (kg.out _ (by (repeat' (first | (with_reducible exact Below.refl _ _) | (with_reducible refine Below.app ?_ ?_ _ _) | (with_reducible refine Below.alloc ?_ ?_ _) | (with_reducible refine Below.drew ?_) | (with_reducible refine Below.setCell ?_ ?_ _) | (with_reducible assumption) | omega | (simp; omega) | (simp; done))))).mono ?_); rintro r w1 ⟨rfl, hb1⟩; obtain ⟨b1, d1, rfl⟩ := of_below hb1; clear hb1))
  | (go_at_call 32; ((refine (kw.out _).mono ?_); rintro r w1 ⟨rfl, rfl⟩))
  | (go_at_call 34; ((with_reducible refine (ke.out _ (by (repeat' (first | (with_reducible exact Below.refl _ _) | (with_reducible refine Below.app ?_ ?_ _ _) | (with_reducible refine Below.alloc ?_ ?_ _) | (with_reducible refine Below.drew ?_) | (with_reducible refine Below.setCell ?_ ?_ _) | (with_reducible assumption) | omega | (simp; omega) | (simp; done))))).mono ?_); rintro r w1 ⟨rfl, hb1⟩; obtain ⟨b2, d2, rfl⟩ := of_below hb1; clear hb1))
 all_goals first
  | (exfalso; exact hfrom ⟨by assumption, by assumption⟩)
  | skip
 all_goals
  refine wp_gen27 fun X hX => ?_
  have hbX : Below w.heap.size w X := by rw [hX]; (repeat' (first | (with_reducible exact Below.refl _ _) | (with_reducible refine Below.app ?_ ?_ _ _) | (with_reducible refine Below.alloc ?_ ?_ _) | (with_reducible refine Below.drew ?_) | (with_reducible refine Below.setCell ?_ ?_ _) | (with_reducible assumption) | omega | (simp; omega) | (simp; done)))
  have x0 : X.cell? ⟨w.heap.size + 1, 0, none⟩ = some (.int .i64 id) := by rw [hX]; go_simp
  have x1 : X.cell? ⟨w.heap.size + 1, 1, none⟩ = some (.int .i64 arr) := by rw [hX]; go_simp
  have x2 : X.cell? ⟨w.heap.size + 1, 2, none⟩ = some (.string fL) := by rw [hX]; go_simp
  have x3 : X.cell? ⟨w.heap.size + 1, 3, none⟩ = some (.string fD) := by rw [hX]; go_simp
  have x4 : X.cell? ⟨w.heap.size + 1, 4, none⟩ = some (.slice p4 nt c4) := by rw [hX]; go_simp
  have x5 : X.cell? ⟨w.heap.size + 1, 5, none⟩ = some (.slice (some ⟨b, off, none⟩) ns c5) := by rw [hX]; go_simp
  have x6 : X.cell? ⟨w.heap.size + 1, 6, none⟩ = some (.slice p6 nb c6) := by rw [hX]; go_simp
  have y0 : X.cell? ⟨w.heap.size + 1 + 1 + 1 + b1.size, 0, none⟩ = some (.int .i64 0) := by rw [hX]; go_simp
  have y1 : X.cell? ⟨w.heap.size + 1 + 1 + 1 + b1.size, 1, none⟩ = some (.int .i64 s1) := by rw [hX]; go_simp
  have y2 : X.cell? ⟨w.heap.size + 1 + 1 + 1 + b1.size, 2, none⟩ = some (.int .i64 s2) := by rw [hX]; go_simp
  have y3 : X.cell? ⟨w.heap.size + 1 + 1 + 1 + b1.size, 3, none⟩ = some (.int .i64 s3) := by rw [hX]; go_simp
  have ho : X.heap[w.heap.size + 1 + 1]? = some (.cells #[.int .i64 0, .int .i64 0, .int .i64 0, .int .i64 0, .bool false, .slice none 0 0] 39 (0, 0)) := by
   rw [hX]
   repeat (first | rw [app_heap _ _ _ _ (by first | (simp; done) | (simp; omega))] | rw [blk_old (by first | (simp; done) | (simp; omega))])
   exact blk_new (by first | rfl | (simp; done))
  clear hX
  have hlx := World.block_lt_of_cell? X _ x0
  have hly := World.block_lt_of_cell? X _ y0
  replace ho := Lib.hid ho
  (apply wp_region_text 10; kernel_rfl; kernel_rfl; intro Fin hFin; (iterate 8 (first | (apply text_run; exact rfl; (focus (intro bs d hF K hK; (repeat rw [app_app] at hK); (repeat rw [app_app]); (repeat rw [Array.append_assoc] at hK); (repeat rw [Array.append_assoc]); go_step; first  | (go_at_call 33; ((with_reducible refine (sdend_calls _ _ _ _ _ _ _ hs1).mono ?_); rintro r w1 ⟨rfl, hb⟩; simp only []; exact hK _ hb))  | (refine hK _ ?_; (repeat' (first | (with_reducible exact Below.refl _ _) | (with_reducible refine Below.app ?_ ?_ _ _) | (with_reducible refine Below.alloc ?_ ?_ _) | (with_reducible refine Below.drew ?_) | (with_reducible refine Below.setCell ?_ ?_ _) | (with_reducible assumption) | omega | (simp; omega) | (simp; done)))))); (try simp only [Act.put, List.setIfInBounds_toArray, List.set_cons_zero, List.set_cons_succ])) | (apply text_skip; exact rfl; (try simp only [Act.put, List.setIfInBounds_toArray, List.set_cons_zero, List.set_cons_succ])))); (apply text_has (fun v W => ∃ p n c, v = .slice p n c ∧ RepPost R w (.returned (.slice p n c)) W ∧ Below w.heap.size w W); exact rfl; exact fun _ _ _ hb ⟨p, n, c, h1, h2, h3⟩ => ⟨p, n, c, h1, h2.below hb h3.size, h3.trans (hb.mono h3.size)⟩; exact rfl; (focus (intro bs d hF K hK; (repeat rw [app_app] at hK); (repeat rw [app_app]); (repeat rw [Array.append_assoc] at hK); (repeat rw [Array.append_assoc]); go_step; (go_at_call 36; ((with_reducible refine (kr.out _ (hbX.trans (Below.mono (B := X.heap.size) (by (repeat' (first | (with_reducible exact Below.refl _ _) | (with_reducible refine Below.app ?_ ?_ _ _) | (with_reducible refine Below.alloc ?_ ?_ _) | (with_reducible refine Below.drew ?_) | (with_reducible refine Below.setCell ?_ ?_ _) | (with_reducible assumption) | omega | (simp; omega) | (simp; done)))) hbX.size))).mono ?_); rintro r w1 h1; obtain ⟨p, n, c, rfl, h2, h3⟩ := h1.base (w := w) (hbX.trans (Below.mono (B := X.heap.size) (by (repeat' (first | (with_reducible exact Below.refl _ _) | (with_reducible refine Below.app ?_ ?_ _ _) | (with_reducible refine Below.alloc ?_ ?_ _) | (with_reducible refine Below.drew ?_) | (with_reducible refine Below.setCell ?_ ?_ _) | (with_reducible assumption) | omega | (simp; omega) | (simp; done)))) hbX.size)); exact hK _ _ h3 ⟨p, n, c, rfl, h2, h2.bel⟩)))); intro v; (try simp only [Act.put, factOf, List.setIfInBounds_toArray, List.set_cons_zero, List.set_cons_succ])); (apply text_has (fun v W => ∃ p n c, v = .agg #[.int .i64 2, .int .i64 (tr1 s1), .int .i64 s2, .int .i64 C, .bool true, .slice p n c] ∧ RepPost R w (.returned (.slice p n c)) W ∧ Below w.heap.size w W); exact rfl; exact fun _ _ _ hb ⟨p, n, c, h1, h2, h3⟩ => ⟨p, n, c, h1, h2.below hb h3.size, h3.trans (hb.mono h3.size)⟩; exact rfl; (focus (intro bs d hF K hK; (repeat rw [app_app] at hK); (repeat rw [app_app]); (repeat rw [Array.append_assoc] at hK); (repeat rw [Array.append_assoc]); obtain ⟨p, n, c, rfl, h2, h3⟩ := hF.1 (by kernel_rfl); go_step; exact hK _ _ (Below.refl _ _) ⟨p, n, c, rfl, h2, h3⟩)); intro v; (try simp only [Act.put, factOf, List.setIfInBounds_toArray, List.set_cons_zero, List.set_cons_succ])); apply text_end; apply hFin; clear hFin Fin; intro bs d hfa)
  obtain ⟨⟨p, n, c, rfl, h2, h3⟩, -, -⟩ := hfa
  have ho2 := (app_heap X bs d _ (Array.getElem?_eq_some_iff.1 ho.out).1).trans ho.out
  refine wpList_store_row rfl 39 _ _ rfl (w.heap.size + 1 + 1) _ rfl rfl 39 _ ho2 (by kernel_rfl) rfl (by simp [Value.oneCell']) ?_
  have h4 := h2.setRow (new := #[.int .i64 2, .int .i64 (tr1 s1), .int .i64 s2, .int .i64 C, .bool true, .slice p n c]) ho2 (by decide) (by omega)
  have ho4 := setRow_block (new := #[.int .i64 2, .int .i64 (tr1 s1), .int .i64 s2, .int .i64 C, .bool true, .slice p n c]) ho2
  have q0 := cell_of_block ho4 0
  have q1 := cell_of_block ho4 1
  have q2 := cell_of_block ho4 2
  have q3 := cell_of_block ho4 3
  have q4 := cell_of_block ho4 4
  have q5 := cell_of_block ho4 5
  obtain ⟨W5, hW5⟩ : ∃ W5, W5 = (app X bs d).setRow (w.heap.size + 1 + 1) #[.int .i64 2, .int .i64 (tr1 s1), .int .i64 s2, .int .i64 C, .bool true, .slice p n c] := ⟨_, rfl⟩
  rw [← hW5] at h4 q0 q1 q2 q3 q4 q5
  rw [← hW5]
  simp at q0 q1 q2 q3 q4 q5
  replace h4 := Lib.hid h4
  clear h2 h3 ho2 ho4 ho hW5
  go_wp2
  (try simp only [Exit.inBlock, Exit.then])
  refine bodyPost_ret (v := .agg #[.int .i64 2, .int .i64 (tr1 s1), .int .i64 s2, .int .i64 C, .bool true, .slice p n c]) (by simp [results, Tryz.results12, go_sem, q0, q1, q2, q3, q4, q5]; try rfl) rfl ?_
  exact ⟨_, rfl, h4.out⟩
set_option maxRecDepth 20000 in
set_option maxHeartbeats 8000000 in
theorem try_bounce7 {w : World} {host fL fD : ByteArray} {id arr now ex s1 s2 s3 : Int} {nt ns nb : Nat} {pz p4 p5 p6 : Option Addr} {cz c4 c5 c6 k b off : Nat} {zs : List Int} {R : Option (List UInt8)} (h : TryAt w id arr fL fD nt ns nb p4 p5 p6 c4 c5 c6 k b off s1 s2 s3)
 (hz : IntsAt w pz zs) (hzl : zs.length ≤ 9223372036854775807) (hfrom : ¬ (fL.toList = [] ∧ fD.toList = []))
 (kr : ∀ W, Below w.heap.size w W → Calls Tryz.prog 36 #[.string host, .agg #[.int .i64 id, .int .i64 arr, .string fL, .string fD, .slice p4 nt c4, .slice p5 ns c5, .slice p6 nb c6], .int .i64 k, .int .i64 now, .int .i64 7] W (RepPost R W)) :
 Calls Tryz.prog 12 #[.string host, .agg #[.slice pz zs.length cz, .int .i64 ex], .agg #[.int .i64 id, .int .i64 arr, .string fL, .string fD, .slice p4 nt c4, .slice p5 ns c5, .slice p6 nb c6], .int .i64 k, .int .i64 now, .int .i64 7] w (TryPost 2 (tr1 s1) s2 (whyC 7) true R w) := by
 obtain ⟨hp, hb, hk, hkn, hnt, e0, e1, e2, e3, hs1, kg⟩ := h
 subst hp
 have ke := fun W (hW : Below w.heap.size w W) => expired_calls pz zs cz ex arr now W (Lib.hid (hz.below hW (Nat.le_refl _))) hzl
 have kw := fun W => why_calls 7 W
 generalize whyC 7 = C at *
 generalize (⟨(whyS 7).toArray⟩ : ByteArray) = st at *
 generalize whyR 7 = re at *
 replace kg := Lib.hid kg
 replace ke := Lib.hid ke
 replace kw := Lib.hid kw
 replace kr := Lib.hid kr
 clear hz
 go_enter Tryz.func12, Tryz.ntmps12
 go_wp2_with first
  | (go_at_call 31; ((with_reducible refine (kg.out _ (by (repeat' (first | (with_reducible exact Below.refl _ _) | (with_reducible refine Below.app ?_ ?_ _ _) | (with_reducible refine Below.alloc ?_ ?_ _) | (with_reducible refine Below.drew ?_) | (with_reducible refine Below.setCell ?_ ?_ _) | (with_reducible assumption) | omega | (simp; omega) | (simp; done))))).mono ?_); rintro r w1 ⟨rfl, hb1⟩; obtain ⟨b1, d1, rfl⟩ := of_below hb1; clear hb1))
  | (go_at_call 32; ((refine (kw.out _).mono ?_); rintro r w1 ⟨rfl, rfl⟩))
  | (go_at_call 34; ((with_reducible refine (ke.out _ (by (repeat' (first | (with_reducible exact Below.refl _ _) | (with_reducible refine Below.app ?_ ?_ _ _) | (with_reducible refine Below.alloc ?_ ?_ _) | (with_reducible refine Below.drew ?_) | (with_reducible refine Below.setCell ?_ ?_ _) | (with_reducible assumption) | omega | (simp; omega) | (simp; done))))).mono ?_); rintro r w1 ⟨rfl, hb1⟩; obtain ⟨b2, d2, rfl⟩ := of_below hb1; clear hb1))
 all_goals first
  | (exfalso; exact hfrom ⟨by assumption, by assumption⟩)
  | skip
 all_goals
  refine wp_gen27 fun X hX => ?_
  have hbX : Below w.heap.size w X := by rw [hX]; (repeat' (first | (with_reducible exact Below.refl _ _) | (with_reducible refine Below.app ?_ ?_ _ _) | (with_reducible refine Below.alloc ?_ ?_ _) | (with_reducible refine Below.drew ?_) | (with_reducible refine Below.setCell ?_ ?_ _) | (with_reducible assumption) | omega | (simp; omega) | (simp; done)))
  have x0 : X.cell? ⟨w.heap.size + 1, 0, none⟩ = some (.int .i64 id) := by rw [hX]; go_simp
  have x1 : X.cell? ⟨w.heap.size + 1, 1, none⟩ = some (.int .i64 arr) := by rw [hX]; go_simp
  have x2 : X.cell? ⟨w.heap.size + 1, 2, none⟩ = some (.string fL) := by rw [hX]; go_simp
  have x3 : X.cell? ⟨w.heap.size + 1, 3, none⟩ = some (.string fD) := by rw [hX]; go_simp
  have x4 : X.cell? ⟨w.heap.size + 1, 4, none⟩ = some (.slice p4 nt c4) := by rw [hX]; go_simp
  have x5 : X.cell? ⟨w.heap.size + 1, 5, none⟩ = some (.slice (some ⟨b, off, none⟩) ns c5) := by rw [hX]; go_simp
  have x6 : X.cell? ⟨w.heap.size + 1, 6, none⟩ = some (.slice p6 nb c6) := by rw [hX]; go_simp
  have y0 : X.cell? ⟨w.heap.size + 1 + 1 + 1 + b1.size, 0, none⟩ = some (.int .i64 0) := by rw [hX]; go_simp
  have y1 : X.cell? ⟨w.heap.size + 1 + 1 + 1 + b1.size, 1, none⟩ = some (.int .i64 s1) := by rw [hX]; go_simp
  have y2 : X.cell? ⟨w.heap.size + 1 + 1 + 1 + b1.size, 2, none⟩ = some (.int .i64 s2) := by rw [hX]; go_simp
  have y3 : X.cell? ⟨w.heap.size + 1 + 1 + 1 + b1.size, 3, none⟩ = some (.int .i64 s3) := by rw [hX]; go_simp
  have ho : X.heap[w.heap.size + 1 + 1]? = some (.cells #[.int .i64 0, .int .i64 0, .int .i64 0, .int .i64 0, .bool false, .slice none 0 0] 39 (0, 0)) := by
   rw [hX]
   repeat (first | rw [app_heap _ _ _ _ (by first | (simp; done) | (simp; omega))] | rw [blk_old (by first | (simp; done) | (simp; omega))])
   exact blk_new (by first | rfl | (simp; done))
  clear hX
  have hlx := World.block_lt_of_cell? X _ x0
  have hly := World.block_lt_of_cell? X _ y0
  replace ho := Lib.hid ho
  (apply wp_region_text 10; kernel_rfl; kernel_rfl; intro Fin hFin; (iterate 8 (first | (apply text_run; exact rfl; (focus (intro bs d hF K hK; (repeat rw [app_app] at hK); (repeat rw [app_app]); (repeat rw [Array.append_assoc] at hK); (repeat rw [Array.append_assoc]); go_step; first  | (go_at_call 33; ((with_reducible refine (sdend_calls _ _ _ _ _ _ _ hs1).mono ?_); rintro r w1 ⟨rfl, hb⟩; simp only []; exact hK _ hb))  | (refine hK _ ?_; (repeat' (first | (with_reducible exact Below.refl _ _) | (with_reducible refine Below.app ?_ ?_ _ _) | (with_reducible refine Below.alloc ?_ ?_ _) | (with_reducible refine Below.drew ?_) | (with_reducible refine Below.setCell ?_ ?_ _) | (with_reducible assumption) | omega | (simp; omega) | (simp; done)))))); (try simp only [Act.put, List.setIfInBounds_toArray, List.set_cons_zero, List.set_cons_succ])) | (apply text_skip; exact rfl; (try simp only [Act.put, List.setIfInBounds_toArray, List.set_cons_zero, List.set_cons_succ])))); (apply text_has (fun v W => ∃ p n c, v = .slice p n c ∧ RepPost R w (.returned (.slice p n c)) W ∧ Below w.heap.size w W); exact rfl; exact fun _ _ _ hb ⟨p, n, c, h1, h2, h3⟩ => ⟨p, n, c, h1, h2.below hb h3.size, h3.trans (hb.mono h3.size)⟩; exact rfl; (focus (intro bs d hF K hK; (repeat rw [app_app] at hK); (repeat rw [app_app]); (repeat rw [Array.append_assoc] at hK); (repeat rw [Array.append_assoc]); go_step; (go_at_call 36; ((with_reducible refine (kr.out _ (hbX.trans (Below.mono (B := X.heap.size) (by (repeat' (first | (with_reducible exact Below.refl _ _) | (with_reducible refine Below.app ?_ ?_ _ _) | (with_reducible refine Below.alloc ?_ ?_ _) | (with_reducible refine Below.drew ?_) | (with_reducible refine Below.setCell ?_ ?_ _) | (with_reducible assumption) | omega | (simp; omega) | (simp; done)))) hbX.size))).mono ?_); rintro r w1 h1; obtain ⟨p, n, c, rfl, h2, h3⟩ := h1.base (w := w) (hbX.trans (Below.mono (B := X.heap.size) (by (repeat' (first | (with_reducible exact Below.refl _ _) | (with_reducible refine Below.app ?_ ?_ _ _) | (with_reducible refine Below.alloc ?_ ?_ _) | (with_reducible refine Below.drew ?_) | (with_reducible refine Below.setCell ?_ ?_ _) | (with_reducible assumption) | omega | (simp; omega) | (simp; done)))) hbX.size)); exact hK _ _ h3 ⟨p, n, c, rfl, h2, h2.bel⟩)))); intro v; (try simp only [Act.put, factOf, List.setIfInBounds_toArray, List.set_cons_zero, List.set_cons_succ])); (apply text_has (fun v W => ∃ p n c, v = .agg #[.int .i64 2, .int .i64 (tr1 s1), .int .i64 s2, .int .i64 C, .bool true, .slice p n c] ∧ RepPost R w (.returned (.slice p n c)) W ∧ Below w.heap.size w W); exact rfl; exact fun _ _ _ hb ⟨p, n, c, h1, h2, h3⟩ => ⟨p, n, c, h1, h2.below hb h3.size, h3.trans (hb.mono h3.size)⟩; exact rfl; (focus (intro bs d hF K hK; (repeat rw [app_app] at hK); (repeat rw [app_app]); (repeat rw [Array.append_assoc] at hK); (repeat rw [Array.append_assoc]); obtain ⟨p, n, c, rfl, h2, h3⟩ := hF.1 (by kernel_rfl); go_step; exact hK _ _ (Below.refl _ _) ⟨p, n, c, rfl, h2, h3⟩)); intro v; (try simp only [Act.put, factOf, List.setIfInBounds_toArray, List.set_cons_zero, List.set_cons_succ])); apply text_end; apply hFin; clear hFin Fin; intro bs d hfa)
  obtain ⟨⟨p, n, c, rfl, h2, h3⟩, -, -⟩ := hfa
  have ho2 := (app_heap X bs d _ (Array.getElem?_eq_some_iff.1 ho.out).1).trans ho.out
  refine wpList_store_row rfl 39 _ _ rfl (w.heap.size + 1 + 1) _ rfl rfl 39 _ ho2 (by kernel_rfl) rfl (by simp [Value.oneCell']) ?_
  have h4 := h2.setRow (new := #[.int .i64 2, .int .i64 (tr1 s1), .int .i64 s2, .int .i64 C, .bool true, .slice p n c]) ho2 (by decide) (by omega)
  have ho4 := setRow_block (new := #[.int .i64 2, .int .i64 (tr1 s1), .int .i64 s2, .int .i64 C, .bool true, .slice p n c]) ho2
  have q0 := cell_of_block ho4 0
  have q1 := cell_of_block ho4 1
  have q2 := cell_of_block ho4 2
  have q3 := cell_of_block ho4 3
  have q4 := cell_of_block ho4 4
  have q5 := cell_of_block ho4 5
  obtain ⟨W5, hW5⟩ : ∃ W5, W5 = (app X bs d).setRow (w.heap.size + 1 + 1) #[.int .i64 2, .int .i64 (tr1 s1), .int .i64 s2, .int .i64 C, .bool true, .slice p n c] := ⟨_, rfl⟩
  rw [← hW5] at h4 q0 q1 q2 q3 q4 q5
  rw [← hW5]
  simp at q0 q1 q2 q3 q4 q5
  replace h4 := Lib.hid h4
  clear h2 h3 ho2 ho4 ho hW5
  go_wp2
  (try simp only [Exit.inBlock, Exit.then])
  refine bodyPost_ret (v := .agg #[.int .i64 2, .int .i64 (tr1 s1), .int .i64 s2, .int .i64 C, .bool true, .slice p n c]) (by simp [results, Tryz.results12, go_sem, q0, q1, q2, q3, q4, q5]; try rfl) rfl ?_
  exact ⟨_, rfl, h4.out⟩
end Go.Proofs.YteahkgbnfbjkhaaGreatDoor
