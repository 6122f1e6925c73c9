/-
  BytesG, RepDef.
-/
import Derived.Test.YteahkgbnfbjkhaaGreatDoorProg
import Derived.Test.YteahkgbnfbjkhaaGreatDoorRe07
import Derived.Test.YteahkgbnfbjkhaaGreatDoorRe02
import Derived.Laws.BytesArg
import Derived.Laws.IdiomStrings
import Derived.Lib.SlBytesConst
import Derived.Lib.SmallJoins
set_option maxRecDepth 20000
set_option linter.unusedVariables false
set_option linter.unusedSimpArgs false
set_option linter.unusedSectionVars false
namespace Go.Proofs.YteahkgbnfbjkhaaGreatDoor
open Go.ChangeShapes Go.WideShapes Go.ChangeAt Go.RowKit
theorem Moved.refl (w : World) (v : Value) : Moved w v v := fun _ h => .inl h
theorem infoByteG : (Tryz.prog.info? 5).map (fun i => (i.zero, i.size, i.bytes)) = some (some (.int .u8 0), 1, 1) := by kernel_rfl
theorem own_len {w : World} {B : Nat} {e : TypeId} {v : Value} {n : Nat} {xs : List Value} (h : w.ownsRow B e 1 v n xs) : ∃ p cap, v = .slice p n cap := by
 rcases h.2 with ⟨h1, h2⟩ | ⟨g, cap, cur, h1, _⟩
 · exact ⟨none, 0, by rw [h1, h2]⟩
 · exact ⟨_, _, h1⟩
theorem own_base {w : World} {B B' : Nat} {e : TypeId} {v : Value} {n : Nat} {xs : List Value} (h : w.ownsRow B e 1 v n xs) (hB : B' ≤ B) : w.ownsRow B' e 1 v n xs := by
 refine ⟨h.1, ?_⟩
 rcases h.2 with h1 | ⟨g, cap, cur, h1, h2, h3⟩
 · exact .inl h1
 · exact .inr ⟨g, cap, cur, h1, by omega, h3⟩
structure BytesAt (w : World) (q : Option Addr) (cap : Nat) (l : List UInt8) : Prop where
 nil : q = none → l = [] ∧ cap = 0
 cap : l.length ≤ cap
 cell : l ≠ [] → ∃ bb off, q = some ⟨bb, off, none⟩ ∧ bb < w.heap.size ∧ ∀ i (h : i < l.length), w.cell? ⟨bb, off + i, none⟩ = some (.int .u8 (l[i].toNat : Int))
theorem BytesAt.below {w w' : World} {q : Option Addr} {cap : Nat} {l : List UInt8} (h : BytesAt w q cap l) (hb : Below w.heap.size w w') : BytesAt w' q cap l :=
 ⟨h.nil, h.cap, fun h0 => by
  obtain ⟨bb, off, h1, h2, h3⟩ := h.cell h0
  exact ⟨bb, off, h1, Nat.lt_of_lt_of_le h2 hb.size, fun i hi => (hb.cell (p := ⟨bb, off + i, none⟩) h2).trans (h3 i hi)⟩⟩
theorem BytesAt.text {w : World} {q : Option Addr} {cap : Nat} {l : List UInt8} (h : BytesAt w q cap l) : (convert 29 9 (.slice q l.length cap)).run Tryz.prog w = .ok (.string ⟨l.toArray⟩) w := by
 cases q with
 | none =>
  obtain ⟨rfl, rfl⟩ := h.nil rfl
  exact run_convert_bytes_nil w 29 5 rfl rfl _ _ 9 rfl
 | some a =>
  refine run_convert_bytes_back (P := Tryz.prog) w 29 9 5 a cap l rfl rfl rfl (fun j hj => ?_)
  obtain ⟨bb, off, e1, e2, e3⟩ := h.cell (by intro e; subst e; simp at hj)
  injection e1 with e1
  subst e1
  rw [show (⟨bb, off, none⟩ : Addr).add j = ⟨bb, off + j, none⟩ by unfold Addr.add; split <;> simp_all, e3 j hj]
def TextOf (w : World) (v : Value) (l : List UInt8) : Prop := ∀ W', Below w.heap.size w W' → (convert 29 9 v).run Tryz.prog W' = .ok (.string ⟨l.toArray⟩) W'
theorem BytesAt.textOf {w : World} {q : Option Addr} {cap : Nat} {l : List UInt8} (h : BytesAt w q cap l) : TextOf w (.slice q l.length cap) l := fun _ hb => (h.below hb).text
theorem own_below {w w' : World} {B : Nat} {e : TypeId} {v : Value} {n : Nat} {xs : List Value} (h : w.ownsRow B e 1 v n xs) (hb : Below w.heap.size w w') : w'.ownsRow B e 1 v n xs :=
 h.kept (row := none) ⟨hb.os, hb.tape, hb.output, hb.size, fun k hk _ => hb.block k hk⟩ (by cases v.ownBlock <;> simp)
theorem bytes_new (w : World) (l : List UInt8) (C : Array Value) (T : TypeId) (m : Nat × Nat) (hC : C = (Lib.byteCells l).toArray) : BytesAt (w.alloc (.cells C T m)) (some ⟨w.heap.size, 0, none⟩) l.length l :=
 ⟨(by intro h; cases h), Nat.le_refl _, fun _ => ⟨w.heap.size, 0, rfl, by simp, fun i hi => by
  rw [World.cell?_alloc_mark, hC, Nat.zero_add]
  simp [Lib.byteCells, hi]⟩⟩
set_option maxRecDepth 20000 in
theorem bytes_row (w : World) (s : ByteArray) : ∃ W cap, (convert 9 29 (.string s)).run Tryz.prog w = .ok (.slice (some ⟨w.heap.size, 0, none⟩) s.size cap) W ∧ BytesAt W (some ⟨w.heap.size, 0, none⟩) cap s.data.toList ∧ Below w.heap.size w W := by
 refine ⟨_, _, run_bytes_of_string (P := Tryz.prog) w 9 29 5 s rfl rfl rfl, ⟨(by intro h; cases h), ?_, fun _ => ⟨w.heap.size, 0, rfl, by simp, fun i hi => ?_⟩⟩, by (repeat' (first | (with_reducible exact Below.refl _ _) | (with_reducible refine Below.app ?_ ?_ _ _) | (with_reducible refine Below.alloc ?_ ?_ _) | (with_reducible refine Below.drew ?_) | (with_reducible refine Below.setCell ?_ ?_ _) | (with_reducible assumption) | omega | (simp; omega) | (simp; done)))⟩
 · have := grownCap_ge w s.size 0 5
   simpa using this
 · have hj : i < s.data.size := by simpa using hi
   rw [Nat.zero_add]
   exact (World.cell?_alloc_mark w.drew _ _ _ i).trans (bytesRow_at s _ i hj)
theorem cat_two (A B : List UInt8) : (⟨A.toArray⟩ : ByteArray) ++ (⟨B.toArray⟩ : ByteArray) = ⟨(A ++ B).toArray⟩ := by apply ByteArray.ext; simp
def IsByte (_ : World) (cs : List Value) (c : UInt8) : Prop := cs = [.int .u8 (c.toNat : Int)]
theorem cellsByte : Tryz.prog.cellsOf 5 = 1 := by kernel_rfl
section
variable {H : Type} {enc : TypeId × Value → H} {w : World} {spare : Nat → Bool} {base : Nat} {held : Bool}
theorem isByte_of {t : TypeId} (ht : Tryz.prog.underlying t = some (.int .u8)) {n : Nat} {cs : List Value} {y : DataW H × List MemPlace} (h : DataW.trod enc Tryz.prog w base spare held n t cs = some y) : ∃ c, IsByte w cs c := by
 obtain ⟨z, h1, _, h3⟩ := DataW.trod_int ht h
 have hb : 0 ≤ z ∧ z ≤ 255 := by simpa [Lit.wf, IntKind.min, IntKind.max, IntKind.signed, IntKind.bits] using h3
 refine ⟨UInt8.ofNat z.toNat, ?_⟩
 unfold IsByte
 rw [h1]
 have : (UInt8.ofNat z.toNat).toNat = z.toNat := by
  rw [UInt8.toNat_ofNat']; omega
 rw [this, Int.toNat_of_nonneg hb.1]
theorem bytes_of_cells {fuel : Nat} {cs : List Value} {x : DataW H × List MemPlace} (h : DataW.trod enc Tryz.prog w base spare held fuel 29 cs = some x) :
 ∃ q l cap, cs = [.slice q l.length cap] ∧ BytesAt w q cap l ∧ cap ≤ maxLen := by
 have h2 := h
 rcases DataW.trod_slice Tryz.underlying29 h with ⟨rfl, _⟩ | ⟨a, len, cap, elems, rest, n, _, rfl, _, hb, hl, hm, hlen, hel, _, _⟩
 · exact ⟨none, [], 0, rfl, ⟨fun _ => ⟨rfl, rfl⟩, Nat.le_refl _, fun h => absurd rfl h⟩, by simp⟩
 · obtain ⟨p, l, cap2, e, hl2, hm2, hs⟩ := open_shows (R := IsByte) Tryz.underlying29 cellsByte (by omega) (isByte_of Tryz.underlying5) h2
   simp at e
   obtain ⟨rfl, rfl, rfl⟩ := e
   refine ⟨some a, l, cap, rfl, ⟨(by intro h; cases h), by omega, fun h0 => ?_⟩, by omega⟩
   have hpos : 0 < l.length := List.length_pos_iff.2 h0
   obtain ⟨b, off, cs0, e1, e2, _, _, _⟩ := hs 0 hpos
   refine ⟨b, off, e1, e2, fun i hi => ?_⟩
   obtain ⟨b', off', cs1, e1', _, _, e4, e5⟩ := hs i hi
   rw [e1] at e1'
   simp at e1'
   obtain ⟨rfl, rfl⟩ := e1'
   have := e4 0 (by omega)
   rw [Nat.mul_one, Nat.add_zero] at this
   rw [this, e5]; rfl
end
theorem own_bytesAt {w : World} {B : Nat} {p : Option Addr} {c : Nat} {l : List UInt8} (h : w.ownsRow B 5 1 (.slice p l.length c) l.length (Lib.byteCells l)) : BytesAt w p c l := by
 rcases h.2 with ⟨hv, hn⟩ | ⟨g, cap, cur, hv, _, hg, hc, _, _, _⟩
 · have hl : l = [] := List.eq_nil_of_length_eq_zero hn
   subst hl
   simp at hv
   obtain ⟨rfl, rfl⟩ := hv
   exact ⟨fun _ => ⟨rfl, rfl⟩, by simp, fun h => absurd rfl h⟩
 · simp at hv
   obtain ⟨rfl, rfl⟩ := hv
   refine ⟨(by intro h; cases h), hc, fun _ => ⟨g, 0, rfl, (Array.getElem?_eq_some_iff.1 hg).1, fun i hi => ?_⟩⟩
   have := h.cells (g := g) rfl i (.int .u8 (l[i].toNat : Int)) (by simp [Lib.byteCells, hi])
   rw [← this, Nat.zero_add]
   congr 1
   simp [Addr.add]
section
variable {w : World}
theorem run_append_bytes (base : Nat) (ty : TypeId) {v : Value} {n : Nat} {xs : List Value} (hown : w.ownsRow base 5 1 v n xs) {q : Option Addr} {c : Nat} {L : List UInt8} (hB : BytesAt w q c L)
 (h63 : n + L.length ≤ 100000000000) (hbase : base ≤ w.heap.size) :
 ∃ p' c' w', (Builtin.append_ #[29, 29] ty #[v, .slice q L.length c]).run Tryz.prog w = .ok (.slice p' (n + L.length) c') w' ∧ w'.ownsRow base 5 1 (.slice p' (n + L.length) c') (n + L.length) (xs ++ Lib.byteCells L) ∧ w.grownBy w' v.ownBlock ∧ Moved w v (.slice p' (n + L.length) c') := by
 obtain ⟨i0, hi, hz0, hz1, hz2⟩ := info_parts infoByteG
 cases q with
 | none =>
  obtain ⟨rfl, rfl⟩ := hB.nil rfl
  obtain ⟨p, cap, rfl⟩ := own_len hown
  refine ⟨p, cap, w, ?_, by simpa [Lib.byteCells] using hown, ⟨rfl, rfl, rfl, Nat.le_refl _, fun _ _ _ => rfl⟩, Moved.refl _ _⟩
  rcases hown.2 with ⟨hv, rfl⟩ | ⟨g, cap', cur, hv, _, _, hnc, _⟩
  · simp at hv
    obtain ⟨rfl, rfl⟩ := hv
    simp [Builtin.append_, run_underlying Tryz.underlying29, sizeOf, typeInfo, hi, Builtin.lenOf, Builtin.firstCells]
  · simp at hv
    obtain ⟨rfl, rfl⟩ := hv
    simp [Builtin.append_, run_underlying Tryz.underlying29, sizeOf, typeInfo, hi, Builtin.lenOf, Builtin.firstCells, hnc, storeCells]
 | some a =>
  obtain ⟨v', w', h1, h2, h3, _, h5⟩ := run_append_moved (P := Tryz.prog) w base 29 ty 5 i0 (.int .u8 0) 1 1 Tryz.underlying29 hi hz0 hz1 hz2 rfl (by decide) v n xs hown a L.length c (Lib.byteCells L) (by simp [Lib.byteCells]) (fun j u hu => by
   have hj : j < L.length := by have := (List.getElem?_eq_some_iff.1 hu).1; simpa [Lib.byteCells] using this
   obtain ⟨bb, off, e1, e2, e3⟩ := hB.cell (by intro e; subst e; simp at hj)
   injection e1 with e1
   subst e1
   rw [show (⟨bb, off, none⟩ : Addr).add j = ⟨bb, off + j, none⟩ by unfold Addr.add; split <;> simp_all, e3 j hj]
   simpa [Lib.byteCells, hj] using hu) (fun u hu => by
   simp only [Lib.byteCells, List.mem_map] at hu
   obtain ⟨c, _, rfl⟩ := hu; rfl) (by unfold maxLen; omega) (by omega) hbase
  obtain ⟨p, cap, rfl⟩ := own_len h2
  exact ⟨p, cap, w', h1, h2, h3, h5⟩
theorem wpList_append_bytes {ops : Array Oper} {rest : List Oper} {o : Oper} {a : Act} {Q : Exit → Act → World → Prop} (hgd : o.guard = none) (s x : Operand)
 (ho : o.op = .call { callee := .builtin .append, args := #[s, x], argTypes := #[29, 29] })
 (base : Nat) (v : Value) (n : Nat) (xs : List Value) (hs : a.eval s = v) (hown : w.ownsRow base 5 1 v n xs)
 (q : Option Addr) (c : Nat) (L : List UInt8) (hx : a.eval x = .slice q L.length c) (hB : BytesAt w q c L) (h63 : n + L.length ≤ 100000000000) (hbase : base ≤ w.heap.size)
 (h : ∀ p' c' w', w'.ownsRow base 5 1 (.slice p' (n + L.length) c') (n + L.length) (xs ++ Lib.byteCells L) → w.grownBy w' v.ownBlock → Moved w v (.slice p' (n + L.length) c') → wpList Tryz.prog ops Q rest (a.put o.dst (.slice p' (n + L.length) c')) w') : wpList Tryz.prog ops Q (o :: rest) a w :=
 wpList_plain hgd fun _ hK => by
  obtain ⟨p', c', w', hr, h2, h3, h5⟩ := run_append_bytes base o.type hown hB h63 hbase
  unfold Oper.wp execOp
  simp only [ho, resolve, invoke, builtin, Sem.run_bind, Sem.run_pure, Result.andThen_ok, List.map_toArray, List.map_cons, List.map_nil, hs, hx, hr]
  exact hK _ _ (h p' c' w' h2 h3 h5)
theorem own_below_grown {w0 w w' : World} {v : Value} {n : Nat} {xs : List Value} {e : TypeId} (hb : Below w0.heap.size w0 w) (hown : w.ownsRow w0.heap.size e 1 v n xs) (hg : w.grownBy w' v.ownBlock) : Below w0.heap.size w0 w' :=
 hb.grown hg hb.size (fun k hk => (hown.lt k hk).1)
theorem own_bytesAt' {B n : Nat} {p : Option Addr} {c : Nat} {l : List UInt8} {xs : List Value} (h : w.ownsRow B 5 1 (.slice p n c) n xs) (hn : n = l.length) (hx : xs = Lib.byteCells l) : BytesAt w p c l := by
 subst hn; subst hx; exact own_bytesAt h
end
theorem BytesAt.cut {w : World} {q : Option Addr} {cap : Nat} {l : List UInt8} (h : BytesAt w q cap l) {a t : Nat} (ha : a ≤ t) (ht : t ≤ l.length) :
 BytesAt w (if cap = a then q else q.map (·.add a)) (cap - a) ((l.drop a).take (t - a)) := by
 have hlen : ((l.drop a).take (t - a)).length = t - a := by rw [List.length_take, List.length_drop]; omega
 refine ⟨fun hn => ?_, by rw [hlen]; have := h.cap; omega, fun h0 => ?_⟩
 · have hq : q = none := by
    split at hn
    · exact hn
    · simpa using hn
   obtain ⟨rfl, rfl⟩ := h.nil hq
   simp
 · have hne : l ≠ [] := by intro e; subst e; simp at h0
   have hpos : 0 < t - a := by rw [← hlen]; exact List.length_pos_iff.2 h0
   have hcap := h.cap
   obtain ⟨bb, off, rfl, h2, h3⟩ := h.cell hne
   refine ⟨bb, off + a, ?_, h2, fun i hi => ?_⟩
   · rw [if_neg (by omega)]
     simp [Addr.add]
   · rw [hlen] at hi
     rw [show off + a + i = off + (a + i) by omega, h3 (a + i) (by omega)]
     simp
theorem BytesAt.pre {w : World} {q : Option Addr} {cap : Nat} {l : List UInt8} (h : BytesAt w q cap l) {t : Nat} (ht : t ≤ l.length) : BytesAt w q cap (l.take t) := by
 refine ⟨fun hn => ?_, by rw [List.length_take]; have := h.cap; omega, fun h0 => ?_⟩
 · obtain ⟨rfl, rfl⟩ := h.nil hn; simp
 · obtain ⟨bb, off, h1, h2, h3⟩ := h.cell (by intro e; subst e; simp at h0)
   refine ⟨bb, off, h1, h2, fun i hi => ?_⟩
   rw [List.length_take] at hi
   rw [h3 i (by omega)]
   simp
end Go.Proofs.YteahkgbnfbjkhaaGreatDoor
set_option maxRecDepth 20000
set_option linter.unusedVariables false
set_option linter.unusedSimpArgs false
set_option linter.unusedSectionVars false
namespace Go.Proofs.YteahkgbnfbjkhaaGreatDoor
open Go.ChangeShapes Go.WideShapes Go.ChangeAt Go.RowKit
def OutPost (R : Option (List UInt8)) (w : World) (r : Ending) (w' : World) : Prop :=
 (R = none ∧ r = .returned (.tuple #[.slice none 0 0, .int .i64 3]) ∧ Below w.heap.size w w') ∨
 (∃ O p c, R = some O ∧ r = .returned (.tuple #[.slice p O.length c, .int .i64 0]) ∧ w'.ownsRow w.heap.size 5 1 (.slice p O.length c) O.length (Lib.byteCells O) ∧ Below w.heap.size w w')
def RepPost (R : Option (List UInt8)) (w : World) (r : Ending) (w' : World) : Prop :=
 (R = none ∧ r = .returned (.slice none 0 0) ∧ Below w.heap.size w w') ∨
 (∃ O p c, R = some O ∧ r = .returned (.slice p O.length c) ∧ w'.ownsRow w.heap.size 5 1 (.slice p O.length c) O.length (Lib.byteCells O) ∧ Below w.heap.size w w')
theorem OutPost.rep {R : Option (List UInt8)} {w w1 w2 : World} {r : Ending} (h : OutPost R w1 r w2) (hb : Below w.heap.size w w1) :
 ∃ s n, r = .returned (.tuple #[s, n]) ∧ RepPost R w (.returned s) w2 := by
 rcases h with ⟨h1, rfl, h3⟩ | ⟨O, p, c, h1, rfl, h3, h4⟩
 · exact ⟨_, _, rfl, .inl ⟨h1, rfl, hb.trans (h3.mono hb.size)⟩⟩
 · exact ⟨_, _, rfl, .inr ⟨O, p, c, h1, rfl, own_base h3 hb.size, hb.trans (h4.mono hb.size)⟩⟩
end Go.Proofs.YteahkgbnfbjkhaaGreatDoor
