/-
  'append(row, b...)' of bytes: a row of the call's own, the source any slice whose bytes are known (nil, empty or not).
-/
import Derived.Test.YtnoiaeajpjhldaaAppend
import Derived.Test.YtnoiaeajpjhldaaBytesArg
namespace Go.Proofs.Ytnoiaeajpjhldaa
open Go.RowKit

theorem own_bytesAt {w : World} {B : Nat} {p : Option Addr} {c : Nat} {l : List UInt8} (h : w.ownsRow B 5 1 (.slice p l.length c) l.length (Lib.byteCells l)) : BytesAt w p c l := by
  rcases h.2 with ⟨hv, hn⟩ | ⟨g, cap, cur, hv, _, hg, hc, _, _, _⟩
  · have hl : l = [] := List.eq_nil_of_length_eq_zero hn
    subst hl
    simp at hv
    obtain ⟨rfl, rfl⟩ := hv
    exact ⟨fun _ => ⟨rfl, rfl⟩, by simp, fun h => absurd rfl h⟩
  · simp at hv
    obtain ⟨rfl, rfl⟩ := hv
    refine ⟨(by intro h; cases h), hc, fun _ => ⟨g, 0, rfl, (Array.getElem?_eq_some_iff.1 hg).1, fun i hi => ?_⟩⟩
    have := h.cells (g := g) rfl i (.int .u8 (l[i].toNat : Int)) (by simp [Lib.byteCells, hi])
    rw [← this, Nat.zero_add]
    congr 1
    simp [Addr.add]
section
variable {w : World}
theorem run_append_bytes (base : Nat) (ty : TypeId) {v : Value} {n : Nat} {xs : List Value} (hown : w.ownsRow base 5 1 v n xs) {q : Option Addr} {c : Nat} {L : List UInt8} (hB : BytesAt w q c L)
    (h63 : n + L.length ≤ 100000000000) (hbase : base ≤ w.heap.size) :
    ∃ p' c' w', (Builtin.append_ #[22, 22] ty #[v, .slice q L.length c]).run Try.prog w = .ok (.slice p' (n + L.length) c') w' ∧ w'.ownsRow base 5 1 (.slice p' (n + L.length) c') (n + L.length) (xs ++ Lib.byteCells L) ∧ w.grownBy w' v.ownBlock ∧ Moved w v (.slice p' (n + L.length) c') := by
  obtain ⟨i0, hi, hz0, hz1, hz2⟩ := info_parts infoByte
  cases q with
  | none =>
    obtain ⟨rfl, rfl⟩ := hB.nil rfl
    obtain ⟨p, cap, rfl⟩ := own_len hown
    refine ⟨p, cap, w, ?_, by simpa [Lib.byteCells] using hown, ⟨rfl, rfl, rfl, Nat.le_refl _, fun _ _ _ => rfl⟩, Moved.refl _ _⟩
    rcases hown.2 with ⟨hv, rfl⟩ | ⟨g, cap', cur, hv, _, _, hnc, _⟩
    · simp at hv
      obtain ⟨rfl, rfl⟩ := hv
      simp [Builtin.append_, run_underlying Try.underlying22, sizeOf, typeInfo, hi, Builtin.lenOf, Builtin.firstCells]
    · simp at hv
      obtain ⟨rfl, rfl⟩ := hv
      simp [Builtin.append_, run_underlying Try.underlying22, sizeOf, typeInfo, hi, Builtin.lenOf, Builtin.firstCells, hnc, storeCells]
  | some a =>
    obtain ⟨v', w', h1, h2, h3, _, h5⟩ := run_append_moved (P := Try.prog) w base 22 ty 5 i0 (.int .u8 0) 1 1 Try.underlying22 hi hz0 hz1 hz2 rfl (by decide) v n xs hown a L.length c (Lib.byteCells L) (by simp [Lib.byteCells]) (fun j u hu => by
      have hj : j < L.length := by have := (List.getElem?_eq_some_iff.1 hu).1; simpa [Lib.byteCells] using this
      obtain ⟨bb, off, e1, e2, e3⟩ := hB.cell (by intro e; subst e; simp at hj)
      injection e1 with e1
      subst e1
      rw [show (⟨bb, off, none⟩ : Addr).add j = ⟨bb, off + j, none⟩ by unfold Addr.add; split <;> simp_all, e3 j hj]
      simpa [Lib.byteCells, hj] using hu) (fun u hu => by
      simp only [Lib.byteCells, List.mem_map] at hu
      obtain ⟨c, _, rfl⟩ := hu; rfl) (by unfold maxLen; omega) (by omega) hbase
    obtain ⟨p, cap, rfl⟩ := own_len h2
    exact ⟨p, cap, w', h1, h2, h3, h5⟩
theorem wpList_append_bytes {ops : Array Oper} {rest : List Oper} {o : Oper} {a : Act} {Q : Exit → Act → World → Prop} (hgd : o.guard = none) (s x : Operand)
    (ho : o.op = .call { callee := .builtin .append, args := #[s, x], argTypes := #[22, 22] })
    (base : Nat) (v : Value) (n : Nat) (xs : List Value) (hs : a.eval s = v) (hown : w.ownsRow base 5 1 v n xs)
    (q : Option Addr) (c : Nat) (L : List UInt8) (hx : a.eval x = .slice q L.length c) (hB : BytesAt w q c L) (h63 : n + L.length ≤ 100000000000) (hbase : base ≤ w.heap.size)
    (h : ∀ p' c' w', w'.ownsRow base 5 1 (.slice p' (n + L.length) c') (n + L.length) (xs ++ Lib.byteCells L) → w.grownBy w' v.ownBlock → Moved w v (.slice p' (n + L.length) c') → wpList Try.prog ops Q rest (a.put o.dst (.slice p' (n + L.length) c')) w') : wpList Try.prog ops Q (o :: rest) a w :=
  wpList_plain hgd fun _ hK => by
    obtain ⟨p', c', w', hr, h2, h3, h5⟩ := run_append_bytes base o.type hown hB h63 hbase
    unfold Oper.wp execOp
    simp only [ho, resolve, invoke, builtin, Sem.run_bind, Sem.run_pure, Result.andThen_ok, List.map_toArray, List.map_cons, List.map_nil, hs, hx, hr]
    exact hK _ _ (h p' c' w' h2 h3 h5)
theorem wpList_append_bytes' {ops : Array Oper} {rest : List Oper} {o : Oper} {a : Act} {Q : Exit → Act → World → Prop} (hgd : o.guard = none) (s x : Operand)
    (ho : o.op = .call { callee := .builtin .append, args := #[s, x], argTypes := #[22, 22] })
    (base : Nat) (v : Value) (n : Nat) (xs : List Value) (hs : a.eval s = v) (hown : w.ownsRow base 5 1 v n xs)
    (q : Option Addr) (c m : Nat) (L : List UInt8) (hm : m = L.length) (hx : a.eval x = .slice q m c) (hB : BytesAt w q c L) (h63 : n + m ≤ 100000000000) (hbase : base ≤ w.heap.size)
    (h : ∀ p' c' w', w'.ownsRow base 5 1 (.slice p' (n + m) c') (n + m) (xs ++ Lib.byteCells L) → w.grownBy w' v.ownBlock → Moved w v (.slice p' (n + m) c') → wpList Try.prog ops Q rest (a.put o.dst (.slice p' (n + m) c')) w') : wpList Try.prog ops Q (o :: rest) a w :=
  wpList_plain hgd fun _ hK => by
    subst hm
    obtain ⟨p', c', w', hr, h2, h3, h5⟩ := run_append_bytes base o.type hown hB h63 hbase
    unfold Oper.wp execOp
    simp only [ho, resolve, invoke, builtin, Sem.run_bind, Sem.run_pure, Result.andThen_ok, List.map_toArray, List.map_cons, List.map_nil, hs, hx, hr]
    exact hK _ _ (h p' c' w' h2 h3 h5)
theorem own_below_grown {w0 w w' : World} {v : Value} {n : Nat} {xs : List Value} {e : TypeId} (hb : Below w0.heap.size w0 w) (hown : w.ownsRow w0.heap.size e 1 v n xs) (hg : w.grownBy w' v.ownBlock) : Below w0.heap.size w0 w' :=
  hb.grown hg hb.size (fun k hk => (hown.lt k hk).1)
theorem own_zero {B g : Nat} (hg : g = w.heap.size) (hB : B ≤ w.heap.size) : (w.alloc (.cells #[] 5)).ownsRow B 5 1 (.slice (some ⟨g, 0, none⟩) 0 0) 0 [] := by
  subst hg
  exact World.ownsRow_made w #[] 0 hB (by unfold maxLen; omega) rfl
theorem own_bytesAt' {B n : Nat} {p : Option Addr} {c : Nat} {l : List UInt8} {xs : List Value} (h : w.ownsRow B 5 1 (.slice p n c) n xs) (hn : n = l.length) (hx : xs = Lib.byteCells l) : BytesAt w p c l := by
  subst hn; subst hx; exact own_bytesAt h
end
end Go.Proofs.Ytnoiaeajpjhldaa
