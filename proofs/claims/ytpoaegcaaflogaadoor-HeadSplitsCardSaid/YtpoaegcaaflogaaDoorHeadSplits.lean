/-
  head.HeadSplits answers true at every input: the fields and the body of any message, and which names have which values, are as the document says.
-/
import Derived.Test.YtpoaegcaaflogaaDoorHeadFolds
import Derived.Test.YtpoaegcaaflogaaDoorHeadGet
import Derived.Test.YtpoaegcaaflogaaDoorHeadLines
import Derived.Test.YtpoaegcaaflogaaDoorRefSplit10
namespace Go.Proofs.YtpoaegcaaflogaaDoor
open Go.ChangeMaps Go.ChangeShapes Go.WideShapes Go.ChangeAt Go.RowKit

def unF (f : LFld) : Fld := (⟨f.1.toArray⟩, ⟨f.2.toArray⟩)
theorem un_map (fs : List LFld) : (fs.map unF).map fldL = fs := by
  rw [List.map_map]
  conv => rhs; rw [← List.map_id fs]
  exact List.map_congr_left fun _ _ => rfl
def gF (l : List UInt8) : List Fld := match splitQ l with | some (fs, _) => fs.map unF | none => []
def gB (l : List UInt8) : List UInt8 := match splitQ l with | some (_, b) => b | none => []
def gOk (l : List UInt8) : Bool := (splitQ l).isSome
theorem fields_nil (W : World) : FieldsAt W none [] := fun i hi => absurd hi (by simp)
theorem FieldsAt.later {w w' : World} {q : Option Addr} {fs : List Fld} (h : FieldsAt w q fs) (hb : Below w.heap.size w w') : FieldsAt w' q fs := h.below stays_field hb
theorem split_g {w : World} {q : Option Addr} {cap : Nat} {l : List UInt8} (hb : BytesAt w q cap l) (hs : l.length ≤ 10000000) (hm : MaxLenAt w) :
    Calls Tryd.prog 13 #[.slice q l.length cap] w fun r w' => ∃ p c q k, r = .returned (.tuple #[.slice p (gF l).length c, .slice q (gB l).length k, .bool (gOk l)]) ∧ FieldsAt w' p (gF l) ∧ BytesAt w' q k (gB l) ∧ Below w.heap.size w w' := by
  refine (split_calls hb hs hm).mono fun r w' hp => ?_
  unfold gF gB gOk
  cases hQ : splitQ l with
  | none =>
    rw [hQ] at hp
    rcases hp with ⟨⟨_, h1⟩ | ⟨f2, b2, p, c, q, k, h1, _⟩, hb⟩
    · exact ⟨none, 0, none, 0, h1, fields_nil _, bytes_nil _, hb⟩
    · cases h1
  | some y =>
    obtain ⟨fs, b⟩ := y
    rw [hQ] at hp
    rcases hp with ⟨⟨h1, _⟩ | ⟨f2, b2, p, c, q, k, h1, h2, h3, h4⟩, hb⟩
    · cases h1
    · cases h1
      exact ⟨p, c, q, k, by simpa using h2, own_fields (n := fs.length) (fs := fs.map unF) (by rw [un_map]; exact h3) (by simp), h4, hb⟩
theorem rsplit_g {w : World} {q : Option Addr} {cap : Nat} {l : List UInt8} (hb : BytesAt w q cap l) (hs : l.length ≤ 10000000) :
    Calls Tryd.prog 16 #[.slice q l.length cap] w fun r w' => ∃ p c, r = .returned (.agg #[.slice p (gF l).length c, .string ⟨(gB l).toArray⟩, .bool (gOk l)]) ∧ FieldsAt w' p (gF l) ∧ Below w.heap.size w w' := by
  refine (rsplit_calls hb hs).mono fun r w' hp => ?_
  unfold gF gB gOk
  cases hQ : splitQ l with
  | none =>
    rw [hQ] at hp
    rcases hp with ⟨⟨_, h1⟩ | ⟨f2, b2, p, c, h1, _⟩, hb⟩
    · exact ⟨none, 0, h1, fields_nil _, hb⟩
    · cases h1
  | some y =>
    obtain ⟨fs, b⟩ := y
    rw [hQ] at hp
    rcases hp with ⟨⟨h1, _⟩ | ⟨f2, b2, p, c, h1, h2, h3⟩, hb⟩
    · cases h1
    · cases h1
      exact ⟨p, c, by simpa using h2, own_fields (n := fs.length) (fs := fs.map unF) (by rw [un_map]; exact h3) (by simp), hb⟩
theorem next_name {l n v r : List UInt8} (h : nextQ l = some ((n, v), r)) : n.length ≤ l.length := by
  unfold nextQ at h
  cases he : endQ false l with
  | none => rw [he] at h; cases h
  | some k =>
    rw [he] at h
    simp only at h
    unfold nextIn at h
    cases hc : contQ (Lib.cut (l.take (k - 2)) [58]).2.1 (l.drop k) with
    | none => rw [hc] at h; cases h
    | some vr =>
      obtain ⟨v2, r2⟩ := vr
      rw [hc] at h
      simp only [Option.bind_some] at h
      split at h
      · cases h
        have := (cut_len (l.take (k - 2)) [58]).1
        rw [List.length_take] at this
        omega
      · cases h
theorem loop_names : ∀ (m : Nat) (acc : List LFld) (l : List UInt8) (fs : List LFld) (b : List UInt8), l.length ≤ m → loopQ acc l = some (fs, b) → fs.length ≤ acc.length + l.length ∧ ∀ f ∈ fs, f ∈ acc ∨ f.1.length ≤ l.length
  | 0, acc, l, fs, b, hm, h => by
    have : l = [] := List.eq_nil_of_length_eq_zero (by omega)
    subst this
    rw [loopQ_none (by decide) (by unfold nextQ; simp [endQ])] at h; cases h
  | m + 1, acc, l, fs, b, hm, h => by
    cases hp : Lib.hasPrefix l [13, 10]
    · cases hn : nextQ l with
      | none => rw [loopQ_none hp hn] at h; cases h
      | some y =>
        obtain ⟨⟨n, v⟩, r⟩ := y
        have hr := nextQ_len hn
        have hnm := next_name hn
        rw [loopQ_go hp hn] at h
        obtain ⟨h1, h2⟩ := loop_names m _ _ _ _ (by omega) h
        refine ⟨by simp at h1; omega, fun f hf => ?_⟩
        rcases h2 f hf with h3 | h3
        · rcases List.mem_append.1 h3 with h4 | h4
          · exact .inl h4
          · rw [List.mem_singleton] at h4; subst h4; exact .inr hnm
        · exact .inr (by omega)
    · rw [loopQ_done hp] at h
      cases h
      exact ⟨by omega, fun f hf => .inl hf⟩
theorem g_small (l : List UInt8) : (gF l).length ≤ l.length ∧ ∀ f ∈ gF l, f.1.size ≤ l.length := by
  unfold gF
  cases hQ : splitQ l with
  | none => exact ⟨by simp, fun f hf => by simp at hf⟩
  | some y =>
    obtain ⟨fs, b⟩ := y
    unfold splitQ at hQ
    split at hQ
    · cases hQ; exact ⟨by simp, fun f hf => by simp at hf⟩
    · obtain ⟨h1, h2⟩ := loop_names _ _ _ _ _ (Nat.le_refl _) hQ
      refine ⟨by simpa using h1, fun f hf => ?_⟩
      obtain ⟨g, hg, rfl⟩ := List.mem_map.1 hf
      rcases h2 g hg with h3 | h3
      · simp at h3
      · show g.1.toArray.size ≤ _; simpa using h3
theorem g_lines {l : List UInt8} : (gOk l = true ∧ l ≠ [] → (gB l).length + 2 ≤ l.length ∧ linesQ l = l.take (l.length - (gB l).length - 2)) ∧ (¬ (gOk l = true ∧ l ≠ []) → linesQ l = []) := by
  unfold gOk gB linesQ
  cases hQ : splitQ l with
  | none => exact ⟨(fun h => by have := h.1; cases this), fun _ => rfl⟩
  | some y =>
    obtain ⟨fs, b⟩ := y
    refine ⟨fun h => ⟨splitQ_len hQ h.2, rfl⟩, fun h => ?_⟩
    have h0 : l = [] := by
      by_cases h0 : l = []
      · exact h0
      · exact absurd ⟨rfl, h0⟩ h
    simp [h0]
theorem wp_gen {P : Program} {Q : Exit → Act → World → Prop} {c : Code} {a : Act} {w : World} (h : ∀ X, X = w → c.wp P Q a X) : c.wp P Q a w := h w rfl
/-- Two rows of the call's own that lie apart. -/
def Apart (v o : Value) : Prop := ∀ g, v.ownBlock = some g → o.ownBlock ≠ some g
theorem str_cell {w : World} {B : Nat} {p : Option Addr} {c : Nat} {ss : List ByteArray} (h : w.ownsRow B 9 1 (.slice p ss.length c) ss.length (strCells ss)) {i : Nat} (hi : i < ss.length) : ∃ g, p = some ⟨g, 0, none⟩ ∧ g < w.heap.size ∧ w.cell? ⟨g, i, none⟩ = some (.string ss[i]) := by
  rcases h.2 with ⟨hv, hn⟩ | ⟨g, cap, cur, hv, _, hg, hc, _, _, _⟩
  · omega
  · simp at hv
    obtain ⟨rfl, rfl⟩ := hv
    refine ⟨g, rfl, (Array.getElem?_eq_some_iff.1 hg).1, ?_⟩
    have := h.cells (g := g) rfl i (.string ss[i]) (by simp [strCells, hi])
    rw [← this]
    congr 1
    simp [Addr.add]
/-- The two rows: the values under a name, and the other fields. -/
def RowsAt (X : World) (nm : ByteArray) (fs : List Fld) (v o : Value) (wr : World) : Prop :=
  wr.ownsRow X.heap.size 9 1 v (fs.filter (sameNm nm)).length (strCells ((fs.filter (sameNm nm)).map (·.2))) ∧
  wr.ownsRow X.heap.size 28 2 o (fs.filter (otherNm nm)).length (fieldCells ((fs.filter (otherNm nm)).map fldL)) ∧ Apart v o ∧ Below X.heap.size X wr
theorem kept_apart {W w2 : World} {B sz : Nat} {e : TypeId} {v o : Value} {n : Nat} {xs : List Value} (h : W.ownsRow B e sz o n xs) (hg : W.grownBy w2 v.ownBlock) (ha : ∀ g, v.ownBlock = some g → o.ownBlock ≠ some g) : w2.ownsRow B e sz o n xs := by
  refine h.kept hg ?_
  cases hv : v.ownBlock with
  | none => cases ho : o.ownBlock <;> simp
  | some g => exact .inr (ha g hv)
theorem RowsAt.str {X wr W w2 : World} {nm : ByteArray} {fs : List Fld} {f : Fld} {v o v2 : Value} (h : RowsAt X nm fs v o wr) (hW : Below wr.heap.size wr W)
    (hown : w2.ownsRow X.heap.size 9 1 v2 ((fs.filter (sameNm nm)).length + 1) (strCells ((fs.filter (sameNm nm)).map (·.2)) ++ [.string f.2])) (hg : W.grownBy w2 v.ownBlock) (hm : Moved W v v2) (hs : sameNm nm f = true) : RowsAt X nm (fs ++ [f]) v2 o w2 := by
  obtain ⟨h1, h2, h3, h4⟩ := h
  have ho : otherNm nm f = false := by show (!sameNm nm f) = false; rw [hs]; rfl
  have e1 : (fs ++ [f]).filter (sameNm nm) = fs.filter (sameNm nm) ++ [f] := by rw [List.filter_append]; simp [hs]
  have e2 : (fs ++ [f]).filter (otherNm nm) = fs.filter (otherNm nm) := by rw [List.filter_append]; simp [ho]
  refine ⟨?_, ?_, fun g hg2 ho2 => ?_, ?_⟩
  · rw [e1, List.length_append, List.map_append]
    simpa [strCells] using hown
  · rw [e2]; exact kept_apart (own_belowN h2 hW) hg h3
  · rcases hm g hg2 with h5 | h5
    · exact h3 g h5 ho2
    · have := (h2.lt g ho2).2
      have := hW.size
      omega
  · exact (h4.trans (hW.mono h4.size)).grown hg (by have := h4.size; have := hW.size; omega) (fun k hk => (h1.lt k hk).1)
theorem RowsAt.fld {X wr W w2 : World} {nm : ByteArray} {fs : List Fld} {f : Fld} {v o o2 : Value} (h : RowsAt X nm fs v o wr) (hW : Below wr.heap.size wr W)
    (hown : w2.ownsRow X.heap.size 28 2 o2 ((fs.filter (otherNm nm)).length + 1) (fieldCells ((fs.filter (otherNm nm)).map fldL) ++ [.string f.1, .string f.2])) (hg : W.grownBy w2 o.ownBlock) (hm : Moved W o o2) (hs : sameNm nm f = false) : RowsAt X nm (fs ++ [f]) v o2 w2 := by
  obtain ⟨h1, h2, h3, h4⟩ := h
  have ho : otherNm nm f = true := by show (!sameNm nm f) = true; rw [hs]; rfl
  have e1 : (fs ++ [f]).filter (sameNm nm) = fs.filter (sameNm nm) := by rw [List.filter_append]; simp [hs]
  have e2 : (fs ++ [f]).filter (otherNm nm) = fs.filter (otherNm nm) ++ [f] := by rw [List.filter_append]; simp [ho]
  refine ⟨?_, ?_, fun g hg2 ho2 => ?_, ?_⟩
  · rw [e1]; exact kept_apart (own_belowN h1 hW) hg (fun g hg2 ho2 => h3 g ho2 hg2)
  · rw [e2, List.length_append, List.map_append, List.map_singleton, fieldCells_snoc]
    exact hown
  · rcases hm g ho2 with h5 | h5
    · exact h3 g hg2 h5
    · have := (h1.lt g hg2).2
      have := hW.size
      omega
  · exact (h4.trans (hW.mono h4.size)).grown hg (by have := h4.size; have := hW.size; omega) (fun k hk => (h2.lt k hk).1)
theorem RowsAt.keep {X wr W : World} {nm : ByteArray} {fs : List Fld} {v o : Value} (h : RowsAt X nm fs v o wr) (hW : Below wr.heap.size wr W) : RowsAt X nm fs v o W :=
  ⟨own_belowN h.1 hW, own_belowN h.2.1 hW, h.2.2.1, h.2.2.2.trans (hW.mono h.2.2.2.size)⟩
theorem RowsAt.nil (X : World) (nm : ByteArray) : RowsAt X nm [] (.slice none 0 0) (.slice none 0 0) X :=
  ⟨World.ownsRow_nil _ _ _ _, World.ownsRow_nil _ _ _ _, (fun g hg => by cases hg), Below.refl _ _⟩
set_option maxRecDepth 20000 in
set_option maxHeartbeats 8000000 in
theorem headSplits_walk (q : Option Addr) (l : List UInt8) (cap : Nat) (nm : ByteArray) (w : World) (hb : BytesAt w q cap l) (hnm : nm.size ≤ maxLen) (hmx : MaxLenAt w) :
    Calls Tryd.prog 6 #[.slice q l.length cap, .string nm] w fun r w' => r = .returned (.bool true) ∧ Below w.heap.size w w' := by
  have hcap := hb.cap
  have haw := Lib.hid (awake10 hmx)
  unfold maxLen at hnm
  by_cases hbig : 2000 < (l.length : Int)
  · clear hb hmx
    go_enter Tryd.func6, Tryd.ntmps6
    go_wp2_with (go_at_call 7; ((refine (haw.out).mono ?_); rintro r w1 ⟨rfl, hb⟩; obtain ⟨b1, b1d, rfl⟩ := of_below hb; clear hb))
    all_goals (go_returns; exact ⟨rfl, by (repeat' (first | (with_reducible exact Below.refl _ _) | (with_reducible refine Below.app ?_ ?_ _ _) | (with_reducible refine Below.alloc ?_ ?_ _) | (with_reducible refine Below.drew ?_) | (with_reducible refine Below.setCell ?_ ?_ _) | (with_reducible assumption) | omega | (simp; omega) | (simp; done)))⟩)
  · by_cases hbig2 : 100 < (nm.size : Int)
    · clear hb hmx
      go_enter Tryd.func6, Tryd.ntmps6
      go_wp2_with (go_at_call 7; ((refine (haw.out).mono ?_); rintro r w1 ⟨rfl, hb⟩; obtain ⟨b1, b1d, rfl⟩ := of_below hb; clear hb))
      all_goals (go_returns; exact ⟨rfl, by (repeat' (first | (with_reducible exact Below.refl _ _) | (with_reducible refine Below.app ?_ ?_ _ _) | (with_reducible refine Below.alloc ?_ ?_ _) | (with_reducible refine Below.drew ?_) | (with_reducible refine Below.setCell ?_ ?_ _) | (with_reducible assumption) | omega | (simp; omega) | (simp; done)))⟩)
    · have hsp := fun (W : World) (hW : Below w.heap.size w W) => split_g (hb.below hW) (by omega) (hmx.below hW)
      have hrp := fun (W : World) (hW : Below w.heap.size w W) => rsplit_g (hb.below hW) (by omega)
      have hsm := g_small l
      have hgl := @g_lines l
      have hli := fun (W : World) (hW : Below w.heap.size w W) => hlines_calls (hb.below hW) (by omega) (hmx.below hW)
      generalize gF l = fs at *
      generalize gB l = bd at *
      generalize gOk l = ok at *
      generalize linesQ l = ln at *
      have hsa := fun (W : World) (p1 p2 : Option Addr) (c1 c2 : Nat) (h1 : FieldsAt W p1 fs) (h2 : FieldsAt W p2 fs) => same10_calls (c1 := c1) (c2 := c2) h1 h2 (by omega) (by omega)
      simp only [decide_true] at hsa
      replace hsa := Lib.hid hsa
      replace hsp := Lib.hid hsp
      replace hrp := Lib.hid hrp
      replace hli := Lib.hid hli
      replace hgl := Lib.hid hgl
      replace hb := Lib.hid hb
      obtain ⟨hsm1, hsm2⟩ := hsm
      replace hsm2 := Lib.hid hsm2
      clear hmx
      go_enter Tryd.func6, Tryd.ntmps6
      go_wp2_with first
        | (go_at_call 7; ((refine (haw.out).mono ?_); rintro r w1 ⟨rfl, hb⟩; obtain ⟨b1, b1d, rfl⟩ := of_below hb; clear hb))
        | (go_at_call 13; ((refine (hsp.out _ (by (repeat' (first | (with_reducible exact Below.refl _ _) | (with_reducible refine Below.app ?_ ?_ _ _) | (with_reducible refine Below.alloc ?_ ?_ _) | (with_reducible refine Below.drew ?_) | (with_reducible refine Below.setCell ?_ ?_ _) | (with_reducible assumption) | omega | (simp; omega) | (simp; done))))).mono ?_); rintro r w1 ⟨p1, c1, q1, k1, rfl, hf1, hB1, hb1⟩; obtain ⟨b2, d2, rfl⟩ := of_below hb1; (try simp only [app_app] at hf1 hB1); replace hf1 := Lib.hid hf1; replace hB1 := Lib.hid hB1; clear hb1))
        | (go_at_call 16; ((refine (hrp.out _ (by (repeat' (first | (with_reducible exact Below.refl _ _) | (with_reducible refine Below.app ?_ ?_ _ _) | (with_reducible refine Below.alloc ?_ ?_ _) | (with_reducible refine Below.drew ?_) | (with_reducible refine Below.setCell ?_ ?_ _) | (with_reducible assumption) | omega | (simp; omega) | (simp; done))))).mono ?_); rintro r w1 ⟨p2, c2, rfl, hf2, hb1⟩; replace hf1 := FieldsAt.later hf1.out hb1; replace hB1 := hB1.out.below hb1; obtain ⟨b3, d3, rfl⟩ := of_below hb1; (try simp only [app_app, Array.append_assoc] at hf2 hf1 hB1); replace hf1 := Lib.hid hf1; replace hB1 := Lib.hid hB1; replace hf2 := Lib.hid hf2; clear hb1))
        | (go_at_call 14; ((refine (hsa.out _ _ _ _ _ (FieldsAt.later hf1.out (by (repeat' (first | (with_reducible exact Below.refl _ _) | (with_reducible refine Below.app ?_ ?_ _ _) | (with_reducible refine Below.alloc ?_ ?_ _) | (with_reducible refine Below.drew ?_) | (with_reducible refine Below.setCell ?_ ?_ _) | (with_reducible assumption) | omega | (simp; omega) | (simp; done))))) (FieldsAt.later hf2.out (by (repeat' (first | (with_reducible exact Below.refl _ _) | (with_reducible refine Below.app ?_ ?_ _ _) | (with_reducible refine Below.alloc ?_ ?_ _) | (with_reducible refine Below.drew ?_) | (with_reducible refine Below.setCell ?_ ?_ _) | (with_reducible assumption) | omega | (simp; omega) | (simp; done)))))).mono ?_); rintro r w1 ⟨rfl, hb1⟩; replace hf1 := FieldsAt.later hf1.out (Below.trans (b := (app w _ _).alloc _) (by (repeat' (first | (with_reducible exact Below.refl _ _) | (with_reducible refine Below.app ?_ ?_ _ _) | (with_reducible refine Below.alloc ?_ ?_ _) | (with_reducible refine Below.drew ?_) | (with_reducible refine Below.setCell ?_ ?_ _) | (with_reducible assumption) | omega | (simp; omega) | (simp; done)))) (hb1.mono (by (first | rfl | omega | (simp; done) | (simp; omega))))); replace hB1 := hB1.out.below (Below.trans (b := (app w _ _).alloc _) (by (repeat' (first | (with_reducible exact Below.refl _ _) | (with_reducible refine Below.app ?_ ?_ _ _) | (with_reducible refine Below.alloc ?_ ?_ _) | (with_reducible refine Below.drew ?_) | (with_reducible refine Below.setCell ?_ ?_ _) | (with_reducible assumption) | omega | (simp; omega) | (simp; done)))) (hb1.mono (by (first | rfl | omega | (simp; done) | (simp; omega))))); obtain ⟨b4, d4, rfl⟩ := of_below hb1; have e1 := hB1.textOf _ (Below.refl _ _); replace hf1 := Lib.hid hf1; replace hB1 := Lib.hid hB1; clear hb1 hf2))
      obtain ⟨i0, hi, hz0, hz1, hz2⟩ := info_parts infoField
      obtain ⟨i1, hj, hy0, hy1, hy2⟩ := info_parts infoStrH
      refine wp_gen fun X hX => ?_
      have hfX : FieldsAt X p1 fs := by rw [hX]; exact hf1.out
      have hwX : Below w.heap.size w X := by rw [hX]; (repeat' (first | (with_reducible exact Below.refl _ _) | (with_reducible refine Below.app ?_ ?_ _ _) | (with_reducible refine Below.alloc ?_ ?_ _) | (with_reducible refine Below.drew ?_) | (with_reducible refine Below.setCell ?_ ?_ _) | (with_reducible assumption) | omega | (simp; omega) | (simp; done)))
      have hli2 := fun (W : World) (hW : Below X.heap.size X W) => hli.out W (hwX.trans (hW.mono hwX.size))
      have hfin := fun (W : World) (hW : Below X.heap.size X W) => hwX.trans (hW.mono hwX.size)
      have hb2 := fun (W : World) (hW : Below X.heap.size X W) => hb.out.below (hfin W hW)
      have hz := RowsAt.nil X nm
      replace hz := Lib.hid hz
      replace hli2 := Lib.hid hli2
      replace hb2 := Lib.hid hb2
      replace hfin := Lib.hid hfin
      replace hfX := Lib.hid hfX
      clear hX hf1 hB1 e1 hsp hrp haw hli hb hwX
      have hlm := fun W => rlower10_calls nm (by omega) W
      replace hlm := Lib.hid hlm
      go_loopw [9, 10, 11] (fun v o i wr => ∃ k : Nat, k ≤ fs.length ∧ i = .int .i64 k ∧ Hid (RowsAt X nm (fs.take k) v o wr)) (fun _ _ i _ => fs.length - (intOf i).toNat)
      case atStart => exact ⟨0, by omega, rfl, hz⟩
      case round =>
        obtain ⟨k, hk, rfl, hrw⟩ := hrel
        clear hz
        have hbw := hrw.out.2.2.2
        have hws := hbw.size
        by_cases hlt : k < fs.length
        · have hlti : (k : Int) < fs.length := by omega
          obtain ⟨bb, off, rfl, hbb, hc0, hc1⟩ := (FieldsAt.later hfX.out hbw).cell hlt
          have hsz := hsm2.out _ (List.getElem_mem hlt)
          have hlf := fun W => rlower10_calls fs[k].1 (by omega) W
          replace hlf := Lib.hid hlf
          have hfl := filter_len (sameNm nm) fs k
          have hfl2 := filter_len (otherNm nm) fs k
          have htk := List.take_succ_eq_append_getElem hlt
          have hsn : sameNm nm fs[k] = ((lowerS fs[k].1).toList == (lowerS nm).toList) := rfl
          generalize hfk : fs[k] = f at *
          obtain ⟨f1, f2⟩ := f
          simp only at hc0 hc1 hlf hsn hsz
          replace hsn := Lib.hid hsn
          replace htk := Lib.hid htk
          have hown1 := hrw.out.1
          have hown2 := hrw.out.2.1
          clear hfk
          generalize lowerS f1 = A at *
          generalize lowerS nm = Bm at *
          cases hs : (A.toList == Bm.toList)
          · have hs2 := Lib.hid (hsn.out.trans hs)
            go_wp2_with first
              | (go_at_call 17; ((with_reducible refine (hlf.out _).mono ?_); rintro r w1 ⟨rfl, hb⟩; obtain ⟨b1, b1d, rfl⟩ := of_below hb; clear hb))
              | (go_at_call 17; ((with_reducible refine (hlm.out _).mono ?_); rintro r w1 ⟨rfl, hb⟩; obtain ⟨b2, b2d, rfl⟩ := of_below hb; clear hb))
              | (at_builtin; refine wpList_append_moved _ rfl _ _ 22 rfl X.heap.size 28 i0 (.agg #[.string ⟨#[]⟩, .string ⟨#[]⟩]) 2 32 Tryd.underlying22 hi hz0 hz1 hz2 rfl (by decide) _ _ _ rfl (own_belowN (w := wr) hown2 ?c0) _ 1 1 [.string f1, .string f2] rfl rfl ?c1 ?c2 ?c3 ?c4 ?c5 ?_; (case c0 => (repeat' (first | (with_reducible exact Below.refl _ _) | (with_reducible refine Below.app ?_ ?_ _ _) | (with_reducible refine Below.alloc ?_ ?_ _) | (with_reducible refine Below.drew ?_) | (with_reducible refine Below.setCell ?_ ?_ _) | (with_reducible assumption) | omega | (simp; omega) | (simp; done)))); (case c1 => exact two_cells _ _ (by (first | rfl | omega | (simp; done) | (simp; omega))) _ _ _); (case c2 => (intro u hu; simp at hu; rcases hu with rfl | rfl <;> rfl)); (case c3 => (unfold maxLen; omega)); (case c4 => omega); (case c5 => (first | rfl | omega | (simp; done) | (simp; omega))); intro v2 w2 hown3 hg2 hm2; have hR := Lib.hid (RowsAt.fld (f := (f1, f2)) hrw.out (by (repeat' (first | (with_reducible exact Below.refl _ _) | (with_reducible refine Below.app ?_ ?_ _ _) | (with_reducible refine Below.alloc ?_ ?_ _) | (with_reducible refine Below.drew ?_) | (with_reducible refine Below.setCell ?_ ?_ _) | (with_reducible assumption) | omega | (simp; omega) | (simp; done)))) hown3 hg2 hm2 hs2.out); clear hg2 hm2 hown3)
            go_roundw
            case rel => exact ⟨k + 1, by omega, by go_num, by rw [htk.out]; exact hR⟩
            case measure => first | (simp [intOf]; done) | (simp [intOf]; omega)
          · have hs2 := Lib.hid (hsn.out.trans hs)
            go_wp2_with first
              | (go_at_call 17; ((with_reducible refine (hlf.out _).mono ?_); rintro r w1 ⟨rfl, hb⟩; obtain ⟨b1, b1d, rfl⟩ := of_below hb; clear hb))
              | (go_at_call 17; ((with_reducible refine (hlm.out _).mono ?_); rintro r w1 ⟨rfl, hb⟩; obtain ⟨b2, b2d, rfl⟩ := of_below hb; clear hb))
              | (at_builtin; refine wpList_append_moved _ rfl _ _ 40 rfl X.heap.size 9 i1 (.string ⟨#[]⟩) 1 16 Tryd.underlying40 hj hy0 hy1 hy2 rfl (by decide) _ _ _ rfl (own_belowN (w := wr) hown1 ?c0) _ 1 1 [.string f2] rfl rfl ?c1 ?c2 ?c3 ?c4 ?c5 ?_; (case c0 => (repeat' (first | (with_reducible exact Below.refl _ _) | (with_reducible refine Below.app ?_ ?_ _ _) | (with_reducible refine Below.alloc ?_ ?_ _) | (with_reducible refine Below.drew ?_) | (with_reducible refine Below.setCell ?_ ?_ _) | (with_reducible assumption) | omega | (simp; omega) | (simp; done)))); (case c1 => exact one_new _ _ (by (first | rfl | omega | (simp; done) | (simp; omega))) _ _); (case c2 => (intro u hu; simp at hu; subst hu; rfl)); (case c3 => (unfold maxLen; omega)); (case c4 => omega); (case c5 => (first | rfl | omega | (simp; done) | (simp; omega))); intro v2 w2 hown3 hg2 hm2; have hR := Lib.hid (RowsAt.str (f := (f1, f2)) hrw.out (by (repeat' (first | (with_reducible exact Below.refl _ _) | (with_reducible refine Below.app ?_ ?_ _ _) | (with_reducible refine Below.alloc ?_ ?_ _) | (with_reducible refine Below.drew ?_) | (with_reducible refine Below.setCell ?_ ?_ _) | (with_reducible assumption) | omega | (simp; omega) | (simp; done)))) hown3 hg2 hm2 hs2.out); clear hg2 hm2 hown3)
            go_roundw
            case rel => exact ⟨k + 1, by omega, by go_num, by rw [htk.out]; exact hR⟩
            case measure => first | (simp [intOf]; done) | (simp [intOf]; omega)
        · have hlti : ¬ (k : Int) < fs.length := by omega
          obtain rfl : k = fs.length := by omega
          rw [List.take_of_length_le (Nat.le_refl _)] at hrw
          clear hlm
          have hown1 := hrw.out.1
          have hown2 := hrw.out.2.1
          obtain ⟨pv, cv, rfl⟩ := own_lenN hown1
          obtain ⟨po, co, rfl⟩ := own_lenN hown2
          have hvl := filter_len (sameNm nm) fs fs.length
          rw [List.take_of_length_le (Nat.le_refl _)] at hvl
          have hol := filter_len (otherNm nm) fs fs.length
          rw [List.take_of_length_le (Nat.le_refl _)] at hol
          have hge := fun (W : World) (hW : Below X.heap.size X W) => get_calls (cap := c1) (FieldsAt.later hfX.out hW) nm (by omega) (fun f hf => by have := hsm2.out f hf; omega) (by omega)
          have hwo := fun (W : World) (hW : Below X.heap.size X W) => (without_calls (cap := c1) (FieldsAt.later hfX.out hW) nm (by omega) (fun f hf => by have := hsm2.out f hf; omega) (by omega)).mono (R' := fun r w' => ∃ p c, r = .returned (.slice p (fs.filter (otherNm nm)).length c) ∧ FieldsAt w' p (fs.filter (otherNm nm)) ∧ Below W.heap.size W w') fun r w' ⟨p, c, h1, h2, h3⟩ => ⟨p, c, h1, own_fields h2 rfl, h3⟩
          have hsb := fun (W : World) (p1 p2 : Option Addr) (c1 c2 : Nat) (h1 : FieldsAt W p1 (fs.filter (otherNm nm))) (h2 : FieldsAt W p2 (fs.filter (otherNm nm))) => same10_calls (c1 := c1) (c2 := c2) h1 h2 (by omega) (by omega)
          simp only [decide_true] at hsb
          have hVl : ((fs.filter (sameNm nm)).map (·.2)).length = (fs.filter (sameNm nm)).length := List.length_map ..
          have hvr : Hid (wr.ownsRow X.heap.size 9 1 (.slice pv (fs.filter (sameNm nm)).length cv) (fs.filter (sameNm nm)).length (strCells ((fs.filter (sameNm nm)).map (·.2)))) := hown1
          have hof : Hid (FieldsAt wr po (fs.filter (otherNm nm))) := own_fields hown2 rfl
          clear hown1 hown2 hrw
          generalize (fs.filter (sameNm nm)).map (·.2) = V at *
          generalize (fs.filter (sameNm nm)).length = nv at *
          generalize fs.filter (otherNm nm) = oth at *
          replace hge := Lib.hid hge
          replace hwo := Lib.hid hwo
          replace hsb := Lib.hid hsb
          replace hVl := Lib.hid hVl
          go_wp2_with first
            | (go_at_call 18; ((refine (hge.out _ hbw).mono ?_); rintro r w1 ⟨pg, cg, rfl, hgr, hb1⟩; replace hvr := own_belowN hvr.out hb1; replace hof := FieldsAt.later hof.out hb1; obtain ⟨b5, d5, rfl⟩ := of_below hb1; replace hvr := Lib.hid hvr; replace hof := Lib.hid hof; replace hgr := Lib.hid hgr; clear hb1))
            | (go_at_call 19; ((refine (hwo.out _ (hbw.trans (Below.mono (B := wr.heap.size) (by (repeat' (first | (with_reducible exact Below.refl _ _) | (with_reducible refine Below.app ?_ ?_ _ _) | (with_reducible refine Below.alloc ?_ ?_ _) | (with_reducible refine Below.drew ?_) | (with_reducible refine Below.setCell ?_ ?_ _) | (with_reducible assumption) | omega | (simp; omega) | (simp; done)))) hws))).mono ?_); rintro r w1 ⟨pw, cw, rfl, hwf, hb1⟩; replace hvr := own_belowN hvr.out hb1; replace hgr := own_belowN hgr.out hb1; replace hof := FieldsAt.later hof.out hb1; obtain ⟨b6, d6, rfl⟩ := of_below hb1; (try simp only [app_app] at hvr hgr hof hwf); replace hvr := Lib.hid hvr; replace hof := Lib.hid hof; replace hgr := Lib.hid hgr; replace hwf := Lib.hid hwf; clear hb1))
            | (go_at_call 14; ((refine (hsb.out _ _ _ _ _ hwf.out hof.out).mono ?_); rintro r w1 ⟨rfl, hb1⟩; replace hvr := own_belowN hvr.out hb1; replace hgr := own_belowN hgr.out hb1; obtain ⟨b7, d7, rfl⟩ := of_below hb1; (try simp only [app_app, Array.append_assoc] at hvr hgr); replace hvr := Lib.hid hvr; replace hgr := Lib.hid hgr; clear hb1 hwf hof))
          refine wp_gen fun Y hY => ?_
          have hbY : Below X.heap.size X Y := by rw [hY]; exact hbw.trans (Below.mono (B := wr.heap.size) (by (repeat' (first | (with_reducible exact Below.refl _ _) | (with_reducible refine Below.app ?_ ?_ _ _) | (with_reducible refine Below.alloc ?_ ?_ _) | (with_reducible refine Below.drew ?_) | (with_reducible refine Below.setCell ?_ ?_ _) | (with_reducible assumption) | omega | (simp; omega) | (simp; done)))) hws)
          have hvr2 : Hid (Y.ownsRow X.heap.size 9 1 (.slice pv nv cv) nv (strCells V)) := by rw [hY]; exact hvr.out
          have hgr2 : Hid (Y.ownsRow wr.heap.size 9 1 (.slice pg nv cg) nv (strCells V)) := by rw [hY]; exact hgr.out
          clear hY hvr hgr hge hwo hsb hbw hws
          go_loopw [13] (fun i wy => ∃ k : Nat, k ≤ nv ∧ i = .int .i64 k ∧ Below Y.heap.size Y wy) (fun i _ => nv - (intOf i).toNat)
          case atStart => exact ⟨0, by omega, rfl, Below.refl _ _⟩
          case round =>
            obtain ⟨k, hk, rfl, hbw⟩ := hrel
            have hws := hbw.size
            by_cases hlt : k < nv
            · have hlti : (k : Int) < nv := by omega
              have hlV : k < V.length := by have := hVl.out; omega
              obtain rfl : nv = V.length := hVl.out.symm
              obtain ⟨ga, rfl, ha1, ha2⟩ := str_cell hvr2.out hlV
              obtain ⟨gc, rfl, hc1, hc2⟩ := str_cell hgr2.out hlV
              replace ha2 := (hbw.cell (p := ⟨ga, k, none⟩) ha1).trans ha2
              replace hc2 := (hbw.cell (p := ⟨gc, k, none⟩) hc1).trans hc2
              replace ha1 := Nat.lt_of_lt_of_le ha1 hws
              replace hc1 := Nat.lt_of_lt_of_le hc1 hws
              generalize V[k] = sv at *
              go_wp2
              (apply wp_region_text 9; kernel_rfl; kernel_rfl; intro Fin hFin; (repeat (first | (apply text_run; exact rfl; (focus (intro bs d hF K hK; (repeat rw [app_app] at hK); (repeat rw [app_app]); (repeat rw [Array.append_assoc] at hK); (repeat rw [Array.append_assoc]); go_step; first  | (exfalso; assumption)  | (refine hK _ ?_; (repeat' (first | (with_reducible exact Below.refl _ _) | (with_reducible refine Below.app ?_ ?_ _ _) | (with_reducible refine Below.alloc ?_ ?_ _) | (with_reducible refine Below.drew ?_) | (with_reducible refine Below.setCell ?_ ?_ _) | (with_reducible assumption) | omega | (simp; omega) | (simp; done)))))); (try simp only [Act.put, List.setIfInBounds_toArray, List.set_cons_zero, List.set_cons_succ])) | (apply text_skip; exact rfl; (try simp only [Act.put, List.setIfInBounds_toArray, List.set_cons_zero, List.set_cons_succ])))); apply text_end; apply hFin; clear hFin Fin; intro bs d hfa)
              have hbe : Below Y.heap.size Y (app wr bs d) := app_below hbw bs d hws
              go_wp2
              go_roundw
              case rel => exact ⟨k + 1, by omega, by go_num, hbe⟩
              case measure => first | (simp [intOf]; done) | (simp [intOf]; omega)
            · have hlti : ¬ (k : Int) < nv := by omega
              have hWX : Below X.heap.size X wr := hbY.trans (hbw.mono hbY.size)
              have hLi := Lib.hid (hli2.out wr hWX)
              have hFi := Lib.hid (fun (W : World) (hW : Below wr.heap.size wr W) => hfin.out W (hWX.trans (hW.mono hWX.size)))
              clear hvr2 hgr2 hVl hli2
              by_cases hc : ok = true ∧ l ≠ []
              · obtain ⟨ht1, ht2⟩ := hgl.out.1 hc
                obtain ⟨rfl, h0⟩ := hc
                obtain ⟨t, ht⟩ : ∃ t, l.length = t + bd.length + 2 := ⟨l.length - bd.length - 2, by omega⟩
                have hti : (l.length : Int) - bd.length - 2 = t := by omega
                have hgt : 0 < (l.length : Int) := by omega
                have e2 := ((hb2.out wr hWX).pre (t := t) (by omega)).textOf _ (Below.refl _ _)
                rw [show (l.take t).length = t by rw [List.length_take]; omega] at e2
                rw [show l.length - bd.length - 2 = t by omega] at ht2
                rw [ht2] at hLi
                clear ht ht1 ht2 hgl h0
                generalize l.take t = tk at *
                go_wp2_with (go_at_call 20; ((refine hLi.out.mono ?_); rintro r w1 ⟨p5, n5, c5, rfl, ht5, hb5⟩; have e3 := ht5 _ (Below.refl _ _); have hFo := Lib.hid (hFi.out _ hb5); clear ht5 hb5))
                go_returns; exact ⟨rfl, hFo.out⟩
              · rw [hgl.out.2 hc] at hLi
                have hk0 : Hid (ok = true → l = []) := fun h => by
                  by_cases h0 : l = []
                  · exact h0
                  · exact absurd ⟨h, h0⟩ hc
                clear hc hgl
                cases ok
                · go_wp2_with (go_at_call 20; ((refine hLi.out.mono ?_); rintro r w1 ⟨p5, n5, c5, rfl, ht5, hb5⟩; have e3 := ht5 _ (Below.refl _ _); have hFo := Lib.hid (hFi.out _ hb5); clear ht5 hb5))
                  go_returns; exact ⟨rfl, hFo.out⟩
                · have hl0 : ¬ 0 < (l.length : Int) := by rw [hk0.out rfl]; simp
                  go_wp2_with (go_at_call 20; ((refine hLi.out.mono ?_); rintro r w1 ⟨p5, n5, c5, rfl, ht5, hb5⟩; have e3 := ht5 _ (Below.refl _ _); have hFo := Lib.hid (hFi.out _ hb5); clear ht5 hb5))
                  go_returns; exact ⟨rfl, hFo.out⟩
theorem headSplits_law : LawWalk2 6 Tryd.f6 := by
  intro H enc W base args ds ps hA hval hsh
  rw [Tryd.params6] at hA hval
  obtain ⟨v0, vs0, d0, ds0, p0, q0, hargs, rfl, rfl, h0, r0⟩ := trodAll_cons hA
  obtain ⟨v1, vs1, d1, ds1, p1, q1, rfl, rfl, rfl, h1, r1⟩ := trodAll_cons r0
  obtain ⟨rfl, rfl, rfl⟩ := trodAll_nil r1
  obtain rfl : args = #[v0, v1] := by cases args; simp_all
  obtain ⟨q, l, cap, rfl, hb, _⟩ := open_bytes (hval 0 _ _ rfl rfl) h0
  obtain ⟨nm, rfl, -, -, hn⟩ := open_string Tryd.underlying9 (hval 1 _ _ rfl rfl) h1
  exact headSplits_walk q l cap nm W hb hn (MaxLenAt.of hsh)

set_option maxRecDepth 1000000 in
theorem headSplits_laid (os : Os) (args : Array Value) : laidMet Tryd.prog Rows.headSplitsRow.laid ((laidWorld os).forCall (fun _ _ => 0) ⟨#[], args, []⟩).memory :=
  laidMet_of_run' 8 (by kernel_rfl) (by kernel_rfl)
set_option maxRecDepth 100000 in
theorem headSplits_row : Rows.HeadSplitsSaid :=
  OpenClaim.holds_of_cond 6 Tryd.f6 rfl rfl rfl rfl rfl rfl rfl ⟨rfl, rfl, rfl, rfl, rfl⟩ rfl rfl rfl rfl rfl (by kernel_rfl) Tryd.func6 (by kernel_rfl)
    (of_decide_eq_true (by kernel_rfl)) (by unfold Func.isWrapper; first | (rw [if_pos (by decide +kernel)]; kernel_rfl) | (rw [if_neg (by decide +kernel)]; exact ⟨rfl, rfl⟩))
    (fun os started H enc _ F0 => by
      rw [OpenClaim.pre_eq_preRow]
      exact law_lift3 (s := Rows.headSplitsSpec) Tryd.func6 (by kernel_rfl) (by kernel_rfl) rfl (fun H ds hd => by match ds, hd with | [_, _], _ => rfl) (by kernel_rfl) os started H enc F0
        (witness_row_at (enc := enc) (C := Tryd.checked) false (laidWorld os) #[.slice none 0 0, .string ⟨#[]⟩] rfl (by kernel_rfl) (by kernel_rfl) (by kernel_rfl)
          (OpenSpec.preRow_of_B rfl 8 (by kernel_rfl) (by kernel_rfl) (headSplits_laid os _))) headSplits_law)
set_option maxRecDepth 100000 in
theorem headSplits_holds : Rows.HeadSplitsCardSaid :=
  Claim7.holds_tied_plain_at .later [] [.data, .sentinel, .pinned] true (true, "f0c79958befb71f7b1d04de155fbfc057129605939aca39700e0132fe2e50244") false
    headSplits_row (fun _ h => by cases h) (by kernel_rfl) (fun _ h => by cases h) headSplits_row_tie rfl ⟨rfl, rfl⟩ (by kernel_rfl) rfl
    (fun f fn hf hfn => by
      obtain rfl : f = 6 := Option.some.inj ((show Tryd.prog.funcNamed Rows.headSplitsRow.func = some 6 by kernel_rfl).symm.trans hf) |>.symm
      obtain rfl : fn = Tryd.f6 := (Option.some.inj (Tryd.func6.symm.trans hfn)).symm
      exact ⟨by kernel_rfl, fun j t ht => (wants_none (by kernel_rfl)) j t ht⟩)
    (by kernel_rfl)
#print axioms headSplits_holds
end Go.Proofs.YtpoaegcaaflogaaDoor
