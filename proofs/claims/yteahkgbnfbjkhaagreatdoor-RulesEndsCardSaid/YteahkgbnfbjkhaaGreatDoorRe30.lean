/-
  DsnMark.
-/
import Derived.Test.YteahkgbnfbjkhaaGreatDoorRe29
import Derived.Test.YteahkgbnfbjkhaaGreatDoorRe19
import Derived.Test.YteahkgbnfbjkhaaGreatDoorRe27
set_option maxRecDepth 20000
set_option linter.unusedVariables false
set_option linter.unusedSimpArgs false
set_option linter.unusedSectionVars false
namespace Go.Proofs.YteahkgbnfbjkhaaGreatDoor
open Go.ChangeShapes Go.WideShapes Go.ChangeAt Go.RowKit
theorem bytesIn_of {w : World} {q : Option Addr} {cap : Nat} {l : List UInt8} (h : BytesAt w q cap l) : Lib.BytesIn w q l.length (l.map fun c => (c.toNat : Int)) := by
 cases q with
 | none => obtain ⟨rfl, _⟩ := h.nil rfl; exact Lib.BytesIn.nil _ _ _
 | some a => exact Lib.BytesIn.of_cells (bytes_atD h rfl)
theorem dprefix_calls {w : World} {q p : Option Addr} {cap c : Nat} {l s : List UInt8} (hb : BytesAt w q cap l) (hs : BytesAt w p c s) :
 Calls Tryz.prog 92 #[.slice q l.length cap, .slice p s.length c] w fun e w' => e = .returned (.bool (Lib.hasPrefix l s)) ∧ w' = w :=
 (Tryz.bytes_HasPrefix_all q p l.length cap s.length c (l.map fun c => (c.toNat : Int)) (s.map fun c => (c.toNat : Int)) w (by simp) (by simp) hb.cap (bytesIn_of hb) (bytesIn_of hs)).mono fun e w' ⟨h1, h2⟩ => ⟨by rw [h1, bytesOf_natD, bytesOf_natD], h2⟩
theorem has2_calls {w : World} {q : Option Addr} {cap c g : Nat} {l s : List UInt8} (hb : BytesAt w q cap l) (hl : l.length ≤ 100000000) (hs : BytesAt w (some ⟨g, 0, none⟩) c s) (h2 : 2 ≤ s.length) (hsl : s.length ≤ 100000000) (hw : LibAt w) :
 Calls Tryz.prog 93 #[.slice q l.length cap, .slice (some ⟨g, 0, none⟩) s.length c] w fun e w' => e = .returned (.bool (Lib.contains l s)) ∧ Below w.heap.size w w' := by
 obtain ⟨m, hm⟩ := hw.max
 cases q with
 | none =>
  obtain ⟨rfl, rfl⟩ := hb.nil rfl
  refine (Tryz.bytes_Contains_nil (some ⟨g, 0, none⟩) s.length c w (by omega) (fun h => by omega)).mono fun e w' ⟨h1, h3⟩ => ⟨?_, by rw [h3]; exact Below.refl _ _⟩
  rw [h1, decide_eq_false (by omega)]
  have : Lib.index [] s = -1 := by
   unfold Lib.index
   rw [if_neg (by cases s with | nil => simp at h2 | cons x s => simp)]
  simp [Lib.contains, this]
 | some a =>
  refine (Tryz.bytes_Contains_at a ⟨g, 0, none⟩ l.length cap s.length c (l.map fun c => (c.toNat : Int)) (s.map fun c => (c.toNat : Int)) m w (by simp) (by simp) (nat_smallD l) (nat_smallD _) (bytes_atD hb rfl) (bytes_atD hs rfl) hb.cap (by omega) (by omega) hm).mono fun e w' ⟨h1, n, h3⟩ => ⟨?_, ?_⟩
  · rw [h1, bytesOf_natD, bytesOf_natD]
  · rw [h3]; exact drewN_belD _ _
theorem append_crlf {X : World} {L : List UInt8} {b1 c1 : Nat} (hL : BytesAt (X.alloc (.cells #[.int .u8 13, .int .u8 10] 5 (2, 3))) (some ⟨b1, 0, none⟩) c1 L) (h0 : 0 < L.length) (hm : L.length ≤ 1000000) :
 ∃ c6 W6, (Builtin.append_ #[29, 29] 29 #[.slice (some ⟨X.heap.size, 0, none⟩) 2 2, .slice (some ⟨b1, 0, none⟩) L.length c1]).run Tryz.prog (X.alloc (.cells #[.int .u8 13, .int .u8 10] 5 (2, 3))) = .ok (.slice (some ⟨X.heap.size + 1, 0, none⟩) (2 + L.length) c6) W6 ∧
  BytesAt W6 (some ⟨X.heap.size + 1, 0, none⟩) c6 ([13, 10] ++ L) ∧ Below X.heap.size X W6 := by
 obtain ⟨i0, hi, hz0, hz1, hz2⟩ := info_parts infoByteG
 generalize hY : X.alloc (.cells #[.int .u8 13, .int .u8 10] 5 (2, 3)) = Y at *
 have hs : Y.heap.size = X.heap.size + 1 := by rw [← hY]; simp
 have hXY : Below X.heap.size X Y := by rw [← hY]; exact (Below.refl _ _).alloc (Nat.le_refl _) _
 have hr := run_append_grow (P := Tryz.prog) Y 29 29 5 i0 (.int .u8 0) Tryz.underlying29 hi hz0 ⟨X.heap.size, 0, none⟩ 2 2 [.int .u8 13, .int .u8 10] (by rw [hz1]; rfl) (fun j v hv => by
  rw [Addr.add_lit, Nat.zero_add, ← hY, World.cell?_alloc_mark]
  simpa using hv) ⟨b1, 0, none⟩ L.length c1 (Lib.byteCells L) (by rw [hz1]; simp [Lib.byteCells]) (fun j v hv => by
  have hj : j < L.length := by have := (List.getElem?_eq_some_iff.1 hv).1; simpa [Lib.byteCells] using this
  obtain ⟨bb, off, e1, e2, e3⟩ := hL.cell (by intro e; subst e; simp at hj)
  injection e1 with e1
  injection e1 with e1 e1'
  subst e1; subst e1'
  rw [Addr.add_lit, e3 j hj]
  simpa [Lib.byteCells, hj] using hv) (by omega) (by omega) (by rw [hz2]; exact growslice_fits (by omega) (by omega))
 rw [hs] at hr
 refine ⟨_, _, hr, ?_, ?_⟩
 · refine ⟨(by intro e; cases e), ?_, fun _ => ⟨X.heap.size + 1, 0, rfl, by simp [hs], fun i hi2 => ?_⟩⟩
   · have := grownCap_ge Y (2 + L.length) 2 5
     simp; omega
   · have hl : i < 2 + L.length := by rw [List.length_append] at hi2; exact hi2
     rw [Nat.zero_add]
     have hd : (Y.drew).heap.size = X.heap.size + 1 := hs
     rw [← hd, World.cell?_alloc_mark]
     have e : (#[Value.int .u8 13, .int .u8 10] : Array Value).toList ++ Lib.byteCells L = Lib.byteCells ([13, 10] ++ L) := by simp [Lib.byteCells]
     have e2 : (([Value.int .u8 13, .int .u8 10] : List Value).toArray ++ (Lib.byteCells L).toArray)[i]? = some (.int .u8 ((([13, 10] : List UInt8) ++ L)[i].toNat : Int)) := by
      rw [List.append_toArray]
      show ((#[Value.int .u8 13, .int .u8 10] : Array Value).toList ++ Lib.byteCells L).toArray[i]? = _
      rw [e, List.getElem?_toArray]
      unfold Lib.byteCells
      rw [List.getElem?_map, List.getElem?_eq_getElem hi2]; rfl
     rw [Array.getElem?_append_left (by simp [Lib.byteCells]; omega)]
     exact e2
 · exact hXY.trans ((((Below.refl Y.heap.size Y).drew).alloc (Nat.le_refl _) _).mono (by omega))
theorem wpList_append_run {w : World} {ops : Array Oper} {rest : List Oper} {o : Oper} {a : Act} {Q : Exit → Act → World → Prop} (hw : Region.wanted o (yielded ops a.tmps) = true) (s x : Operand)
 (ho : o.op = .call { callee := .builtin .append, args := #[s, x], argTypes := #[29, 29] }) (ht : o.type = 29) (v u V : Value) (W6 : World) (hs : a.eval s = v) (hx : a.eval x = u)
 (hrun : (Builtin.append_ #[29, 29] 29 #[v, u]).run Tryz.prog w = .ok V W6)
 (h : wpList Tryz.prog ops Q rest (a.put o.dst V) W6) : wpList Tryz.prog ops Q (o :: rest) a w := by
 refine wpList_step fun K hK => ?_
 rw [if_pos hw]
 unfold Oper.wp execOp
 simp only [ho, ht, resolve, invoke, builtin, Sem.run_bind, Sem.run_pure, Result.andThen_ok, List.map_toArray, List.map_cons, List.map_nil, hs, hx, hrun]
 exact hK _ _ h
def markS (id : ByteArray) (n : Nat) : ByteArray := ⟨#[112, 104, 45]⟩ ++ id ++ ⟨#[45]⟩ ++ ⟨(Lib.itoa (n : Int)).toArray⟩
def frontS (id : ByteArray) (n : Nat) : ByteArray := ⟨#[45, 45]⟩ ++ markS id n
def preL (id : ByteArray) : List UInt8 := [45, 45, 112, 104, 45] ++ id.data.toList ++ [45]
theorem frontS_list (id : ByteArray) (n : Nat) : (frontS id n).data.toList = frontT (preL id) n := by
 unfold frontS markS frontT preL
 simp
theorem frontS_size (id : ByteArray) (n : Nat) (hn : n < 1000000) : 2 ≤ (frontS id n).size ∧ (frontS id n).size ≤ id.size + 100 := by
 have h := Lib.itoa_length_le (n : Int) (by omega) (by omega)
 have e : (frontS id n).size = (frontT (preL id) n).length := by rw [← frontS_list]; simp
 rw [e]
 unfold frontT preL
 simp
 omega
set_option maxHeartbeats 1000000 in
theorem mark_calls {w : World} {q : Option Addr} {cap : Nat} (id : ByteArray) (hid : id.size ≤ 100000) {head : List UInt8} (hb : BytesAt w q cap head) (hl : head.length ≤ 32768) (hw : LibAt w) {n0 : Nat} (hn0 : n0 < 1000000)
 (hfree : beginsB (frontT (preL id) n0) head = false) (hleast : ∀ m, m < n0 → beginsB (frontT (preL id) m) head = true) :
 Calls Tryz.prog 38 #[.string id, .slice q head.length cap] w fun e w' => e = .returned (.string (markS id n0)) ∧ Below w.heap.size w w' := by
 have kb := Lib.hid (fun W (hW : Below w.heap.size w W) => hb.below hW)
 have kl := Lib.hid (fun W (hW : Below w.heap.size w W) => hw.below hW)
 have kc := fun (w : World) (C : Array Value) (n c g : Nat) (hg : g = w.heap.size) => Joins.run_convert_bytes_const_at (P := Tryz.prog) w 29 5 C n c g hg rfl rfl
 clear hb hw
 go_enter Tryz.func38, Tryz.ntmps38
 go_wp2
 go_loopw [5, 6, 7] (fun a _ _ wr => ∃ n : Nat, n ≤ n0 ∧ a = .int .i64 n ∧ Below w.heap.size w wr) (fun a _ _ _ => n0 - (intOf a).toNat)
 case atStart => exact ⟨0, by omega, rfl, Below.refl _ _⟩
 case round =>
  obtain ⟨n, hn, rfl, hbw⟩ := hrel
  have hit := Lib.hid (itoa_calls (n : Int) (by omega) (by omega) (kl.out _ hbw))
  have hfs := frontS_size id n (by omega)
  have hfl := frontS_list id n
  have hil := Lib.itoa_length_le (n : Int) (by omega) (by omega)
  have hLs : (frontS id n).size = (frontT (preL id) n).length := by rw [← hfl]; simp
  rw [hLs] at hfs
  have hbeg : beginsB (frontT (preL id) n) head = (Lib.hasPrefix head (frontT (preL id) n) || Lib.contains head ([13, 10] ++ frontT (preL id) n)) := rfl
  have hge : beginsB (frontT (preL id) n) head = true → n + 1 ≤ n0 := fun h => by
   rcases Nat.lt_or_ge n n0 with h2 | h2
   · exact h2
   · obtain rfl : n = n0 := by omega
     rw [hfree] at h; cases h
  have heq : beginsB (frontT (preL id) n) head = false → n = n0 := fun h => by
   rcases Nat.lt_or_ge n n0 with h2 | h2
   · rw [hleast n h2] at h; cases h
   · omega
  rw [hbeg] at hge heq
  clear hbeg
  have hcv := fun W => bytes_row W (frontS id n)
  rw [hfl, hLs] at hcv
  generalize hL : frontT (preL id) n = L at *
  have hlen : ([13, 10] ++ L).length = 2 + L.length := by simp; omega
  have hpre := fun (W : World) p c (h1 : BytesAt W q cap head) (h2 : BytesAt W p c L) => dprefix_calls h1 h2
  have hcon := fun (W : World) g c (h1 : BytesAt W q cap head) (h2 : BytesAt W (some ⟨g, 0, none⟩) c ([13, 10] ++ L)) (h3 : LibAt W) => has2_calls h1 (by omega) h2 (by omega) (by omega) h3
  rw [hlen] at hcon
  replace hcv := Lib.hid hcv
  cases hq1 : Lib.hasPrefix head L with
  | true =>
   rw [hq1] at hpre hge
   have hge := hge rfl
   replace hpre := Lib.hid hpre
   clear heq hcon hfree hleast hfl hLs hL
   go_wp2_with first
    | (go_at_call 90; ((with_reducible refine hit.out.mono ?_); rintro r w1 ⟨rfl, h1⟩; obtain ⟨W2, c2, hcv2, hB2, h2⟩ := hcv.out w1; have hw1 := hbw.trans (h1.mono hbw.size); have hw2 := hw1.trans (h2.mono hw1.size); unfold frontS markS at hcv2))
    | (go_at_call 92; ((with_reducible refine (hpre.out _ _ _ (kb.out _ hw2) hB2).mono ?_); rintro r w3 ⟨rfl, hw3⟩; subst hw3))
   exact ⟨⟨n + 1, hge, by go_num, by assumption⟩, by simp [intOf]; omega⟩
  | false =>
   rw [hq1] at hpre hge heq
   have hap := fun (X : World) b1 c1 (h : BytesAt (X.alloc (.cells #[.int .u8 13, .int .u8 10] 5 (2, 3))) (some ⟨b1, 0, none⟩) c1 L) => append_crlf h (by omega) (by omega)
   replace hap := Lib.hid hap
   replace hpre := Lib.hid hpre
   cases hq2 : Lib.contains head ([13, 10] ++ L) with
   | true =>
    rw [hq2] at hcon hge
    have hge := hge rfl
    replace hcon := Lib.hid hcon
    clear heq hfree hleast hfl hLs hL
    go_wp2_with first
     | (go_at_call 90; ((with_reducible refine hit.out.mono ?_); rintro r w1 ⟨rfl, h1⟩; obtain ⟨W2, c2, hcv2, hB2, h2⟩ := hcv.out w1; have hw1 := hbw.trans (h1.mono hbw.size); have hw2 := hw1.trans (h2.mono hw1.size); unfold frontS markS at hcv2; obtain ⟨c6, W6, hap2, hB6, h6⟩ := hap.out W2 w1.heap.size c2 (hB2.below ((Below.refl _ _).alloc (Nat.le_refl _) _)); have hw6 := hw2.trans (h6.mono hw2.size); replace hB6 := Lib.hid hB6; replace hB2 := Lib.hid hB2; replace hw6 := Lib.hid hw6))
     | (go_at_call 92; ((with_reducible refine (hpre.out _ _ _ (kb.out _ hw2) hB2.out).mono ?_); rintro r w3 ⟨rfl, hw3⟩; subst hw3))
     | (at_builtin; refine wpList_append_run rfl (.tmp 26) (.tmp 27) rfl rfl (.slice (some ⟨_, 0, none⟩) 2 2) (.slice (some ⟨w1.heap.size, 0, none⟩) L.length c2) _ W6 rfl rfl hap2 ?_)
     | (go_at_call 93; ((with_reducible refine (hcon.out _ _ _ (kb.out _ hw6.out) hB6.out (kl.out _ hw6.out)).mono ?_); rintro r w7 ⟨rfl, h7⟩; have hw7 := hw6.out.trans (h7.mono hw6.out.size)))
    exact ⟨⟨n + 1, hge, by go_num, by assumption⟩, by simp [intOf]; omega⟩
   | false =>
    rw [hq2] at hcon heq
    obtain rfl := heq rfl
    replace hcon := Lib.hid hcon
    clear hge hfree hleast hfl hLs hL
    go_wp2_with first
     | (go_at_call 90; ((with_reducible refine hit.out.mono ?_); rintro r w1 ⟨rfl, h1⟩; obtain ⟨W2, c2, hcv2, hB2, h2⟩ := hcv.out w1; have hw1 := hbw.trans (h1.mono hbw.size); have hw2 := hw1.trans (h2.mono hw1.size); unfold frontS markS at hcv2; obtain ⟨c6, W6, hap2, hB6, h6⟩ := hap.out W2 w1.heap.size c2 (hB2.below ((Below.refl _ _).alloc (Nat.le_refl _) _)); have hw6 := hw2.trans (h6.mono hw2.size); replace hB6 := Lib.hid hB6; replace hB2 := Lib.hid hB2; replace hw6 := Lib.hid hw6))
     | (go_at_call 92; ((with_reducible refine (hpre.out _ _ _ (kb.out _ hw2) hB2.out).mono ?_); rintro r w3 ⟨rfl, hw3⟩; subst hw3))
     | (at_builtin; refine wpList_append_run rfl (.tmp 26) (.tmp 27) rfl rfl (.slice (some ⟨_, 0, none⟩) 2 2) (.slice (some ⟨w1.heap.size, 0, none⟩) L.length c2) _ W6 rfl rfl hap2 ?_)
     | (go_at_call 93; ((with_reducible refine (hcon.out _ _ _ (kb.out _ hw6.out) hB6.out (kl.out _ hw6.out)).mono ?_); rintro r w7 ⟨rfl, h7⟩; have hw7 := hw6.out.trans (h7.mono hw6.out.size)))
    go_returns
    exact ⟨rfl, by assumption⟩
noncomputable def markN (id : ByteArray) (head : List UInt8) : Nat := if h : head.length ≤ 32768 then Classical.choose (mark_least (preL id) head h) else 0
theorem markN_spec (id : ByteArray) {head : List UInt8} (h : head.length ≤ 32768) : markN id head < 1000000 ∧ beginsB (frontT (preL id) (markN id head)) head = false ∧ ∀ m, m < markN id head → beginsB (frontT (preL id) m) head = true := by
 unfold markN
 rw [dif_pos h]
 exact Classical.choose_spec (mark_least (preL id) head h)
theorem markOf_calls {w : World} {q : Option Addr} {cap : Nat} (id : ByteArray) (hid : id.size ≤ 100000) {head : List UInt8} (hb : BytesAt w q cap head) (hl : head.length ≤ 32768) (hw : LibAt w) :
 Calls Tryz.prog 38 #[.string id, .slice q head.length cap] w fun e w' => e = .returned (.string (markS id (markN id head))) ∧ Below w.heap.size w w' :=
 mark_calls id hid hb hl hw (markN_spec id hl).1 (markN_spec id hl).2.1 (markN_spec id hl).2.2
end Go.Proofs.YteahkgbnfbjkhaaGreatDoor
