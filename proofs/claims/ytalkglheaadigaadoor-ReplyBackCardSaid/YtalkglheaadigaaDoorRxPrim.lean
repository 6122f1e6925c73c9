/-
  The functions of the reply layer that stay as they were walked, for the reckoning: Enhanced, Bytes, Read.
-/
import Derived.Test.YtalkglheaadigaaDoorAX24
import Derived.Test.YtalkglheaadigaaDoorReplyEnhW
import Derived.Test.YtalkglheaadigaaDoorReplyBytesW
import Derived.Test.YtalkglheaadigaaDoorReplyReadW
set_option maxRecDepth 20000
set_option linter.unusedVariables false
set_option linter.unusedSimpArgs false
set_option linter.unusedSectionVars false
namespace Go.Proofs.YtalkglheaadigaaDoor
open Go.ChangeShapes Go.WideShapes Go.ChangeAt Go.RowKit
namespace AX
instance libInv : Inv := ⟨LibAt, fun _ _ h hb => h.below hb⟩

def enhAV : Option (Nat × Nat × Nat) → AV
  | some (a, b, c) => .tup [.one (.int .i64 a), .one (.int .i64 b), .one (.int .i64 c), .one (.bool true)]
  | none => .tup [.one (.int .i64 0), .one (.int .i64 0), .one (.int .i64 0), .one (.bool false)]
def pEnh : List AV → Option AV
  | [.one (.str l)] => bif decide (l.length ≤ 10000000) then some (enhAV (enhQ l)) else none
  | _ => none
theorem four_rv {g : Gh} {w : World} {a b c d : Value} {x y z u : V1} (h1 : Rv1 g w a x) (h2 : Rv1 g w b y) (h3 : Rv1 g w c z) (h4 : Rv1 g w d u) : Rv g w (.tuple #[a, b, c, d]) (.tup [x, y, z, u]) :=
  ⟨_, rfl, rfl, fun i v x hv hx => by
    match i, hv, hx with
    | 0, hv, hx => cases hv; cases hx; exact h1
    | 1, hv, hx => cases hv; cases hx; exact h2
    | 2, hv, hx => cases hv; cases hx; exact h3
    | 3, hv, hx => cases hv; cases hx; exact h4
    | n + 4, hv, _ => simp at hv⟩
theorem two_rv {g : Gh} {w : World} {a b : Value} {x y : V1} (h1 : Rv1 g w a x) (h2 : Rv1 g w b y) : Rv g w (.tuple #[a, b]) (.tup [x, y]) :=
  ⟨_, rfl, rfl, fun i v x hv hx => by
    match i, hv, hx with
    | 0, hv, hx => cases hv; cases hx; exact h1
    | 1, hv, hx => cases hv; cases hx; exact h2
    | n + 2, hv, _ => simp at hv⟩
theorem three_rv {g : Gh} {w : World} {a b c : Value} {x y z : V1} (h1 : Rv1 g w a x) (h2 : Rv1 g w b y) (h3 : Rv1 g w c z) : Rv g w (.tuple #[a, b, c]) (.tup [x, y, z]) :=
  ⟨_, rfl, rfl, fun i v x hv hx => by
    match i, hv, hx with
    | 0, hv, hx => cases hv; cases hx; exact h1
    | 1, hv, hx => cases hv; cases hx; exact h2
    | 2, hv, hx => cases hv; cases hx; exact h3
    | n + 3, hv, _ => simp at hv⟩
theorem agg_rv3 {g : Gh} {w : World} {a b c : Value} {x y z : Cell} (h1 : Rc g w a x) (h2 : Rc g w b y) (h3 : Rc g w c z) : Rv1 g w (.agg #[a, b, c]) (.agg [x, y, z]) :=
  ⟨_, rfl, rfl, fun i v x hv hx => by
    match i, hv, hx with
    | 0, hv, hx => cases hv; cases hx; exact h1
    | 1, hv, hx => cases hv; cases hx; exact h2
    | 2, hv, hx => cases hv; cases hx; exact h3
    | n + 3, hv, _ => simp at hv⟩
theorem pEnh_ok : PrimOk Tryd.prog 25 pEnh := by
  refine ⟨fun args v h M w vals hI hl hA => ?_, ⟨Tryd.f25, by kernel_rfl, by kernel_rfl, of_decide_eq_true (by kernel_rfl)⟩⟩
  unfold pEnh at h
  split at h
  · rename_i l
    cases hd : decide (l.length ≤ 10000000) with
    | false => rw [hd] at h; cases h
    | true =>
      rw [hd] at h
      simp only [cond_true, Option.some.injEq] at h
      subst h
      obtain ⟨u, rfl, hu⟩ := hA.one
      obtain rfl := Rc.str_inv hu
      refine (enh_calls l (of_decide_eq_true hd) hI).mono fun e w' ⟨he, hb⟩ => ⟨_, M, he, ⟨hb, fun _ _ h => h, fun _ _ _ h => h, fun b j h => Nat.lt_of_lt_of_le (hl b j h) hb.size⟩, ?_⟩
      cases enhQ l with
      | none => exact four_rv (.data (.int _ _)) (.data (.int _ _)) (.data (.int _ _)) (.data (.bool _))
      | some x => exact four_rv (.data (.int _ _)) (.data (.int _ _)) (.data (.int _ _)) (.data (.bool _))
  · cases h
def baOf (l : List UInt8) : ByteArray := ⟨l.toArray⟩
theorem strsAt_of {M : Mem} {w : World} {v : Value} {ls : List (List UInt8)} (h : Rd M w v (.sl none 1 (ls.map .str))) : ∃ p cap, v = .slice p (ls.map baOf).length cap ∧ StrsAt w p (ls.map baOf) := by
  obtain ⟨p, cap, h1, _, h2⟩ := row_at h
  refine ⟨p, cap, by simpa using h1, fun i hi => ?_⟩
  have hi' : i < ls.length := by simpa using hi
  obtain ⟨b, off, u, h3, h4, h5, h6⟩ := h2 i (.str ls[i]) (by simp [hi'])
  have : u = .string (baOf ls[i]) := by cases h6; rfl
  subst this
  exact ⟨b, off, [.string (baOf ls[i])], h3, h4, rfl, (fun j hj => match j, hj with | 0, _ => by simpa using h5), by simp [IsStr1]⟩
def pBytes : List AV → Option AV
  | [.agg [.int .i64 code, .str e, .sl none 1 cs]] =>
    (match strsOf cs with
     | some ls => bif decide (e.length ≤ 1000) && (decide (ls.length ≤ 1000) && ls.all fun s => decide (s.length ≤ 1000)) then
         (bif goodR code e (ls.map baOf) then some (.tup [.one (.sl none 1 (AX.byteCells (bytesL code e (ls.map baOf)))), .one (.int .i64 0)]) else some (.tup [.one (.sl none 0 []), .one (.int .i64 3)])) else none
     | none => none)
  | _ => none
theorem pBytes_ok : PrimOk Tryd.prog 23 pBytes := by
  refine ⟨fun args v h M w vals hI hl hA => ?_, ⟨Tryd.f23, by kernel_rfl, by kernel_rfl, of_decide_eq_true (by kernel_rfl)⟩⟩
  unfold pBytes at h
  split at h
  · rename_i code e cs
    split at h
    · rename_i ls hls
      obtain rfl := strsOf_eq _ _ hls
      cases hd : (decide (e.length ≤ 1000) && (decide (ls.length ≤ 1000) && ls.all fun s => decide (s.length ≤ 1000))) with
      | false => rw [hd] at h; cases h
      | true =>
        rw [hd] at h
        simp only [cond_true] at h
        simp only [Bool.and_eq_true, decide_eq_true_eq, List.all_eq_true] at hd
        obtain ⟨u, rfl, hu⟩ := hA.one
        obtain ⟨x, y, z, rfl, h1, h2, h3⟩ := agg3 hu
        obtain rfl := Rc.int_inv h1
        obtain rfl := Rc.str_inv h2
        obtain ⟨p, cap, rfl, h4⟩ := strsAt_of h3.dataSl
        refine (bytes_calls code e (ls.map baOf) cap h4 hI hd.1 (by simpa using hd.2.1) (fun s hs => by
          obtain ⟨l, hl, rfl⟩ := List.mem_map.1 hs
          have := hd.2.2 l hl
          show l.toArray.size ≤ 1000
          simpa using this)).mono fun r w' hp => ?_
        rcases hp with ⟨hg, hr, hb⟩ | ⟨hg, q, c, hr, hown, hb⟩
        · rw [hg] at h
          simp only [cond_false, Option.some.injEq] at h
          subst h
          exact ⟨_, M, hr, ⟨hb, fun _ _ h => h, fun _ _ _ h => h, fun b j h => Nat.lt_of_lt_of_le (hl b j h) hb.size⟩, two_rv (.data (.slN 0)) (.data (.int _ _))⟩
        · rw [hg] at h
          simp only [cond_true, Option.some.injEq] at h
          subst h
          obtain ⟨M', hG, hR⟩ := own_res (cs := AX.byteCells (bytesL code e (ls.map baOf))) hl hb hown (by decide) (by simp [AX.byteCells, Lib.byteCells]) (byteCells_rel _)
          exact ⟨_, M', hr, hG, two_rv (.data hR) (.data (.int _ _))⟩
    · cases h
  · cases h
/-- the bytes of a row -/
def bytesOf : List Cell → Option (List UInt8)
  | [] => some []
  | .int .u8 n :: r => bif decide (0 ≤ n) && decide (n < 256) then (match bytesOf r with | some l => some (UInt8.ofNat n.toNat :: l) | none => none) else none
  | _ => none
theorem bytesOf_eq : ∀ (cs : List Cell) (l : List UInt8), bytesOf cs = some l → cs = AX.byteCells l
  | [], l, h => by cases h; rfl
  | c :: r, l, h => by
    unfold bytesOf at h
    split at h
    · rename_i he; cases he
    · rename_i n r' he
      cases he
      cases hd : (decide (0 ≤ n) && decide (n < 256)) with
      | false => rw [hd] at h; cases h
      | true =>
        rw [hd] at h
        simp only [cond_true] at h
        simp only [Bool.and_eq_true, decide_eq_true_eq] at hd
        split at h
        · rename_i l' hr
          cases h
          rw [bytesOf_eq _ l' hr]
          have : ((UInt8.ofNat n.toNat).toNat : Int) = n := by
            rw [UInt8.toNat_ofNat_of_lt' (by show n.toNat < 256; omega)]; omega
          show _ = Cell.int .u8 ((UInt8.ofNat n.toNat).toNat : Int) :: AX.byteCells l'
          rw [this]
        · cases h
    · cases h
theorem bytesAt_of {M : Mem} {w : World} {v : Value} {l : List UInt8} (h : Rd M w v (.sl none 1 (AX.byteCells l))) : ∃ p cap, v = .slice p l.length cap ∧ BytesAt w p cap l := by
  generalize hcs : AX.byteCells l = cs at h
  cases h with
  | slN =>
    obtain rfl : l = [] := by cases l with | nil => rfl | cons => cases hcs
    exact ⟨none, 0, rfl, fun _ => ⟨rfl, rfl⟩, Nat.le_refl _, fun h => absurd rfl h⟩
  | sl0 a cap _ _ =>
    obtain rfl : l = [] := by cases l with | nil => rfl | cons => cases hcs
    exact ⟨some a, cap, rfl, fun h => (by cases h), Nat.zero_le _, fun h => absurd rfl h⟩
  | sl b off len cap _ f _ h1 h2 h3 h4 h5 =>
    subst hcs
    have hll : (AX.byteCells l).length = l.length := by simp [AX.byteCells]
    obtain rfl : l.length = len := by omega
    refine ⟨some ⟨b, off, none⟩, cap, rfl, fun h => (by cases h), h3, fun h0 => ⟨b, off, rfl, ?_, fun i hi => ?_⟩⟩
    · have hp : 0 < l.length := List.length_pos_iff.2 h0
      exact World.block_lt_of_cell? w _ (h4 0 (by omega)).2
    · rw [(h4 i (by omega)).2]
      have := h5 i (.int .u8 (l[i].toNat : Int)) (by simp [AX.byteCells, hi])
      rw [this.int_inv]
def readAV : Except Int RGot → AV
  | .error k => .tup [.agg [.int .i64 0, .str [], .sl none 1 []], .one (.int .i64 0), .one (.int .i64 k)]
  | .ok (c, e, ts, n) => .tup [.agg [.int .i64 (c : Int), .str e, .sl none 1 (ts.map fun s => .str s.data.toList)], .one (.int .i64 (n : Int)), .one (.int .i64 0)]
def pRead : List AV → Option AV
  | [.one (.sl none 1 cs), .one (.bool enh)] =>
    (match bytesOf cs with
     | some l => bif decide (l.length ≤ 1000000) then some (readAV (readQ enh l 0 0 [] [])) else none
     | none => none)
  | _ => none
theorem pRead_ok : PrimOk Tryd.prog 17 pRead := by
  refine ⟨fun args v h M w vals hI hl hA => ?_, ⟨Tryd.f17, by kernel_rfl, by kernel_rfl, of_decide_eq_true (by kernel_rfl)⟩⟩
  unfold pRead at h
  split at h
  · rename_i cs enh
    split at h
    · rename_i l hls
      obtain rfl := bytesOf_eq _ _ hls
      cases hd : decide (l.length ≤ 1000000) with
      | false => rw [hd] at h; cases h
      | true =>
        rw [hd] at h
        simp only [cond_true, Option.some.injEq] at h
        subst h
        obtain ⟨x, y, rfl, h1, h2⟩ := hA.two
        obtain rfl := Rc.bool_inv h2
        obtain ⟨p, cap, rfl, h4⟩ := bytesAt_of (Rc.dataSl h1)
        refine (read_calls l enh h4 (of_decide_eq_true hd) hI).mono fun r w' ⟨hp, hb⟩ => ?_
        rcases hp with ⟨k, hR, hr⟩ | ⟨c, e, ts, n, q, cap', hR, hr, hown⟩
        · rw [hR]
          exact ⟨_, M, hr, ⟨hb, fun _ _ h => h, fun _ _ _ h => h, fun b j h => Nat.lt_of_lt_of_le (hl b j h) hb.size⟩, three_rv (agg_rv3 (.data (.int _ _)) (.data (.str [])) (.data (.slN 1))) (.data (.int _ _)) (.data (.int _ _))⟩
        · rw [hR]
          obtain ⟨M', hG, hRd⟩ := own_res (M := M) (cs := ts.map fun s => Cell.str s.data.toList) hl hb hown (by decide) (by simp [strCells8]) (fun i x c hx hc => by
            simp only [strCells8, List.getElem?_map] at hx hc
            cases ht : ts[i]? with
            | none => rw [ht] at hx; cases hx
            | some s =>
              rw [ht] at hx hc; cases hx; cases hc
              have : s = ⟨s.data.toList.toArray⟩ := by cases s; simp
              show Rd M w (.string s) _
              rw [this]
              exact .str _)
          exact ⟨_, M', hr, hG, three_rv (agg_rv3 (.data (.int _ _)) (.data (.str e)) (.data hRd)) (.data (.int _ _)) (.data (.int _ _))⟩
    · cases h
  · cases h
end AX
end Go.Proofs.YtalkglheaadigaaDoor
