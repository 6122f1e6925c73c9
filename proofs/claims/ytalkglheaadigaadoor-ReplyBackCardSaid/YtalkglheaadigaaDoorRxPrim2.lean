/-
  More functions of the reply layer, as they were walked: Good, the reference's Good, Enhanced, Bytes, Few.
-/
import Derived.Test.YtalkglheaadigaaDoorRxPrim
import Derived.Test.YtalkglheaadigaaDoorRefReply2
import Derived.Test.YtalkglheaadigaaDoorReplySmall
set_option maxRecDepth 20000
set_option linter.unusedVariables false
set_option linter.unusedSimpArgs false
set_option linter.unusedSectionVars false
namespace Go.Proofs.YtalkglheaadigaaDoor
open Go.ChangeShapes Go.WideShapes Go.ChangeAt Go.RowKit
namespace AX
theorem same_grow {M : Mem} {w w' : World} (hl : ∀ b j, M b j → b < w.heap.size) (hb : Below w.heap.size w w') : Grow ⟨M, [], fun _ => none⟩ w M w' := ⟨hb, fun _ _ h => h, fun _ _ _ h => h, fun b j h => Nat.lt_of_lt_of_le (hl b j h) hb.size⟩
theorem bytes_res {M : Mem} {w w' : World} {q : Option Addr} {c : Nat} {l : List UInt8} (hl : ∀ b j, M b j → b < w.heap.size) (hb : Below w.heap.size w w') (h : BytesAt w' q c l) (hn : ∀ a, q = some a → w.heap.size ≤ a.block) :
    ∃ M', Grow ⟨M, [], fun _ => none⟩ w M' w' ∧ Rd M' w' (.slice q l.length c) (.sl none 1 (AX.byteCells l)) := by
  by_cases h0 : l = []
  · subst h0
    refine ⟨M, same_grow hl hb, ?_⟩
    cases q with
    | none => obtain ⟨_, rfl⟩ := h.nil rfl; exact .slN 1
    | some a => exact .sl0 a c 1 (by decide)
  · obtain ⟨b, off, rfl, hlt, hc⟩ := h.cell h0
    have hge := hn _ rfl
    have hge : w.heap.size ≤ b := hge
    refine ⟨fun k j => M k j ∨ (k = b ∧ off ≤ j), ⟨hb, fun _ _ h => .inl h, fun k j hk h => h.elim id fun h => by omega, fun k j h => h.elim (fun h => Nat.lt_of_lt_of_le (hl k j h) hb.size) fun h => by omega⟩, ?_⟩
    have hll : (AX.byteCells l).length = l.length := by simp [AX.byteCells]
    refine .sl b off l.length c 1 (fun i => (Lib.byteCells l).getD i undef) _ (by decide) (by omega) h.cap (fun i hi => ⟨.inr ⟨rfl, by omega⟩, ?_⟩) fun i x hx => ?_
    · rw [hc i (by omega)]
      simp [Lib.byteCells, List.getD, show i < l.length by omega]
    · have hi : i < l.length := by have := (List.getElem?_eq_some_iff.1 hx).1; omega
      refine byteCells_rel l i _ x ?_ hx
      simp [Lib.byteCells, List.getD, hi]
/-- what a reply is, for these functions -/
def replyK {β : Type} (args : List AV) (k : Int → List UInt8 → List (List UInt8) → Option β) : Option β :=
  match args with
  | [.agg [.int .i64 code, .str e, .sl none 1 cs]] => (match strsOf cs with | some ls => k code e ls | none => none)
  | _ => none
theorem replyK_some {β : Type} {args : List AV} {k : Int → List UInt8 → List (List UInt8) → Option β} {r : β} (h : replyK args k = some r) {M : Mem} {w : World} {vals : List Value} (hA : All2 (fun a u => Rv ⟨M, [], fun _ => none⟩ w u a) args vals) :
    ∃ code e ls p cap, k code e ls = some r ∧ vals = [.agg #[.int .i64 code, .string ⟨e.toArray⟩, .slice p (ls.map baOf).length cap]] ∧ StrsAt w p (ls.map baOf) := by
  unfold replyK at h
  split at h
  · rename_i code e cs
    split at h
    · rename_i ls hls
      obtain rfl := strsOf_eq _ _ hls
      obtain ⟨u, rfl, hu⟩ := hA.one
      obtain ⟨x, y, z, rfl, h1, h2, h3⟩ := agg3 hu
      obtain rfl := Rc.int_inv h1
      obtain rfl := Rc.str_inv h2
      obtain ⟨p, cap, rfl, h4⟩ := strsAt_of h3.dataSl
      exact ⟨code, e, ls, p, cap, h, rfl, h4⟩
    · cases h
  · cases h
def small (m : Nat) (e : List UInt8) (ls : List (List UInt8)) : Bool := decide (e.length ≤ m) && (decide (ls.length ≤ m) && ls.all fun s => decide (s.length ≤ m))
theorem small_bd {m : Nat} {e : List UInt8} {ls : List (List UInt8)} (h : small m e ls = true) : e.length ≤ m ∧ (ls.map baOf).length ≤ m ∧ ∀ s ∈ ls.map baOf, s.size ≤ m := by
  simp only [small, Bool.and_eq_true, decide_eq_true_eq, List.all_eq_true] at h
  refine ⟨h.1, by simpa using h.2.1, fun s hs => ?_⟩
  obtain ⟨l, hl, rfl⟩ := List.mem_map.1 hs
  have := h.2.2 l hl
  show l.toArray.size ≤ m
  simpa using this
def pGood (args : List AV) : Option AV := replyK args fun code e ls => bif small 1000000 e ls then some (.one (.bool (goodR code e (ls.map baOf)))) else none
theorem bif_some {β : Type} {c : Bool} {x r : β} (h : (bif c then some x else none) = some r) : c = true ∧ x = r := by
  cases c with
  | true => exact ⟨rfl, by simpa using h⟩
  | false => cases h
theorem pGood_ok : PrimOk Tryd.prog 15 pGood := by
  refine ⟨fun args v h M w vals hI hl hA => ?_, ⟨Tryd.f15, by kernel_rfl, by kernel_rfl, of_decide_eq_true (by kernel_rfl)⟩⟩
  obtain ⟨code, e, ls, p, cap, h, rfl, hs⟩ := replyK_some h hA
  obtain ⟨hsm, rfl⟩ := bif_some h
  obtain ⟨h1, h2, h3⟩ := small_bd hsm
  exact (good_calls code e (ls.map baOf) cap hs hI (by omega) (by omega) (fun s hs => by have := h3 s hs; omega)).mono fun r w' ⟨he, hb⟩ => ⟨_, M, he, same_grow hl hb, .data (.bool _)⟩
def pRGood (args : List AV) : Option AV := pGood args
theorem pRGood_ok : PrimOk Tryd.prog 28 pRGood := by
  refine ⟨fun args v h M w vals hI hl hA => ?_, ⟨Tryd.f28, by kernel_rfl, by kernel_rfl, of_decide_eq_true (by kernel_rfl)⟩⟩
  obtain ⟨code, e, ls, p, cap, h, rfl, hs⟩ := replyK_some h hA
  obtain ⟨hsm, rfl⟩ := bif_some h
  obtain ⟨h1, h2, h3⟩ := small_bd hsm
  exact (rgood_calls code e (ls.map baOf) cap hs (by omega) (by omega) (fun s hs => by have := h3 s hs; omega)).mono fun r w' ⟨he, hb⟩ => ⟨_, M, he, same_grow hl hb, .data (.bool _)⟩
def pFew (args : List AV) : Option AV := replyK args fun _ e ls => bif decide (e.length ≤ maxLen) && decide (ls.length ≤ maxLen) then some (.one (.bool (few8B e (ls.map baOf)))) else none
theorem pFew_ok : PrimOk Tryd.prog 22 pFew := by
  refine ⟨fun args v h M w vals hI hl hA => ?_, ⟨Tryd.f22, by kernel_rfl, by kernel_rfl, of_decide_eq_true (by kernel_rfl)⟩⟩
  obtain ⟨code, e, ls, p, cap, h, rfl, hs⟩ := replyK_some h hA
  obtain ⟨hsm, rfl⟩ := bif_some h
  simp only [Bool.and_eq_true, decide_eq_true_eq] at hsm
  exact (few8_calls code e (ls.map baOf) cap hs hsm.1 (by simpa using hsm.2)).mono fun r w' ⟨he, hb⟩ => ⟨_, M, he, same_grow hl hb, .data (.bool _)⟩
def pRBytes (args : List AV) : Option AV := replyK args fun code e ls => bif small 1000 e ls then
  some (bif goodR code e (ls.map baOf) then .tup [.one (.sl none 1 (AX.byteCells (bytesL code e (ls.map baOf)))), .one (.int .i64 0)] else .tup [.one (.sl none 0 []), .one (.int .i64 3)]) else none
theorem pRBytes_ok : PrimOk Tryd.prog 24 pRBytes := by
  refine ⟨fun args v h M w vals hI hl hA => ?_, ⟨Tryd.f24, by kernel_rfl, by kernel_rfl, of_decide_eq_true (by kernel_rfl)⟩⟩
  obtain ⟨code, e, ls, p, cap, h, rfl, hs⟩ := replyK_some h hA
  obtain ⟨hsm, rfl⟩ := bif_some h
  obtain ⟨h1, h2, h3⟩ := small_bd hsm
  refine (rbytes_calls code e (ls.map baOf) cap hs h1 h2 h3).mono fun r w' hp => ?_
  rcases hp with ⟨hg, hr, hb⟩ | ⟨hg, q, c, hr, hB, hn, hb⟩
  · rw [hg]
    exact ⟨_, M, hr, same_grow hl hb, two_rv (.data (.slN 0)) (.data (.int _ _))⟩
  · rw [hg]
    obtain ⟨M', hG, hR⟩ := bytes_res hl hb hB hn
    exact ⟨_, M', hr, hG, two_rv (.data hR) (.data (.int _ _))⟩
def codeAV : Option (Nat × Nat × Nat) → AV
  | some (a, b, c) => .agg [.int .i64 a, .int .i64 b, .int .i64 c, .bool true]
  | none => .agg [.int .i64 0, .int .i64 0, .int .i64 0, .bool false]
def pREnh : List AV → Option AV
  | [.one (.str l)] => bif decide (l.length ≤ 10000000) then some (codeAV (enhQ l)) else none
  | _ => none
theorem agg_rv4 {g : Gh} {w : World} {a b c d : Value} {x y z u : Cell} (h1 : Rc g w a x) (h2 : Rc g w b y) (h3 : Rc g w c z) (h4 : Rc g w d u) : Rv g w (.agg #[a, b, c, d]) (.agg [x, y, z, u]) :=
  ⟨_, rfl, rfl, fun i v x hv hx => by
    match i, hv, hx with
    | 0, hv, hx => cases hv; cases hx; exact h1
    | 1, hv, hx => cases hv; cases hx; exact h2
    | 2, hv, hx => cases hv; cases hx; exact h3
    | 3, hv, hx => cases hv; cases hx; exact h4
    | n + 4, hv, _ => simp at hv⟩
theorem pREnh_ok : PrimOk Tryd.prog 26 pREnh := by
  refine ⟨fun args v h M w vals hI hl hA => ?_, ⟨Tryd.f26, by kernel_rfl, by kernel_rfl, of_decide_eq_true (by kernel_rfl)⟩⟩
  unfold pREnh at h
  split at h
  · rename_i l
    obtain ⟨hd, rfl⟩ := bif_some h
    obtain ⟨u, rfl, hu⟩ := hA.one
    obtain rfl := Rc.str_inv hu
    refine (renh_calls l (of_decide_eq_true hd) w).mono fun e w' ⟨he, hb⟩ => ⟨_, M, he, same_grow hl hb, ?_⟩
    cases enhQ l with
    | none => exact agg_rv4 (.data (.int _ _)) (.data (.int _ _)) (.data (.int _ _)) (.data (.bool _))
    | some x => exact agg_rv4 (.data (.int _ _)) (.data (.int _ _)) (.data (.int _ _)) (.data (.bool _))
  · cases h
end AX
end Go.Proofs.YtalkglheaadigaaDoor
