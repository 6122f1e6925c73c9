/-
  CmParse.
-/
import Derived.Test.YtfbicbgdfcbhpaaGreatDoorCt38
set_option maxRecDepth 20000
set_option linter.unusedVariables false
set_option linter.unusedSimpArgs false
set_option linter.unusedSectionVars false
namespace Go.Proofs.YtfbicbgdfcbhpaaGreatDoor
open SC CM
namespace AX
structure LineCalls (call : CallF) : Prop where
 printed : ∀ l : List UInt8, l.length ≤ 1000 → call 33 [.one (.str l)] [] = some (.one (.bool (printL l)), [])
 verb : ∀ l : List UInt8, l.length ≤ 1000 → call 16 [.one (.str l)] [] = some (.one (.int .i64 (verbQ l : Nat)), [])
 need : ∀ b : Bool, call 34 [.one (.bool b)] [] = some (.one (.int .i64 (need b)), [])
 literal : ∀ l : List UInt8, l.length ≤ 1000 → printL l = true → call 36 [.one (.str l)] [] = some (.one (.bool (literalB l)), [])
 path : ∀ (c : S_api_Cmd) (r front : List UInt8) (null : Bool), printL r = true → r.length ≤ 1000 → front.length ≤ 1000 →
  call 37 [.one (.ptr 0 0), .one (.str r), .one (.str front), .one (.bool null)] [c.cells] = some (.one (.int .i64 (pathQ c r front null).1), [(pathQ c r front null).2.cells])
theorem findW_lt (w : List UInt8) : ∀ (ws : List (List UInt8)) (i : Nat), findW w ws i < i + ws.length ∨ findW w ws i = 0
 | [], i => .inr rfl
 | x :: r, i => by
  unfold findW
  split
  · exact .inl (by simp)
  · have := findW_lt w r (i + 1)
    simp; omega
theorem verbQ_lt (l : List UInt8) : verbQ l < 12 := by
 have := findW_lt (upL l) wordsL 0
 have h2 : wordsL.length = 12 := rfl
 unfold verbQ verbN
 omega
def lineV (x : S_api_Cmd × Int) : Option (AV × Heap) := some (.tup [.agg x.1.cells, .one (.int .i64 x.2)], [])
theorem line_end {call : CallF} {n : Nat} (x : Int) (z c : S_api_Cmd) : f14_L11 call n x z c = lineV (endQ (x, c)) := by
 rw [f14_L11, f14_T11, f14_L14, f14_T14]
 unfold endQ
 by_cases h : x = 0
 · rw [if_pos h, h]; rfl
 · rw [if_neg h, show (x != 0) = true by simpa using h]; rfl
theorem parse_core {call : CallF} {n : Nat} (hC : LineCalls call) (l : List UInt8) : f14_L call n l = lineV (parseQ l) := by
 rw [f14_L, f14_T]
 unfold parseQ
 by_cases h : 510 < l.length
 · rw [if_pos (.inl h), decide_eq_true (by omega)]; rfl
 · rw [decide_eq_false (by omega), cond_false, callK_some (hC.printed l (by omega)), oB_one]
   cases hp : printL l with
   | false => rw [if_pos (.inr rfl)]; rfl
   | true =>
    rw [if_neg (by rintro (h | h); omega; cases h), Bool.not_true, f14_L1, f14_T1, cond_false, primK_some (pCut_at (by omega)), castTup_tup, zS_cons, zS_cons, zB_cons, nilK_nil]
    obtain ⟨s1, s2, s3, s4⟩ := cut_sub 32 l
    have hpr := printL_sub hp s2
    rw [callK_some (hC.verb _ (by omega)), oI_one]
    have hlt := verbQ_lt (Lib.cut l [32]).1
    generalize verbQ (Lib.cut l [32]).1 = v at hlt ⊢
    have hlen : (Lib.cut l [32]).2.1.length ≤ 1000 := by omega
    generalize (Lib.cut l [32]).2.1 = r at hpr hlen ⊢
    generalize (Lib.cut l [32]).2.2 = b
    have hdom : ∀ c, f14_L17 call n r zeroC c = lineV (endQ (need (domainB r || literalB r), c)) := fun c => by
     rw [f14_L17, f14_T17, primK_some (pADomain_at (by omega)), oB_one]
     cases domainB r with
     | true => rw [cond_true, callK_some (hC.need true), oI_one, line_end]; rfl
     | false => rw [cond_false, callK_some (hC.literal r hlen hpr), oB_one, callK_some (hC.need _), oI_one, line_end]; rfl
    have hpath : ∀ (c : S_api_Cmd) (front : List UInt8) (null : Bool), front.length ≤ 1000 → (callRK call 37 [.one (.ptr 0 0), .one (.str r), .one (.str front), .one (.bool null)] [c.cells] fun v1 h2 =>
     consK h2 fun r3 h4 => takeS_api_Cmd r3 fun w5 r6 => nilK r6 (nilK h4 (oI .i64 v1 fun n7 => f14_L11 call n n7 zeroC w5))) = lineV (endQ (pathQ c r front null)) := fun c front null hf => by
     rw [callRK_some (hC.path c r front null hpr hlen hf), consK_cons, takeS_api_Cmd_cells_nil, nilK_nil, nilK_nil, oI_one, line_end]
    have hneed : ∀ (d : Bool) (c : S_api_Cmd), (callK call 34 [.one (.bool d)] fun v1 => oI .i64 v1 fun n2 => f14_L11 call n n2 zeroC c) = lineV (endQ (need d, c)) := fun d c => by
     rw [callK_some (hC.need d), oI_one, line_end]
    have cases12 : v = 0 ∨ v = 1 ∨ v = 2 ∨ v = 3 ∨ v = 4 ∨ v = 5 ∨ v = 6 ∨ v = 7 ∨ v = 8 ∨ v = 9 ∨ v = 10 ∨ v = 11 := by omega
    clear hlt
    rcases cases12 with rfl | rfl | rfl | rfl | rfl | rfl | rfl | rfl | rfl | rfl | rfl | rfl
    · exact line_end (call := call) (n := n) 500 zeroC _
    · exact hdom ⟨1, r, [], [], false, -1, 0⟩
    · exact hdom ⟨2, r, [], [], false, -1, 0⟩
    · exact hdom ⟨3, r, [], [], false, -1, 0⟩
    · exact hpath ⟨4, [], [], [], false, -1, 0⟩ [70, 82, 79, 77, 58] true (by decide)
    · exact hpath ⟨5, [], [], [], false, -1, 0⟩ [84, 79, 58] false (by decide)
    · exact hneed (!b) ⟨6, [], [], [], false, -1, 0⟩
    · exact hneed (!b) ⟨7, [], [], [], false, -1, 0⟩
    · exact line_end (call := call) (n := n) 0 zeroC ⟨8, r, [], [], false, -1, 0⟩
    · exact hneed (!b) ⟨9, [], [], [], false, -1, 0⟩
    · have e : (!(r == ([] : List UInt8))) = decide (r ≠ []) := by cases r <;> rfl
      exact (hneed (!(r == ([] : List UInt8))) ⟨10, r, [], [], false, -1, 0⟩).trans (by rw [e]; rfl)
    · exact line_end (call := call) (n := n) 0 zeroC ⟨11, r, [], [], false, -1, 0⟩
theorem Parse_at (n : Nat) (l : List UInt8) (hn : 5000 ≤ n) : acall AXE AXF (n + 1) 14 [.one (.str l)] [] = lineV (parseQ l) := by
 rw [f14_eq]
 obtain ⟨k, rfl⟩ : ∃ k, n = k + 1 := ⟨n - 1, by omega⟩
 refine parse_core ⟨fun l hl => printed_at k l (by omega) (by omega), fun l hl => Verb_at k l (by omega) (by omega), fun b => need_at k b, fun l hl hp => literal_at k l hp (by omega), fun c r front null hp hl hf => ?_⟩ l
 rw [f37_eq]
 obtain ⟨j, rfl⟩ : ∃ j, k = j + 1 := ⟨k - 1, by omega⟩
 refine path_core c r front null hp hl hf (fun l hl => upper_at j l (by omega) (by omega)) fun c ps hps hct => ?_
 rw [f72_eq]
 obtain ⟨i, rfl⟩ : ∃ i, j = i + 1 := ⟨j - 1, by omega⟩
 refine params_core ⟨fun l hl => upper_at i l (by omega) (by omega), fun l hl => cmName_at i l (by omega) (by omega), fun l hl hp => isValue_at i l hp (by omega), fun c nm v hv => ?_⟩ c ps hps (by omega) (by omega)
 rw [f101_eq]
 obtain ⟨h, rfl⟩ : ∃ h, i = h + 1 := ⟨i - 1, by omega⟩
 exact param_core c nm v hv (upper_at h v (by omega) (by omega)) fun b => need_at h b
end AX
end Go.Proofs.YtfbicbgdfcbhpaaGreatDoor
