/-
  PcRep.
-/
import Derived.Test.YtnkppakkeobegaaGreatDoorZC21
set_option maxRecDepth 20000
set_option linter.unusedVariables false
set_option linter.unusedSimpArgs false
set_option linter.unusedSectionVars false
namespace Go.Proofs.YtnkppakkeobegaaGreatDoor
namespace AX
def Bads : List LC := [r500, r501, r555, r503]
def ansL (code : Int) : LC := [.int .i64 code, .str [], .sl none 1 [.str [115, 111]]]
def code2 (l : LC) : LC := (((l.drop ((Int.toNat (1 : Int)) * 3)).take 3).drop 0).take 1
structure SentOk (L : LC) (m : Nat) (s : LB) (r : LC) : Prop where
 sent : ∀ n, acall AXE AXF (n + 60) 28 [.one (.sl none 3 L)] [] = some (.one (.sl (some ⟨2, 0, 5⟩) 1 (byteCells s)), [])
 all : ∀ n, acall AXE AXF (n + 200) 15 [.one (.str s), .one (.bool false)] [] = some (.tup [.one (.sl (some ⟨4, 0, 39⟩) 3 r), .one (.int .i64 0)], [])
 len : s.length ≤ 400
 num : r.length = 3 * m
theorem so_r500 : SentOk r500 1 [53, 48, 48, 32, 53, 46, 53, 46, 50, 32, 119, 104, 97, 116, 32, 105, 115, 32, 116, 104, 97, 116, 13, 10] [.int .i64 500, .str [], .sl none 1 [.str [53, 46, 53, 46, 50, 32, 119, 104, 97, 116, 32, 105, 115, 32, 116, 104, 97, 116]]] :=
 ⟨fun n => by kernel_rfl, fun n => by kernel_rfl, by decide, rfl⟩
theorem so_r501 : SentOk r501 1 [53, 48, 49, 32, 53, 46, 53, 46, 52, 32, 110, 111, 116, 32, 115, 111, 13, 10] [.int .i64 501, .str [], .sl none 1 [.str [53, 46, 53, 46, 52, 32, 110, 111, 116, 32, 115, 111]]] :=
 ⟨fun n => by kernel_rfl, fun n => by kernel_rfl, by decide, rfl⟩
theorem so_r555 : SentOk r555 1 [53, 53, 53, 32, 53, 46, 53, 46, 52, 32, 110, 111, 32, 115, 117, 99, 104, 32, 112, 97, 114, 97, 109, 101, 116, 101, 114, 13, 10] [.int .i64 555, .str [], .sl none 1 [.str [53, 46, 53, 46, 52, 32, 110, 111, 32, 115, 117, 99, 104, 32, 112, 97, 114, 97, 109, 101, 116, 101, 114]]] :=
 ⟨fun n => by kernel_rfl, fun n => by kernel_rfl, by decide, rfl⟩
theorem so_r503 : SentOk r503 1 [53, 48, 51, 32, 53, 46, 53, 46, 49, 32, 110, 111, 116, 32, 110, 111, 119, 13, 10] [.int .i64 503, .str [], .sl none 1 [.str [53, 46, 53, 46, 49, 32, 110, 111, 116, 32, 110, 111, 119]]] :=
 ⟨fun n => by kernel_rfl, fun n => by kernel_rfl, by decide, rfl⟩
theorem so_rHelo : SentOk rHelo 1 [50, 53, 48, 32, 120, 46, 111, 114, 103, 13, 10] [.int .i64 250, .str [], .sl none 1 [.str [120, 46, 111, 114, 103]]] :=
 ⟨fun n => by kernel_rfl, fun n => by kernel_rfl, by decide, rfl⟩
theorem so_rEhlo : SentOk rEhlo 1 [50, 53, 48, 45, 120, 46, 111, 114, 103, 13, 10, 50, 53, 48, 45, 80, 73, 80, 69, 76, 73, 78, 73, 78, 71, 13, 10, 50, 53, 48, 45, 83, 73, 90, 69, 32, 51, 50, 55, 54, 56, 13, 10, 50, 53, 48, 45, 56, 66, 73, 84, 77, 73, 77, 69, 13, 10, 50, 53, 48, 32, 69, 78, 72, 65, 78, 67, 69, 68, 83, 84, 65, 84, 85, 83, 67, 79, 68, 69, 83, 13, 10] [.int .i64 250, .str [], .sl none 1 [.str [120, 46, 111, 114, 103], .str [80, 73, 80, 69, 76, 73, 78, 73, 78, 71], .str [83, 73, 90, 69, 32, 51, 50, 55, 54, 56], .str [56, 66, 73, 84, 77, 73, 77, 69], .str [69, 78, 72, 65, 78, 67, 69, 68, 83, 84, 65, 84, 85, 83, 67, 79, 68, 69, 83]]] :=
 ⟨fun n => by kernel_rfl, fun n => by kernel_rfl, by decide, rfl⟩
theorem so_r552 : SentOk r552 1 [53, 53, 50, 32, 53, 46, 51, 46, 52, 32, 116, 111, 111, 32, 108, 97, 114, 103, 101, 13, 10] [.int .i64 552, .str [], .sl none 1 [.str [53, 46, 51, 46, 52, 32, 116, 111, 111, 32, 108, 97, 114, 103, 101]]] :=
 ⟨fun n => by kernel_rfl, fun n => by kernel_rfl, by decide, rfl⟩
theorem so_rMail : SentOk rMail 1 [50, 53, 48, 32, 50, 46, 49, 46, 48, 32, 111, 107, 13, 10] [.int .i64 250, .str [], .sl none 1 [.str [50, 46, 49, 46, 48, 32, 111, 107]]] :=
 ⟨fun n => by kernel_rfl, fun n => by kernel_rfl, by decide, rfl⟩
theorem so_r452 : SentOk r452 1 [52, 53, 50, 32, 52, 46, 53, 46, 51, 32, 116, 111, 111, 32, 109, 97, 110, 121, 13, 10] [.int .i64 452, .str [], .sl none 1 [.str [52, 46, 53, 46, 51, 32, 116, 111, 111, 32, 109, 97, 110, 121]]] :=
 ⟨fun n => by kernel_rfl, fun n => by kernel_rfl, by decide, rfl⟩
theorem so_rOk : SentOk rOk 1 [50, 53, 48, 32, 50, 46, 48, 46, 48, 32, 111, 107, 13, 10] [.int .i64 250, .str [], .sl none 1 [.str [50, 46, 48, 46, 48, 32, 111, 107]]] :=
 ⟨fun n => by kernel_rfl, fun n => by kernel_rfl, by decide, rfl⟩
theorem so_r252 : SentOk r252 1 [50, 53, 50, 32, 50, 46, 53, 46, 48, 32, 112, 101, 114, 104, 97, 112, 115, 13, 10] [.int .i64 252, .str [], .sl none 1 [.str [50, 46, 53, 46, 48, 32, 112, 101, 114, 104, 97, 112, 115]]] :=
 ⟨fun n => by kernel_rfl, fun n => by kernel_rfl, by decide, rfl⟩
theorem so_r214 : SentOk r214 1 [50, 49, 52, 32, 50, 46, 48, 46, 48, 32, 110, 111, 110, 101, 13, 10] [.int .i64 214, .str [], .sl none 1 [.str [50, 46, 48, 46, 48, 32, 110, 111, 110, 101]]] :=
 ⟨fun n => by kernel_rfl, fun n => by kernel_rfl, by decide, rfl⟩
theorem so_r221 : SentOk r221 1 [50, 50, 49, 32, 50, 46, 48, 46, 48, 32, 98, 121, 101, 13, 10] [.int .i64 221, .str [], .sl none 1 [.str [50, 46, 48, 46, 48, 32, 98, 121, 101]]] :=
 ⟨fun n => by kernel_rfl, fun n => by kernel_rfl, by decide, rfl⟩
theorem so_r500b : SentOk (r500 ++ r421) 2 [53, 48, 48, 32, 53, 46, 53, 46, 50, 32, 119, 104, 97, 116, 32, 105, 115, 32, 116, 104, 97, 116, 13, 10, 52, 50, 49, 32, 52, 46, 55, 46, 48, 32, 116, 111, 111, 32, 109, 97, 110, 121, 32, 101, 114, 114, 111, 114, 115, 13, 10] [.int .i64 500, .str [], .sl none 1 [.str [53, 46, 53, 46, 50, 32, 119, 104, 97, 116, 32, 105, 115, 32, 116, 104, 97, 116]], .int .i64 421, .str [], .sl none 1 [.str [52, 46, 55, 46, 48, 32, 116, 111, 111, 32, 109, 97, 110, 121, 32, 101, 114, 114, 111, 114, 115]]] :=
 ⟨fun n => by kernel_rfl, fun n => by kernel_rfl, by decide, rfl⟩
theorem so_r501b : SentOk (r501 ++ r421) 2 [53, 48, 49, 32, 53, 46, 53, 46, 52, 32, 110, 111, 116, 32, 115, 111, 13, 10, 52, 50, 49, 32, 52, 46, 55, 46, 48, 32, 116, 111, 111, 32, 109, 97, 110, 121, 32, 101, 114, 114, 111, 114, 115, 13, 10] [.int .i64 501, .str [], .sl none 1 [.str [53, 46, 53, 46, 52, 32, 110, 111, 116, 32, 115, 111]], .int .i64 421, .str [], .sl none 1 [.str [52, 46, 55, 46, 48, 32, 116, 111, 111, 32, 109, 97, 110, 121, 32, 101, 114, 114, 111, 114, 115]]] :=
 ⟨fun n => by kernel_rfl, fun n => by kernel_rfl, by decide, rfl⟩
theorem so_r555b : SentOk (r555 ++ r421) 2 [53, 53, 53, 32, 53, 46, 53, 46, 52, 32, 110, 111, 32, 115, 117, 99, 104, 32, 112, 97, 114, 97, 109, 101, 116, 101, 114, 13, 10, 52, 50, 49, 32, 52, 46, 55, 46, 48, 32, 116, 111, 111, 32, 109, 97, 110, 121, 32, 101, 114, 114, 111, 114, 115, 13, 10] [.int .i64 555, .str [], .sl none 1 [.str [53, 46, 53, 46, 52, 32, 110, 111, 32, 115, 117, 99, 104, 32, 112, 97, 114, 97, 109, 101, 116, 101, 114]], .int .i64 421, .str [], .sl none 1 [.str [52, 46, 55, 46, 48, 32, 116, 111, 111, 32, 109, 97, 110, 121, 32, 101, 114, 114, 111, 114, 115]]] :=
 ⟨fun n => by kernel_rfl, fun n => by kernel_rfl, by decide, rfl⟩
theorem so_r503b : SentOk (r503 ++ r421) 2 [53, 48, 51, 32, 53, 46, 53, 46, 49, 32, 110, 111, 116, 32, 110, 111, 119, 13, 10, 52, 50, 49, 32, 52, 46, 55, 46, 48, 32, 116, 111, 111, 32, 109, 97, 110, 121, 32, 101, 114, 114, 111, 114, 115, 13, 10] [.int .i64 503, .str [], .sl none 1 [.str [53, 46, 53, 46, 49, 32, 110, 111, 116, 32, 110, 111, 119]], .int .i64 421, .str [], .sl none 1 [.str [52, 46, 55, 46, 48, 32, 116, 111, 111, 32, 109, 97, 110, 121, 32, 101, 114, 114, 111, 114, 115]]] :=
 ⟨fun n => by kernel_rfl, fun n => by kernel_rfl, by decide, rfl⟩
theorem so_a250 : SentOk (ansL 250) 1 [50, 53, 48, 32, 115, 111, 13, 10] [.int .i64 250, .str [], .sl none 1 [.str [115, 111]]] :=
 ⟨fun n => by kernel_rfl, fun n => by kernel_rfl, by decide, rfl⟩
theorem so_a550 : SentOk (ansL 550) 1 [53, 53, 48, 32, 115, 111, 13, 10] [.int .i64 550, .str [], .sl none 1 [.str [115, 111]]] :=
 ⟨fun n => by kernel_rfl, fun n => by kernel_rfl, by decide, rfl⟩
theorem sent_rep : ∀ L ∈ Reps, ∃ s r, SentOk L 1 s r := by
 simp only [Reps, List.forall_mem_cons]
 exact ⟨⟨_, _, so_r500⟩, ⟨_, _, so_r501⟩, ⟨_, _, so_r555⟩, ⟨_, _, so_r503⟩, ⟨_, _, so_rHelo⟩, ⟨_, _, so_rEhlo⟩, ⟨_, _, so_r552⟩, ⟨_, _, so_rMail⟩, ⟨_, _, so_r452⟩, ⟨_, _, so_rOk⟩, ⟨_, _, so_r252⟩, ⟨_, _, so_r214⟩, ⟨_, _, so_r221⟩, fun L h => by cases h⟩
theorem sent_bad : ∀ L ∈ Bads, ∃ s r, SentOk (L ++ r421) 2 s r ∧ code2 r = [.int .i64 421] := by
 simp only [Bads, List.forall_mem_cons]
 exact ⟨⟨_, _, so_r500b, rfl⟩, ⟨_, _, so_r501b, rfl⟩, ⟨_, _, so_r555b, rfl⟩, ⟨_, _, so_r503b, rfl⟩, fun L h => by cases h⟩
theorem all_nil (n : Nat) : acall AXE AXF (n + 60) 15 [.one (.str []), .one (.bool false)] [] = some (.tup [.one (.sl (some ⟨4, 0, 39⟩) 3 []), .one (.int .i64 0)], []) := by kernel_rfl
theorem sent_nil (n : Nat) : acall AXE AXF (n + 60) 28 [.one (.sl none 3 [])] [] = some (.one (.sl (some ⟨2, 0, 5⟩) 1 []), []) := by kernel_rfl
theorem good_250 (n : Nat) : acall AXE AXF (n + 60) 31 [.one (.sl none 3 (ansL 250)), .one (.clo 32 0 [])] [] = some (.one (.bool false), []) := by kernel_rfl
theorem good_550 (n : Nat) : acall AXE AXF (n + 60) 31 [.one (.sl none 3 (ansL 550)), .one (.clo 32 0 [])] [] = some (.one (.bool false), []) := by kernel_rfl
def badB (c : Int) : Bool := (c == 500) || ((c == 501) || ((c == 503) || (c == 555)))
theorem isBad_at (n : Nat) (c : Int) : acall AXE AXF (n + 1) 49 [.one (.int .i64 c)] [] = some (.one (.bool (badB c)), []) := by
 rw [f49_eq, f49_L]
 unfold badB
 cases (c == (500 : Int)) with
 | true => rfl
 | false =>
  cases (c == (501 : Int)) with
  | true => rfl
  | false =>
   cases (c == (503 : Int)) with
   | true => rfl
   | false => rfl
theorem rep_shape : ∀ L ∈ Reps, ∃ c e ls, L = [.int .i64 c, .str e, .sl none 1 ls] ∧ (badB c = true → L ∈ Bads) := by
 simp only [Reps, List.forall_mem_cons]
 refine ⟨⟨_, _, _, rfl, fun _ => by simp [Bads]⟩, ⟨_, _, _, rfl, fun _ => by simp [Bads]⟩, ⟨_, _, _, rfl, fun _ => by simp [Bads]⟩, ⟨_, _, _, rfl, fun _ => by simp [Bads]⟩, ⟨_, _, _, rfl, fun h => by cases h⟩, ⟨_, _, _, rfl, fun h => by cases h⟩, ⟨_, _, _, rfl, fun h => by cases h⟩, ⟨_, _, _, rfl, fun h => by cases h⟩, ⟨_, _, _, rfl, fun h => by cases h⟩, ⟨_, _, _, rfl, fun h => by cases h⟩, ⟨_, _, _, rfl, fun h => by cases h⟩, ⟨_, _, _, rfl, fun h => by cases h⟩, ⟨_, _, _, rfl, fun h => by cases h⟩, fun L h => by cases h⟩
end AX
end Go.Proofs.YtnkppakkeobegaaGreatDoor
