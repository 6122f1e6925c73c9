/-
  RulesEnds.
-/
import Derived.Test.YteahkgbnfbjkhaaGreatDoorRe05
import Derived.Test.YteahkgbnfbjkhaaGreatDoorRe06
import Derived.Test.YteahkgbnfbjkhaaGreatDoorRe52
set_option maxRecDepth 20000
set_option linter.unusedVariables false
set_option linter.unusedSimpArgs false
set_option linter.unusedSectionVars false
namespace Go.Proofs.YteahkgbnfbjkhaaGreatDoor
open Go.ChangeMaps Go.ChangeShapes Go.WideShapes Go.ChangeAt Go.RowKit
theorem ends_walk {w : World} {host : ByteArray} {j : JV} {q : JP} {pz : Option Addr} {zs : List Int} {cz : Nat} {ex tg e : Int} (hj : JobAt w j q) (hz : IntsAt w pz zs) (hzl : zs.length ≤ 9223372036854775807) (hw : LibAt w) :
 Calls Tryz.prog 3 #[.string host, .agg #[.slice pz zs.length cz, .int .i64 ex], .agg (j.cells q), .int .i64 tg, .int .i64 e] w fun r w' => r = .returned (.bool true) ∧ Below w.heap.size w w' := by
 cases hl : lightB j
 · exact ends_dark hj hl
 · by_cases ha : Asked27 host j zs ex tg e
   · obtain ⟨k, rfl⟩ := Int.eq_ofNat_of_zero_le ha.2.2.1
     by_cases t1 : zs.getD 0 0 < ex / 100
     · exact ends_first hj hl hz hzl hw ha t1
     · by_cases t2 : zs.getD (zs.length - 1) 0 < ex / 100
       · exact ends_last hj hl hz hzl hw ha t1 t2
       · exact ends_main hj hl hz hzl hw ha t1 t2
   · exact ends_not hj hl hz hzl ha
theorem rulesEnds_law : LawWalk4 3 Tryz.f3 := by
 intro H enc W base args ds ps hA hval hlib
 rw [Tryz.params3] at hA hval
 obtain ⟨v0, vs0, d0, ds0, p0, q0, hargs, rfl, rfl, h0, r0⟩ := trodAll_cons hA
 obtain ⟨v1, vs1, d1, ds1, p1, q1, rfl, rfl, rfl, h1, r1⟩ := trodAll_cons r0
 obtain ⟨v2, vs2, d2, ds2, p2, q2, rfl, rfl, rfl, h2, r2⟩ := trodAll_cons r1
 obtain ⟨v3, vs3, d3, ds3, p3, q3, rfl, rfl, rfl, h3, r3⟩ := trodAll_cons r2
 obtain ⟨v4, vs4, d4, ds4, p4, q4, rfl, rfl, rfl, h4, r4⟩ := trodAll_cons r3
 obtain ⟨rfl, rfl, rfl⟩ := trodAll_nil r4
 obtain rfl : args = #[v0, v1, v2, v3, v4] := by cases args; simp_all
 obtain ⟨host, rfl, -, -, -⟩ := open_string Tryz.underlying9 (hval 0 _ _ rfl rfl) h0
 obtain ⟨pz, zs, cz, ex, rfl, hz, hzl⟩ := open_retry27 (hval 1 _ _ rfl rfl) h1
 obtain ⟨j, q, rfl, hj⟩ := open_job (hval 2 _ _ rfl rfl) h2
 obtain ⟨n3, rfl, -, -, w3⟩ := open_int Tryz.underlying3 (hval 3 _ _ rfl rfl) h3
 obtain ⟨n4, rfl, -, -, w4⟩ := open_int Tryz.underlying32 (hval 4 _ _ rfl rfl) h4
 exact ends_walk hj hz (by unfold maxLen at hzl; omega) hlib
theorem rulesEnds_row : Rows.RulesEndsSaid := rulesEnds_row_of rulesEnds_law
theorem rulesEnds_holds : Rows.RulesEndsCardSaid := rulesEnds_holds_of rulesEnds_row
#print axioms rulesEnds_holds
end Go.Proofs.YteahkgbnfbjkhaaGreatDoor
