/-
  FitG, CmTexts, CxOk.
-/
import Derived.Test.YtfbicbgdfcbhpaaGreatDoorCt08
import Derived.Test.YtfbicbgdfcbhpaaGreatDoorCt43
import Derived.Test.YtfbicbgdfcbhpaaGreatDoorCt35
import Derived.Test.YtfbicbgdfcbhpaaGreatDoorCt07
set_option maxRecDepth 20000
set_option linter.unusedVariables false
set_option linter.unusedSimpArgs false
set_option linter.unusedSectionVars false
namespace Go.Proofs.YtfbicbgdfcbhpaaGreatDoor
open Go.ChangeMaps Go.ChangeShapes Go.WideShapes Go.ChangeAt Go.RowKit
namespace AX
theorem fit_int {T : List (Nat × TI)} {c : Cell} (h : FitC T (.int .i64) c) : ∃ v : Int, c = .int .i64 v ∧ -9223372036854775808 ≤ v ∧ v ≤ 9223372036854775807 := by
 cases h with
 | int k n hn =>
  have h5 : IntKind.i64.min ≤ n ∧ n ≤ IntKind.i64.max := by simpa [Lit.wf] using hn
  have e1 : IntKind.i64.min = -9223372036854775808 := rfl
  have e2 : IntKind.i64.max = 9223372036854775807 := rfl
  exact ⟨n, rfl, by omega, by omega⟩
end AX
end Go.Proofs.YtfbicbgdfcbhpaaGreatDoor
set_option maxRecDepth 20000
set_option linter.unusedVariables false
set_option linter.unusedSimpArgs false
set_option linter.unusedSectionVars false
namespace Go.Proofs.YtfbicbgdfcbhpaaGreatDoor
open SC CM
namespace AX
theorem fit_cmd {T : List (Nat × TI)} {t : Nat} {fs : List (Nat × Nat × TypeId)} {x : AV} (ht : tyN T t = some (.struct [.int .i64, .str, .str, .str, .bool, .int .i64, .int .i64] fs)) (h : FitT T t x) :
 ∃ c : S_api_Cmd, x = .agg c.cells ∧ (-9223372036854775808 ≤ c.fSize ∧ c.fSize ≤ 9223372036854775807) ∧ -9223372036854775808 ≤ c.fBody ∧ c.fBody ≤ 9223372036854775807 := by
 obtain ⟨ti, h1, h2⟩ := h
 rw [ht] at h1
 cases h1
 obtain ⟨cs, rfl, hl, hc⟩ := h2
 match cs, hl with
 | [c0, c1, c2, c3, c4, c5, c6], _ =>
  obtain ⟨v0, rfl, _, _⟩ := fit_int (hc 0 _ c0 rfl rfl)
  have q1 := hc 1 _ c1 rfl rfl
  have q2 := hc 2 _ c2 rfl rfl
  have q3 := hc 3 _ c3 rfl rfl
  have q4 := hc 4 _ c4 rfl rfl
  obtain ⟨v5, rfl, a5⟩ := fit_int (hc 5 _ c5 rfl rfl)
  obtain ⟨v6, rfl, a6⟩ := fit_int (hc 6 _ c6 rfl rfl)
  cases q1 with
  | str l1 _ =>
   cases q2 with
   | str l2 _ =>
    cases q3 with
    | str l3 _ =>
     cases q4 with
     | bool b => exact ⟨⟨v0, l1, l2, l3, b, v5, v6⟩, rfl, a5, a6⟩
structure TextsCalls (call : CallF) : Prop where
 awake : call 13 [] [] = some (.one (.bool true), [])
 parse : ∀ l : List UInt8, call 14 [.one (.str l)] [] = lineV (parseQ l)
 text : ∀ c : S_api_Cmd, Small c → call 18 [.agg c.cells] [] = textV (textQ c)
 rtext : ∀ c : S_api_Cmd, Small c → call 19 [.agg c.cells] [] = textV (textQ c)
theorem texts_core {call : CallF} {n : Nat} (hC : TextsCalls call) (c : S_api_Cmd) (hs : -9223372036854775808 ≤ c.fSize ∧ c.fSize ≤ 9223372036854775807) (hb : -9223372036854775808 ≤ c.fBody ∧ c.fBody ≤ 9223372036854775807) : f5_L call n c = some (.one (.bool true), []) := by
 rw [f5_L, f5_T, callK_some hC.awake, oB_one, Bool.not_true, cond_false]
 by_cases h1 : 600 < c.fArg.length
 · rw [decide_eq_true (by omega)]; rfl
 · rw [decide_eq_false (by omega), cond_false]
   by_cases h2 : 100 < c.fPath_Local.length
   · rw [decide_eq_true (by omega)]; rfl
   · rw [decide_eq_false (by omega), cond_false]
     by_cases h3 : 100 < c.fPath_Domain.length
     · rw [decide_eq_true (by omega)]; rfl
     · have hc : Small c := ⟨by omega, by omega, by omega, hs.1, hs.2, hb.1, hb.2⟩
       have t1 := hC.text c hc
       have t2 := hC.rtext c hc
       have hok := @textQ_ok c
       generalize textQ c = x at t1 t2 hok
       obtain ⟨s, e⟩ := x
       unfold textV at t1 t2
       rw [decide_eq_false (by omega), f5_L4, f5_T4, cond_false, callK_some t1, castTup_tup, zS_cons, zI_cons, nilK_nil, callK_some t2, castTup_tup, zS_cons, zI_cons, nilK_nil, beq_self_eq_true, Bool.not_true, cond_false,
        show ((((s, e) : List UInt8 × Int).2) != (((s, e) : List UInt8 × Int).2)) = false by simp, f5_L9, f5_T9, cond_false]
       by_cases he : e = 0
       · subst he
         have hp := hC.parse s
         rw [show parseQ s = (c, 0) from hok rfl] at hp
         unfold lineV at hp
         rw [show ((((s, (0 : Int)) : List UInt8 × Int).2) != 0) = false by rfl, cond_false, callK_some hp, castTup_tup, consK_cons, aggV_agg, takeS_api_Cmd_cells_nil, nilK_nil, zI_cons, nilK_nil]
         simp only [beq_self_eq_true, Bool.and_true, cond_true]
         rfl
       · rw [show ((((s, e) : List UInt8 × Int).2) != 0) = true by simpa using he, cond_true]
theorem Text_at (n : Nat) (c : S_api_Cmd) (hc : Small c) (hn : 6000 ≤ n) : acall AXE AXF (n + 1) 18 [.agg c.cells] [] = textV (textQ c) := by
 rw [f18_eq]
 obtain ⟨k, rfl⟩ : ∃ k, n = k + 1 := ⟨n - 1, by omega⟩
 exact text_core (fun l => Parse_at k l (by omega)) (words_at k) c hc
theorem rText_at (n : Nat) (c : S_api_Cmd) (hc : Small c) (hn : 6000 ≤ n) (hn2 : n ≤ 1000000) : acall AXE AXF (n + 1) 19 [.agg c.cells] [] = textV (textQ c) := by
 rw [f19_eq]
 obtain ⟨k, rfl⟩ : ∃ k, n = k + 1 := ⟨n - 1, by omega⟩
 exact rtext_core (fun l => rParse_at k l (by omega)) (fun v hv => cdigits_at k v hv (by omega) (by omega)) (rverb_at k) c hc
theorem texts_law (c : S_api_Cmd) (hs : -9223372036854775808 ≤ c.fSize ∧ c.fSize ≤ 9223372036854775807) (hb : -9223372036854775808 ≤ c.fBody ∧ c.fBody ≤ 9223372036854775807) : acall AXE AXF 10001 5 [.agg c.cells] [] = some (.one (.bool true), []) := by
 rw [show (10001 : Nat) = 10000 + 1 from rfl, f5_eq]
 exact texts_core ⟨awake_at 9999 (by omega), fun l => Parse_at 9999 l (by omega), fun c hc => Text_at 9999 c hc (by omega), fun c hc => rText_at 9999 c hc (by omega) (by omega)⟩ c hs hb
end AX
end Go.Proofs.YtfbicbgdfcbhpaaGreatDoor
set_option maxRecDepth 20000
set_option linter.unusedVariables false
set_option linter.unusedSimpArgs false
set_option linter.unusedSectionVars false
namespace Go.Proofs.YtfbicbgdfcbhpaaGreatDoor
namespace AX
theorem f4_ok [Inv] : FunOk Tryz.prog 4 ⟨⟨f4_b, f4_r, f4_h⟩, f4_d, 35, f4_bx⟩ :=
 ⟨⟨Tryz.f4, by kernel_rfl, by kernel_rfl, by kernel_rfl, by kernel_rfl, by kernel_rfl, of_decide_eq_true (by kernel_rfl)⟩⟩
theorem f5_ok [Inv] : FunOk Tryz.prog 5 ⟨⟨f5_b, f5_r, f5_h⟩, f5_d, 61, f5_bx⟩ :=
 ⟨⟨Tryz.f5, by kernel_rfl, by kernel_rfl, by kernel_rfl, by kernel_rfl, by kernel_rfl, of_decide_eq_true (by kernel_rfl)⟩⟩
theorem f13_ok [Inv] : FunOk Tryz.prog 13 ⟨⟨f13_b, f13_r, f13_h⟩, f13_d, 60, f13_bx⟩ :=
 ⟨⟨Tryz.f13, by kernel_rfl, by kernel_rfl, by kernel_rfl, by kernel_rfl, by kernel_rfl, of_decide_eq_true (by kernel_rfl)⟩⟩
theorem f14_ok [Inv] : FunOk Tryz.prog 14 ⟨⟨f14_b, f14_r, f14_h⟩, f14_d, 73, f14_bx⟩ :=
 ⟨⟨Tryz.f14, by kernel_rfl, by kernel_rfl, by kernel_rfl, by kernel_rfl, by kernel_rfl, of_decide_eq_true (by kernel_rfl)⟩⟩
theorem f15_ok [Inv] : FunOk Tryz.prog 15 ⟨⟨f15_b, f15_r, f15_h⟩, f15_d, 93, f15_bx⟩ :=
 ⟨⟨Tryz.f15, by kernel_rfl, by kernel_rfl, by kernel_rfl, by kernel_rfl, by kernel_rfl, of_decide_eq_true (by kernel_rfl)⟩⟩
theorem f16_ok [Inv] : FunOk Tryz.prog 16 ⟨⟨f16_b, f16_r, f16_h⟩, f16_d, 24, f16_bx⟩ :=
 ⟨⟨Tryz.f16, by kernel_rfl, by kernel_rfl, by kernel_rfl, by kernel_rfl, by kernel_rfl, of_decide_eq_true (by kernel_rfl)⟩⟩
theorem f17_ok [Inv] : FunOk Tryz.prog 17 ⟨⟨f17_b, f17_r, f17_h⟩, f17_d, 14, f17_bx⟩ :=
 ⟨⟨Tryz.f17, by kernel_rfl, by kernel_rfl, by kernel_rfl, by kernel_rfl, by kernel_rfl, of_decide_eq_true (by kernel_rfl)⟩⟩
theorem f18_ok [Inv] : FunOk Tryz.prog 18 ⟨⟨f18_b, f18_r, f18_h⟩, f18_d, 89, f18_bx⟩ :=
 ⟨⟨Tryz.f18, by kernel_rfl, by kernel_rfl, by kernel_rfl, by kernel_rfl, by kernel_rfl, of_decide_eq_true (by kernel_rfl)⟩⟩
theorem f19_ok [Inv] : FunOk Tryz.prog 19 ⟨⟨f19_b, f19_r, f19_h⟩, f19_d, 85, f19_bx⟩ :=
 ⟨⟨Tryz.f19, by kernel_rfl, by kernel_rfl, by kernel_rfl, by kernel_rfl, by kernel_rfl, of_decide_eq_true (by kernel_rfl)⟩⟩
theorem f33_ok [Inv] : FunOk Tryz.prog 33 ⟨⟨f33_b, f33_r, f33_h⟩, f33_d, 19, f33_bx⟩ :=
 ⟨⟨Tryz.f33, by kernel_rfl, by kernel_rfl, by kernel_rfl, by kernel_rfl, by kernel_rfl, of_decide_eq_true (by kernel_rfl)⟩⟩
theorem f34_ok [Inv] : FunOk Tryz.prog 34 ⟨⟨f34_b, f34_r, f34_h⟩, f34_d, 4, f34_bx⟩ :=
 ⟨⟨Tryz.f34, by kernel_rfl, by kernel_rfl, by kernel_rfl, by kernel_rfl, by kernel_rfl, of_decide_eq_true (by kernel_rfl)⟩⟩
theorem f36_ok [Inv] : FunOk Tryz.prog 36 ⟨⟨f36_b, f36_r, f36_h⟩, f36_d, 26, f36_bx⟩ :=
 ⟨⟨Tryz.f36, by kernel_rfl, by kernel_rfl, by kernel_rfl, by kernel_rfl, by kernel_rfl, of_decide_eq_true (by kernel_rfl)⟩⟩
theorem f37_ok [Inv] : FunOk Tryz.prog 37 ⟨⟨f37_b, f37_r, f37_h⟩, f37_d, 62, f37_bx⟩ :=
 ⟨⟨Tryz.f37, by kernel_rfl, by kernel_rfl, by kernel_rfl, by kernel_rfl, by kernel_rfl, of_decide_eq_true (by kernel_rfl)⟩⟩
theorem f38_ok [Inv] : FunOk Tryz.prog 38 ⟨⟨f38_b, f38_r, f38_h⟩, f38_d, 21, f38_bx⟩ :=
 ⟨⟨Tryz.f38, by kernel_rfl, by kernel_rfl, by kernel_rfl, by kernel_rfl, by kernel_rfl, of_decide_eq_true (by kernel_rfl)⟩⟩
theorem f40_ok [Inv] : FunOk Tryz.prog 40 ⟨⟨f40_b, f40_r, f40_h⟩, f40_d, 49, f40_bx⟩ :=
 ⟨⟨Tryz.f40, by kernel_rfl, by kernel_rfl, by kernel_rfl, by kernel_rfl, by kernel_rfl, of_decide_eq_true (by kernel_rfl)⟩⟩
theorem f41_ok [Inv] : FunOk Tryz.prog 41 ⟨⟨f41_b, f41_r, f41_h⟩, f41_d, 57, f41_bx⟩ :=
 ⟨⟨Tryz.f41, by kernel_rfl, by kernel_rfl, by kernel_rfl, by kernel_rfl, by kernel_rfl, of_decide_eq_true (by kernel_rfl)⟩⟩
theorem f42_ok [Inv] : FunOk Tryz.prog 42 ⟨⟨f42_b, f42_r, f42_h⟩, f42_d, 29, f42_bx⟩ :=
 ⟨⟨Tryz.f42, by kernel_rfl, by kernel_rfl, by kernel_rfl, by kernel_rfl, by kernel_rfl, of_decide_eq_true (by kernel_rfl)⟩⟩
theorem f43_ok [Inv] : FunOk Tryz.prog 43 ⟨⟨f43_b, f43_r, f43_h⟩, f43_d, 2, f43_bx⟩ :=
 ⟨⟨Tryz.f43, by kernel_rfl, by kernel_rfl, by kernel_rfl, by kernel_rfl, by kernel_rfl, of_decide_eq_true (by kernel_rfl)⟩⟩
theorem f44_ok [Inv] : FunOk Tryz.prog 44 ⟨⟨f44_b, f44_r, f44_h⟩, f44_d, 9, f44_bx⟩ :=
 ⟨⟨Tryz.f44, by kernel_rfl, by kernel_rfl, by kernel_rfl, by kernel_rfl, by kernel_rfl, of_decide_eq_true (by kernel_rfl)⟩⟩
theorem f45_ok [Inv] : FunOk Tryz.prog 45 ⟨⟨f45_b, f45_r, f45_h⟩, f45_d, 29, f45_bx⟩ :=
 ⟨⟨Tryz.f45, by kernel_rfl, by kernel_rfl, by kernel_rfl, by kernel_rfl, by kernel_rfl, of_decide_eq_true (by kernel_rfl)⟩⟩
theorem f49_ok [Inv] : FunOk Tryz.prog 49 ⟨⟨f49_b, f49_r, f49_h⟩, f49_d, 25, f49_bx⟩ :=
 ⟨⟨Tryz.f49, by kernel_rfl, by kernel_rfl, by kernel_rfl, by kernel_rfl, by kernel_rfl, of_decide_eq_true (by kernel_rfl)⟩⟩
theorem f72_ok [Inv] : FunOk Tryz.prog 72 ⟨⟨f72_b, f72_r, f72_h⟩, f72_d, 61, f72_bx⟩ :=
 ⟨⟨Tryz.f72, by kernel_rfl, by kernel_rfl, by kernel_rfl, by kernel_rfl, by kernel_rfl, of_decide_eq_true (by kernel_rfl)⟩⟩
theorem f75_ok [Inv] : FunOk Tryz.prog 75 ⟨⟨f75_b, f75_r, f75_h⟩, f75_d, 109, f75_bx⟩ :=
 ⟨⟨Tryz.f75, by kernel_rfl, by kernel_rfl, by kernel_rfl, by kernel_rfl, by kernel_rfl, of_decide_eq_true (by kernel_rfl)⟩⟩
theorem f99_ok [Inv] : FunOk Tryz.prog 99 ⟨⟨f99_b, f99_r, f99_h⟩, f99_d, 33, f99_bx⟩ :=
 ⟨⟨Tryz.f99, by kernel_rfl, by kernel_rfl, by kernel_rfl, by kernel_rfl, by kernel_rfl, of_decide_eq_true (by kernel_rfl)⟩⟩
theorem f100_ok [Inv] : FunOk Tryz.prog 100 ⟨⟨f100_b, f100_r, f100_h⟩, f100_d, 10, f100_bx⟩ :=
 ⟨⟨Tryz.f100, by kernel_rfl, by kernel_rfl, by kernel_rfl, by kernel_rfl, by kernel_rfl, of_decide_eq_true (by kernel_rfl)⟩⟩
theorem f101_ok [Inv] : FunOk Tryz.prog 101 ⟨⟨f101_b, f101_r, f101_h⟩, f101_d, 49, f101_bx⟩ :=
 ⟨⟨Tryz.f101, by kernel_rfl, by kernel_rfl, by kernel_rfl, by kernel_rfl, by kernel_rfl, of_decide_eq_true (by kernel_rfl)⟩⟩
theorem f106_ok [Inv] : FunOk Tryz.prog 106 ⟨⟨f106_b, f106_r, f106_h⟩, f106_d, 37, f106_bx⟩ :=
 ⟨⟨Tryz.f106, by kernel_rfl, by kernel_rfl, by kernel_rfl, by kernel_rfl, by kernel_rfl, of_decide_eq_true (by kernel_rfl)⟩⟩
theorem f107_ok [Inv] : FunOk Tryz.prog 107 ⟨⟨f107_b, f107_r, f107_h⟩, f107_d, 40, f107_bx⟩ :=
 ⟨⟨Tryz.f107, by kernel_rfl, by kernel_rfl, by kernel_rfl, by kernel_rfl, by kernel_rfl, of_decide_eq_true (by kernel_rfl)⟩⟩
theorem AXF_ok [Inv] : ∀ f x, AXF f = some x → FunOk Tryz.prog f x := by
 unfold AXF
 exact funOk_cons f4_ok (funOk_cons f5_ok (funOk_cons f13_ok (funOk_cons f14_ok (funOk_cons f15_ok (funOk_cons f16_ok (funOk_cons f17_ok (funOk_cons f18_ok (funOk_cons f19_ok (funOk_cons f33_ok (funOk_cons f34_ok (funOk_cons f36_ok (funOk_cons f37_ok (funOk_cons f38_ok (funOk_cons f40_ok (funOk_cons f41_ok (funOk_cons f42_ok (funOk_cons f43_ok (funOk_cons f44_ok (funOk_cons f45_ok (funOk_cons f49_ok (funOk_cons f72_ok (funOk_cons f75_ok (funOk_cons f99_ok (funOk_cons f100_ok (funOk_cons f101_ok (funOk_cons f106_ok (funOk_cons f107_ok (funOk_nil))))))))))))))))))))))))))))
theorem AXE_T : tysOk Tryz.prog AXE.T = true := by kernel_rfl
theorem AXE_eqs : ∀ t ∈ AXE.eqs, (Tryz.prog).stoodInHeld t = false ∧ (Tryz.prog).eqGuardType (Tryz.prog).depth t = false ∧ ∀ f ∈ ((Tryz.prog).fieldsOf t).toList, f.name ≠ "_" := by
 intro t ht
 have ht : t ∈ ([38, 40] : List Nat) := ht
 simp only [List.mem_cons, List.not_mem_nil, or_false] at ht
 rcases ht with rfl | rfl <;> exact ⟨by kernel_rfl, by kernel_rfl, of_decide_eq_true (by kernel_rfl)⟩
theorem AXE_ok : EnvOk Tryz.prog AXE := ⟨AXE_T, AXE_eqs, primOk_cons pCut_ok (primOk_cons pADomain_ok (primOk_cons pRDomain_ok (primOk_cons pAPath_ok (primOk_cons pItoa_ok (primOk_cons pRPath_ok (primOk_cons pSplit_ok (primOk_cons pContains_ok (primOk_cons pARead_ok (primOk_cons pRRead_ok (primOk_cons pParseU_ok (primOk_nil))))))))))), primHOk_nil, primSOk_nil⟩
end AX
end Go.Proofs.YtfbicbgdfcbhpaaGreatDoor
