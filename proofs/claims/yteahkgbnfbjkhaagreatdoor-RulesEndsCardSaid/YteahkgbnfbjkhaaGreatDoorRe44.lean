/-
  RulesRep.
-/
import Derived.Test.YteahkgbnfbjkhaaGreatDoorRe38
import Derived.Test.YteahkgbnfbjkhaaGreatDoorRe41
import Derived.Test.YteahkgbnfbjkhaaGreatDoorRe11
import Derived.Test.YteahkgbnfbjkhaaGreatDoorRe42
set_option maxRecDepth 20000
set_option linter.unusedVariables false
set_option linter.unusedSimpArgs false
set_option linter.unusedSectionVars false
namespace Go.Proofs.YteahkgbnfbjkhaaGreatDoor
open Go.ChangeShapes Go.WideShapes Go.ChangeAt Go.RowKit
def rep27 (host : ByteArray) (j : JV) (t : TV) (now e : Int) (head : List UInt8) : Rep11 := ⟨host, j.fL, j.fD, t.L, t.D, whyS e, whyR e, ⟨(Lib.itoa j.id).toArray⟩, j.arr, now, head⟩
def headQ (host : ByteArray) (j : JV) (t : TV) (now e : Int) : List UInt8 := if dgoodB (rep27 host j t now e (linesQ j.body)) = true then linesQ j.body else []
noncomputable def repQ (host : ByteArray) (j : JV) (t : TV) (now e : Int) : Option (List UInt8) := outQ (rep27 host j t now e (headQ host j t now e))
structure Fits27 (host : ByteArray) (j : JV) (t : TV) : Prop where
 h1 : host.size ≤ 100
 h2 : j.fL.size ≤ 100
 h3 : j.fD.size ≤ 100
 h4 : t.L.size ≤ 100
 h5 : t.D.size ≤ 100
 h6 : -9223372036854775808 ≤ j.id ∧ j.id ≤ 9223372036854775807
 h7 : j.body.length ≤ 1000
theorem strip_sub : ∀ (l : List UInt8) (c : UInt8), c ∈ stripC l → c ∈ l
 | [], _, h => by rw [stripC] at h; exact h
 | [_], _, h => by rw [stripC] at h; exact h
 | a :: d :: r, c, h => by
  rw [stripC] at h
  split at h
  · exact List.mem_cons_of_mem _ (List.mem_cons_of_mem _ (strip_sub r c h))
  · rcases List.mem_cons.1 h with rfl | h
    · exact List.mem_cons_self ..
    · exact List.mem_cons_of_mem _ (strip_sub (d :: r) c h)
theorem rep27_small {host : ByteArray} {j : JV} {t : TV} {now e : Int} {head : List UInt8} (h : Fits27 host j t) (hl : head.length ≤ 1000) (ha : ∀ c ∈ head, c.toNat < 128) : (rep27 host j t now e head).Small := by
 obtain ⟨h1, h2, h3, h4, h5, ⟨h6, h6'⟩, h7⟩ := h
 have hi := Lib.itoa_length_le j.id h6 h6'
 have hs := whyS_len e
 have hr := whyR_size e
 refine ⟨by show host.size ≤ _; omega, by show j.fL.size ≤ _; omega, by show j.fD.size ≤ _; omega, by show t.L.size ≤ _; omega, by show t.D.size ≤ _; omega, by show (whyS e).length ≤ _; omega, by show (whyR e).size ≤ _; omega, ?_, by show head.length ≤ _; omega, fun _ c hc => ha c (strip_sub head c hc)⟩
 show (Lib.itoa j.id).toArray.size ≤ _
 rw [List.size_toArray]; omega
theorem rep27_tiny {host : ByteArray} {j : JV} {t : TV} {now e : Int} {head : List UInt8} (h : Fits27 host j t) (hl : head.length ≤ 1000) : (rep27 host j t now e head).Tiny := by
 obtain ⟨h1, h2, h3, h4, h5, ⟨h6, h6'⟩, h7⟩ := h
 have hi := Lib.itoa_length_le j.id h6 h6'
 have hs := whyS_len e
 have hr := whyR_size e
 refine ⟨by show host.size ≤ _; omega, by show j.fL.size ≤ _; omega, by show j.fD.size ≤ _; omega, by show t.L.size ≤ _; omega, by show t.D.size ≤ _; omega, by show (whyS e).length ≤ _; omega, by show (whyR e).size ≤ _; omega, ?_, by show head.length ≤ _; omega⟩
 show (Lib.itoa j.id).toArray.size ≤ _
 rw [List.size_toArray]; omega
theorem rep27_cells (host : ByteArray) (j : JV) (t : TV) (now e : Int) (head : List UInt8) (p : Option Addr) (c : Nat) : (rep27 host j t now e head).cells p c = #[.string host, .string j.fL, .string j.fD, .string t.L, .string t.D, .string ⟨(whyS e).toArray⟩, .string (whyR e), .string ⟨(Lib.itoa j.id).toArray⟩, .int .i64 j.arr, .int .i64 now, .slice p head.length c] := rfl
theorem rep27_good {w W : World} {host : ByteArray} {j : JV} {t : TV} {now e : Int} {p : Option Addr} {c : Nat} (hf : Fits27 host j t) (hlen : (linesQ j.body).length ≤ 1000) (hB : BytesAt W p c (linesQ j.body)) (hw : LibAt W) :
 Calls Tryz.prog 21 #[.agg #[.string host, .string j.fL, .string j.fD, .string t.L, .string t.D, .string ⟨(whyS e).toArray⟩, .string (whyR e), .string ⟨(Lib.itoa j.id).toArray⟩, .int .i64 j.arr, .int .i64 now, .slice p (linesQ j.body).length c]] W fun r w' => r = .returned (.bool (dgoodB (rep27 host j t now e (linesQ j.body)))) ∧ Below W.heap.size W w' := by
 have h := dgood_calls (rep27 host j t now e (linesQ j.body)) (rep27_small hf hlen (linesQ_ascii j.body)) hB hw
 rw [rep27_cells] at h
 exact h
theorem rep27_build {W : World} {host : ByteArray} {j : JV} {t : TV} {now e : Int} {p : Option Addr} {c : Nat} {hd : List UInt8} (hf : Fits27 host j t) (hlen : hd.length ≤ 1000) (hasc : ∀ c ∈ hd, c.toNat < 128) (hB : BytesAt W p c hd) (hw : LibAt W) :
 Calls Tryz.prog 20 #[.agg #[.string host, .string j.fL, .string j.fD, .string t.L, .string t.D, .string ⟨(whyS e).toArray⟩, .string (whyR e), .string ⟨(Lib.itoa j.id).toArray⟩, .int .i64 j.arr, .int .i64 now, .slice p hd.length c]] W (OutPost (outQ (rep27 host j t now e hd)) W) := by
 have h := dbuildAny_calls (rep27 host j t now e hd) (rep27_small hf hlen hasc) (rep27_tiny hf hlen) hB hw
 rw [rep27_cells] at h
 exact h
set_option maxHeartbeats 2000000 in
theorem report_calls {w : World} (host : ByteArray) (j : JV) (q : JP) (k : Nat) (now e : Int) (hk : k < j.tos.length) (hn : j.tos.length ≤ 1000) (h : JobAt w j q) (hf : Fits27 host j (j.tos[k]'hk)) (hw : LibAt w) :
 Calls Tryz.prog 36 #[.string host, .agg (j.cells q), .int .i64 k, .int .i64 now, .int .i64 e] w (RepPost (repQ host j (j.tos[k]'hk) now e) w) := by
 obtain ⟨b, off, cs, hp4, hb, hcl, hc, rfl, -, -⟩ := h.tos k hk
 have e1 := hc 1 (by omega)
 have e2 := hc 2 (by omega)
 clear hc
 simp at e1 e2
 have hb7 := hf.h7
 have hlen := Nat.le_trans (linesQ_len j.body) hb7
 generalize (j.tos[k]'hk) = t at *
 have hq : repQ host j t now e = bif dgoodB (rep27 host j t now e (linesQ j.body)) then outQ (rep27 host j t now e (linesQ j.body)) else outQ (rep27 host j t now e []) := by
  unfold repQ headQ
  cases dgoodB (rep27 host j t now e (linesQ j.body)) <;> rfl
 rw [hq]
 have kl := fun W (hW : Below w.heap.size w W) => hlines_at (h.body.below hW) (by omega) (hw.below hW).max
 have ki := fun W (hW : Below w.heap.size w W) => itoa_calls j.id hf.h6.1 hf.h6.2 (hw.below hW)
 have kw := fun W => why_calls e W
 have kg := fun W p c (hW : Below w.heap.size w W) hB => rep27_good (W := W) (p := p) (c := c) (now := now) (e := e) (w := w) hf hlen hB (hw.below hW)
 have kb1 := fun W p c (hW : Below w.heap.size w W) hB => rep27_build (W := W) (p := p) (c := c) (now := now) (e := e) hf hlen (linesQ_ascii j.body) hB (hw.below hW)
 have kb2 := fun W (hW : Below w.heap.size w W) => rep27_build (W := W) (now := now) (e := e) hf (by decide) (fun c hc => absurd hc (by simp)) (nil_at W) (hw.below hW)
 exact report_walk hp4 hb hk hn e1 e2 hlen kw ki kl kg kb1 kb2
end Go.Proofs.YteahkgbnfbjkhaaGreatDoor
