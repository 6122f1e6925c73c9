/-
  DsnBuild, DsnBuildF.
-/
import Derived.Test.YteahkgbnfbjkhaaGreatDoorRe31
import Derived.Test.YteahkgbnfbjkhaaGreatDoorRe34
set_option maxRecDepth 20000
set_option linter.unusedVariables false
set_option linter.unusedSimpArgs false
set_option linter.unusedSectionVars false
namespace Go.Proofs.YteahkgbnfbjkhaaGreatDoor
open Go.ChangeShapes Go.WideShapes Go.ChangeAt Go.RowKit
section
variable {B : Nat} {out : List UInt8} {X : World}
theorem line0_calls (h : BufAt B out X) (ho : out.length ≤ 1000000000) :
 Calls Tryz.prog 55 #[.slice none 0 0, .pointer (some ⟨B, 0, none⟩)] X fun e w' => e = .returned (.tuple #[]) ∧ BufAt B (out ++ [13, 10]) w' ∧ Below B X w' := by
 have hB : B < X.heap.size := h.lt
 have hj := Lib.hid (fun W => Tryz.strings_Join_none none 0 ⟨#[]⟩ W)
 have hw := fun (W' : World) (hW : Below X.heap.size X W') => bufWrite (buffer_below h hW) ((⟨#[]⟩ : ByteArray) ++ ⟨#[13, 10]⟩) (by show out.length + 2 ≤ _; omega)
 have e : ((⟨#[]⟩ : ByteArray) ++ ⟨#[13, 10]⟩).data.toList = [13, 10] := rfl
 rw [e] at hw
 replace hw := Lib.hid hw
 go_enter Tryz.func55, Tryz.ntmps55
 go_wp2_with first
  | (go_at_call 57; ((with_reducible refine (hj.out _).mono ?_); rintro r w1 ⟨rfl, hw1⟩; subst hw1))
  | (go_at_call 56; ((refine (hw.out _ (Below.refl _ _)).mono ?_); rintro r w2 ⟨⟨m, rfl⟩, h2, h3⟩))
 go_end0
 exact ⟨rfl, h2, h3⟩
theorem line1_calls {g : Nat} (hgX : g = X.heap.size) (h : BufAt B out X) (a : ByteArray) (ha : a.size ≤ 100000000) (ho : out.length ≤ 1000000000) :
 Calls Tryz.prog 55 #[.slice (some ⟨g, 0, none⟩) 1 1, .pointer (some ⟨B, 0, none⟩)] (X.alloc (.cells #[.string a] 9)) fun e w' => e = .returned (.tuple #[]) ∧ BufAt B (out ++ (a.data.toList ++ [13, 10])) w' ∧ Below B X w' := by
 subst hgX
 have hB : B < X.heap.size := h.lt
 have hb : Below X.heap.size X (X.alloc (.cells #[.string a] 9)) := (Below.refl _ _).alloc (Nat.le_refl _) _
 have e : wordsL [a] = a.data.toList := by simp [wordsL]
 have := line_calls (g := X.heap.size) (c := 1) (buffer_below h hb) [a] (fun j x hj => by
  rw [World.cell?_alloc_mark]
  match j, hj with
  | 0, hj => cases hj; rfl) (by simp) (by simp) (by simp) (by rw [e]; simp; omega) ho
 rw [e] at this
 exact this.mono fun r w' ⟨h1, h2, h3⟩ => ⟨h1, h2, (hb.mono (Nat.le_of_lt hB)).trans h3⟩
theorem line2_calls {g : Nat} (hgX : g = X.heap.size) (h : BufAt B out X) (a b : ByteArray) (ha : a.size ≤ 100000000) (hb' : b.size ≤ 100000000) (ho : out.length ≤ 1000000000) :
 Calls Tryz.prog 55 #[.slice (some ⟨g, 0, none⟩) 2 2, .pointer (some ⟨B, 0, none⟩)] (X.alloc (.cells #[.string a, .string b] 9)) fun e w' => e = .returned (.tuple #[]) ∧ BufAt B (out ++ (a.data.toList ++ (b.data.toList ++ [13, 10]))) w' ∧ Below B X w' := by
 subst hgX
 have hB : B < X.heap.size := h.lt
 have hb : Below X.heap.size X (X.alloc (.cells #[.string a, .string b] 9)) := (Below.refl _ _).alloc (Nat.le_refl _) _
 have e : wordsL [a, b] = a.data.toList ++ b.data.toList := by simp [wordsL]
 have := line_calls (g := X.heap.size) (c := 2) (buffer_below h hb) [a, b] (fun j x hj => by
  rw [World.cell?_alloc_mark]
  match j, hj with
  | 0, hj => cases hj; rfl
  | 1, hj => cases hj; rfl) (by simp) (by simp) (by simp) (by rw [e]; simp; omega) ho
 rw [e, List.append_assoc] at this
 exact this.mono fun r w' ⟨h1, h2, h3⟩ => ⟨h1, h2, (hb.mono (Nat.le_of_lt hB)).trans h3⟩
theorem line3_calls {g : Nat} (hgX : g = X.heap.size) (h : BufAt B out X) (a b c : ByteArray) (ha : a.size ≤ 100000000) (hb' : b.size ≤ 100000000) (hc' : c.size ≤ 100000000) (ho : out.length ≤ 1000000000) :
 Calls Tryz.prog 55 #[.slice (some ⟨g, 0, none⟩) 3 3, .pointer (some ⟨B, 0, none⟩)] (X.alloc (.cells #[.string a, .string b, .string c] 9)) fun e w' => e = .returned (.tuple #[]) ∧ BufAt B (out ++ (a.data.toList ++ (b.data.toList ++ (c.data.toList ++ [13, 10])))) w' ∧ Below B X w' := by
 subst hgX
 have hB : B < X.heap.size := h.lt
 have hb : Below X.heap.size X (X.alloc (.cells #[.string a, .string b, .string c] 9)) := (Below.refl _ _).alloc (Nat.le_refl _) _
 have e : wordsL [a, b, c] = a.data.toList ++ (b.data.toList ++ c.data.toList) := by simp [wordsL]
 have := line_calls (g := X.heap.size) (c := 3) (buffer_below h hb) [a, b, c] (fun j x hj => by
  rw [World.cell?_alloc_mark]
  match j, hj with
  | 0, hj => cases hj; rfl
  | 1, hj => cases hj; rfl
  | 2, hj => cases hj; rfl) (by simp) (by simp) (by simp) (by rw [e]; simp; omega) ho
 rw [e, List.append_assoc, List.append_assoc] at this
 exact this.mono fun r w' ⟨h1, h2, h3⟩ => ⟨h1, h2, (hb.mono (Nat.le_of_lt hB)).trans h3⟩
end
end Go.Proofs.YteahkgbnfbjkhaaGreatDoor
set_option maxRecDepth 20000
set_option linter.unusedVariables false
set_option linter.unusedSimpArgs false
set_option linter.unusedSectionVars false
namespace Go.Proofs.YteahkgbnfbjkhaaGreatDoor
open Go.ChangeShapes Go.WideShapes Go.ChangeAt Go.RowKit
structure Rep11.Tiny (r : Rep11) : Prop where
 h1 : r.host.size ≤ 1000
 h2 : r.toL.size ≤ 1000
 h3 : r.toD.size ≤ 1000
 h4 : r.rcL.size ≤ 1000
 h5 : r.rcD.size ≤ 1000
 h6 : r.status.length ≤ 1000
 h7 : r.reason.size ≤ 1000
 h8 : r.id.size ≤ 1000
 h9 : r.head.length ≤ 32768
theorem bufRow {b : Nat} {out : List UInt8} {w : World} (h : BufAt b out w) {q : Option Addr} {cap : Nat} {l : List UInt8} (hq : BytesAt w q cap l) (hfar : l ≠ [] → ∀ bb off, q = some ⟨bb, off, none⟩ → bb < b) (ho : out.length ≤ 1000000000) (hl : l.length ≤ 32768) :
 Calls Tryz.prog 60 #[.pointer (some ⟨b, 0, none⟩), .slice q l.length cap] w fun e w' => (∃ n, e = .returned (.tuple #[.int .i64 n, .nilIface])) ∧ BufAt b (out ++ l) w' ∧ Below b w w' :=
 writeBody h (Nat.le_of_lt h.lt) hq hfar (by omega)
def repFields (host rt nw mk : ByteArray) : List Fld := [(⟨#[70, 114, 111, 109]⟩, ⟨#[112, 111, 115, 116, 109, 97, 115, 116, 101, 114, 64]⟩ ++ host), (⟨#[84, 111]⟩, rt), (⟨#[68, 97, 116, 101]⟩, nw), (⟨#[83, 117, 98, 106, 101, 99, 116]⟩, ⟨#[85, 110, 100, 101, 108, 105, 118, 101, 114, 101, 100, 32, 109, 97, 105, 108]⟩), (⟨#[77, 73, 77, 69, 45, 86, 101, 114, 115, 105, 111, 110]⟩, ⟨#[49, 46, 48]⟩), (⟨#[67, 111, 110, 116, 101, 110, 116, 45, 84, 121, 112, 101]⟩, ⟨#[109, 117, 108, 116, 105, 112, 97, 114, 116, 47, 114, 101, 112, 111, 114, 116, 59, 32, 114, 101, 112, 111, 114, 116, 45, 116, 121, 112, 101, 61, 100, 101, 108, 105, 118, 101, 114, 121, 45, 115, 116, 97, 116, 117, 115, 59, 32, 98, 111, 117, 110, 100, 97, 114, 121, 61, 34]⟩ ++ mk ++ ⟨#[34]⟩)]
theorem repFields_laid (W : World) (T : TypeId) (host rt nw mk : ByteArray) :
 FieldsAt (W.alloc (.cells #[.string ⟨#[70, 114, 111, 109]⟩, .string (⟨#[112, 111, 115, 116, 109, 97, 115, 116, 101, 114, 64]⟩ ++ host), .string ⟨#[84, 111]⟩, .string rt, .string ⟨#[68, 97, 116, 101]⟩, .string nw, .string ⟨#[83, 117, 98, 106, 101, 99, 116]⟩, .string ⟨#[85, 110, 100, 101, 108, 105, 118, 101, 114, 101, 100, 32, 109, 97, 105, 108]⟩, .string ⟨#[77, 73, 77, 69, 45, 86, 101, 114, 115, 105, 111, 110]⟩, .string ⟨#[49, 46, 48]⟩, .string ⟨#[67, 111, 110, 116, 101, 110, 116, 45, 84, 121, 112, 101]⟩, .string (⟨#[109, 117, 108, 116, 105, 112, 97, 114, 116, 47, 114, 101, 112, 111, 114, 116, 59, 32, 114, 101, 112, 111, 114, 116, 45, 116, 121, 112, 101, 61, 100, 101, 108, 105, 118, 101, 114, 121, 45, 115, 116, 97, 116, 117, 115, 59, 32, 98, 111, 117, 110, 100, 97, 114, 121, 61, 34]⟩ ++ mk ++ ⟨#[34]⟩)] T)) (some ⟨W.heap.size, 0, none⟩) (repFields host rt nw mk) := by
 intro i hi
 have h6 : (repFields host rt nw mk).length = 6 := rfl
 refine ⟨_, 0, [.string (repFields host rt nw mk)[i].1, .string (repFields host rt nw mk)[i].2], rfl, by simp, rfl, fun j hj => ?_, rfl⟩
 rw [h6] at hi
 match i, hi, j, hj with
 | 0, _, 0, _ => rw [World.cell?_alloc_mark]; rfl
 | 0, _, 1, _ => rw [World.cell?_alloc_mark]; rfl
 | 1, _, 0, _ => rw [World.cell?_alloc_mark]; rfl
 | 1, _, 1, _ => rw [World.cell?_alloc_mark]; rfl
 | 2, _, 0, _ => rw [World.cell?_alloc_mark]; rfl
 | 2, _, 1, _ => rw [World.cell?_alloc_mark]; rfl
 | 3, _, 0, _ => rw [World.cell?_alloc_mark]; rfl
 | 3, _, 1, _ => rw [World.cell?_alloc_mark]; rfl
 | 4, _, 0, _ => rw [World.cell?_alloc_mark]; rfl
 | 4, _, 1, _ => rw [World.cell?_alloc_mark]; rfl
 | 5, _, 0, _ => rw [World.cell?_alloc_mark]; rfl
 | 5, _, 1, _ => rw [World.cell?_alloc_mark]; rfl
theorem repFields_at (W : World) (g : Nat) (hg : g = W.heap.size) (T : TypeId) (host rt nw mk : ByteArray) (cs : Array Value) (hc : cs = #[.string ⟨#[70, 114, 111, 109]⟩, .string (⟨#[112, 111, 115, 116, 109, 97, 115, 116, 101, 114, 64]⟩ ++ host), .string ⟨#[84, 111]⟩, .string rt, .string ⟨#[68, 97, 116, 101]⟩, .string nw, .string ⟨#[83, 117, 98, 106, 101, 99, 116]⟩, .string ⟨#[85, 110, 100, 101, 108, 105, 118, 101, 114, 101, 100, 32, 109, 97, 105, 108]⟩, .string ⟨#[77, 73, 77, 69, 45, 86, 101, 114, 115, 105, 111, 110]⟩, .string ⟨#[49, 46, 48]⟩, .string ⟨#[67, 111, 110, 116, 101, 110, 116, 45, 84, 121, 112, 101]⟩, .string (⟨#[109, 117, 108, 116, 105, 112, 97, 114, 116, 47, 114, 101, 112, 111, 114, 116, 59, 32, 114, 101, 112, 111, 114, 116, 45, 116, 121, 112, 101, 61, 100, 101, 108, 105, 118, 101, 114, 121, 45, 115, 116, 97, 116, 117, 115, 59, 32, 98, 111, 117, 110, 100, 97, 114, 121, 61, 34]⟩ ++ mk ++ ⟨#[34]⟩)]) :
 FieldsAt (W.alloc (.cells cs T)) (some ⟨g, 0, none⟩) (repFields host rt nw mk) := by
 subst hg hc
 exact repFields_laid _ _ _ _ _ _
theorem stampS_size (t : Int) : (stampS t).size ≤ 100 := by
 unfold stampS stampOf
 split
 · unfold stampB
   simp only [ByteArray.size_append, wdOf_size, moOf_size, dig2_size, dig4_size]
   decide
 · decide
def repBody (host rc st reason id cm mk : ByteArray) (head : List UInt8) : List UInt8 :=
 [] ++ ([45, 45] ++ (mk.data.toList ++ [13, 10])) ++ ([67, 111, 110, 116, 101, 110, 116, 45, 84, 121, 112, 101, 58, 32, 116, 101, 120, 116, 47, 112, 108, 97, 105, 110] ++ [13, 10]) ++ [13, 10] ++ ([84, 104, 101, 32, 109, 101, 115, 115, 97, 103, 101, 32] ++ (id.data.toList ++ ([32, 99, 111, 117, 108, 100, 32, 110, 111, 116, 32, 98, 101, 32, 100, 101, 108, 105, 118, 101, 114, 101, 100, 32, 116, 111] ++ [13, 10]))) ++ (rc.data.toList ++ [13, 10]) ++ ([98, 101, 99, 97, 117, 115, 101, 58, 32] ++ (reason.data.toList ++ [13, 10])) ++ ([45, 45] ++ (mk.data.toList ++ [13, 10])) ++ ([67, 111, 110, 116, 101, 110, 116, 45, 84, 121, 112, 101, 58, 32, 109, 101, 115, 115, 97, 103, 101, 47, 100, 101, 108, 105, 118, 101, 114, 121, 45, 115, 116, 97, 116, 117, 115] ++ [13, 10]) ++ [13, 10] ++ ([82, 101, 112, 111, 114, 116, 105, 110, 103, 45, 77, 84, 65, 58, 32, 100, 110, 115, 59, 32] ++ (host.data.toList ++ [13, 10])) ++ ([65, 114, 114, 105, 118, 97, 108, 45, 68, 97, 116, 101, 58, 32] ++ (cm.data.toList ++ [13, 10])) ++ [13, 10] ++ ([70, 105, 110, 97, 108, 45, 82, 101, 99, 105, 112, 105, 101, 110, 116, 58, 32, 114, 102, 99, 56, 50, 50, 59, 32] ++ (rc.data.toList ++ [13, 10])) ++ ([65, 99, 116, 105, 111, 110, 58, 32, 102, 97, 105, 108, 101, 100] ++ [13, 10]) ++ ([83, 116, 97, 116, 117, 115, 58, 32] ++ (st.data.toList ++ [13, 10])) ++ ([45, 45] ++ (mk.data.toList ++ [13, 10])) ++ ([67, 111, 110, 116, 101, 110, 116, 45, 84, 121, 112, 101, 58, 32, 116, 101, 120, 116, 47, 114, 102, 99, 56, 50, 50, 45, 104, 101, 97, 100, 101, 114, 115] ++ [13, 10]) ++ [13, 10] ++ head ++ ([45, 45] ++ (mk.data.toList ++ ([45, 45] ++ [13, 10])))
set_option maxHeartbeats 4000000 in
theorem rep_build {host rt nw mk rc st reason id cm : ByteArray} {head : List UInt8} (h1 : host.size ≤ 1000) (h2 : rt.size ≤ 4000) (h3 : nw.size ≤ 1000) (h4 : mk.size ≤ 2000) (h5 : rc.size ≤ 4000) (h6 : st.size ≤ 1000) (h7 : reason.size ≤ 1000) (h8 : id.size ≤ 1000) (h9 : cm.size ≤ 1000) (h10 : head.length ≤ 32768)
 {W : World} {g : Nat} {p : Option Addr} {c : Nat} (hf : FieldsAt W (some ⟨g, 0, none⟩) (repFields host rt nw mk)) (hb : BytesAt W p c (repBody host rc st reason id cm mk head)) :
 Calls Tryz.prog 61 #[.slice (some ⟨g, 0, none⟩) 6 6, .slice p (repBody host rc st reason id cm mk head).length c] W (BuildPost (repFields host rt nw mk) (repBody host rc st reason id cm mk head) W) := by
 refine build_calls (cap := 6) hf hb (fun f hf => ?_) (by show 6 ≤ 1000; decide) ?_
 · simp only [repFields, List.mem_cons, List.mem_nil_iff, or_false] at hf
   rcases hf with rfl | rfl | rfl | rfl | rfl | rfl <;> constructor <;> simp only [ByteArray.size_append] <;> first | decide | omega | (show 11 + _ ≤ _; omega) | (show 57 + _ + 1 ≤ _; omega)
 · unfold repBody
   simp only [List.length_append, List.length_cons, List.length_nil]
   simp
   omega
def BuildIs (fs : List Fld) (body : List UInt8) (B : Nat) (s : Value) (n : Int) (w : World) : Prop :=
 (buildQ fs body = none ∧ s = .slice none 0 0 ∧ n = 3) ∨ (∃ O p c, buildQ fs body = some O ∧ s = .slice p O.length c ∧ n = 0 ∧ w.ownsRow B 5 1 (.slice p O.length c) O.length (Lib.byteCells O))
theorem BuildIs.below {fs : List Fld} {body : List UInt8} {B : Nat} {s : Value} {n : Int} {w w' : World} (h : BuildIs fs body B s n w) (hb : Below w.heap.size w w') : BuildIs fs body B s n w' := by
 rcases h with h | ⟨O, p, c, h1, h2, h3, h4⟩
 · exact .inl h
 · exact .inr ⟨O, p, c, h1, h2, h3, own_below h4 hb⟩
theorem BuildPost.is {fs : List Fld} {body : List UInt8} {B : Nat} {w w' : World} {r : Ending} (h : BuildPost fs body w r w') (hB : B ≤ w.heap.size) : ∃ s n, r = .returned (.tuple #[s, .int .i64 n]) ∧ BuildIs fs body B s n w' ∧ Below w.heap.size w w' := by
 rcases h with ⟨h1, h2, h3⟩ | ⟨O, p, c, h1, h2, h3, h4⟩
 · exact ⟨_, _, h2, .inl ⟨h1, rfl, rfl⟩, h3⟩
 · exact ⟨_, _, h2, .inr ⟨O, p, c, h1, rfl, rfl, own_base h3 hB⟩, h4⟩
theorem BuildIs.post {fs : List Fld} {body : List UInt8} {B : Nat} {w w' : World} {s s2 : Value} {n n2 : Int} (h : BuildIs fs body B s n w') (h2 : BuildIs fs body B s2 n2 w') (hB : B = w.heap.size) (hb : Below w.heap.size w w') : BuildPost fs body w (.returned (.tuple #[s, .int .i64 n2])) w' := by
 subst hB
 rcases h with ⟨h1, rfl, rfl⟩ | ⟨O, p, c, h1, rfl, rfl, h4⟩
 · rcases h2 with ⟨h5, rfl, rfl⟩ | ⟨O', p', c', h5, rfl, rfl, h8⟩
   · exact .inl ⟨h1, rfl, hb⟩
   · rw [h1] at h5; cases h5
 · rcases h2 with ⟨h5, rfl, rfl⟩ | ⟨O', p', c', h5, rfl, rfl, h8⟩
   · rw [h1] at h5; cases h5
   · exact .inr ⟨O, p, c, h1, rfl, h4, hb⟩
end Go.Proofs.YteahkgbnfbjkhaaGreatDoor
