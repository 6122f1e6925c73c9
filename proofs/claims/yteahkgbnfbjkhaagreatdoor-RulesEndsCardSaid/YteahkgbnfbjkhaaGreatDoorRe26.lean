/-
  Written.
-/
import Derived.Test.YteahkgbnfbjkhaaGreatDoorRe25
import Derived.OwnWalk
set_option maxRecDepth 20000
set_option linter.unusedVariables false
set_option linter.unusedSimpArgs false
set_option linter.unusedSectionVars false
namespace Go.Proofs.YteahkgbnfbjkhaaGreatDoor
open Go.ChangeShapes Go.WideShapes Go.ChangeAt Go.RowKit
def escL : List UInt8 → List UInt8
 | [] => []
 | c :: r => (if c = 34 ∨ c = 92 then [92, c] else [c]) ++ escL r
def writtenS (s : ByteArray) : ByteArray := if atomsP s.data.toList = some s.size then s else ⟨(34 :: (escL s.data.toList ++ [34])).toArray⟩
theorem escL_append (a b : List UInt8) : escL (a ++ b) = escL a ++ escL b := by
 induction a with
 | nil => rfl
 | cons c r ih => simp [escL, ih]
theorem escL_len (l : List UInt8) : (escL l).length ≤ 2 * l.length := by
 induction l with
 | nil => simp [escL]
 | cons c r ih => simp only [escL, List.length_append, List.length_cons]; split <;> simp <;> omega
theorem own_ne {w : World} {B : Nat} {e : TypeId} {v : Value} {n : Nat} {xs : List Value} {rb : Nat} {C : Array Value} {T : TypeId} {m : Nat} (h : w.ownsRow B e 1 v n xs) (hrb : w.heap[rb]? = some (.cells C T (m, m + 1))) : v.ownBlock ≠ some rb := by
 rcases h.2 with ⟨rfl, _⟩ | ⟨g, cap, cur, rfl, _, hg, _⟩
 · intro h; cases h
 · intro h
   have : g = rb := by injection h
   subst this
   rw [hg] at hrb
   injection hrb with hrb
   injection hrb with _ _ hrb
   injection hrb with h1 h2
   omega
def RelWr (s : ByteArray) (w : World) (rb : Nat) (k : Nat) (v : Value) (wr : World) : Prop :=
 wr.ownsRow w.heap.size 5 1 v (1 + (escL (s.data.toList.take k)).length) (Lib.byteCells (34 :: escL (s.data.toList.take k))) ∧ (∃ cap, wr.heap[rb]? = some (.cells (bytesRow s cap) 5 ((bytesRow s cap).size, (bytesRow s cap).size + 1))) ∧ Below w.heap.size w wr
theorem byte_row_cell {w : World} {rb cap : Nat} {s : ByteArray} (h : w.heap[rb]? = some (.cells (bytesRow s cap) 5 ((bytesRow s cap).size, (bytesRow s cap).size + 1))) (k : Nat) (hk : k < s.size) : w.cell? ⟨rb, k, none⟩ = some (.int .u8 (s[k].toNat : Int)) := by
 have : w.cell? ⟨rb, k, none⟩ = (bytesRow s cap)[k]? := by simp [World.cell?, h]
 rw [this, bytesRow_at s cap k hk]; rfl
theorem one_new (W : World) (b : Nat) (hb : b = W.heap.size) (v : Value) (T : TypeId) : ∀ j u, [v][j]? = some u → (W.alloc (.cells #[v] T)).cell? ((⟨b, 0, none⟩ : Addr).add j) = some u := fun j u h => by
 subst hb
 rw [show (⟨W.heap.size, 0, none⟩ : Addr).add j = ⟨W.heap.size, j, none⟩ by simp [Addr.add]; exact fun h => h.symm, World.cell?_alloc_mark]
 simpa using h
theorem two_heap (X : World) (A C : Obj) : ((X.alloc A).alloc C).drew.heap[X.heap.size]? = some A ∧ ((X.alloc A).alloc C).drew.heap[X.heap.size + 1]? = some C := by
 constructor
 · show ((X.heap.push A).push C)[X.heap.size]? = _
   rw [Array.getElem?_push, if_neg (by simp), Array.getElem?_push, if_pos rfl]
 · show ((X.heap.push A).push C)[X.heap.size + 1]? = _
   rw [Array.getElem?_push, if_pos (by simp)]
theorem own_back {w : World} {B : Nat} {v : Value} {l : List UInt8} (h : w.ownsRow B 5 1 v l.length (Lib.byteCells l)) (h0 : l ≠ []) : (convert 29 9 v).run Tryz.prog w = .ok (.string ⟨l.toArray⟩) w := by
 obtain ⟨_, ⟨_, hn⟩ | ⟨g, cap, cur, rfl, _, hg, _, _, _, ht⟩⟩ := h
 · exact absurd (List.eq_nil_of_length_eq_zero hn) h0
 · refine run_convert_bytes_back (P := Tryz.prog) w 29 9 5 ⟨g, 0, none⟩ cap l rfl rfl rfl (fun j hj => ?_)
   rw [show (⟨g, 0, none⟩ : Addr).add j = ⟨g, j, none⟩ by simp [Addr.add]; exact fun h => h.symm]
   have h1 : w.cell? ⟨g, j, none⟩ = cur[j]? := by simp [World.cell?, hg]
   have h2 : (cur.toList.take (l.length * 1))[j]? = cur[j]? := by rw [List.getElem?_take, if_pos (by omega)]; simp
   rw [h1, ← h2, ht]
   simp [Lib.byteCells, hj]
theorem take_esc {s : ByteArray} {k : Nat} (h : k < s.size) : escL (s.data.toList.take (k + 1)) = escL (s.data.toList.take k) ++ (if s[k] = 34 ∨ s[k] = 92 then [92, s[k]] else [s[k]]) := by
 have hl : k < s.data.toList.length := by simpa using h
 rw [List.take_succ_eq_append_getElem hl, escL_append]
 congr 1
 show (if s.data.toList[k] = 34 ∨ s.data.toList[k] = 92 then _ else _) ++ [] = _
 rw [List.append_nil]
 rfl
theorem app_keep {w wr w1 : World} {e T : TypeId} {rb n mk : Nat} {v : Value} {xs : List Value} {C : Array Value} {O : Obj} (hown : wr.ownsRow w.heap.size e 1 v n xs) (hrow : wr.heap[rb]? = some (.cells C T (mk, mk + 1))) (hbw : Below w.heap.size w wr)
 (hg : (wr.alloc O).grownBy w1 v.ownBlock) : w1.heap[rb]? = some (.cells C T (mk, mk + 1)) ∧ Below w.heap.size w w1 := by
 have hlt : rb < wr.heap.size := (Array.getElem?_eq_some_iff.1 hrow).1
 have hne := own_ne hown hrow
 constructor
 · rw [hg.block rb (by simp; omega) (fun h => hne h.symm)]
   show (wr.heap.push O)[rb]? = _
   rw [Array.getElem?_push, if_neg (by omega)]; exact hrow
 · exact (hbw.alloc hbw.size _).grown hg (by have := hbw.size; simp; omega) (fun k hk => (hown.lt k hk).1)
theorem own_castA {w : World} {B : Nat} {e : TypeId} {v : Value} {n n' : Nat} {xs xs' : List Value} (h : w.ownsRow B e 1 v n xs) (hn : n = n') (hx : xs = xs') : w.ownsRow B e 1 v n' xs' := by subst hn; subst hx; exact h
set_option maxHeartbeats 4000000 in
theorem written_quoted (s : ByteArray) (hs : s.size ≤ 40000000000000) (hq : ¬ atomsP s.data.toList = some s.size) (w : World) : Calls Tryz.prog 177 #[.string s] w fun r w' => r = .returned (.string (writtenS s)) ∧ Below w.heap.size w w' := by
 unfold writtenS
 rw [if_neg hq]
 have hlen : s.data.toList.length = s.size := by simp
 obtain ⟨i0, hi, hz0, hz1, hz2⟩ := info_parts infoByte
 have hbox := RowIs.new_at w #[.string s, .int .i64 0, .bool false] 141 w.heap.size rfl
 have hat := atoms_any 0 ((atomsP s.data.toList).map (0 + ·)) (by rw [List.drop_zero]) rfl (Nat.zero_le _) (by omega) hbox
 have kb := fun w => run_bytes_of_string (P := Tryz.prog) w 9 29 5 s rfl rfl rfl
 cases hp : atomsP s.data.toList with
 | none =>
  rw [hp] at hat
  clear hp hq hbox
  replace hat := Lib.hid hat
  go_enter Tryz.func177, Tryz.ntmps177
  go_wp2_with (go_at_call 197; ((refine hat.out.mono ?_); rintro r w1 ⟨n2, lg2, hn2, rfl, bs1, d1, rfl⟩))
  have hXb : Below w.heap.size w (app (w.alloc (.cells #[.string s, .int .i64 n2, .bool lg2] 141)) bs1 d1) := by (repeat' (first | (with_reducible exact Below.refl _ _) | (with_reducible refine Below.app ?_ ?_ _ _) | (with_reducible refine Below.alloc ?_ ?_ _) | (with_reducible refine Below.drew ?_) | (with_reducible refine Below.setCell ?_ ?_ _) | (with_reducible assumption) | omega | (simp; omega) | (simp; done)))
  have hXs : (app (w.alloc (.cells #[.string s, .int .i64 n2, .bool lg2] 141)) bs1 d1).heap.size = w.heap.size + 1 + bs1.size := by simp
  generalize app (w.alloc (.cells #[.string s, .int .i64 n2, .bool lg2] 141)) bs1 d1 = X at *
  generalize hcap : grownCap (X.alloc (.cells #[.int .u8 34] 5)) s.size 0 5 = cap at *
  clear hcap hat kb
  rw [← hXs]
  obtain ⟨t1, t2⟩ := two_heap X (.cells #[.int .u8 34] 5) (.cells (bytesRow s cap) 5 ((bytesRow s cap).size, (bytesRow s cap).size + 1))
  have hst : RelWr s w (X.heap.size + 1) 0 (.slice (some ⟨X.heap.size, 0, none⟩) 1 1) (((X.alloc (.cells #[.int .u8 34] 5)).alloc (.cells (bytesRow s cap) 5 ((bytesRow s cap).size, (bytesRow s cap).size + 1))).drew) := by
   refine ⟨⟨by simp [Lib.byteCells, escL], .inr ⟨X.heap.size, 1, #[.int .u8 34], by simp [escL], by omega, t1, by simp [escL], by unfold maxLen; omega, by simp, by simp [escL, Lib.byteCells]⟩⟩, ⟨cap, t2⟩, ?_⟩
   exact (((hXb.alloc (by omega) _).alloc (by simp; omega) _)).drew
  have hrb : w.heap.size ≤ X.heap.size + 1 := by omega
  generalize X.heap.size + 1 = rb at *
  clear t1 t2 hXb hXs
  go_loopw [6, 32] (fun v i wr => ∃ k : Nat, k ≤ s.size ∧ i = .int .i64 k ∧ RelWr s w rb k v wr) (fun _ i _ => s.size - (intOf i).toNat)
  case atStart => exact ⟨0, by omega, rfl, hst⟩
  case round =>
   obtain ⟨k, hk, rfl, hown, ⟨cap2, hrow⟩, hbw⟩ := hrel
   clear hst
   have hle := escL_len (s.data.toList.take k)
   rw [List.length_take] at hle
   have hle2 : (escL (s.data.toList.take k)).length ≤ 80000000000000 := by omega
   have hne := own_ne hown hrow
   by_cases hlt : k < s.size
   · have hce := byte_row_cell hrow k hlt
     have hts := take_esc hlt
     replace hts := Lib.hid hts
     replace hlen := Lib.hid hlen
     by_cases hsp : s[k] = 34 ∨ s[k] = 92
     · have hb : ((s[k].toNat : Int) == 34) = true ∨ ((s[k].toNat : Int) == 34) = false ∧ ((s[k].toNat : Int) == 92) = true := by
        by_cases h34 : s[k] = 34
        · left; rw [h34]; rfl
        · right
          rcases hsp with h | h
          · exact absurd h h34
          · rw [h]; exact ⟨rfl, rfl⟩
       replace hsp := Lib.hid hsp
       rcases hb with hb | ⟨hb, hb2⟩
       all_goals
        go_wp2_with first
         | (at_builtin; refine wpList_append_own _ rfl _ _ 29 rfl w.heap.size 5 i0 (.int .u8 0) 1 1 Tryz.underlying29 hi hz0 hz1 hz2 rfl (by decide) _ _ _ rfl (hown1.alloc _) _ 1 1 [.int .u8 (s[k].toNat : Int)] rfl rfl ?c1 ?c2 ?c3 ?c4 ?c5 ?_; (case c1 => exact one_new _ _ (by first | rfl | (simp; done)) _ _); (case c2 => (intro u hu; simp at hu; subst hu; rfl)); (case c3 => (unfold maxLen; omega)); (case c4 => omega); (case c5 => (have := hbw1.size; simp; omega)); intro v2 w2 hown2 hg0 _; obtain ⟨hrow2, hbw2⟩ := app_keep hown1 hrow1 hbw1 hg0; clear hg0)
         | (at_builtin; refine wpList_append_own _ rfl _ _ 29 rfl w.heap.size 5 i0 (.int .u8 0) 1 1 Tryz.underlying29 hi hz0 hz1 hz2 rfl (by decide) _ _ _ rfl (hown.alloc _) _ 1 1 [.int .u8 92] rfl rfl ?c1 ?c2 ?c3 ?c4 ?c5 ?_; (case c1 => exact one_new _ _ (by first | rfl | (simp; done)) _ _); (case c2 => (intro u hu; simp at hu; subst hu; rfl)); (case c3 => (unfold maxLen; omega)); (case c4 => omega); (case c5 => (have := hbw.size; simp; omega)); intro v1 w1 hown1 hg0 _; obtain ⟨hrow1, hbw1⟩ := app_keep hown hrow hbw hg0; clear hg0)
        go_roundw
        case rel => exact ⟨k + 1, by omega, by go_num, own_castA hown2 (by rw [hts.out, if_pos hsp.out]; simp; omega) (by rw [hts.out, if_pos hsp.out]; simp [Lib.byteCells]), ⟨cap2, hrow2⟩, hbw2⟩
        case measure => simp [intOf]; omega
     · have hb : ((s[k].toNat : Int) == 34) = false := by
        have : ¬ s[k] = 34 := fun h => hsp (.inl h)
        rw [u8_int] at this; simpa using this
       have hb2 : ((s[k].toNat : Int) == 92) = false := by
        have : ¬ s[k] = 92 := fun h => hsp (.inr h)
        rw [u8_int] at this; simpa using this
       replace hsp := Lib.hid hsp
       go_wp2_with (at_builtin; refine wpList_append_own _ rfl _ _ 29 rfl w.heap.size 5 i0 (.int .u8 0) 1 1 Tryz.underlying29 hi hz0 hz1 hz2 rfl (by decide) _ _ _ rfl (hown.alloc _) _ 1 1 [.int .u8 (s[k].toNat : Int)] rfl rfl ?c1 ?c2 ?c3 ?c4 ?c5 ?_; (case c1 => exact one_new _ _ (by first | rfl | (simp; done)) _ _); (case c2 => (intro u hu; simp at hu; subst hu; rfl)); (case c3 => (unfold maxLen; omega)); (case c4 => omega); (case c5 => (have := hbw.size; simp; omega)); intro v2 w2 hown2 hg0 _; obtain ⟨hrow2, hbw2⟩ := app_keep hown hrow hbw hg0; clear hg0)
       go_roundw
       case rel => exact ⟨k + 1, by omega, by go_num, own_castA hown2 (by rw [hts.out, if_neg hsp.out]; simp; omega) (by rw [hts.out, if_neg hsp.out]; simp [Lib.byteCells]), ⟨cap2, hrow2⟩, hbw2⟩
       case measure => simp [intOf]; omega
   · have hke : k = s.size := by omega
     subst hke
     have htk : s.data.toList.take s.size = s.data.toList := List.take_of_length_le (by omega)
     rw [htk] at hown hle2
     have hbk := fun (W : World) (v : Value) (h : W.ownsRow w.heap.size 5 1 v (34 :: (escL s.data.toList ++ [34])).length (Lib.byteCells (34 :: (escL s.data.toList ++ [34])))) => own_back h (by simp)
     replace hbk := Lib.hid hbk
     clear hle
     go_wp2_with (at_builtin; refine wpList_append_own _ rfl _ _ 29 rfl w.heap.size 5 i0 (.int .u8 0) 1 1 Tryz.underlying29 hi hz0 hz1 hz2 rfl (by decide) _ _ _ rfl (hown.alloc _) _ 1 1 [.int .u8 34] rfl rfl ?c1 ?c2 ?c3 ?c4 ?c5 ?_; (case c1 => exact one_new _ _ (by first | rfl | (simp; done)) _ _); (case c2 => (intro u hu; simp at hu; subst hu; rfl)); (case c3 => (unfold maxLen; omega)); (case c4 => omega); (case c5 => (have := hbw.size; simp; omega)); intro v2 w2 hown2 hg0 _; obtain ⟨hrow2, hbw2⟩ := app_keep hown hrow hbw hg0; clear hg0; have hbk2 := hbk.out _ _ (own_castA hown2 (by simp; omega) (by simp [Lib.byteCells])))
     go_returns
     exact ⟨rfl, hbw2⟩
 | some k0 =>
  rw [hp] at hat hq
  have hk0 : k0 ≤ s.size := by have := (atomsP_pos hp).2; omega
  have hkq : ((k0 : Int) == (s.size : Int)) = false := by simp; intro h; exact hq (by congr 1; omega)
  rw [Option.map_some, Nat.zero_add] at hat
  clear hp hq hbox
  replace hat := Lib.hid hat
  go_enter Tryz.func177, Tryz.ntmps177
  go_wp2_with (go_at_call 197; ((refine hat.out.mono ?_); rintro r w1 ⟨rfl, bs1, d1, rfl⟩))
  have hXb : Below w.heap.size w (app (w.alloc (.cells #[.string s, .int .i64 (k0 : Int), .bool false] 141)) bs1 d1) := by (repeat' (first | (with_reducible exact Below.refl _ _) | (with_reducible refine Below.app ?_ ?_ _ _) | (with_reducible refine Below.alloc ?_ ?_ _) | (with_reducible refine Below.drew ?_) | (with_reducible refine Below.setCell ?_ ?_ _) | (with_reducible assumption) | omega | (simp; omega) | (simp; done)))
  have hXs : (app (w.alloc (.cells #[.string s, .int .i64 (k0 : Int), .bool false] 141)) bs1 d1).heap.size = w.heap.size + 1 + bs1.size := by simp
  generalize app (w.alloc (.cells #[.string s, .int .i64 (k0 : Int), .bool false] 141)) bs1 d1 = X at *
  generalize hcap : grownCap (X.alloc (.cells #[.int .u8 34] 5)) s.size 0 5 = cap at *
  clear hcap hat kb
  rw [← hXs]
  obtain ⟨t1, t2⟩ := two_heap X (.cells #[.int .u8 34] 5) (.cells (bytesRow s cap) 5 ((bytesRow s cap).size, (bytesRow s cap).size + 1))
  have hst : RelWr s w (X.heap.size + 1) 0 (.slice (some ⟨X.heap.size, 0, none⟩) 1 1) (((X.alloc (.cells #[.int .u8 34] 5)).alloc (.cells (bytesRow s cap) 5 ((bytesRow s cap).size, (bytesRow s cap).size + 1))).drew) := by
   refine ⟨⟨by simp [Lib.byteCells, escL], .inr ⟨X.heap.size, 1, #[.int .u8 34], by simp [escL], by omega, t1, by simp [escL], by unfold maxLen; omega, by simp, by simp [escL, Lib.byteCells]⟩⟩, ⟨cap, t2⟩, ?_⟩
   exact (((hXb.alloc (by omega) _).alloc (by simp; omega) _)).drew
  have hrb : w.heap.size ≤ X.heap.size + 1 := by omega
  generalize X.heap.size + 1 = rb at *
  clear t1 t2 hXb hXs
  go_loopw [6, 32] (fun v i wr => ∃ k : Nat, k ≤ s.size ∧ i = .int .i64 k ∧ RelWr s w rb k v wr) (fun _ i _ => s.size - (intOf i).toNat)
  case atStart => exact ⟨0, by omega, rfl, hst⟩
  case round =>
   obtain ⟨k, hk, rfl, hown, ⟨cap2, hrow⟩, hbw⟩ := hrel
   clear hst
   have hle := escL_len (s.data.toList.take k)
   rw [List.length_take] at hle
   have hle2 : (escL (s.data.toList.take k)).length ≤ 80000000000000 := by omega
   have hne := own_ne hown hrow
   by_cases hlt : k < s.size
   · have hce := byte_row_cell hrow k hlt
     have hts := take_esc hlt
     replace hts := Lib.hid hts
     replace hlen := Lib.hid hlen
     by_cases hsp : s[k] = 34 ∨ s[k] = 92
     · have hb : ((s[k].toNat : Int) == 34) = true ∨ ((s[k].toNat : Int) == 34) = false ∧ ((s[k].toNat : Int) == 92) = true := by
        by_cases h34 : s[k] = 34
        · left; rw [h34]; rfl
        · right
          rcases hsp with h | h
          · exact absurd h h34
          · rw [h]; exact ⟨rfl, rfl⟩
       replace hsp := Lib.hid hsp
       rcases hb with hb | ⟨hb, hb2⟩
       all_goals
        go_wp2_with first
         | (at_builtin; refine wpList_append_own _ rfl _ _ 29 rfl w.heap.size 5 i0 (.int .u8 0) 1 1 Tryz.underlying29 hi hz0 hz1 hz2 rfl (by decide) _ _ _ rfl (hown1.alloc _) _ 1 1 [.int .u8 (s[k].toNat : Int)] rfl rfl ?c1 ?c2 ?c3 ?c4 ?c5 ?_; (case c1 => exact one_new _ _ (by first | rfl | (simp; done)) _ _); (case c2 => (intro u hu; simp at hu; subst hu; rfl)); (case c3 => (unfold maxLen; omega)); (case c4 => omega); (case c5 => (have := hbw1.size; simp; omega)); intro v2 w2 hown2 hg0 _; obtain ⟨hrow2, hbw2⟩ := app_keep hown1 hrow1 hbw1 hg0; clear hg0)
         | (at_builtin; refine wpList_append_own _ rfl _ _ 29 rfl w.heap.size 5 i0 (.int .u8 0) 1 1 Tryz.underlying29 hi hz0 hz1 hz2 rfl (by decide) _ _ _ rfl (hown.alloc _) _ 1 1 [.int .u8 92] rfl rfl ?c1 ?c2 ?c3 ?c4 ?c5 ?_; (case c1 => exact one_new _ _ (by first | rfl | (simp; done)) _ _); (case c2 => (intro u hu; simp at hu; subst hu; rfl)); (case c3 => (unfold maxLen; omega)); (case c4 => omega); (case c5 => (have := hbw.size; simp; omega)); intro v1 w1 hown1 hg0 _; obtain ⟨hrow1, hbw1⟩ := app_keep hown hrow hbw hg0; clear hg0)
        go_roundw
        case rel => exact ⟨k + 1, by omega, by go_num, own_castA hown2 (by rw [hts.out, if_pos hsp.out]; simp; omega) (by rw [hts.out, if_pos hsp.out]; simp [Lib.byteCells]), ⟨cap2, hrow2⟩, hbw2⟩
        case measure => simp [intOf]; omega
     · have hb : ((s[k].toNat : Int) == 34) = false := by
        have : ¬ s[k] = 34 := fun h => hsp (.inl h)
        rw [u8_int] at this; simpa using this
       have hb2 : ((s[k].toNat : Int) == 92) = false := by
        have : ¬ s[k] = 92 := fun h => hsp (.inr h)
        rw [u8_int] at this; simpa using this
       replace hsp := Lib.hid hsp
       go_wp2_with (at_builtin; refine wpList_append_own _ rfl _ _ 29 rfl w.heap.size 5 i0 (.int .u8 0) 1 1 Tryz.underlying29 hi hz0 hz1 hz2 rfl (by decide) _ _ _ rfl (hown.alloc _) _ 1 1 [.int .u8 (s[k].toNat : Int)] rfl rfl ?c1 ?c2 ?c3 ?c4 ?c5 ?_; (case c1 => exact one_new _ _ (by first | rfl | (simp; done)) _ _); (case c2 => (intro u hu; simp at hu; subst hu; rfl)); (case c3 => (unfold maxLen; omega)); (case c4 => omega); (case c5 => (have := hbw.size; simp; omega)); intro v2 w2 hown2 hg0 _; obtain ⟨hrow2, hbw2⟩ := app_keep hown hrow hbw hg0; clear hg0)
       go_roundw
       case rel => exact ⟨k + 1, by omega, by go_num, own_castA hown2 (by rw [hts.out, if_neg hsp.out]; simp; omega) (by rw [hts.out, if_neg hsp.out]; simp [Lib.byteCells]), ⟨cap2, hrow2⟩, hbw2⟩
       case measure => simp [intOf]; omega
   · have hke : k = s.size := by omega
     subst hke
     have htk : s.data.toList.take s.size = s.data.toList := List.take_of_length_le (by omega)
     rw [htk] at hown hle2
     have hbk := fun (W : World) (v : Value) (h : W.ownsRow w.heap.size 5 1 v (34 :: (escL s.data.toList ++ [34])).length (Lib.byteCells (34 :: (escL s.data.toList ++ [34])))) => own_back h (by simp)
     replace hbk := Lib.hid hbk
     clear hle
     go_wp2_with (at_builtin; refine wpList_append_own _ rfl _ _ 29 rfl w.heap.size 5 i0 (.int .u8 0) 1 1 Tryz.underlying29 hi hz0 hz1 hz2 rfl (by decide) _ _ _ rfl (hown.alloc _) _ 1 1 [.int .u8 34] rfl rfl ?c1 ?c2 ?c3 ?c4 ?c5 ?_; (case c1 => exact one_new _ _ (by first | rfl | (simp; done)) _ _); (case c2 => (intro u hu; simp at hu; subst hu; rfl)); (case c3 => (unfold maxLen; omega)); (case c4 => omega); (case c5 => (have := hbw.size; simp; omega)); intro v2 w2 hown2 hg0 _; obtain ⟨hrow2, hbw2⟩ := app_keep hown hrow hbw hg0; clear hg0; have hbk2 := hbk.out _ _ (own_castA hown2 (by simp; omega) (by simp [Lib.byteCells])))
     go_returns
     exact ⟨rfl, hbw2⟩
theorem written_plain (s : ByteArray) (hs : s.size ≤ 40000000000000) (hq : atomsP s.data.toList = some s.size) (w : World) : Calls Tryz.prog 177 #[.string s] w fun r w' => r = .returned (.string (writtenS s)) ∧ Below w.heap.size w w' := by
 unfold writtenS
 rw [if_pos hq]
 have hbox := RowIs.new_at w #[.string s, .int .i64 0, .bool false] 141 w.heap.size rfl
 have hat := atoms_any 0 (some s.size) (by rw [List.drop_zero, hq]; simp) rfl (Nat.zero_le _) (by omega) hbox
 clear hq hbox
 replace hat := Lib.hid hat
 go_enter Tryz.func177, Tryz.ntmps177
 go_wp2_with (go_at_call 197; ((refine hat.out.mono ?_); rintro r w1 ⟨rfl, bs1, d1, rfl⟩))
 go_returns
 exact ⟨rfl, by (repeat' (first | (with_reducible exact Below.refl _ _) | (with_reducible refine Below.app ?_ ?_ _ _) | (with_reducible refine Below.alloc ?_ ?_ _) | (with_reducible refine Below.drew ?_) | (with_reducible refine Below.setCell ?_ ?_ _) | (with_reducible assumption) | omega | (simp; omega) | (simp; done)))⟩
theorem written_calls (s : ByteArray) (hs : s.size ≤ 40000000000000) (w : World) : Calls Tryz.prog 177 #[.string s] w fun r w' => r = .returned (.string (writtenS s)) ∧ Below w.heap.size w w' := by
 by_cases hq : atomsP s.data.toList = some s.size
 · exact written_plain s hs hq w
 · exact written_quoted s hs hq w
end Go.Proofs.YteahkgbnfbjkhaaGreatDoor
