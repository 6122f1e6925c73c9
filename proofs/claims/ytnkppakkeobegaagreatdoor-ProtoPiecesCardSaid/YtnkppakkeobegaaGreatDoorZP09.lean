/-
  AW24.
-/
import Derived.Test.YtnkppakkeobegaaGreatDoorZP07
import Derived.Test.YtnkppakkeobegaaGreatDoorZP08
set_option maxRecDepth 20000
set_option linter.unusedVariables false
set_option linter.unusedSimpArgs false
set_option linter.unusedSectionVars false
namespace Go.Proofs.YtnkppakkeobegaaGreatDoor
namespace AX
section
variable {R : Type}
def callK (call : CallF) (f : FuncId) (args : List AV) (k : AV → Option R) : Option R :=
 match call f args [] with
 | some (v, _) => k v
 | none => none
def callRK (call : CallF) (f : FuncId) (args : List AV) (H : Heap) (k : AV → Heap → Option R) : Option R :=
 match call f args H with
 | some (v, H1) => k v H1
 | none => none
def primK (p : List AV → Option AV) (args : List AV) (k : AV → Option R) : Option R :=
 match p args with
 | some v => k v
 | none => none
def primHK (p : List AV → List Cell → Option (AV × List Cell)) (args : List AV) (old : List Cell) (k : AV → List Cell → Option R) : Option R :=
 match p args old with
 | some (v, new) => k v new
 | none => none
def callGK (call : CallF) (f : FuncId) (args : List AV) (G : Heap) (k : AV → Heap → Option R) : Option R :=
 match call f args G with
 | none => none
 | some (v, G') => k v G'
def gcell (G : Heap) (b o : Nat) (k : Cell → Option R) : Option R :=
 match G[b]? with
 | some cs => rowAt cs o k
 | none => none
def gcells (n : Nat) (G : Heap) (b o : Nat) (k : List Cell → Option R) : Option R :=
 match G[b]? with
 | some cs => condA (Nat.ble (o + n) cs.length) (k (cs.drop o)) none
 | none => none
def gset (G : Heap) (b o : Nat) (c : Cell) (k : Heap → Option R) : Option R :=
 match G[b]? with
 | some cs => condA (Nat.blt o cs.length) (k (G.set b (cs.set o c))) none
 | none => none
def gsets (G : Heap) (b o : Nat) (l : List Cell) (k : Heap → Option R) : Option R :=
 match G[b]? with
 | some cs => condA (Nat.ble (o + l.length) cs.length) (k (G.set b (setCells cs o l))) none
 | none => none
def gtake (e sz : Nat) (G : Heap) (b o : Nat) (k : List Cell → Heap → Option R) : Option R :=
 match G[b]? with
 | some cs => rowAt cs o fun c => castOwn e sz c fun l => k l (G.set b (cs.set o (.sl none sz l)))
 | none => none
def gnew (G : Heap) (cs : List Cell) (k : Nat → Heap → Option R) : Option R := k G.length (G ++ [cs])
def castP4 (c : Cell) (x : Option R) (k : Nat → Nat → Option R) : Option R :=
 match c with
 | .nilp => x
 | .ptr _ _ => none
 | .eptr _ => none
 | .gptr b o => k b o
 | _ => none
def castOne (v : AV) (k : Cell → Option R) : Option R :=
 match v with
 | .one c => k c
 | .agg _ => none
 | _ => none
def castOne1 (v : AV) (k : Cell → Option R) : Option R :=
 match v with
 | .one c => k c
 | _ => none
def castAgg (v : AV) (k : List Cell → Option R) : Option R :=
 match v with
 | .one _ => none
 | .agg cs => k cs
 | _ => none
def castTup (v : AV) (k : List V1 → Option R) : Option R :=
 match v with
 | .tup vs => k vs
 | _ => none
def consK {α : Type} (l : List α) (k : α → List α → Option R) : Option R :=
 match l with
 | [] => none
 | c :: r => k c r
def nilK {α : Type} (l : List α) (k : Option R) : Option R :=
 match l with
 | [] => k
 | _ => none
def oneV (v : V1) (k : Cell → Option R) : Option R :=
 match v with
 | .one c => k c
 | _ => none
def aggV (v : V1) (k : List Cell → Option R) : Option R :=
 match v with
 | .agg cs => k cs
 | _ => none
end
def primOf : List (Nat × (List AV → Option AV)) → Nat → Option (List AV → Option AV)
 | [], _ => none
 | (t, v) :: r, s => bif Nat.beq t s then some v else primOf r s
def primHOf : List (Nat × (List AV → List Cell → Option (AV × List Cell))) → Nat → Option (List AV → List Cell → Option (AV × List Cell))
 | [], _ => none
 | (t, v) :: r, s => bif Nat.beq t s then some v else primHOf r s
def primSOf : List (Nat × (List AV → List Cell → Option AV)) → Nat → Option (List AV → List Cell → Option AV)
 | [], _ => none
 | (t, v) :: r, s => bif Nat.beq t s then some v else primSOf r s
def refOf : List (Nat × List (Nat × Nat)) → Nat → List (Nat × Nat)
 | [], _ => []
 | (t, v) :: r, s => bif Nat.beq t s then v else refOf r s
abbrev RR := AV × Heap
end AX
end Go.Proofs.YtnkppakkeobegaaGreatDoor
namespace Go.Proofs.YtnkppakkeobegaaGreatDoor
open Go.ChangeShapes Go.WideShapes Go.ChangeAt Go.RowKit
namespace AX
variable [Inv] {P : Program}
inductive FitC (T : List (Nat × TI)) : TI → Cell → Prop
 | int (k : IntKind) (n : Int) : (Lit.int k n).wf = true → FitC T (.int k) (.int k n)
 | bool (b : Bool) : FitC T .bool (.bool b)
 | str (l : List UInt8) : l.length ≤ maxLen → FitC T .str (.str l)
 | sl (e sz n : Nat) (cs : List Cell) (ti : TI) : tyN T e = some ti → ti.leaves.length = sz → 0 < sz → cs.length = n * sz → n ≤ maxLen →
  (∀ i j t c, i < n → ti.leaves[j]? = some t → cs[i * sz + j]? = some c → FitC T t c) → FitC T (.slice e sz) (.sl none sz cs)
def FitL (T : List (Nat × TI)) (ts : List TI) (cs : List Cell) : Prop := cs.length = ts.length ∧ ∀ (j : Nat) t c, ts[j]? = some t → cs[j]? = some c → FitC T t c
def FitV (T : List (Nat × TI)) (ti : TI) (x : AV) : Prop :=
 match ti with
 | .struct l _ => ∃ cs, x = .agg cs ∧ FitL T l cs
 | ti => ∃ c, x = .one c ∧ FitC T ti c
def FitT (T : List (Nat × TI)) (t : Nat) (x : AV) : Prop := ∃ ti, tyN T t = some ti ∧ FitV T ti x
def Whole (w : World) : Mem := ⟨fun b _ => b < w.heap.size, [], fun _ _ => none⟩
def Seen (T : List (Nat × TI)) (w : World) (v : Value) (tl : TI) : Prop := ∃ c, Rd (Whole w) w v c ∧ FitC T tl c
def tiEq : TI → TI → Bool
 | .bool, .bool => true
 | .int k, .int k' => decide (k = k')
 | .str, .str => true
 | .slice e s, .slice e' s' => Nat.beq e e' && Nat.beq s s'
 | _, _ => false
theorem tiEq_eq {a b : TI} (h : tiEq a b = true) : a = b := by
 unfold tiEq at h
 split at h
 · rfl
 · rw [of_decide_eq_true h]
 · rfl
 · simp only [Bool.and_eq_true] at h
   rw [Nat.eq_of_beq_eq_true h.1, Nat.eq_of_beq_eq_true h.2]
 · cases h
def leafAt (T : List (Nat × TI)) (l : List TI) (j : Nat) (f : Nat × Nat × TypeId) : Bool :=
 Nat.ble f.1 j && Nat.blt j (f.1 + f.2.1) && (match tyN T f.2.2 with | some ti => (match ti.leaves[j - f.1]?, l[j]? with | some a, some b => tiEq a b | _, _ => false) | none => false)
def argT (T : List (Nat × TI)) : Nat → Nat → Bool
 | 0, _ => false
 | m + 1, t =>
  match tyN T t with
  | some .bool => true
  | some (.int _) => true
  | some .str => true
  | some (.slice e _) => argT T m e
  | some (.struct l fs) => (fs.all fun f => argT T m f.2.2) && (List.range l.length).all fun j => fs.any fun f => leafAt T l j f
  | _ => false
theorem seen_list {T : List (Nat × TI)} {w : World} : ∀ (vs : List Value) (ts : List TI), vs.length = ts.length → (∀ (j : Nat) v t, vs[j]? = some v → ts[j]? = some t → Seen T w v t) →
 ∃ cs : List Cell, FitL T ts cs ∧ ∀ (j : Nat) v c, vs[j]? = some v → cs[j]? = some c → Rd (Whole w) w v c
 | [], [], _, _ => ⟨[], ⟨rfl, fun j t c h => by simp at h⟩, fun j v c h => by simp at h⟩
 | v :: vs, t :: ts, hl, h => by
  obtain ⟨c, h1, h2⟩ := h 0 v t rfl rfl
  obtain ⟨cs, h3, h4⟩ := seen_list vs ts (by simpa using hl) fun j v t hv ht => h (j + 1) v t (by simpa using hv) (by simpa using ht)
  refine ⟨c :: cs, ⟨by simp [h3.1], fun j t' c' ht hc => ?_⟩, fun j v' c' hv hc => ?_⟩
  · cases j with
    | zero => simp at ht hc; subst ht hc; exact h2
    | succ j => exact h3.2 j t' c' (by simpa using ht) (by simpa using hc)
  · cases j with
    | zero => simp at hv hc; subst hv hc; exact h1
    | succ j => exact h4 j v' c' (by simpa using hv) (by simpa using hc)
theorem flat_get {α : Type} {sz : Nat} : ∀ (xs : List (List α)), (∀ x ∈ xs, x.length = sz) → ∀ (q r : Nat), r < sz → xs.flatten[q * sz + r]? = (xs[q]?).bind (·[r]?)
 | [], _, q, r, _ => by simp
 | x :: xs, h, q, r, hr => by
  have hx := h x (.head _)
  rw [List.flatten_cons, List.getElem?_append]
  cases q with
  | zero => rw [if_pos (by omega)]; simp
  | succ q =>
   rw [if_neg (by rw [hx, Nat.add_mul]; omega)]
   have e : (q + 1) * sz + r - x.length = q * sz + r := by rw [hx, Nat.add_mul]; omega
   rw [e, flat_get xs (fun y hy => h y (.tail _ hy)) q r hr]
   simp
theorem flat_len {α : Type} {sz : Nat} : ∀ (xs : List (List α)), (∀ x ∈ xs, x.length = sz) → xs.flatten.length = xs.length * sz
 | [], _ => by simp
 | x :: xs, h => by rw [List.flatten_cons, List.length_append, h x (.head _), flat_len xs fun y hy => h y (.tail _ hy), List.length_cons, Nat.add_mul]; omega
section
variable {H : Type} {enc : TypeId × Value → H} {w : World} {base : Nat} {spare : Nat → Bool} {held : Bool} {T : List (Nat × TI)}
theorem one_seen {v : Value} {t : TI} {cs : List Value} {ts : List TI} (hcs : cs = [v]) (hts : ts = [t]) (h : Seen T w v t) : cs.length = ts.length ∧ ∀ (j : Nat) v' t', cs[j]? = some v' → ts[j]? = some t' → Seen T w v' t' := by
 subst hcs hts
 refine ⟨rfl, fun j v' t' hv ht => ?_⟩
 cases j with
 | zero => simp at hv ht; subst hv ht; exact h
 | succ j => simp at hv
theorem arg_seen (hT : tysOk P T = true) : ∀ (m t : Nat) (ti : TI), argT T m t = true → tyN T t = some ti → ∀ {n : Nat} {cs : List Value} {y : DataW H × List MemPlace}, DataW.trod enc P w base spare held n t cs = some y →
 cs.length = ti.leaves.length ∧ ∀ (j : Nat) v tl, cs[j]? = some v → ti.leaves[j]? = some tl → Seen T w v tl
 | 0, _, _, h, _ => by cases h
 | m + 1, t, ti, h, ht => by
  intro hy
  obtain ⟨htt, hnt⟩ := tyN_some ht
  have hTy := tyIs_of (ty_ok hT htt) hnt
  simp only [argT, ht] at h
  split at h
  · rename_i he; cases he
    obtain ⟨b, rfl, _⟩ := DataW.trod_bool hTy.is_bool hy
    exact one_seen rfl rfl ⟨_, .bool b, .bool b⟩
  · rename_i k he; cases he
    obtain ⟨z, rfl, _, hw⟩ := DataW.trod_int hTy.is_int hy
    exact one_seen rfl rfl ⟨_, .int k z, .int k z hw⟩
  · rename_i he; cases he
    obtain ⟨s, rfl, _, hs⟩ := DataW.trod_string hTy.is_str hy
    refine one_seen rfl rfl ⟨_, ?_, .str s.data.toList (by simpa using hs)⟩
    have : s = ⟨s.data.toList.toArray⟩ := by cases s; simp
    rw [this]
    exact .str _
  · rename_i e sz he; cases he
    obtain ⟨hu, hsz, hz0, _, _⟩ := hTy.is_slice
    cases hte : tyN T e with
    | none =>
     exfalso
     cases m with
     | zero => cases h
     | succ m => simp only [argT, hte] at h; cases h
    | some tie =>
     obtain ⟨htt', hnt'⟩ := tyN_some hte
     have hle : P.cellsOf e = tie.leaves.length := (tyIs_of (ty_ok hT htt') hnt').cells
     rw [hsz] at hle
     have hcap := DataW.trod_slice hu hy
     rcases hcap with ⟨rfl, _⟩ | ⟨a, len, cap, _, _, _, _, rfl, _⟩
     · exact one_seen rfl rfl ⟨_, .slN sz, .sl e sz 0 [] tie hte hle.symm hz0 (by simp) (Nat.zero_le _) fun i j t c hi => by omega⟩
     · obtain ⟨p, xs, cap', hcs, hlc, hcm, hsh⟩ := open_shows (R := fun _ vs (cells : List Cell) => FitL T tie.leaves cells ∧ ∀ (j : Nat) v c, vs[j]? = some v → cells[j]? = some c → Rd (Whole w) w v c) hu hsz hz0 (fun {n cs y} hy => by
        obtain ⟨h1, h2⟩ := arg_seen hT m e tie h hte hy
        exact seen_list cs tie.leaves h1 h2) hy
       have hcs := (List.cons.inj hcs).1
       simp only [Value.slice.injEq] at hcs
       obtain ⟨rfl, rfl, rfl⟩ := hcs
       have hxl : ∀ x ∈ xs, x.length = sz := fun x hx => by
        obtain ⟨i, hi, rfl⟩ := List.getElem_of_mem hx
        obtain ⟨b, off, cs', h1, h2, h3, h4, h5, h6⟩ := hsh i hi
        rw [h5.1, hle]
       refine one_seen rfl rfl ⟨.sl none sz xs.flatten, ?_, .sl e sz xs.length _ tie hte hle.symm hz0 (flat_len xs hxl) (Nat.le_trans hlc hcm) fun i j t c hi htl hc => ?_⟩
       · cases hx : xs with
         | nil => simp; exact .sl0 a cap sz hz0
         | cons x0 xr =>
          rw [← hx]
          obtain ⟨b, off, cs0, h1, h2, h3, h4, h5⟩ := hsh 0 (by rw [hx]; simp)
          cases h1
          have key : ∀ i, i < xs.flatten.length → ∃ v, w.cell? ⟨b, off + i, none⟩ = some v ∧ ∀ c, xs.flatten[i]? = some c → Rd (Whole w) w v c := fun i hi => by
           rw [flat_len xs hxl] at hi
           have hq : i / sz < xs.length := Nat.div_lt_of_lt_mul (by rw [Nat.mul_comm]; exact hi)
           have hr : i % sz < sz := Nat.mod_lt _ hz0
           have hqr : i / sz * sz + i % sz = i := by rw [Nat.mul_comm]; exact Nat.div_add_mod _ _
           obtain ⟨b', off', cs', h6, h7, h8, h9, h10, h11⟩ := hsh (i / sz) hq
           cases h6
           have hv := h9 (i % sz) hr
           rw [Nat.add_assoc, hqr, List.getElem?_eq_getElem (by omega)] at hv
           refine ⟨_, hv, fun c hc => h11 (i % sz) _ c (List.getElem?_eq_getElem (by omega)) ?_⟩
           have hf := flat_get xs hxl (i / sz) (i % sz) hr
           rw [hqr, hc, List.getElem?_eq_getElem hq] at hf
           exact hf.symm
          refine .sl b off xs.length cap sz (fun i => (w.cell? ⟨b, off + i, none⟩).getD undef) _ hz0 (flat_len xs hxl) hlc (fun i hi => ⟨h2, ?_⟩) fun i c hc => ?_
          · obtain ⟨v, hv, _⟩ := key i hi
            simp [hv]
          · obtain ⟨v, hv, hvc⟩ := key i (List.getElem?_eq_some_iff.1 hc).1
            rw [hv]
            exact hvc c hc
       · obtain ⟨b, off, cs', h1, h2, h3, h4, h5, h6⟩ := hsh i hi
         have hjl : j < sz := by rw [hle]; exact (List.getElem?_eq_some_iff.1 htl).1
         rw [flat_get xs hxl i j hjl, List.getElem?_eq_getElem hi] at hc
         exact h5.2 j t c htl hc
  · rename_i l fs he; cases he
    obtain ⟨fields, hu, hfo⟩ := hTy.is_struct
    obtain ⟨hl, hf⟩ := field_of hu hy
    rw [hTy.cells] at hl
    simp only [Bool.and_eq_true] at h
    refine ⟨hl, fun j v tl hv htl => ?_⟩
    have hj : j < l.length := (List.getElem?_eq_some_iff.1 htl).1
    have hc := List.all_eq_true.1 h.2 j (by simpa using hj)
    obtain ⟨f, hfm, hc⟩ := List.any_eq_true.1 hc
    have harg := List.all_eq_true.1 h.1 f hfm
    obtain ⟨o, k, t'⟩ := f
    simp only [leafAt, Bool.and_eq_true] at hc
    obtain ⟨⟨h1, h2⟩, h3⟩ := hc
    have h1 := Nat.le_of_ble_eq_true h1
    have h2 : j < o + k := Nat.le_of_ble_eq_true h2
    split at h3
    · rename_i tif htf
      split at h3
      · rename_i ta tb hta htb
        have := tiEq_eq h3
        subst this
        have htl' : l[j]? = some tl := htl
        rw [htl'] at htb
        cases htb
        obtain ⟨i, hi⟩ := List.getElem?_of_mem hfm
        obtain ⟨fd, hfd, ho, hk, ht', _, _⟩ := fieldsOk_get fs fields.toList hfo i o k t' hi
        obtain ⟨m', y', hy'⟩ := hf i fd (by simpa using hfd) k hk
        rw [ht'] at hy'
        obtain ⟨_, h5⟩ := arg_seen hT m t' tif harg htf hy'
        refine h5 (j - o) v tl ?_ hta
        rw [← ho] at h1 h2 ⊢
        rw [List.getElem?_take, if_pos (by omega), List.getElem?_drop]
        rw [show fd.offset + (j - fd.offset) = j by omega]
        exact hv
      · cases h3
    · cases h3
  · cases h
end
end AX
end Go.Proofs.YtnkppakkeobegaaGreatDoor
namespace Go.Proofs.YtnkppakkeobegaaGreatDoor
open Go.ChangeShapes Go.WideShapes Go.ChangeAt Go.RowKit
namespace AX
variable [Inv] {P : Program}
section
variable {H : Type} {enc : TypeId × Value → H} {w : World} {base : Nat} {spare : Nat → Bool} {held : Bool} {T : List (Nat × TI)}
theorem seen_one {v : Value} {t : TI} (h : ∀ (j : Nat) v' t', [v][j]? = some v' → [t][j]? = some t' → Seen T w v' t') : ∃ c, Rv ⟨Whole w, [], fun _ => none⟩ w v (.one c) ∧ FitC T t c := by
 obtain ⟨c, h1, h2⟩ := h 0 v t rfl rfl
 exact ⟨c, .data h1, h2⟩
theorem arg_rv (hT : tysOk P T = true) {m t : Nat} {r : Reach} {b0 : Nat} {v : Value} {d : DataW H} {p : List MemPlace} (ha : argT T m t = true) (hok : Value.okWide P w r b0 t v) (h : DataW.Trod enc P w base spare held t v d p) :
 ∃ x, Rv ⟨Whole w, [], fun _ => none⟩ w v x ∧ FitT T t x := by
 obtain ⟨fuel, hf⟩ := h
 cases m with
 | zero => cases ha
 | succ m =>
  have ha0 := ha
  simp only [argT] at ha
  split at ha
  · rename_i ht
    obtain ⟨htt, hnt⟩ := tyN_some ht
    obtain ⟨b, rfl⟩ := okWide_bool (tyIs_of (ty_ok hT htt) hnt).is_bool hok
    obtain ⟨c, h1, h2⟩ := seen_one (arg_seen hT _ _ _ ha0 ht hf).2
    exact ⟨_, h1, _, ht, c, rfl, h2⟩
  · rename_i k ht
    obtain ⟨htt, hnt⟩ := tyN_some ht
    obtain ⟨b, rfl⟩ := okWide_int (tyIs_of (ty_ok hT htt) hnt).is_int hok
    obtain ⟨c, h1, h2⟩ := seen_one (arg_seen hT _ _ _ ha0 ht hf).2
    exact ⟨_, h1, _, ht, c, rfl, h2⟩
  · rename_i ht
    obtain ⟨htt, hnt⟩ := tyN_some ht
    obtain ⟨b, rfl⟩ := okWide_string (tyIs_of (ty_ok hT htt) hnt).is_str hok
    obtain ⟨c, h1, h2⟩ := seen_one (arg_seen hT _ _ _ ha0 ht hf).2
    exact ⟨_, h1, _, ht, c, rfl, h2⟩
  · rename_i e sz ht
    obtain ⟨htt, hnt⟩ := tyN_some ht
    obtain ⟨a, l, cap, rfl⟩ := okWide_slice (tyIs_of (ty_ok hT htt) hnt).is_slice.1 hok
    obtain ⟨c, h1, h2⟩ := seen_one (arg_seen hT _ _ _ ha0 ht hf).2
    exact ⟨_, h1, _, ht, c, rfl, h2⟩
  · rename_i l fs ht
    obtain ⟨htt, hnt⟩ := tyN_some ht
    obtain ⟨fields, hu, _⟩ := (tyIs_of (ty_ok hT htt) hnt).is_struct
    obtain ⟨cs, rfl, _⟩ := okWide_struct hu hok
    obtain ⟨h1, h2⟩ := arg_seen hT _ _ _ ha0 ht hf
    obtain ⟨xs, h3, h4⟩ := seen_list _ _ h1 h2
    refine ⟨.agg xs, ⟨cs, rfl, ?_, fun i v c hv hc => .data (h4 i v c (by simpa [Value.cells] using hv) hc)⟩, _, ht, xs, rfl, h3⟩
    have e1 := h3.1
    simp only [Value.cells] at h1
    show cs.size = xs.length
    rw [e1, ← h1]; simp
  · cases ha
theorem args_rv (hT : tysOk P T = true) {m : Nat} {r : Reach} {b0 : Nat} : ∀ (ts : List TypeId) (vs : List Value) (ds : List (DataW H)) (ps : List MemPlace), (ts.all fun t => argT T m t) = true →
 (∀ (j : Nat) t v, ts[j]? = some t → vs[j]? = some v → Value.okWide P w r b0 t v) → DataW.TrodAll enc P w base spare held ts vs ds ps →
 ∃ xs, All2 (fun x v => Rv ⟨Whole w, [], fun _ => none⟩ w v x) xs vs ∧ All2 (FitT T) ts xs
 | [], [], [], _, _, _, _ => ⟨[], .nil, .nil⟩
 | t :: ts, v :: vs, d :: ds, ps, ha, hok, h => by
  obtain ⟨p, q, h1, h2, rfl⟩ := h
  simp only [List.all_cons, Bool.and_eq_true] at ha
  obtain ⟨x, h3, h4⟩ := arg_rv hT ha.1 (hok 0 t v rfl rfl) h1
  obtain ⟨xs, h5, h6⟩ := args_rv hT ts vs ds q ha.2 (fun j t v ht hv => hok (j + 1) t v (by simpa using ht) (by simpa using hv)) h2
  exact ⟨x :: xs, .cons h3 h5, .cons h4 h6⟩
 | [], [], _ :: _, _, _, _, h => h.elim
 | [], _ :: _, _, _, _, _, h => h.elim
 | _ :: _, [], _, _, _, _, h => h.elim
 | _ :: _, _ :: _, [], _, _, _, h => h.elim
end
theorem law_calls {E : Env} {fx : FuncId → Option FX} (hE : EnvOk P E) (hfol : P.follows .mixedOrders = true) (hF : ∀ f x, fx f = some x → FunOk P f x) {f : FuncId} {fn : Func} {m : Nat} (ha : (fn.params.toList.all fun t => argT E.T m t) = true)
 (law : ∀ xs, All2 (FitT E.T) fn.params.toList xs → ∃ n G', acall E fx n f xs [] = some (.one (.bool true), G'))
 {H : Type} {enc : TypeId × Value → H} {W : World} {base : Nat} {args : Array Value} {ds : List (DataW H)} {ps : List MemPlace} (hA : DataW.TrodAll enc P W 0 (fun _ => true) true fn.params.toList args.toList ds ps)
 (hok : ∀ (j : Nat) t v, fn.params[j]? = some t → args[j]? = some v → Value.okWide P W .any base t v) (hI : Inv.I W) :
 Calls P f args W fun r w' => r = .returned (.bool true) ∧ Below W.heap.size W w' := by
 obtain ⟨xs, h1, h2⟩ := args_rv hE.T fn.params.toList args.toList ds ps ha (fun j t v ht hv => hok j t v (by simpa using ht) (by simpa using hv)) hA
 obtain ⟨n, G', hn⟩ := law xs h2
 have hC := acall_sound hE hfol hF n
 have ok := hC.ok f xs [] _ _ hn ⟨Whole W, [], fun _ => none⟩ (fun _ => False) W args.toList (fun w' h1 h2 h3 h4 h5 => Inv.below W w' hI ⟨h1, h2, h3, h4, fun k hk => h5 k hk id⟩) (fun b j h => h)
  ⟨by unfold inH; cases E.isG f <;> rfl, List.nodup_nil, fun blk hb => (by simp at hb), fun L v b h => (by cases h), fun i cs h => (by unfold inH at h; cases hg : E.isG f <;> rw [hg] at h <;> simp at h)⟩ ⟨fun L v h => (by cases h), fun L L' v v' _ h => (by cases h)⟩ (fun blk hb => by simp at hb) (fun L v b h => by cases h)
  (fun _ => ⟨⟨rfl, List.nodup_nil, fun i cs h => (by simp at h), fun blk hb => (by simp [Whole] at hb), fun i j e v h => (by cases h), fun i j i' j' e e' v v' b h => (by cases h), fun b hp => (by rcases hp with hp | ⟨_, _, _, _, hp, _⟩ <;> simp [Whole] at hp), fun L u b h => (by cases h)⟩, fun k hp => by rcases hp with hp | ⟨_, _, _, _, hp, _⟩ <;> simp [Whole] at hp⟩) h1
 refine ok.mono fun e w' ⟨u, g', B, fr, HH, GG, a', he, e1, e2, e3, e4, e5, S', hr, _⟩ => ?_
 obtain ⟨w0, M0, D0, nt, bx0, gm, kI⟩ := B
 simp only at e1 e2 e3 e4 e5
 subst e1 e2 e3 e4 e5
 cases Rc.bool_inv hr
 exact ⟨he, ⟨S'.fr.os, S'.fr.tape, S'.fr.output, S'.fr.size, fun k hk => S'.fr.block k hk (fun h => h)⟩⟩
end AX
end Go.Proofs.YtnkppakkeobegaaGreatDoor
namespace Go.Proofs.YtnkppakkeobegaaGreatDoor
open Go.ChangeShapes Go.WideShapes Go.ChangeAt Go.RowKit
namespace AX
variable [Inv] {P : Program}
theorem own_res {M : Mem} {w w' : World} {e : TypeId} {sz n : Nat} {v : Value} {xs : List Value} {cs : List Cell} (hl : ∀ b j, M b j → b < w.heap.size) (hb : Below w.heap.size w w') (h : w'.ownsRow w.heap.size e sz v n xs) (hz : 0 < sz)
 (hlen : cs.length = xs.length) (hx : ∀ (i : Nat) x c, xs[i]? = some x → cs[i]? = some c → Rd M w x c) : ∃ M', Grow ⟨M, [], fun _ => none⟩ w M' w' ∧ Rd M' w' v (.sl none sz cs) := by
 have hc := h
 obtain ⟨h1, h2⟩ := h
 rcases h2 with ⟨rfl, rfl⟩ | ⟨b, cap, cur, rfl, hge, hg, hnc, hcm, hcs, htake⟩
 · have : cs = [] := List.eq_nil_of_length_eq_zero (by rw [hlen, h1]; simp)
   subst this
   exact ⟨M, ⟨hb, fun _ _ h => h, fun _ _ _ h => h, fun b j h => Nat.lt_of_lt_of_le (hl b j h) hb.size, rfl, rfl⟩, .slN sz⟩
 · have hlt : b < w'.heap.size := (Array.getElem?_eq_some_iff.1 hg).1
   let M' : Mem := ⟨fun k j => M k j ∨ (k = b ∧ j < n * sz), M.gx, M.gw⟩
   have hG : Grow ⟨M, [], fun _ => none⟩ w M' w' := ⟨hb, fun _ _ h => .inl h, fun k j hk h => h.elim id fun h => by omega, fun k j h => h.elim (fun h => Nat.lt_of_lt_of_le (hl k j h) hb.size) fun h => by omega, rfl, rfl⟩
   refine ⟨M', hG, .sl b 0 n cap sz (fun i => xs.getD i undef) cs hz (by rw [hlen, h1]) hnc (fun i hi => ⟨.inr ⟨rfl, by omega⟩, ?_⟩) fun i c hcc => ?_⟩
   · have hi' : i < xs.length := by omega
     have e1 := hc.cells (g := b) rfl i _ (List.getElem?_eq_getElem hi')
     rw [Addr.add_lit] at e1
     rw [e1]
     simp [List.getD, List.getElem?_eq_getElem hi']
   · have hi' : i < xs.length := by have := (List.getElem?_eq_some_iff.1 hcc).1; omega
     have := hx i _ c (List.getElem?_eq_getElem hi') hcc
     have e2 : xs.getD i undef = xs[i] := by simp [List.getD, List.getElem?_eq_getElem hi']
     rw [e2]
     exact this.kept (hG.kp hl)
def strsOf : List Cell → Option (List (List UInt8))
 | [] => some []
 | .str l :: r => (match strsOf r with | some ls => some (l :: ls) | none => none)
 | _ => none
theorem strsOf_eq : ∀ (cs : List Cell) (ls : List (List UInt8)), strsOf cs = some ls → cs = ls.map .str
 | [], ls, h => by cases h; rfl
 | c :: r, ls, h => by
  cases c with
  | str l =>
   simp only [strsOf] at h
   split at h
   · rename_i ls' hr
     cases h
     rw [strsOf_eq r ls' hr]; rfl
   · cases h
  | _ => cases h
theorem row_at {M : Mem} {w : World} {v : Value} {cs : List Cell} (h : Rd M w v (.sl none 1 cs)) : ∃ p cap, v = .slice p cs.length cap ∧ cs.length ≤ cap ∧ ∀ i c, cs[i]? = some c → ∃ b off u, p = some ⟨b, off, none⟩ ∧ b < w.heap.size ∧ w.cell? ⟨b, off + i, none⟩ = some u ∧ Rd M w u c := by
 cases h with
 | slN => exact ⟨none, 0, rfl, Nat.le_refl _, fun i c h => by simp at h⟩
 | sl0 a cap _ _ => exact ⟨some a, cap, rfl, Nat.zero_le _, fun i c h => by simp at h⟩
 | sl b off len cap _ f _ h1 h2 h3 h4 h5 =>
  obtain rfl : cs.length = len := by simpa using h2
  refine ⟨some ⟨b, off, none⟩, cap, rfl, h3, fun i c hc => ?_⟩
  have hi := (List.getElem?_eq_some_iff.1 hc).1
  have := h4 i hi
  exact ⟨b, off, f i, rfl, World.block_lt_of_cell? w _ this.2, this.2, h5 i c hc⟩
theorem agg3 {g : Gh} {w : World} {v : Value} {a b c : Cell} (h : Rv g w v (.agg [a, b, c])) : ∃ x y z, v = .agg #[x, y, z] ∧ Rc g w x a ∧ Rc g w y b ∧ Rc g w z c := by
 obtain ⟨vs, rfl, h1, h2⟩ := h
 obtain ⟨l⟩ := vs
 match l, h1 with
 | [x, y, z], _ => exact ⟨x, y, z, rfl, h2 0 x a rfl rfl, h2 1 y b rfl rfl, h2 2 z c rfl rfl⟩
theorem All2.one {α β : Type} {R : α → β → Prop} {a : α} {l : List β} (h : All2 R [a] l) : ∃ b, l = [b] ∧ R a b := by
 cases h with
 | cons h1 h2 => cases h2; exact ⟨_, rfl, h1⟩
theorem All2.two {α β : Type} {R : α → β → Prop} {a b : α} {l : List β} (h : All2 R [a, b] l) : ∃ x y, l = [x, y] ∧ R a x ∧ R b y := by
 cases h with
 | cons h1 h2 => obtain ⟨y, rfl, h3⟩ := h2.one; exact ⟨_, _, rfl, h1, h3⟩
theorem All2.three {α β : Type} {R : α → β → Prop} {a b c : α} {l : List β} (h : All2 R [a, b, c] l) : ∃ x y z, l = [x, y, z] ∧ R a x ∧ R b y ∧ R c z := by
 cases h with
 | cons h1 h2 => obtain ⟨y, z, rfl, h3, h4⟩ := h2.two; exact ⟨_, _, _, rfl, h1, h3, h4⟩
theorem byteCells_rel {M : Mem} {w : World} (l : List UInt8) : ∀ (i : Nat) x c, (Lib.byteCells l)[i]? = some x → (AX.byteCells l)[i]? = some c → Rd M w x c := fun i x c hx hc => by
 simp only [Lib.byteCells, AX.byteCells, List.getElem?_map] at hx hc
 cases hl : l[i]? with
 | none => rw [hl] at hx; cases hx
 | some b => rw [hl] at hx hc; cases hx; cases hc; exact .int _ _
theorem funOk_nil : ∀ (f : FuncId) (x : FX), none = some x → FunOk P f x := fun f x h => by cases h
theorem funOk_cons {k : Nat} {y : FX} {g : FuncId → Option FX} (hk : FunOk P k y) (hg : ∀ f x, g f = some x → FunOk P f x) : ∀ (f : FuncId) (x : FX), (bif Nat.beq f k then some y else g f) = some x → FunOk P f x := fun f x h => by
 cases hb : Nat.beq f k with
 | true =>
  rw [hb] at h
  cases h
  rw [Nat.eq_of_beq_eq_true hb]; exact hk
 | false => rw [hb] at h; exact hg f x h
theorem primOk_nil : ∀ f p, primOf [] f = some p → PrimOk P f p := fun f p h => by cases h
theorem primOk_cons {k : Nat} {q : List AV → Option AV} {l : List (Nat × (List AV → Option AV))} (hk : PrimOk P k q) (hl : ∀ f p, primOf l f = some p → PrimOk P f p) : ∀ f p, primOf ((k, q) :: l) f = some p → PrimOk P f p := fun f p h => by
 simp only [primOf] at h
 cases hb : Nat.beq k f with
 | true =>
  rw [hb] at h
  cases h
  rw [← Nat.eq_of_beq_eq_true hb]; exact hk
 | false => rw [hb] at h; exact hl f p h
theorem primHOk_nil : ∀ f p, primHOf [] f = some p → PrimHOk P f p := fun f p h => by cases h
theorem primHOk_cons {k : Nat} {q : List AV → List Cell → Option (AV × List Cell)} {l : List (Nat × (List AV → List Cell → Option (AV × List Cell)))} (hk : PrimHOk P k q) (hl : ∀ f p, primHOf l f = some p → PrimHOk P f p) : ∀ f p, primHOf ((k, q) :: l) f = some p → PrimHOk P f p := fun f p h => by
 simp only [primHOf] at h
 cases hb : Nat.beq k f with
 | true =>
  rw [hb] at h
  cases h
  rw [← Nat.eq_of_beq_eq_true hb]; exact hk
 | false => rw [hb] at h; exact hl f p h
def primGOf : List (Nat × (List AV → List (List Cell) → Option AV)) → FuncId → Option (List AV → List (List Cell) → Option AV)
 | [], _ => none
 | (k, p) :: r, f => bif Nat.beq k f then some p else primGOf r f
theorem primGOk_nil : ∀ f p, primGOf [] f = some p → PrimGOk P f p := fun f p h => by cases h
theorem primGOk_cons {k : Nat} {q : List AV → List (List Cell) → Option AV} {l : List (Nat × (List AV → List (List Cell) → Option AV))} (hk : PrimGOk P k q) (hl : ∀ f p, primGOf l f = some p → PrimGOk P f p) : ∀ f p, primGOf ((k, q) :: l) f = some p → PrimGOk P f p := fun f p h => by
 simp only [primGOf] at h
 cases hb : Nat.beq k f with
 | true =>
  rw [hb] at h
  cases h
  rw [← Nat.eq_of_beq_eq_true hb]; exact hk
 | false => rw [hb] at h; exact hl f p h
theorem primSOk_nil : ∀ f p, primSOf [] f = some p → PrimSOk P f p := fun f p h => by cases h
end AX
end Go.Proofs.YtnkppakkeobegaaGreatDoor
