/-
  The decoder of a message with points, as plain steps over a list of bytes; and the document's reading, line by line; they agree. No program.
-/
import Derived.Test.YtpoaegcaaflogaaDoorBase
namespace Go.Proofs.YtpoaegcaaflogaaDoor

/-- Where a decoder is: its state, the bytes of its line, what has been kept (cut nowhere), what is wrong. -/
structure Dec where
  st : Nat
  line : Nat
  all : List UInt8
  long : Bool
  bare : Bool
def Dec.keep (d : Dec) (c : UInt8) : Dec := { d with line := d.line + 1, all := d.all ++ [c], long := d.long || decide (1000 < d.line + 1) }
def Dec.plain (d : Dec) (c : UInt8) : Dec := { d.keep c with st := if c = 13 then 4 else 3, bare := d.bare || decide (c = 10) }
def Dec.step (d : Dec) (c : UInt8) : Dec :=
  if d.st = 0 then (if c = 46 then { d with st := 1, line := 0 } else { d with line := 0 }.plain c)
  else if d.st = 1 then (if c = 13 then { d with st := 2 } else d.plain c)
  else if d.st = 2 then (if c = 10 then { d with st := 5 } else ({ d with bare := true }.keep 13).plain c)
  else if d.st = 3 then d.plain c
  else if d.st = 4 then (if c = 10 then { d.keep 10 with st := 0 } else { d with bare := true }.plain c)
  else d
/-- Steps till the end; how many bytes were used. -/
def Dec.feed : Dec → List UInt8 → Dec × Nat
  | d, [] => (d, 0)
  | d, c :: r => if d.st = 5 then (d, 0) else (((d.step c).feed r).1, ((d.step c).feed r).2 + 1)
def Dec.zero : Dec := ⟨0, 0, [], false, false⟩
theorem feed_done {d : Dec} (h : d.st = 5) (l : List UInt8) : d.feed l = (d, 0) := by cases l <;> simp [Dec.feed, h]
theorem feed_append : ∀ (a b : List UInt8) (d : Dec), d.feed (a ++ b) = (((d.feed a).1.feed b).1, (d.feed a).2 + ((d.feed a).1.feed b).2)
  | [], b, d => by simp [Dec.feed]
  | c :: a, b, d => by
    by_cases h : d.st = 5
    · rw [feed_done h, feed_done h]; simp [feed_done h]
    · have ih := feed_append a b (d.step c)
      simp only [List.cons_append, Dec.feed, if_neg h, ih]
      simp; omega
theorem feed_le : ∀ (l : List UInt8) (d : Dec), (d.feed l).2 ≤ l.length
  | [], d => by simp [Dec.feed]
  | c :: l, d => by
    have := feed_le l (d.step c)
    by_cases h : d.st = 5
    · simp [Dec.feed, h]
    · simp only [Dec.feed, if_neg h, List.length_cons]; omega

/-- Where the first CR LF ends, the byte ahead being a CR or not. -/
def endQ : Bool → List UInt8 → Option Nat
  | _, [] => none
  | p, c :: r => if p = true ∧ c = 10 then some 1 else (endQ (decide (c = 13)) r).map (1 + ·)
/-- Does a CR or LF stand alone? -/
def bareL : Bool → List UInt8 → Bool → Bool
  | p, [], o => p && !o
  | p, c :: r, o => if c = 10 then !p || bareL false r o else p || bareL (decide (c = 13)) r o
theorem endQ_le : ∀ (l : List UInt8) (p : Bool) (n : Nat), endQ p l = some n → 0 < n ∧ n ≤ l.length
  | [], _, _, h => by rw [endQ] at h; cases h
  | c :: l, p, n, h => by
    rw [endQ] at h
    split at h
    · cases h; simp
    · cases hx : endQ (decide (c = 13)) l with
      | none => rw [hx] at h; cases h
      | some k =>
        rw [hx] at h
        have := endQ_le l _ k hx
        cases h
        simp; omega
/-- The same in another state. -/
def Dec.to (d : Dec) (s : Nat) : Dec := ⟨s, d.line, d.all, d.long, d.bare⟩
/-- What a part of a line, from its beginning or from within, does to a decoder. -/
def Dec.more (d : Dec) (l : List UInt8) (b : Bool) : Dec := ⟨d.st, d.line + l.length, d.all ++ l, d.long || decide (0 < l.length ∧ 1000 < d.line + l.length), d.bare || b⟩
theorem more_more (d : Dec) (s0 s : Nat) (c : UInt8) (t : List UInt8) (a b : Bool) : (((d.more [c] a).to s0).more t b).to s = (d.more (c :: t) (a || b)).to s := by
  simp only [Dec.to, Dec.more, List.length_cons, List.length_nil, List.append_assoc, List.singleton_append, Bool.or_assoc, Dec.mk.injEq, true_and, and_true]
  refine ⟨by omega, ?_⟩
  congr 1
  rw [Bool.eq_iff_iff]
  simp
  omega
theorem line_run : ∀ (l : List UInt8) (p : Bool) (d : Dec), d.st = (if p = true then 4 else 3) →
    (∀ n, endQ p l = some n → d.feed l = ((((d.more (l.take n) (bareL p (l.take n) false)).to 0).feed (l.drop n)).1, n + ((((d.more (l.take n) (bareL p (l.take n) false)).to 0).feed (l.drop n)).2))) ∧
    (endQ p l = none → ∃ s, (s = 3 ∨ s = 4) ∧ d.feed l = ((d.more l (bareL p l true)).to s, l.length))
  | [], p, d, hs => by
    refine ⟨fun n h => (by rw [endQ] at h; cases h), fun _ => ⟨d.st, by rw [hs]; cases p <;> simp, ?_⟩⟩
    simp [Dec.feed, Dec.more, Dec.to, bareL]
  | c :: r, p, d, hs => by
    have h5 : ¬ d.st = 5 := by rw [hs]; cases p <;> simp
    by_cases hend : p = true ∧ c = 10
    · obtain ⟨rfl, rfl⟩ := hend
      have e : endQ true (10 :: r) = some 1 := by simp [endQ]
      refine ⟨fun n h => ?_, fun h => by rw [e] at h; cases h⟩
      rw [e] at h; cases h
      have hst : d.step 10 = (d.more [10] false).to 0 := by
        unfold Dec.step
        simp [hs, Dec.keep, Dec.more, Dec.to]
      have hb : bareL true [10] false = false := by decide
      rw [Dec.feed, if_neg h5, List.take_succ_cons, List.take_zero, List.drop_succ_cons, List.drop_zero, hb, hst, Nat.add_comm]
    · have e : endQ p (c :: r) = (endQ (decide (c = 13)) r).map (1 + ·) := by rw [endQ, if_neg hend]
      have hst : d.step c = (d.more [c] ((p && true) || decide (c = 10))).to (if c = 13 then 4 else 3) := by
        unfold Dec.step
        cases p with
        | false => simp [hs, Dec.plain, Dec.keep, Dec.more, Dec.to]
        | true =>
          have hc : ¬ c = 10 := fun h => hend ⟨rfl, h⟩
          simp [hs, hc, Dec.plain, Dec.keep, Dec.more, Dec.to]
      have ih := line_run r (decide (c = 13)) (d.step c) (by rw [hst]; simp [Dec.to])
      have hbare : ∀ t o, bareL p (c :: t) o = (((p && true) || decide (c = 10)) || bareL (decide (c = 13)) t o) := fun t o => by
        rw [bareL]
        by_cases hc : c = 10
        · subst hc
          have : p = false := by cases p <;> simp_all
          subst this
          simp
        · simp [hc]
      have hmore : ∀ t b s, ((d.step c).more t b).to s = (d.more (c :: t) (((p && true) || decide (c = 10)) || b)).to s := fun t b s => by rw [hst, more_more]
      refine ⟨fun n h => ?_, fun h => ?_⟩
      · rw [e] at h
        cases hx : endQ (decide (c = 13)) r with
        | none => rw [hx] at h; cases h
        | some k =>
          rw [hx] at h
          have hn : n = k + 1 := by cases h; show 1 + k = k + 1; omega
          subst hn
          have h1 := ih.1 k hx
          rw [Dec.feed, if_neg h5, List.take_succ_cons, List.drop_succ_cons, hbare, h1, hmore]
          refine Prod.ext_iff.2 ⟨rfl, ?_⟩
          show k + _ + 1 = k + 1 + _
          omega
      · rw [e] at h
        cases hx : endQ (decide (c = 13)) r with
        | some k => rw [hx] at h; cases h
        | none =>
          obtain ⟨s, hs', h1⟩ := ih.2 hx
          refine ⟨s, hs', ?_⟩
          rw [Dec.feed, if_neg h5, h1, hmore, hbare]
          rfl
/-- The document's reading. -/
structure Rdg where
  all : List UInt8
  long : Bool
  bare : Bool
  used : Nat
  done : Bool
def stripDot (l : List UInt8) : List UInt8 := if l.head? = some 46 then l.drop 1 else l
def Rdg.line (g : Rdg) (l : List UInt8) (o : Bool) : Rdg := { g with all := g.all ++ stripDot l, long := g.long || decide (1000 < (stripDot l).length), bare := g.bare || bareL false (stripDot l) o, used := g.used + l.length }
def decR (l : List UInt8) (g : Rdg) : Rdg :=
  if l = [] then g else
  match _h : endQ false l with
  | some n => if l.take n = [46, 13, 10] then { g with done := true, used := g.used + n } else decR (l.drop n) (g.line (l.take n) false)
  | none => if l = [46] ∨ l = [46, 13] then { g with used := g.used + l.length } else g.line l true
termination_by l.length
decreasing_by
  have := endQ_le _ _ _ ‹_›
  simp; omega
/-- At the beginning of a line: as from within an empty one. -/
def Dec.fresh (d : Dec) : Dec := ⟨3, 0, d.all, d.long, d.bare⟩
theorem start_plain (d : Dec) (hd : d.st = 0) (c : UInt8) (r : List UInt8) (hc : ¬ c = 46) : d.feed (c :: r) = d.fresh.feed (c :: r) := by
  have e : d.step c = d.fresh.step c := by
    unfold Dec.step Dec.fresh
    simp [hd, hc, Dec.plain, Dec.keep]
  rw [Dec.feed, if_neg (by rw [hd]; decide), Dec.feed, if_neg (by simp [Dec.fresh]), e]
theorem start_point (d : Dec) (hd : d.st = 0) (r : List UInt8) (h1 : ¬ r = []) (h2 : ¬ r = [13]) (h3 : ∀ t, ¬ r = 13 :: 10 :: t) : d.feed (46 :: r) = ((d.fresh.feed r).1, (d.fresh.feed r).2 + 1) := by
  have e1 : d.step 46 = ⟨1, 0, d.all, d.long, d.bare⟩ := by unfold Dec.step; simp [hd]
  rw [Dec.feed, if_neg (by rw [hd]; decide), e1]
  suffices h : Dec.feed ⟨1, 0, d.all, d.long, d.bare⟩ r = d.fresh.feed r by rw [h]
  match r, h1, h2, h3 with
  | c :: t, _, h2, h3 =>
    by_cases hc : c = 13
    · subst hc
      match t, h2, h3 with
      | c2 :: u, _, h3 =>
        have hc2 : ¬ c2 = 10 := fun e => h3 u (by rw [e])
        have a1 : Dec.step ⟨1, 0, d.all, d.long, d.bare⟩ 13 = ⟨2, 0, d.all, d.long, d.bare⟩ := by unfold Dec.step; simp
        have a2 : d.fresh.step 13 = ⟨4, 1, d.all ++ [13], d.long || decide (1000 < 1), d.bare⟩ := by unfold Dec.step Dec.fresh; simp [Dec.plain, Dec.keep]
        have a3 : Dec.step ⟨2, 0, d.all, d.long, d.bare⟩ c2 = Dec.step ⟨4, 1, d.all ++ [13], d.long || decide (1000 < 1), d.bare⟩ c2 := by
          unfold Dec.step
          simp [hc2, Dec.plain, Dec.keep]
        rw [Dec.feed, if_neg (by simp), a1, Dec.feed, if_neg (by simp), a3, Dec.feed, if_neg (by simp [Dec.fresh]), a2, Dec.feed, if_neg (by simp)]
    · have a : Dec.step ⟨1, 0, d.all, d.long, d.bare⟩ c = d.fresh.step c := by
        unfold Dec.step Dec.fresh
        simp [hc, Dec.plain, Dec.keep]
      rw [Dec.feed, if_neg (by simp), Dec.feed, if_neg (by simp [Dec.fresh]), a]
theorem endQ_ne (c : UInt8) (r : List UInt8) : endQ false (c :: r) = (endQ (decide (c = 13)) r).map (1 + ·) := by rw [endQ, if_neg (by simp)]
structure Agree (d : Dec) (k : Nat) (g g0 : Rdg) : Prop where
  all : d.all = g.all
  long : d.long = g.long
  bare : d.bare = g.bare
  used : k + g0.used = g.used
  done : decide (d.st = 5) = g.done
theorem more_all (d : Dec) (L : List UInt8) (b : Bool) (s : Nat) : ((d.fresh.more L b).to s).all = d.all ++ L ∧ ((d.fresh.more L b).to s).long = (d.long || decide (1000 < L.length)) ∧ ((d.fresh.more L b).to s).bare = (d.bare || b) ∧ ((d.fresh.more L b).to s).st = s := by
  refine ⟨rfl, ?_, rfl, rfl⟩
  show (d.long || decide (0 < L.length ∧ 1000 < 0 + L.length)) = _
  congr 1
  rw [Bool.eq_iff_iff]; simp; omega
theorem dec_law : ∀ (m : Nat) (l : List UInt8) (g : Rdg) (d : Dec), l.length ≤ m → d.st = 0 → d.all = g.all → d.long = g.long → d.bare = g.bare → g.done = false → Agree (d.feed l).1 (d.feed l).2 (decR l g) g := by
  intro m
  induction m with
  | zero =>
    intro l g d hl hd h1 h2 h3 h4
    obtain rfl : l = [] := List.eq_nil_of_length_eq_zero (by omega)
    rw [decR, if_pos rfl]
    exact ⟨h1, h2, h3, by simp [Dec.feed], by simp [Dec.feed, hd, h4]⟩
  | succ m ih =>
    intro l g d hl hd h1 h2 h3 h4
    match l with
    | [] =>
      rw [decR, if_pos rfl]
      exact ⟨h1, h2, h3, by simp [Dec.feed], by simp [Dec.feed, hd, h4]⟩
    | c :: r =>
      rw [decR, if_neg (by simp)]
      -- a line with its end, and one without
      have whole : ∀ n, endQ false (c :: r) = some n → ¬ (c :: r).take n = [46, 13, 10] → ∀ L, L = stripDot ((c :: r).take n) →
          d.feed (c :: r) = ((((d.fresh.more L (bareL false L false)).to 0).feed ((c :: r).drop n)).1, n + (((d.fresh.more L (bareL false L false)).to 0).feed ((c :: r).drop n)).2) →
          Agree (d.feed (c :: r)).1 (d.feed (c :: r)).2 (decR ((c :: r).drop n) (g.line ((c :: r).take n) false)) g := by
        intro n hn hx L hL hf
        have hle := endQ_le _ _ _ hn
        obtain ⟨e1, e2, e3, e4⟩ := more_all d L (bareL false L false) 0
        have := ih ((c :: r).drop n) (g.line ((c :: r).take n) false) ((d.fresh.more L (bareL false L false)).to 0) (by simp at hl ⊢; omega) e4
          (by rw [e1, hL, h1]; rfl) (by rw [e2, hL, h2]; rfl) (by rw [e3, hL, h3]; rfl) h4
        rw [hf]
        refine ⟨this.all, this.long, this.bare, ?_, this.done⟩
        have hu := this.used
        have hg : (g.line ((c :: r).take n) false).used = g.used + n := by
          show g.used + ((c :: r).take n).length = _
          rw [List.length_take]; simp at hle ⊢; omega
        rw [hg] at hu
        rw [← hu]; omega
      have part : ∀ s, (s = 3 ∨ s = 4) → ∀ L, L = stripDot (c :: r) → d.feed (c :: r) = ((d.fresh.more L (bareL false L true)).to s, (c :: r).length) →
          Agree (d.feed (c :: r)).1 (d.feed (c :: r)).2 (g.line (c :: r) true) g := by
        intro s hs L hL hf
        obtain ⟨e1, e2, e3, e4⟩ := more_all d L (bareL false L true) s
        rw [hf]
        refine ⟨by rw [e1, hL, h1]; rfl, by rw [e2, hL, h2]; rfl, by rw [e3, hL, h3]; rfl, ?_, ?_⟩
        · show (c :: r).length + g.used = g.used + (c :: r).length; omega
        · rw [e4]; show _ = g.done; rw [h4]; rcases hs with rfl | rfl <;> rfl
      by_cases hc : c = 46
      · subst hc
        by_cases p1 : r = []
        · subst p1
          have e : endQ false [46] = none := by decide
          rw [e]
          simp only [true_or, if_true]
          have e1 : d.feed [46] = (⟨1, 0, d.all, d.long, d.bare⟩, 1) := by
            rw [Dec.feed, if_neg (by rw [hd]; decide)]
            have : d.step 46 = ⟨1, 0, d.all, d.long, d.bare⟩ := by unfold Dec.step; simp [hd]
            rw [this]; rfl
          rw [e1]
          exact ⟨h1, h2, h3, by show 1 + g.used = g.used + 1; omega, by show _ = g.done; rw [h4]; rfl⟩
        · by_cases p2 : r = [13]
          · subst p2
            have e : endQ false [46, 13] = none := by decide
            rw [e]
            simp only [or_true, if_true]
            have e1 : d.feed [46, 13] = (⟨2, 0, d.all, d.long, d.bare⟩, 2) := by
              have a1 : d.step 46 = ⟨1, 0, d.all, d.long, d.bare⟩ := by unfold Dec.step; simp [hd]
              have a2 : Dec.step ⟨1, 0, d.all, d.long, d.bare⟩ 13 = ⟨2, 0, d.all, d.long, d.bare⟩ := by unfold Dec.step; simp
              rw [Dec.feed, if_neg (by rw [hd]; decide), a1, Dec.feed, if_neg (by simp), a2]; rfl
            rw [e1]
            exact ⟨h1, h2, h3, by show 2 + g.used = g.used + 2; omega, by show _ = g.done; rw [h4]; rfl⟩
          · by_cases p3 : ∃ t, r = 13 :: 10 :: t
            · obtain ⟨t, rfl⟩ := p3
              have e : endQ false (46 :: 13 :: 10 :: t) = some 3 := by simp [endQ]
              rw [e]
              have et : (46 :: 13 :: 10 :: t : List UInt8).take 3 = [46, 13, 10] := by simp
              simp only [et, if_true]
              have e1 : d.feed (46 :: 13 :: 10 :: t) = (⟨5, 0, d.all, d.long, d.bare⟩, 3) := by
                have a1 : d.step 46 = ⟨1, 0, d.all, d.long, d.bare⟩ := by unfold Dec.step; simp [hd]
                have a2 : Dec.step ⟨1, 0, d.all, d.long, d.bare⟩ 13 = ⟨2, 0, d.all, d.long, d.bare⟩ := by unfold Dec.step; simp
                have a3 : Dec.step ⟨2, 0, d.all, d.long, d.bare⟩ 10 = ⟨5, 0, d.all, d.long, d.bare⟩ := by unfold Dec.step; simp
                rw [Dec.feed, if_neg (by rw [hd]; decide), a1, Dec.feed, if_neg (by simp), a2, Dec.feed, if_neg (by simp), a3, feed_done rfl]
              rw [e1]
              exact ⟨h1, h2, h3, by show 3 + g.used = g.used + 3; omega, rfl⟩
            · have hf := start_point d hd r p1 p2 (fun t e => p3 ⟨t, e⟩)
              have hr := line_run r false d.fresh rfl
              have hE : endQ false (46 :: r) = (endQ false r).map (1 + ·) := by rw [endQ_ne]; rfl
              cases hx : endQ false r with
              | some k =>
                have hE2 : endQ false (46 :: r) = some (k + 1) := by rw [hE, hx]; show some (1 + k) = _; rw [Nat.add_comm]
                have hk := endQ_le _ _ _ hx
                have htk : (46 :: r).take (k + 1) = 46 :: r.take k := rfl
                have hne : ¬ (46 :: r).take (k + 1) = [46, 13, 10] := by
                  rw [htk]
                  intro e
                  injection e with _ e
                  have : k = 2 ∨ k ≥ 2 := by
                    have := congrArg List.length e
                    rw [List.length_take] at this; simp at this; omega
                  match r, e with
                  | a :: b :: u, e =>
                    rcases (show ∃ j, k = j + 2 from ⟨k - 2, by omega⟩) with ⟨j, rfl⟩
                    simp at e
                    exact p3 ⟨u, by rw [e.1, e.2.1]⟩
                  | [a], e => simp at hk; have := congrArg List.length e; rw [List.length_take] at this; simp at this; omega
                  | [], e => exact p1 rfl
                have hw := whole (k + 1) hE2 hne (r.take k) (by rw [htk]; rfl) (by
                  rw [hf, hr.1 k hx, List.drop_succ_cons]
                  refine Prod.ext_iff.2 ⟨rfl, ?_⟩
                  show k + _ + 1 = k + 1 + _
                  omega)
                rw [hE2]
                simp only []
                rw [if_neg hne]
                exact hw
              | none =>
                have hE2 : endQ false (46 :: r) = none := by rw [hE, hx]; rfl
                obtain ⟨s, hs, hr2⟩ := hr.2 hx
                have hw := part s hs r rfl (by rw [hf, hr2]; rfl)
                rw [hE2]
                simp only []
                rw [if_neg (by simp [p1, p2])]
                exact hw
      · have hf := start_plain d hd c r hc
        have hr := line_run (c :: r) false d.fresh rfl
        have hst : ∀ t, stripDot (c :: t) = c :: t := fun t => by unfold stripDot; simp [hc]
        cases hx : endQ false (c :: r) with
        | some n =>
          have hn := endQ_le _ _ _ hx
          obtain ⟨k, rfl⟩ : ∃ k, n = k + 1 := ⟨n - 1, by omega⟩
          have hne : ¬ (c :: r).take (k + 1) = [46, 13, 10] := by
            rw [List.take_succ_cons]
            intro e
            injection e with e _
            exact hc e
          have hw := whole (k + 1) hx hne ((c :: r).take (k + 1)) (by rw [List.take_succ_cons, hst]) (by rw [hf]; exact hr.1 (k + 1) hx)
          simp only []
          rw [if_neg hne]
          exact hw
        | none =>
          obtain ⟨s, hs, hr2⟩ := hr.2 hx
          have hw := part s hs (c :: r) (hst r).symm (by rw [hf, hr2])
          simp only []
          rw [if_neg (by simp [hc])]
          exact hw
end Go.Proofs.YtpoaegcaaflogaaDoor
