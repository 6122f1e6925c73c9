/-
  ref07.Decode: what it gives.
-/
import Derived.Test.YtnoiaeajpjhldaaRefSend07
import Derived.Test.YtnoiaeajpjhldaaRefBare07
import Derived.Test.YtnoiaeajpjhldaaAwake07
namespace Go.Proofs.Ytnoiaeajpjhldaa
open Go.ChangeShapes Go.WideShapes Go.ChangeAt Go.RowKit

/-- Two texts, one behind the other. -/
theorem cat_two (A B : List UInt8) : (⟨A.toArray⟩ : ByteArray) ++ (⟨B.toArray⟩ : ByteArray) = ⟨(A ++ B).toArray⟩ := by apply ByteArray.ext; simp
/-- The line of a text from a place on: its bytes, whether it is open, what the document's reading makes of it. -/
structure LineAt (l : List UInt8) (k n : Nat) (o : Bool) (L : List UInt8) : Prop where
  fin : endN l k = if o = true then -1 else ((k + n : Nat) : Int)
  ext : (⟨l.toArray⟩ : ByteArray).extract k (k + n) = ⟨L.toArray⟩
  len : L.length = n
  pos : 0 < n
  le : k + n ≤ l.length
  full : o = true → k + n = l.length
  noEnd : o = true → L ≠ [46, 13, 10]
  stop : o = false → L = [46, 13, 10] → ∀ g : Rdg, decR (l.drop k) g = { g with done := true, used := g.used + n }
  cut : o = true → (L = [46] ∨ L = [46, 13]) → ∀ g : Rdg, decR (l.drop k) g = decR (l.drop (k + n)) { g with used := g.used + n }
  go : (o = false → L ≠ [46, 13, 10]) → (o = true → ¬ (L = [46] ∨ L = [46, 13])) → ∀ g : Rdg, decR (l.drop k) g = decR (l.drop (k + n)) (g.line L o)
theorem decR_nil (g : Rdg) : decR [] g = g := by rw [decR, if_pos rfl]
theorem decR_some {l : List UInt8} {n : Nat} (h : endQ false l = some n) (g : Rdg) : decR l g = if l.take n = [46, 13, 10] then { g with done := true, used := g.used + n } else decR (l.drop n) (g.line (l.take n) false) := by
  have hl : l ≠ [] := by intro e; subst e; rw [endQ] at h; cases h
  rw [decR, if_neg hl]
  split
  · rename_i m hm
    rw [h] at hm; cases hm; rfl
  · rename_i hm; rw [h] at hm; cases hm
theorem decR_none {l : List UInt8} (hl : l ≠ []) (h : endQ false l = none) (g : Rdg) : decR l g = if l = [46] ∨ l = [46, 13] then { g with used := g.used + l.length } else g.line l true := by
  rw [decR, if_neg hl]
  split
  · rename_i m hm; rw [h] at hm; cases hm
  · rfl
theorem ext_take (l : List UInt8) (k n : Nat) : (⟨l.toArray⟩ : ByteArray).extract k (k + n) = ⟨((l.drop k).take n).toArray⟩ := by rw [extract_list]
theorem line_at {l : List UInt8} {k : Nat} (h : k < l.length) : ∃ n o L, LineAt l k n o L := by
  have hne : l.drop k ≠ [] := by intro e; have := congrArg List.length e; simp at this; omega
  rcases endN_line l k with ⟨e1, e2, _⟩ | ⟨n, e1, e2, _⟩
  · have ht : (l.drop k).take (l.length - k) = l.drop k := List.take_of_length_le (by simp)
    have hk : k + (l.length - k) = l.length := by omega
    have hd : l.drop (k + (l.length - k)) = [] := List.drop_of_length_le (by omega)
    refine ⟨l.length - k, true, l.drop k, ⟨by simpa using e2, by rw [ext_take, ht], by simp, by omega, by omega, fun _ => hk, fun _ e => ?_, (by intro h; cases h), fun _ hc g => ?_, fun _ hc g => ?_⟩⟩
    · rw [e] at e1; exact absurd e1 (by decide)
    · rw [decR_none hne e1, if_pos hc, hd, decR_nil]; simp
    · rw [decR_none hne e1, if_neg (hc rfl), hd, decR_nil]
  · obtain ⟨p1, p2⟩ := endQ_le _ _ _ e1
    rw [List.length_drop] at p2
    refine ⟨n, false, (l.drop k).take n, ⟨by simpa using e2, ext_take l k n, by simp; omega, p1, by omega, (by intro h; cases h), (by intro h; cases h), fun _ hc g => ?_, (by intro h; cases h), fun hc _ g => ?_⟩⟩
    · rw [decR_some e1, if_pos hc]
    · rw [decR_some e1, if_neg (hc rfl), List.drop_drop]
theorem strip_ext {L : List UInt8} (h : L.head? = some 46) : (⟨L.toArray⟩ : ByteArray).extract 1 L.length = ⟨(stripDot L).toArray⟩ := by
  unfold stripDot
  rw [if_pos h]
  have := ext_take L 1 (L.length - 1)
  have hl : 0 < L.length := by cases L <;> simp_all
  rw [show 1 + (L.length - 1) = L.length by omega, List.take_of_length_le (by simp)] at this
  exact this
theorem BytesAt.swap {X Y : World} {bs : Array Obj} {d e cap g : Nat} {l : List UInt8} (h : BytesAt (app X bs d) (some ⟨X.heap.size, 0, none⟩) cap l) (hs : X.heap.size = Y.heap.size) (hg : g = X.heap.size) : BytesAt (app Y bs e) (some ⟨g, 0, none⟩) cap l := by
  subst hg
  refine ⟨h.nil, h.cap, fun h0 => ?_⟩
  obtain ⟨bb, off, h1, h2, h3⟩ := h.cell h0
  simp at h1
  obtain ⟨rfl, rfl⟩ := h1
  refine ⟨_, _, rfl, by simp at h2 ⊢; omega, fun i hi => ?_⟩
  rw [← h3 i hi]
  exact (app_cell_new hs (Nat.le_refl _)).symm
def Rdg.zero : Rdg := ⟨[], false, false, 0, false⟩
def RelRd (l : List UInt8) (w : World) (a t : Value) (wr : World) : Prop := ∃ (k : Nat) (A : List UInt8) (long bare done : Bool), k ≤ l.length ∧ A.length ≤ k ∧ t = .int .i64 k ∧ a = .string ⟨A.toArray⟩ ∧
  wr = (w.alloc (.cells #[.slice none 0 0, .bool false, .bool false, .bool false, .int .i64 0, .bool false] 32)).alloc (.cells #[.slice none 0 0, .bool long, .bool bare, .bool false, .int .i64 0, .bool done] 32) ∧
  Hid (decR l Rdg.zero = if done = true then ⟨A, long, bare, k, true⟩ else decR (l.drop k) ⟨A, long, bare, k, false⟩)
def RDecPost (M : Nat) (l : List UInt8) (w : World) (r : Ending) (w' : World) : Prop := ∃ p cap, r = .returned (.agg #[.slice p ((decR l Rdg.zero).all.take M).length cap, .bool (decR l Rdg.zero).long, .bool (decR l Rdg.zero).bare, .bool (decide (M < (decR l Rdg.zero).all.length)), .int .i64 ((decR l Rdg.zero).used : Int), .bool (decR l Rdg.zero).done]) ∧
  TextOf w' (.slice p ((decR l Rdg.zero).all.take M).length cap) ((decR l Rdg.zero).all.take M) ∧ Below w.heap.size w w'
set_option maxHeartbeats 8000000 in
theorem rdec_calls {q : Option Addr} {cap : Nat} {l : List UInt8} {w : World} {most : Int} {M : Nat} (hM : max most 0 = (M : Int)) (hm2 : most ≤ 9223372036854775807) (h : TextOf w (.slice q l.length cap) l) (hlen : l.length ≤ 100000000) :
    Calls Try.prog 14 #[.slice q l.length cap, .int .i64 most] w (RDecPost M l w) := by
  have ht := h (w.alloc (.cells #[.slice none 0 0, .bool false, .bool false, .bool false, .int .i64 0, .bool false] 32)) (by (repeat' (first | (with_reducible exact Below.refl _ _) | (with_reducible refine Below.app ?_ ?_ _ _) | (with_reducible refine Below.alloc ?_ ?_ _) | (with_reducible refine Below.drew ?_) | (with_reducible refine Below.setCell ?_ ?_ _) | (with_reducible assumption) | omega | (simp; omega) | (simp; done))))
  have hsz : ∀ l : List UInt8, (⟨l.toArray⟩ : ByteArray).size = l.length := fun l => by show l.toArray.size = _; simp
  clear h
  go_enter Try.func14, Try.ntmps14
  go_wp2
  go_loopw [7, 8] (fun a t wr => RelRd l w a t wr) (fun _ t _ => l.length - (intOf t).toNat)
  case atStart => exact ⟨0, [], false, false, false, by omega, by simp, rfl, rfl, rfl, by unfold Hid; simp [Rdg.zero]⟩
  case round =>
    obtain ⟨k, A, long, bare, done, hk, hA, rfl, rfl, rfl, hr⟩ := hrel
    clear ht
    by_cases hlt : k < l.length
    · cases done
      · obtain ⟨n, o, L, hL⟩ := line_at hlt
        obtain rfl := hL.len
        have he := end_calls ⟨l.toArray⟩ k (by rw [hsz]; omega) (by rw [hsz]; omega)
        rw [show (⟨l.toArray⟩ : ByteArray).data.toList = l from rfl, hL.fin] at he
        have hbr := fun w => bare_calls ⟨(stripDot L).toArray⟩ o (by rw [hsz]; have := hL.len; have := hL.le; unfold stripDot; split <;> simp <;> omega) w
        rw [show (⟨(stripDot L).toArray⟩ : ByteArray).data.toList = stripDot L from rfl] at hbr
        have hext := hL.ext
        have hpos := hL.pos
        have hle := hL.le
        have hfull := hL.full
        replace hbr := Lib.hid hbr
        have hszL := hsz L
        have hszT := hsz (stripDot L)
        have h0 : 0 < L.length := by omega
        have hc0 : (⟨L.toArray⟩ : ByteArray)[0]'(by rw [hszL]; exact h0) = L[0] := rfl
        have hh : L.head? = some L[0] := by rw [List.head?_eq_getElem?, List.getElem?_eq_getElem h0]
        have hTl : (stripDot L).length ≤ L.length := by unfold stripDot; split <;> (try simp) <;> omega
        have hcat := Lib.hid (cat_two A (stripDot L))
        have hcatL := Lib.hid (cat_two A L)
        have hstr : L[0] = 46 → (⟨L.toArray⟩ : ByteArray).extract 1 L.length = ⟨(stripDot L).toArray⟩ := fun e => strip_ext (by rw [hh, e])
        have hno : L[0] ≠ 46 → stripDot L = L := fun e => by unfold stripDot; rw [if_neg (by rw [hh]; simpa using e)]
        have hg46 : ((L[0].toNat : Int) == 46) = decide (L[0] = 46) := by rw [Bool.eq_iff_iff]; simp [← UInt8.toNat_inj]; omega
        have hgo := fun (a : o = false → L ≠ [46, 13, 10]) (b : o = true → ¬ (L = [46] ∨ L = [46, 13])) => hL.go a b ⟨A, long, bare, k, false⟩
        have hstop := fun (a : o = false) (b : L = [46, 13, 10]) => hL.stop a b ⟨A, long, bare, k, false⟩
        have hcut := fun (a : o = true) (b : L = [46] ∨ L = [46, 13]) => hL.cut a b ⟨A, long, bare, k, false⟩
        have hnoEnd := hL.noEnd
        clear hL hh
        have hr := hr.out
        simp only [Bool.false_eq_true, if_false] at hr
        by_cases hx : L = [46, 13, 10]
        · cases o
          · have hR : Hid (decR l Rdg.zero = ⟨A, long, bare, k + L.length, true⟩) := by unfold Hid; rw [hr, hstop rfl hx]
            have hxe : (L == [46, 13, 10]) = true := by rw [hx]; decide
            replace he := Lib.hid he
            clear hr hstop hgo hcut hnoEnd hx hno hstr hg46 hc0 hfull hTl hszT hbr
            go_wp2_with (go_at_call 22; ((refine (he.out _).mono ?_); rintro _ _ ⟨rfl, rfl⟩))
            go_roundw
            case rel => exact ⟨k + L.length, A, long, bare, true, by omega, by omega, by go_num, rfl, rfl, hR⟩
            case measure => first | (simp [intOf]; done) | (simp [intOf]; omega)
          · exact absurd hx (hnoEnd rfl)
        · have hxe : (L == [46, 13, 10]) = false := by simpa using hx
          by_cases hcc : o = true ∧ (L = [46] ∨ L = [46, 13])
          · obtain ⟨rfl, hy⟩ := hcc
            have hR : Hid (decR l Rdg.zero = decR (l.drop (k + L.length)) ⟨A, long, bare, k + L.length, false⟩) := by unfold Hid; rw [hr, hcut rfl hy]
            have h46 : L[0] = 46 := by rcases hy with e | e <;> simp [e]
            have hkn := hfull rfl
            rw [h46] at hc0 hg46
            replace he := Lib.hid he
            have hy2 : ((L == [46]) || (L == [46, 13])) = true := by simpa using hy
            clear hr hstop hgo hcut hnoEnd hx hno hstr hfull hTl hszT hbr h46
            rw [hkn] at hR hext hle
            cases hy1 : (L == [46])
            · rw [hy1, Bool.false_or] at hy2
              go_wp2_with (go_at_call 22; ((refine (he.out _).mono ?_); rintro _ _ ⟨rfl, rfl⟩))
              go_roundw
              case rel => exact ⟨l.length, A, long, bare, false, by omega, by omega, by go_num, rfl, rfl, hR⟩
              case measure => first | (simp [intOf]; done) | (simp [intOf]; omega)
            · clear hy2
              go_wp2_with (go_at_call 22; ((refine (he.out _).mono ?_); rintro _ _ ⟨rfl, rfl⟩))
              go_roundw
              case rel => exact ⟨l.length, A, long, bare, false, by omega, by omega, by go_num, rfl, rfl, hR⟩
              case measure => first | (simp [intOf]; done) | (simp [intOf]; omega)
          · have hR : Hid (decR l Rdg.zero = decR (l.drop (k + L.length)) ⟨A ++ stripDot L, long || decide (1000 < (stripDot L).length), bare || bareL false (stripDot L) o, k + L.length, false⟩) := by
              unfold Hid
              rw [hr, hgo (fun _ => hx) (fun e f => hcc ⟨e, f⟩)]
              rfl
            have hy1 : o = true → (L == [46]) = false := fun e => by simpa using fun f => hcc ⟨e, .inl f⟩
            have hy2 : o = true → (L == [46, 13]) = false := fun e => by simpa using fun f => hcc ⟨e, .inr f⟩
            clear hr hgo hcut hstop hnoEnd hx hcc
            generalize bareL false (stripDot L) o = B at *
            have hstrip : (decide (L[0] = 46) = true ∧ (⟨L.toArray⟩ : ByteArray).extract 1 L.length = ⟨(stripDot L).toArray⟩) ∨ (decide (L[0] = 46) = false ∧ L = stripDot L) := by
              by_cases h46 : L[0] = 46
              · exact .inl ⟨decide_eq_true h46, hstr h46⟩
              · exact .inr ⟨decide_eq_false h46, (hno h46).symm⟩
            clear hstr hno
            have hTl2 : (stripDot L).length ≤ 100000000 := by omega
            generalize hT : stripDot L = T at *
            clear hT hcatL
            have hon : (o = false) ∨ (o = true ∧ k + L.length = l.length ∧ (L == [46]) = false ∧ (L == [46, 13]) = false) := by
              cases o
              · exact .inl rfl
              · exact .inr ⟨rfl, hfull rfl, hy1 rfl, hy2 rfl⟩
            clear hy1 hy2 hfull
            by_cases hlong : 1000 < (T.length : Int)
            · have hl2 : 1000 < T.length := by omega
              rw [decide_eq_true hl2, Bool.or_true] at hR
              clear hl2
              rcases hon with rfl | ⟨rfl, hkn, hy1, hy2⟩
              · replace he := Lib.hid he
                rcases hstrip with ⟨hs1, hs2⟩ | ⟨hs1, rfl⟩
                · rw [hs1] at hg46
                  clear hs1
                  cases B
                  · simp only [Bool.or_false] at hR
                    go_wp2_with first
                      | (go_at_call 22; ((refine (he.out _).mono ?_); rintro _ _ ⟨rfl, rfl⟩))
                      | (go_at_call 24; ((refine (hbr.out _).mono ?_); rintro _ _ ⟨rfl, rfl⟩))
                    go_roundw
                    case rel => exact ⟨k + L.length, A ++ T, true, bare, false, by omega, by simp; omega, by go_num, by rw [hcat.out], rfl, hR⟩
                    case measure => first | (simp [intOf]; done) | (simp [intOf]; omega)
                  · simp only [Bool.or_true] at hR
                    go_wp2_with first
                      | (go_at_call 22; ((refine (he.out _).mono ?_); rintro _ _ ⟨rfl, rfl⟩))
                      | (go_at_call 24; ((refine (hbr.out _).mono ?_); rintro _ _ ⟨rfl, rfl⟩))
                    go_roundw
                    case rel => exact ⟨k + L.length, A ++ T, true, true, false, by omega, by simp; omega, by go_num, by rw [hcat.out], rfl, hR⟩
                    case measure => first | (simp [intOf]; done) | (simp [intOf]; omega)
                · rw [hs1] at hg46
                  clear hs1
                  cases B
                  · simp only [Bool.or_false] at hR
                    go_wp2_with first
                      | (go_at_call 22; ((refine (he.out _).mono ?_); rintro _ _ ⟨rfl, rfl⟩))
                      | (go_at_call 24; ((refine (hbr.out _).mono ?_); rintro _ _ ⟨rfl, rfl⟩))
                    go_roundw
                    case rel => exact ⟨k + L.length, A ++ L, true, bare, false, by omega, by simp; omega, by go_num, by rw [hcat.out], rfl, hR⟩
                    case measure => first | (simp [intOf]; done) | (simp [intOf]; omega)
                  · simp only [Bool.or_true] at hR
                    go_wp2_with first
                      | (go_at_call 22; ((refine (he.out _).mono ?_); rintro _ _ ⟨rfl, rfl⟩))
                      | (go_at_call 24; ((refine (hbr.out _).mono ?_); rintro _ _ ⟨rfl, rfl⟩))
                    go_roundw
                    case rel => exact ⟨k + L.length, A ++ L, true, true, false, by omega, by simp; omega, by go_num, by rw [hcat.out], rfl, hR⟩
                    case measure => first | (simp [intOf]; done) | (simp [intOf]; omega)
              · rw [hkn] at hR hext hle
                replace he := Lib.hid he
                rcases hstrip with ⟨hs1, hs2⟩ | ⟨hs1, rfl⟩
                · rw [hs1] at hg46
                  clear hs1
                  cases B
                  · simp only [Bool.or_false] at hR
                    go_wp2_with first
                      | (go_at_call 22; ((refine (he.out _).mono ?_); rintro _ _ ⟨rfl, rfl⟩))
                      | (go_at_call 24; ((refine (hbr.out _).mono ?_); rintro _ _ ⟨rfl, rfl⟩))
                    go_roundw
                    case rel => exact ⟨l.length, A ++ T, true, bare, false, by omega, by simp; omega, by go_num, by rw [hcat.out], rfl, hR⟩
                    case measure => first | (simp [intOf]; done) | (simp [intOf]; omega)
                  · simp only [Bool.or_true] at hR
                    go_wp2_with first
                      | (go_at_call 22; ((refine (he.out _).mono ?_); rintro _ _ ⟨rfl, rfl⟩))
                      | (go_at_call 24; ((refine (hbr.out _).mono ?_); rintro _ _ ⟨rfl, rfl⟩))
                    go_roundw
                    case rel => exact ⟨l.length, A ++ T, true, true, false, by omega, by simp; omega, by go_num, by rw [hcat.out], rfl, hR⟩
                    case measure => first | (simp [intOf]; done) | (simp [intOf]; omega)
                · rw [hs1] at hg46
                  clear hs1
                  cases B
                  · simp only [Bool.or_false] at hR
                    go_wp2_with first
                      | (go_at_call 22; ((refine (he.out _).mono ?_); rintro _ _ ⟨rfl, rfl⟩))
                      | (go_at_call 24; ((refine (hbr.out _).mono ?_); rintro _ _ ⟨rfl, rfl⟩))
                    go_roundw
                    case rel => exact ⟨l.length, A ++ L, true, bare, false, by omega, by simp; omega, by go_num, by rw [hcat.out], rfl, hR⟩
                    case measure => first | (simp [intOf]; done) | (simp [intOf]; omega)
                  · simp only [Bool.or_true] at hR
                    go_wp2_with first
                      | (go_at_call 22; ((refine (he.out _).mono ?_); rintro _ _ ⟨rfl, rfl⟩))
                      | (go_at_call 24; ((refine (hbr.out _).mono ?_); rintro _ _ ⟨rfl, rfl⟩))
                    go_roundw
                    case rel => exact ⟨l.length, A ++ L, true, true, false, by omega, by simp; omega, by go_num, by rw [hcat.out], rfl, hR⟩
                    case measure => first | (simp [intOf]; done) | (simp [intOf]; omega)
            · have hl2 : ¬ 1000 < T.length := by omega
              rw [decide_eq_false hl2, Bool.or_false] at hR
              clear hl2
              rcases hon with rfl | ⟨rfl, hkn, hy1, hy2⟩
              · replace he := Lib.hid he
                rcases hstrip with ⟨hs1, hs2⟩ | ⟨hs1, rfl⟩
                · rw [hs1] at hg46
                  clear hs1
                  cases B
                  · simp only [Bool.or_false] at hR
                    go_wp2_with first
                      | (go_at_call 22; ((refine (he.out _).mono ?_); rintro _ _ ⟨rfl, rfl⟩))
                      | (go_at_call 24; ((refine (hbr.out _).mono ?_); rintro _ _ ⟨rfl, rfl⟩))
                    go_roundw
                    case rel => exact ⟨k + L.length, A ++ T, long, bare, false, by omega, by simp; omega, by go_num, by rw [hcat.out], rfl, hR⟩
                    case measure => first | (simp [intOf]; done) | (simp [intOf]; omega)
                  · simp only [Bool.or_true] at hR
                    go_wp2_with first
                      | (go_at_call 22; ((refine (he.out _).mono ?_); rintro _ _ ⟨rfl, rfl⟩))
                      | (go_at_call 24; ((refine (hbr.out _).mono ?_); rintro _ _ ⟨rfl, rfl⟩))
                    go_roundw
                    case rel => exact ⟨k + L.length, A ++ T, long, true, false, by omega, by simp; omega, by go_num, by rw [hcat.out], rfl, hR⟩
                    case measure => first | (simp [intOf]; done) | (simp [intOf]; omega)
                · rw [hs1] at hg46
                  clear hs1
                  cases B
                  · simp only [Bool.or_false] at hR
                    go_wp2_with first
                      | (go_at_call 22; ((refine (he.out _).mono ?_); rintro _ _ ⟨rfl, rfl⟩))
                      | (go_at_call 24; ((refine (hbr.out _).mono ?_); rintro _ _ ⟨rfl, rfl⟩))
                    go_roundw
                    case rel => exact ⟨k + L.length, A ++ L, long, bare, false, by omega, by simp; omega, by go_num, by rw [hcat.out], rfl, hR⟩
                    case measure => first | (simp [intOf]; done) | (simp [intOf]; omega)
                  · simp only [Bool.or_true] at hR
                    go_wp2_with first
                      | (go_at_call 22; ((refine (he.out _).mono ?_); rintro _ _ ⟨rfl, rfl⟩))
                      | (go_at_call 24; ((refine (hbr.out _).mono ?_); rintro _ _ ⟨rfl, rfl⟩))
                    go_roundw
                    case rel => exact ⟨k + L.length, A ++ L, long, true, false, by omega, by simp; omega, by go_num, by rw [hcat.out], rfl, hR⟩
                    case measure => first | (simp [intOf]; done) | (simp [intOf]; omega)
              · rw [hkn] at hR hext hle
                replace he := Lib.hid he
                rcases hstrip with ⟨hs1, hs2⟩ | ⟨hs1, rfl⟩
                · rw [hs1] at hg46
                  clear hs1
                  cases B
                  · simp only [Bool.or_false] at hR
                    go_wp2_with first
                      | (go_at_call 22; ((refine (he.out _).mono ?_); rintro _ _ ⟨rfl, rfl⟩))
                      | (go_at_call 24; ((refine (hbr.out _).mono ?_); rintro _ _ ⟨rfl, rfl⟩))
                    go_roundw
                    case rel => exact ⟨l.length, A ++ T, long, bare, false, by omega, by simp; omega, by go_num, by rw [hcat.out], rfl, hR⟩
                    case measure => first | (simp [intOf]; done) | (simp [intOf]; omega)
                  · simp only [Bool.or_true] at hR
                    go_wp2_with first
                      | (go_at_call 22; ((refine (he.out _).mono ?_); rintro _ _ ⟨rfl, rfl⟩))
                      | (go_at_call 24; ((refine (hbr.out _).mono ?_); rintro _ _ ⟨rfl, rfl⟩))
                    go_roundw
                    case rel => exact ⟨l.length, A ++ T, long, true, false, by omega, by simp; omega, by go_num, by rw [hcat.out], rfl, hR⟩
                    case measure => first | (simp [intOf]; done) | (simp [intOf]; omega)
                · rw [hs1] at hg46
                  clear hs1
                  cases B
                  · simp only [Bool.or_false] at hR
                    go_wp2_with first
                      | (go_at_call 22; ((refine (he.out _).mono ?_); rintro _ _ ⟨rfl, rfl⟩))
                      | (go_at_call 24; ((refine (hbr.out _).mono ?_); rintro _ _ ⟨rfl, rfl⟩))
                    go_roundw
                    case rel => exact ⟨l.length, A ++ L, long, bare, false, by omega, by simp; omega, by go_num, by rw [hcat.out], rfl, hR⟩
                    case measure => first | (simp [intOf]; done) | (simp [intOf]; omega)
                  · simp only [Bool.or_true] at hR
                    go_wp2_with first
                      | (go_at_call 22; ((refine (he.out _).mono ?_); rintro _ _ ⟨rfl, rfl⟩))
                      | (go_at_call 24; ((refine (hbr.out _).mono ?_); rintro _ _ ⟨rfl, rfl⟩))
                    go_roundw
                    case rel => exact ⟨l.length, A ++ L, long, true, false, by omega, by simp; omega, by go_num, by rw [hcat.out], rfl, hR⟩
                    case measure => first | (simp [intOf]; done) | (simp [intOf]; omega)
      · skip
        have hfin : Hid (decR l Rdg.zero = ⟨A, long, bare, k, true⟩) := by unfold Hid; rw [hr.out]; rfl
        have hpost : ∀ r w' g c, r = Ending.returned (.agg #[.slice (some ⟨g, 0, none⟩) (A.take M).length c, .bool long, .bool bare, .bool (decide (M < A.length)), .int .i64 (k : Int), .bool true]) → BytesAt w' (some ⟨g, 0, none⟩) c (A.take M) → Below w.heap.size w w' → RDecPost M l w r w' := fun r w' g c h1 h2 h3 => by
          unfold RDecPost
          rw [hfin.out]
          exact ⟨_, c, h1, h2.textOf, h3⟩
        clear hr hfin
        by_cases hM0 : 0 ≤ most
        · obtain rfl : most = (M : Int) := by rw [← hM, Int.max_eq_left hM0]
          clear hM hM0
          by_cases hla : (M : Int) < A.length
          · have hla2 : M < A.length := by omega
            have hsl : (⟨A.toArray⟩ : ByteArray).extract 0 M = ⟨(A.take M).toArray⟩ := by have := ext_take A 0 M; simpa using this
            have hszA := hsz A
            rw [decide_eq_true hla2] at hpost
            generalize A.take M = T at *
            have hszT := hsz T
            obtain ⟨W, cap2, hconv, hB, hbel⟩ := bytes_row ((w.alloc (.cells #[.slice none 0 0, .bool false, .bool false, .bool false, .int .i64 0, .bool false] 32)).alloc (.cells #[.slice none 0 0, .bool long, .bool bare, .bool true, .int .i64 (k : Int), .bool true] 32)) ⟨T.toArray⟩
            rw [hszT] at hconv
            obtain ⟨bs, d, rfl⟩ := of_below hbel
            replace hpost := Lib.hid hpost
            replace hB := Lib.hid hB
            clear hsz hbel hla2
            go_wp2
            refine bodyPost_ret (v := .agg #[.slice (some ⟨w.heap.size + 1 + 1, 0, none⟩) T.length cap2, .bool long, .bool bare, .bool true, .int .i64 (k : Int), .bool true]) (by simp [results, Try.results14, go_sem]) rfl (hpost.out _ _ _ _ rfl (hB.out.swap ?_ ?_) ?_)
            · simp
            · simp
            · (repeat' (first | (with_reducible exact Below.refl _ _) | (with_reducible refine Below.app ?_ ?_ _ _) | (with_reducible refine Below.alloc ?_ ?_ _) | (with_reducible refine Below.drew ?_) | (with_reducible refine Below.setCell ?_ ?_ _) | (with_reducible assumption) | omega | (simp; omega) | (simp; done)))
          · have hla2 : ¬ M < A.length := by omega
            rw [decide_eq_false hla2, List.take_of_length_le (by omega)] at hpost
            have hszT := hsz A
            obtain ⟨W, cap2, hconv, hB, hbel⟩ := bytes_row ((w.alloc (.cells #[.slice none 0 0, .bool false, .bool false, .bool false, .int .i64 0, .bool false] 32)).alloc (.cells #[.slice none 0 0, .bool long, .bool bare, .bool false, .int .i64 (k : Int), .bool true] 32)) ⟨A.toArray⟩
            rw [hszT] at hconv
            obtain ⟨bs, d, rfl⟩ := of_below hbel
            replace hpost := Lib.hid hpost
            replace hB := Lib.hid hB
            clear hsz hbel hla2
            go_wp2
            refine bodyPost_ret (v := .agg #[.slice (some ⟨w.heap.size + 1 + 1, 0, none⟩) A.length cap2, .bool long, .bool bare, .bool false, .int .i64 (k : Int), .bool true]) (by simp [results, Try.results14, go_sem]) rfl (hpost.out _ _ _ _ rfl (hB.out.swap ?_ ?_) ?_)
            · simp
            · simp
            · (repeat' (first | (with_reducible exact Below.refl _ _) | (with_reducible refine Below.app ?_ ?_ _ _) | (with_reducible refine Below.alloc ?_ ?_ _) | (with_reducible refine Below.drew ?_) | (with_reducible refine Below.setCell ?_ ?_ _) | (with_reducible assumption) | omega | (simp; omega) | (simp; done)))
        · have hMz : M = 0 := by have := hM; rw [Int.max_eq_right (by omega)] at this; omega
          subst hMz
          clear hM
          by_cases hla : (0 : Int) < A.length
          · have hla2 : 0 < A.length := by omega
            rw [decide_eq_true hla2] at hpost
            rw [List.take_zero] at hpost
            obtain ⟨W, cap2, hconv, hB, hbel⟩ := bytes_row ((w.alloc (.cells #[.slice none 0 0, .bool false, .bool false, .bool false, .int .i64 0, .bool false] 32)).alloc (.cells #[.slice none 0 0, .bool long, .bool bare, .bool true, .int .i64 (k : Int), .bool true] 32)) ByteArray.empty
            obtain ⟨bs, d, rfl⟩ := of_below hbel
            replace hpost := Lib.hid hpost
            replace hB := Lib.hid hB
            clear hsz hbel hla2
            go_wp2
            refine bodyPost_ret (v := .agg #[.slice (some ⟨w.heap.size + 1 + 1, 0, none⟩) 0 cap2, .bool long, .bool bare, .bool true, .int .i64 (k : Int), .bool true]) (by simp [results, Try.results14, go_sem]) rfl (hpost.out _ _ _ _ rfl (hB.out.swap ?_ ?_) ?_)
            · simp
            · simp
            · (repeat' (first | (with_reducible exact Below.refl _ _) | (with_reducible refine Below.app ?_ ?_ _ _) | (with_reducible refine Below.alloc ?_ ?_ _) | (with_reducible refine Below.drew ?_) | (with_reducible refine Below.setCell ?_ ?_ _) | (with_reducible assumption) | omega | (simp; omega) | (simp; done)))
          · have hla2 : ¬ 0 < A.length := by omega
            rw [decide_eq_false hla2, List.take_of_length_le (by omega)] at hpost
            have hszT := hsz A
            obtain ⟨W, cap2, hconv, hB, hbel⟩ := bytes_row ((w.alloc (.cells #[.slice none 0 0, .bool false, .bool false, .bool false, .int .i64 0, .bool false] 32)).alloc (.cells #[.slice none 0 0, .bool long, .bool bare, .bool false, .int .i64 (k : Int), .bool true] 32)) ⟨A.toArray⟩
            rw [hszT] at hconv
            obtain ⟨bs, d, rfl⟩ := of_below hbel
            replace hpost := Lib.hid hpost
            replace hB := Lib.hid hB
            clear hsz hbel hla2
            go_wp2
            refine bodyPost_ret (v := .agg #[.slice (some ⟨w.heap.size + 1 + 1, 0, none⟩) A.length cap2, .bool long, .bool bare, .bool false, .int .i64 (k : Int), .bool true]) (by simp [results, Try.results14, go_sem]) rfl (hpost.out _ _ _ _ rfl (hB.out.swap ?_ ?_) ?_)
            · simp
            · simp
            · (repeat' (first | (with_reducible exact Below.refl _ _) | (with_reducible refine Below.app ?_ ?_ _ _) | (with_reducible refine Below.alloc ?_ ?_ _) | (with_reducible refine Below.drew ?_) | (with_reducible refine Below.setCell ?_ ?_ _) | (with_reducible assumption) | omega | (simp; omega) | (simp; done)))
    · skip
      have hfin : Hid (decR l Rdg.zero = ⟨A, long, bare, k, done⟩) := by unfold Hid; rw [hr.out]; cases done <;> simp [List.drop_of_length_le (show l.length ≤ k by omega), decR_nil]
      have hpost : ∀ r w' g c, r = Ending.returned (.agg #[.slice (some ⟨g, 0, none⟩) (A.take M).length c, .bool long, .bool bare, .bool (decide (M < A.length)), .int .i64 (k : Int), .bool done]) → BytesAt w' (some ⟨g, 0, none⟩) c (A.take M) → Below w.heap.size w w' → RDecPost M l w r w' := fun r w' g c h1 h2 h3 => by
        unfold RDecPost
        rw [hfin.out]
        exact ⟨_, c, h1, h2.textOf, h3⟩
      clear hr hfin
      by_cases hM0 : 0 ≤ most
      · obtain rfl : most = (M : Int) := by rw [← hM, Int.max_eq_left hM0]
        clear hM hM0
        by_cases hla : (M : Int) < A.length
        · have hla2 : M < A.length := by omega
          have hsl : (⟨A.toArray⟩ : ByteArray).extract 0 M = ⟨(A.take M).toArray⟩ := by have := ext_take A 0 M; simpa using this
          have hszA := hsz A
          rw [decide_eq_true hla2] at hpost
          generalize A.take M = T at *
          have hszT := hsz T
          obtain ⟨W, cap2, hconv, hB, hbel⟩ := bytes_row ((w.alloc (.cells #[.slice none 0 0, .bool false, .bool false, .bool false, .int .i64 0, .bool false] 32)).alloc (.cells #[.slice none 0 0, .bool long, .bool bare, .bool true, .int .i64 (k : Int), .bool done] 32)) ⟨T.toArray⟩
          rw [hszT] at hconv
          obtain ⟨bs, d, rfl⟩ := of_below hbel
          replace hpost := Lib.hid hpost
          replace hB := Lib.hid hB
          clear hsz hbel hla2
          go_wp2
          refine bodyPost_ret (v := .agg #[.slice (some ⟨w.heap.size + 1 + 1, 0, none⟩) T.length cap2, .bool long, .bool bare, .bool true, .int .i64 (k : Int), .bool done]) (by simp [results, Try.results14, go_sem]) rfl (hpost.out _ _ _ _ rfl (hB.out.swap ?_ ?_) ?_)
          · simp
          · simp
          · (repeat' (first | (with_reducible exact Below.refl _ _) | (with_reducible refine Below.app ?_ ?_ _ _) | (with_reducible refine Below.alloc ?_ ?_ _) | (with_reducible refine Below.drew ?_) | (with_reducible refine Below.setCell ?_ ?_ _) | (with_reducible assumption) | omega | (simp; omega) | (simp; done)))
        · have hla2 : ¬ M < A.length := by omega
          rw [decide_eq_false hla2, List.take_of_length_le (by omega)] at hpost
          have hszT := hsz A
          obtain ⟨W, cap2, hconv, hB, hbel⟩ := bytes_row ((w.alloc (.cells #[.slice none 0 0, .bool false, .bool false, .bool false, .int .i64 0, .bool false] 32)).alloc (.cells #[.slice none 0 0, .bool long, .bool bare, .bool false, .int .i64 (k : Int), .bool done] 32)) ⟨A.toArray⟩
          rw [hszT] at hconv
          obtain ⟨bs, d, rfl⟩ := of_below hbel
          replace hpost := Lib.hid hpost
          replace hB := Lib.hid hB
          clear hsz hbel hla2
          go_wp2
          refine bodyPost_ret (v := .agg #[.slice (some ⟨w.heap.size + 1 + 1, 0, none⟩) A.length cap2, .bool long, .bool bare, .bool false, .int .i64 (k : Int), .bool done]) (by simp [results, Try.results14, go_sem]) rfl (hpost.out _ _ _ _ rfl (hB.out.swap ?_ ?_) ?_)
          · simp
          · simp
          · (repeat' (first | (with_reducible exact Below.refl _ _) | (with_reducible refine Below.app ?_ ?_ _ _) | (with_reducible refine Below.alloc ?_ ?_ _) | (with_reducible refine Below.drew ?_) | (with_reducible refine Below.setCell ?_ ?_ _) | (with_reducible assumption) | omega | (simp; omega) | (simp; done)))
      · have hMz : M = 0 := by have := hM; rw [Int.max_eq_right (by omega)] at this; omega
        subst hMz
        clear hM
        by_cases hla : (0 : Int) < A.length
        · have hla2 : 0 < A.length := by omega
          rw [decide_eq_true hla2] at hpost
          rw [List.take_zero] at hpost
          obtain ⟨W, cap2, hconv, hB, hbel⟩ := bytes_row ((w.alloc (.cells #[.slice none 0 0, .bool false, .bool false, .bool false, .int .i64 0, .bool false] 32)).alloc (.cells #[.slice none 0 0, .bool long, .bool bare, .bool true, .int .i64 (k : Int), .bool done] 32)) ByteArray.empty
          obtain ⟨bs, d, rfl⟩ := of_below hbel
          replace hpost := Lib.hid hpost
          replace hB := Lib.hid hB
          clear hsz hbel hla2
          go_wp2
          refine bodyPost_ret (v := .agg #[.slice (some ⟨w.heap.size + 1 + 1, 0, none⟩) 0 cap2, .bool long, .bool bare, .bool true, .int .i64 (k : Int), .bool done]) (by simp [results, Try.results14, go_sem]) rfl (hpost.out _ _ _ _ rfl (hB.out.swap ?_ ?_) ?_)
          · simp
          · simp
          · (repeat' (first | (with_reducible exact Below.refl _ _) | (with_reducible refine Below.app ?_ ?_ _ _) | (with_reducible refine Below.alloc ?_ ?_ _) | (with_reducible refine Below.drew ?_) | (with_reducible refine Below.setCell ?_ ?_ _) | (with_reducible assumption) | omega | (simp; omega) | (simp; done)))
        · have hla2 : ¬ 0 < A.length := by omega
          rw [decide_eq_false hla2, List.take_of_length_le (by omega)] at hpost
          have hszT := hsz A
          obtain ⟨W, cap2, hconv, hB, hbel⟩ := bytes_row ((w.alloc (.cells #[.slice none 0 0, .bool false, .bool false, .bool false, .int .i64 0, .bool false] 32)).alloc (.cells #[.slice none 0 0, .bool long, .bool bare, .bool false, .int .i64 (k : Int), .bool done] 32)) ⟨A.toArray⟩
          rw [hszT] at hconv
          obtain ⟨bs, d, rfl⟩ := of_below hbel
          replace hpost := Lib.hid hpost
          replace hB := Lib.hid hB
          clear hsz hbel hla2
          go_wp2
          refine bodyPost_ret (v := .agg #[.slice (some ⟨w.heap.size + 1 + 1, 0, none⟩) A.length cap2, .bool long, .bool bare, .bool false, .int .i64 (k : Int), .bool done]) (by simp [results, Try.results14, go_sem]) rfl (hpost.out _ _ _ _ rfl (hB.out.swap ?_ ?_) ?_)
          · simp
          · simp
          · (repeat' (first | (with_reducible exact Below.refl _ _) | (with_reducible refine Below.app ?_ ?_ _ _) | (with_reducible refine Below.alloc ?_ ?_ _) | (with_reducible refine Below.drew ?_) | (with_reducible refine Below.setCell ?_ ?_ _) | (with_reducible assumption) | omega | (simp; omega) | (simp; done)))
end Go.Proofs.Ytnoiaeajpjhldaa
