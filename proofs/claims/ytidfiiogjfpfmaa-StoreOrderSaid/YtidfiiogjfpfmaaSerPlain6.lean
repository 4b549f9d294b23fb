/- The plain laws on series, continued: parts, stays, grows, last. -/
import Derived.Test.YtidfiiogjfpfmaaSerPlain5
namespace Go.Proofs.Ytidfiiogjfpfmaa.Ser

theorem sane_step {xs : List (Int × Int)} (h : sane xs = true) {i : Nat} (hi : i + 1 < xs.length) : tAt xs i < tAt xs (i + 1) := by
  have := sane_ok h hi
  simp [okAt] at this
  exact this.2
theorem sane_lt {xs : List (Int × Int)} (h : sane xs = true) {i j : Nat} (hij : i < j) (hj : j < xs.length) : tAt xs i < tAt xs j := by
  induction j with
  | zero => omega
  | succ j ih =>
    have h1 := sane_step h hj
    rcases Nat.lt_or_ge i j with h2 | h2
    · have := ih h2 (by omega); omega
    · obtain rfl : i = j := by omega
      exact h1
theorem sane_pairwise {xs : List (Int × Int)} (h : sane xs = true) : xs.Pairwise (fun x y => x.1 < y.1) := by
  rw [List.pairwise_iff_getElem]
  intro i j hi hj hij
  have := sane_lt h hij hj
  simpa [tAt, List.getElem?_eq_getElem hi, List.getElem?_eq_getElem hj] using this
theorem counted_of_sane {xs : List (Int × Int)} (h : sane xs = true) : counted xs = xs := by unfold counted; rw [if_pos h]
theorem counted_pairwise (xs : List (Int × Int)) : (counted xs).Pairwise (fun x y => x.1 < y.1) := by
  unfold counted
  split
  · exact sane_pairwise ‹_›
  · exact List.Pairwise.nil
theorem parts_of {ys : List (Int × Int)} (h : ys.Pairwise (fun x y => x.1 < y.1)) {a b c : Int} (hab : a ≤ b) (hbc : b ≤ c) :
    ys.filter (inside a b) ++ ys.filter (inside (b + 1) c) = ys.filter (inside a c) := by
  induction ys with
  | nil => rfl
  | cons y ys ih =>
    rw [List.pairwise_cons] at h
    have ih := ih h.2
    by_cases h1 : a ≤ y.1 ∧ y.1 ≤ b
    · rw [List.filter_cons_of_pos (by simp [inside]; omega), List.filter_cons_of_neg (by simp [inside]; omega), List.filter_cons_of_pos (by simp [inside]; omega), List.cons_append, ih]
    · by_cases h2 : b + 1 ≤ y.1 ∧ y.1 ≤ c
      · have hn : ys.filter (inside a b) = [] := by
          rw [List.filter_eq_nil_iff]
          intro z hz
          have := h.1 z hz
          simp [inside]; omega
        rw [List.filter_cons_of_neg (by simp [inside]; omega), List.filter_cons_of_pos (by simp [inside]; omega), List.filter_cons_of_pos (by simp [inside]; omega), hn, List.nil_append, ← ih, hn, List.nil_append]
      · rw [List.filter_cons_of_neg (by simp [inside]; omega), List.filter_cons_of_neg (by simp [inside]; omega), List.filter_cons_of_neg (by simp [inside]; omega), ih]
theorem between_parts (xs : List (Int × Int)) {a b c : Int} (hab : a ≤ b) (hbc : b ≤ c) : between xs a b ++ between xs (b + 1) c = between xs a c := parts_of (counted_pairwise xs) hab hbc
theorem between_all {xs : List (Int × Int)} (h : sane xs = true) : between xs 0 9007199254740992 = xs := by
  unfold between
  rw [counted_of_sane h, List.filter_eq_self]
  intro x hx
  have := counted_time (xs := xs) (x := x) (by rw [counted_of_sane h]; exact hx)
  simp [inside]; omega
theorem between_length (xs : List (Int × Int)) (a b : Int) : (between xs a b).length ≤ 64 := Nat.le_trans (List.length_filter_le _ _) (counted_length xs)

theorem tAt_app_lt {xs ys : List (Int × Int)} {i : Nat} (h : i < xs.length) : tAt (xs ++ ys) i = tAt xs i := by unfold tAt; rw [List.getElem?_append_left h]
theorem vAt_app_lt {xs ys : List (Int × Int)} {i : Nat} (h : i < xs.length) : vAt (xs ++ ys) i = vAt xs i := by unfold vAt; rw [List.getElem?_append_left h]
theorem tAt_app_eq (xs : List (Int × Int)) (x : Int × Int) : tAt (xs ++ [x]) xs.length = x.1 := by unfold tAt; simp
theorem vAt_app_eq (xs : List (Int × Int)) (x : Int × Int) : vAt (xs ++ [x]) xs.length = x.2 := by unfold vAt; simp
/-- one more behind a series that is not full -/
theorem sane_snoc {xs : List (Int × Int)} {x : Int × Int} (h : sane xs = true) (hl : xs.length < 64) (ht : isTime x.1 = true) (hv : isNum x.2 = true) (ho : xs.length = 0 ∨ tAt xs (xs.length - 1) < x.1) : sane (xs ++ [x]) = true := by
  rw [sane_iff]
  refine ⟨by simp; omega, fun i hi => ?_⟩
  simp at hi
  rcases Nat.lt_or_ge i xs.length with h1 | h1
  · have := sane_ok h h1
    simp only [okAt] at this ⊢
    rw [tAt_app_lt h1, vAt_app_lt h1, tAt_app_lt (by omega)]
    exact this
  · obtain rfl : i = xs.length := by omega
    refine okAt_mk (by rw [tAt_app_eq]; exact ht) (by rw [vAt_app_eq]; exact hv) ?_
    rcases Nat.eq_zero_or_pos xs.length with h2 | h2
    · exact .inl h2
    · right
      rw [tAt_app_eq, tAt_app_lt (by omega)]
      omega
theorem sane_tail {xs : List (Int × Int)} (h : sane xs = true) : sane xs.tail = true := by
  rw [sane_iff]
  have hl := sane_length h
  refine ⟨by simp; omega, fun i hi => ?_⟩
  simp at hi
  have h1 := sane_ok h (i := i + 1) (by omega)
  simp [okAt] at h1
  have e1 : tAt xs.tail i = tAt xs (i + 1) := by unfold tAt; rw [List.getElem?_tail]
  have e2 : vAt xs.tail i = vAt xs (i + 1) := by unfold vAt; rw [List.getElem?_tail]
  refine okAt_mk (by rw [e1]; exact h1.1.1) (by rw [e2]; exact h1.1.2) ?_
  rcases Nat.eq_zero_or_pos i with h2 | h2
  · exact .inl h2
  · right
    have e3 : tAt xs.tail (i - 1) = tAt xs i := by unfold tAt; rw [List.getElem?_tail, show i - 1 + 1 = i by omega]
    rw [e1, e3]
    exact h1.2
theorem append_cases {xs : List (Int × Int)} {x : Int × Int} (h : sane xs = true) :
    (append xs x = (xs, 2) ∧ (isTime x.1 && isNum x.2) = false) ∨ (append xs x = (xs, 9) ∧ (isTime x.1 && isNum x.2) = true) ∨
    (append xs x = (kept xs ++ [x], 0) ∧ isTime x.1 = true ∧ isNum x.2 = true ∧ (xs.length = 0 ∨ tAt xs (xs.length - 1) < x.1)) := by
  rcases hb : (isTime x.1 && isNum x.2) with _ | _
  · exact .inl ⟨by rw [append_range hb, counted_of_sane h], rfl⟩
  · right
    have hb' : isTime x.1 = true ∧ isNum x.2 = true := by simpa using hb
    by_cases ho : 0 < xs.length ∧ x.1 ≤ tAt xs (xs.length - 1)
    · left
      exact ⟨by rw [append_late' hb'.1 hb'.2 (by rw [counted_of_sane h]; exact ho.1) (by rw [counted_of_sane h]; exact ho.2), counted_of_sane h], rfl⟩
    · right
      refine ⟨?_, hb'.1, hb'.2, by omega⟩
      unfold append kept
      rw [if_pos (by simp [hb'.1, hb'.2]), counted_of_sane h, if_neg ho]
theorem lastTo_app {xs ys : List (Int × Int)} {t : Int} {k : Nat} (hk : k ≤ xs.length) : lastTo (xs ++ ys) t k = lastTo xs t k := by
  induction k with
  | zero => rfl
  | succ k ih =>
    rw [lastTo, lastTo, ih (by omega), tAt_app_lt (by omega), List.getElem?_append_left (by omega)]
/-- what was last stays so -/
theorem stays {xs : List (Int × Int)} {x : Int × Int} {t : Int} (h : sane xs = true) (hl : xs.length < 64) (ht : t < x.1) (window : Int) : atP (append xs x).1 t window = atP xs t window := by
  rcases append_cases (x := x) h with ⟨e, _⟩ | ⟨e, _⟩ | ⟨e, h1, h2, h3⟩
  · rw [e]
  · rw [e]
  · rw [e, kept_short hl]
    have hs := sane_snoc h hl h1 h2 h3
    unfold atP
    rw [counted_of_sane hs, counted_of_sane h, List.length_append, List.length_singleton, lastTo, tAt_app_eq, if_neg (by omega), lastTo_app (Nat.le_refl _)]
end Go.Proofs.Ytidfiiogjfpfmaa.Ser
