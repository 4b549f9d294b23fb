/- More plain facts on series: going over one backwards. -/
import Derived.Test.YtidfiiogjfpfmaaSerPlain
namespace Go.Proofs.Ytidfiiogjfpfmaa.Ser

theorem pair_at (xs : List (Int × Int)) (s : Nat) : (tAt xs s, vAt xs s) = xs[s]?.getD (0, 0) := rfl
/-- the last ones, the last one first, down to place s and without it -/
def revTo (xs : List (Int × Int)) (s : Nat) : List (Int × Int) := xs.reverse.take (xs.length - s)
theorem revTo_step {xs : List (Int × Int)} {s : Nat} (h : s < xs.length) : revTo xs (s + 1) ++ [(tAt xs s, vAt xs s)] = revTo xs s := by
  unfold revTo
  have e : xs.length - s = (xs.length - (s + 1)) + 1 := by omega
  rw [e, List.take_add_one]
  congr 1
  rw [List.getElem?_reverse (by omega), pair_at, show xs.length - 1 - (xs.length - (s + 1)) = s by omega, List.getElem?_eq_getElem h]
  rfl
theorem revTo_all (xs : List (Int × Int)) : revTo xs 0 = xs.reverse := by
  unfold revTo; rw [List.take_of_length_le (by simp)]
theorem revTo_none (xs : List (Int × Int)) : revTo xs xs.length = [] := by simp [revTo]
theorem revTo_length {xs : List (Int × Int)} {s : Nat} : (revTo xs s).length = xs.length - s := by simp [revTo]
theorem revTo_prefix (xs : List (Int × Int)) (s : Nat) : revTo xs s <+: xs.reverse := List.take_prefix _ _
theorem lastTo_none {xs : List (Int × Int)} {t : Int} {k : Nat} (h : ∀ i, i < k → t < tAt xs i) : lastTo xs t k = none := by
  induction k with
  | zero => rfl
  | succ k ih =>
    have := h k (by omega)
    rw [lastTo, if_neg (by omega)]
    exact ih fun i hi => h i (by omega)
theorem lastTo_some {xs : List (Int × Int)} {t : Int} {k s : Nat} (hs : s < k) (h : ∀ i, s < i → i < k → t < tAt xs i) (ht : tAt xs s ≤ t) : lastTo xs t k = some (xs[s]?.getD (0, 0)) := by
  induction k with
  | zero => omega
  | succ k ih =>
    rcases Nat.lt_or_ge s k with h1 | h1
    · have := h k h1 (by omega)
      rw [lastTo, if_neg (by omega)]
      exact ih h1 fun i hi hk => h i hi (by omega)
    · obtain rfl : s = k := by omega
      rw [lastTo, if_pos ht]
theorem tAt_mem {xs : List (Int × Int)} {i : Nat} (h : i < xs.length) : xs[i]?.getD (0, 0) ∈ xs := by
  rw [List.getElem?_eq_getElem h]; exact List.getElem_mem h
theorem atP_none {xs : List (Int × Int)} {t window : Int} (h : ∀ x ∈ (counted xs).reverse, t < x.1) : atP xs t window = ((0, 0), false) := by
  unfold atP
  rw [lastTo_none]
  intro i hi
  exact h _ (List.mem_reverse.2 (tAt_mem hi))
/-- going backwards has come to x, all ahead of it being later than t -/
theorem lastTo_of_rev {ys pre : List (Int × Int)} {x : Int × Int} {t : Int} (hp : pre ++ [x] <+: ys.reverse) (hpre : ∀ y ∈ pre, t < y.1) (hx : x.1 ≤ t) : x ∈ ys ∧ lastTo ys t ys.length = some x := by
  obtain ⟨l, hl⟩ := hp
  have hy : ys = l.reverse ++ [x] ++ pre.reverse := by
    have := congrArg List.reverse hl
    rw [List.reverse_reverse] at this
    rw [← this]; simp
  refine ⟨by rw [hy]; simp, ?_⟩
  have hs : ys[l.length]? = some x := by rw [hy]; simp
  rw [lastTo_some (s := l.length)]
  · rw [hs]; rfl
  · rw [hy]; simp
  · intro i h1 h2
    have : ys[i]? = pre.reverse[i - (l.length + 1)]? := by
      rw [hy, List.getElem?_append_right (by simp; omega)]
      congr 1
      simp
    have hlen : i - (l.length + 1) < pre.reverse.length := by
      rw [hy] at h2; simp at h2 ⊢; omega
    unfold tAt
    rw [this, List.getElem?_eq_getElem hlen]
    exact hpre _ (List.mem_reverse.1 (List.getElem_mem hlen))
  · unfold tAt; rw [hs]; exact hx
theorem counted_time {xs : List (Int × Int)} {x : Int × Int} (h : x ∈ counted xs) : 0 ≤ x.1 ∧ x.1 ≤ 9007199254740992 ∧ -9007199254740992 ≤ x.2 ∧ x.2 ≤ 9007199254740992 := by
  unfold counted at h
  split at h
  · obtain ⟨i, hi, e⟩ := List.mem_iff_getElem.1 h
    have := sane_ok ‹_› hi
    simp only [okAt, tAt, vAt, isTime, isNum, List.getElem?_eq_getElem hi, Option.getD_some, e, Bool.and_eq_true, decide_eq_true_eq] at this
    omega
  · cases h
theorem atP_of_rev {xs pre : List (Int × Int)} {x : Int × Int} {t window : Int} (hp : pre ++ [x] <+: (counted xs).reverse) (hpre : ∀ y ∈ pre, t < y.1) (hx : x.1 ≤ t) :
    atP xs t window = if t - x.1 < window then (x, true) else ((0, 0), false) := by
  unfold atP
  rw [(lastTo_of_rev hp hpre hx).2]
end Go.Proofs.Ytidfiiogjfpfmaa.Ser
