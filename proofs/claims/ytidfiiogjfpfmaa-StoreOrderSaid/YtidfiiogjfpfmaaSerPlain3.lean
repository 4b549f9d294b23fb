/- Plain facts: a list turned round in place, by exchanging the first with the last, and so on. -/
import Derived.Test.YtidfiiogjfpfmaaSerPlain2
namespace Go.Proofs.Ytidfiiogjfpfmaa.Ser

def pr (xs : List (Int × Int)) (i : Nat) : Int × Int := xs[i]?.getD (0, 0)
/-- the first k and the last k are exchanged -/
def revPart (xs : List (Int × Int)) (k : Nat) : List (Int × Int) :=
  (List.range xs.length).map fun i => if i < k ∨ xs.length - 1 - k < i then pr xs (xs.length - 1 - i) else pr xs i
theorem revPart_length (xs : List (Int × Int)) (k : Nat) : (revPart xs k).length = xs.length := by simp [revPart]
theorem revPart_at {xs : List (Int × Int)} {k i : Nat} (hi : i < xs.length) : pr (revPart xs k) i = if i < k ∨ xs.length - 1 - k < i then pr xs (xs.length - 1 - i) else pr xs i := by
  unfold revPart
  conv => lhs; unfold pr
  rw [List.getElem?_map, List.getElem?_range hi]
  rfl
theorem ext_pr {xs ys : List (Int × Int)} (hl : xs.length = ys.length) (h : ∀ i, i < xs.length → pr xs i = pr ys i) : xs = ys := by
  apply List.ext_getElem hl
  intro i h1 h2
  have := h i h1
  simpa only [pr, List.getElem?_eq_getElem h1, List.getElem?_eq_getElem h2, Option.getD_some] using this
theorem pr_set {xs : List (Int × Int)} {k i : Nat} {x : Int × Int} (hi : i < xs.length) : pr (xs.set k x) i = if i = k then x else pr xs i := by
  unfold pr
  rw [List.getElem?_set]
  by_cases h : k = i
  · subst h; simp [hi]
  · rw [if_neg h, if_neg (fun e => h e.symm)]
theorem revPart_zero (xs : List (Int × Int)) : revPart xs 0 = xs := by
  apply ext_pr (revPart_length _ _)
  intro i hi
  rw [revPart_length] at hi
  rw [revPart_at hi, if_neg (by omega)]
theorem revPart_step {xs : List (Int × Int)} {k m : Nat} (h : k + m + 1 = xs.length) (hk : k < m) :
    ((revPart xs k).set k (pr (revPart xs k) m)).set m (pr (revPart xs k) k) = revPart xs (k + 1) := by
  apply ext_pr (by simp [revPart_length])
  intro i hi
  simp only [List.length_set, revPart_length] at hi
  rw [pr_set (by simp [revPart_length]; exact hi), pr_set (by simp [revPart_length]; exact hi), revPart_at hi, revPart_at hi, revPart_at (by omega), revPart_at (by omega)]
  by_cases h1 : i = m
  · subst h1
    rw [if_pos rfl, if_neg (by omega), if_pos (by omega), show xs.length - 1 - i = k by omega]
  · rw [if_neg h1]
    by_cases h2 : i = k
    · subst h2
      rw [if_pos rfl, if_neg (by omega), if_pos (by omega), show xs.length - 1 - i = m by omega]
    · rw [if_neg h2]
      by_cases h3 : i < k ∨ xs.length - 1 - k < i
      · rw [if_pos h3, if_pos (by omega)]
      · rw [if_neg h3, if_neg (by omega)]
theorem revPart_end {xs : List (Int × Int)} {k m : Nat} (h : k + m + 1 = xs.length) (hk : m ≤ k) : revPart xs k = xs.reverse := by
  apply ext_pr (by simp [revPart_length])
  intro i hi
  rw [revPart_length] at hi
  rw [revPart_at hi]
  have hr : pr xs.reverse i = pr xs (xs.length - 1 - i) := by
    unfold pr
    rw [List.getElem?_reverse hi]
  rw [hr]
  by_cases h3 : i < k ∨ xs.length - 1 - k < i
  · rw [if_pos h3]
  · rw [if_neg h3, show xs.length - 1 - i = i by omega]
theorem filter_hit {a b : Int} {pre : List (Int × Int)} {x : Int × Int} (h : inside a b x = true) : (pre ++ [x]).filter (inside a b) = pre.filter (inside a b) ++ [x] := by simp [h]
theorem filter_miss {a b : Int} {pre : List (Int × Int)} {x : Int × Int} (h : inside a b x = false) : (pre ++ [x]).filter (inside a b) = pre.filter (inside a b) := by simp [h]
theorem cells_snoc (xs : List (Int × Int)) (x : Int × Int) : cells (xs ++ [x]) = cells xs ++ [x.1, x.2] := by simp [cells]
theorem between_rev (xs : List (Int × Int)) (a b : Int) : ((counted xs).reverse.filter (inside a b)).reverse = between xs a b := by
  rw [List.filter_reverse, List.reverse_reverse]; rfl
theorem append_range {xs : List (Int × Int)} {x : Int × Int} (h : (isTime x.1 && isNum x.2) = false) : append xs x = (counted xs, 2) := by
  unfold append; rw [if_neg (by simp [h])]
/-- the first one, going backwards, is the last one -/
theorem last_of_rev {ys : List (Int × Int)} {y : Int × Int} (h : [y] <+: ys.reverse) : 0 < ys.length ∧ tAt ys (ys.length - 1) = y.1 := by
  obtain ⟨l, hl⟩ := h
  have e : ys = l.reverse ++ [y] := by
    have := congrArg List.reverse hl
    rw [List.reverse_reverse] at this
    rw [← this]; simp
  subst e
  simp [tAt]
theorem append_late {xs : List (Int × Int)} {x y : Int × Int} (ht : isTime x.1 = true) (hv : isNum x.2 = true) (h : [y] <+: (counted xs).reverse) (hx : x.1 ≤ y.1) : append xs x = (counted xs, 9) := by
  obtain ⟨h0, h1⟩ := last_of_rev h
  unfold append
  rw [if_pos (by simp [ht, hv]), if_pos ⟨h0, by omega⟩]
def kept (ys : List (Int × Int)) : List (Int × Int) := if 64 ≤ ys.length then ys.tail else ys
theorem append_ok {xs : List (Int × Int)} {x y : Int × Int} (ht : isTime x.1 = true) (hv : isNum x.2 = true) (h : [y] <+: (counted xs).reverse) (hx : ¬ x.1 ≤ y.1) : append xs x = (kept (counted xs) ++ [x], 0) := by
  obtain ⟨h0, h1⟩ := last_of_rev h
  unfold append kept
  rw [if_pos (by simp [ht, hv]), if_neg (by omega)]
theorem append_first {xs : List (Int × Int)} {x : Int × Int} (ht : isTime x.1 = true) (hv : isNum x.2 = true) (h : counted xs = []) : append xs x = ([x], 0) := by
  unfold append
  rw [if_pos (by simp [ht, hv]), h]
  simp
theorem kept_short {ys : List (Int × Int)} (h : ys.length < 64) : kept ys = ys := by unfold kept; rw [if_neg (by omega)]
theorem kept_long {ys : List (Int × Int)} (h : 64 ≤ ys.length) : kept ys = ys.tail := by unfold kept; rw [if_pos h]
end Go.Proofs.Ytidfiiogjfpfmaa.Ser
