/- Plain facts on series of samples: lists of pairs of integers; no program in sight. -/
namespace Go.Proofs.Ytidfiiogjfpfmaa.Ser

def mx : Int := 9007199254740992
def isTime (t : Int) : Bool := decide (0 ≤ t) && decide (t ≤ 9007199254740992)
def isNum (v : Int) : Bool := decide (-9007199254740992 ≤ v) && decide (v ≤ 9007199254740992)
def tAt (xs : List (Int × Int)) (i : Nat) : Int := (xs[i]?.getD (0, 0)).1
def vAt (xs : List (Int × Int)) (i : Nat) : Int := (xs[i]?.getD (0, 0)).2
def okAt (xs : List (Int × Int)) (i : Nat) : Bool := isTime (tAt xs i) && isNum (vAt xs i) && (decide (i = 0) || decide (tAt xs (i - 1) < tAt xs i))
def sane (xs : List (Int × Int)) : Bool := decide (xs.length ≤ 64) && (List.range xs.length).all (okAt xs)
def counted (xs : List (Int × Int)) : List (Int × Int) := if sane xs then xs else []
def append (xs : List (Int × Int)) (x : Int × Int) : List (Int × Int) × Int :=
  if isTime x.1 && isNum x.2 then
    if 0 < (counted xs).length ∧ x.1 ≤ tAt (counted xs) ((counted xs).length - 1) then (counted xs, 9)
    else ((if 64 ≤ (counted xs).length then (counted xs).tail else counted xs) ++ [x], 0)
  else (counted xs, 2)
/-- the last one no later than t, of the first k -/
def lastTo (xs : List (Int × Int)) (t : Int) : Nat → Option (Int × Int)
  | 0 => none
  | k + 1 => if tAt xs k ≤ t then some (xs[k]?.getD (0, 0)) else lastTo xs t k
def atP (xs : List (Int × Int)) (t window : Int) : (Int × Int) × Bool :=
  match lastTo (counted xs) t (counted xs).length with
  | some x => if t - x.1 < window then (x, true) else ((0, 0), false)
  | none => ((0, 0), false)
def inside (a b : Int) (x : Int × Int) : Bool := decide (a ≤ x.1) && decide (x.1 ≤ b)
def between (xs : List (Int × Int)) (a b : Int) : List (Int × Int) := (counted xs).filter (inside a b)
def cells (xs : List (Int × Int)) : List Int := xs.flatMap fun x => [x.1, x.2]

theorem sane_length {xs : List (Int × Int)} (h : sane xs = true) : xs.length ≤ 64 := by
  simp [sane] at h; exact h.1
theorem counted_length (xs : List (Int × Int)) : (counted xs).length ≤ 64 := by
  unfold counted; split
  · exact sane_length ‹_›
  · simp
theorem sane_ok {xs : List (Int × Int)} (h : sane xs = true) {i : Nat} (hi : i < xs.length) : okAt xs i = true := by
  simp [sane] at h; exact h.2 i hi
theorem sane_iff (xs : List (Int × Int)) : sane xs = true ↔ xs.length ≤ 64 ∧ ∀ i, i < xs.length → okAt xs i = true := by
  simp [sane]
theorem not_sane {xs : List (Int × Int)} {i : Nat} (hi : i < xs.length) (h : okAt xs i = false) : sane xs = false := by
  rcases hs : sane xs with _ | _
  · rfl
  · rw [sane_ok hs hi] at h; cases h
theorem not_sane_time {xs : List (Int × Int)} {i : Nat} (hi : i < xs.length) (h : isTime (tAt xs i) = false) : sane xs = false := not_sane hi (by simp [okAt, h])
theorem not_sane_num {xs : List (Int × Int)} {i : Nat} (hi : i < xs.length) (h : isNum (vAt xs i) = false) : sane xs = false := not_sane hi (by simp [okAt, h])
theorem not_sane_order {xs : List (Int × Int)} {i : Nat} (hi : i < xs.length) (h0 : 0 < i) (h : tAt xs i ≤ tAt xs (i - 1)) : sane xs = false := not_sane hi (by simp [okAt]; omega)
theorem okAt_mk {xs : List (Int × Int)} {i : Nat} (h1 : isTime (tAt xs i) = true) (h2 : isNum (vAt xs i) = true) (h : i = 0 ∨ tAt xs (i - 1) < tAt xs i) : okAt xs i = true := by simp [okAt, h1, h2]; exact h
theorem ok_snoc {xs : List (Int × Int)} {k : Nat} (h : ∀ j, j < k → okAt xs j = true) (hk : okAt xs k = true) : ∀ j, j < k + 1 → okAt xs j = true := fun j hj => by
  rcases Nat.lt_or_ge j k with h1 | h1
  · exact h j h1
  · obtain rfl : j = k := by omega
    exact hk
theorem sane_mk {xs : List (Int × Int)} {n : Nat} (hn : xs.length = n) (h64 : n ≤ 64) (h : ∀ j, j < n → okAt xs j = true) : sane xs = true := (sane_iff xs).2 ⟨by omega, fun i hi => h i (by omega)⟩
theorem sane_long {xs : List (Int × Int)} (h : 64 < xs.length) : sane xs = false := by simp [sane]; omega
theorem ne_of_at {xs ys : List (Int × Int)} {k : Nat} (h : (!tAt xs k == tAt ys k) = true ∨ (!vAt xs k == vAt ys k) = true) : decide (xs = ys) = false := by
  rw [decide_eq_false_iff_not]
  rintro rfl
  simp at h
theorem eq_snoc {xs ys : List (Int × Int)} {k : Nat} (h : ∀ j, j < k → tAt xs j = tAt ys j ∧ vAt xs j = vAt ys j) (hk : (!tAt xs k == tAt ys k) = false ∧ (!vAt xs k == vAt ys k) = false) :
    ∀ j, j < k + 1 → tAt xs j = tAt ys j ∧ vAt xs j = vAt ys j := fun j hj => by
  rcases Nat.lt_or_ge j k with h1 | h1
  · exact h j h1
  · obtain rfl : j = k := by omega
    simpa using hk
theorem eq_of_at {xs ys : List (Int × Int)} (hl : xs.length = ys.length) (h : ∀ j, j < xs.length → tAt xs j = tAt ys j ∧ vAt xs j = vAt ys j) : decide (xs = ys) = true := by
  rw [decide_eq_true_iff]
  apply List.ext_getElem hl
  intro i h1 h2
  have := h i h1
  simp only [tAt, vAt, List.getElem?_eq_getElem h1, List.getElem?_eq_getElem h2, Option.getD_some] at this
  exact Prod.ext this.1 this.2
end Go.Proofs.Ytidfiiogjfpfmaa.Ser
