/- The plain laws on series. -/
import Derived.Test.YtidfiiogjfpfmaaSerPlain4
namespace Go.Proofs.Ytidfiiogjfpfmaa.Ser

theorem atP_cases (xs : List (Int × Int)) (t window : Int) : (∃ x, lastTo (counted xs) t (counted xs).length = some x ∧ x.1 ≤ t ∧ atP xs t window = if t - x.1 < window then (x, true) else ((0, 0), false)) ∨
    (lastTo (counted xs) t (counted xs).length = none ∧ atP xs t window = ((0, 0), false)) := by
  have key : ∀ (ys : List (Int × Int)) (k : Nat) (x : Int × Int), lastTo ys t k = some x → x.1 ≤ t := by
    intro ys k x h
    induction k with
    | zero => cases h
    | succ k ih =>
      rw [lastTo] at h
      split at h
      · cases h; assumption
      · exact ih h
  unfold atP
  rcases h : lastTo (counted xs) t (counted xs).length with _ | x
  · exact .inr ⟨rfl, rfl⟩
  · exact .inl ⟨x, rfl, key _ _ _ h, rfl⟩
theorem atP_zero (xs : List (Int × Int)) (t : Int) : (atP xs t 0).2 = false := by
  rcases atP_cases xs t 0 with ⟨x, _, h1, h2⟩ | ⟨_, h2⟩
  · rw [h2, if_neg (by omega)]
  · rw [h2]
/-- a longer window tells no less -/
theorem atP_more (xs : List (Int × Int)) (t a b : Int) (hb : 0 ≤ b) : (atP xs t a).2 = false ∨ ((atP xs t a).2 = true ∧ (atP xs t (a + b)).2 = true ∧ (atP xs t (a + b)).1 = (atP xs t a).1) := by
  rcases atP_cases xs t a with ⟨x, e1, h1, h2⟩ | ⟨_, h2⟩
  · by_cases h : t - x.1 < a
    · right
      rcases atP_cases xs t (a + b) with ⟨y, e2, g1, g2⟩ | ⟨e2, g2⟩
      · rw [e1] at e2; cases e2
        rw [h2, g2, if_pos h, if_pos (by omega)]
        exact ⟨rfl, rfl, rfl⟩
      · rw [e1] at e2; cases e2
    · left; rw [h2, if_neg h]
  · left; rw [h2]
end Go.Proofs.Ytidfiiogjfpfmaa.Ser
