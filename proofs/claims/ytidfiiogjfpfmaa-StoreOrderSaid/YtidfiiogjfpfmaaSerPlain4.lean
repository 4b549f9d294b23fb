/- More plain facts on series. -/
import Derived.Test.YtidfiiogjfpfmaaSerPlain3
namespace Go.Proofs.Ytidfiiogjfpfmaa.Ser

theorem append_late' {xs : List (Int × Int)} {x : Int × Int} (ht : isTime x.1 = true) (hv : isNum x.2 = true) (h : 0 < (counted xs).length) (hx : x.1 ≤ tAt (counted xs) ((counted xs).length - 1)) : append xs x = (counted xs, 9) := by
  unfold append
  rw [if_pos (by simp [ht, hv]), if_pos ⟨h, hx⟩]
theorem append_ok' {xs : List (Int × Int)} {x : Int × Int} (ht : isTime x.1 = true) (hv : isNum x.2 = true) (hx : ¬ x.1 ≤ tAt (counted xs) ((counted xs).length - 1)) : append xs x = (kept (counted xs) ++ [x], 0) := by
  unfold append kept
  rw [if_pos (by simp [ht, hv]), if_neg (by omega)]
theorem atP_at {xs : List (Int × Int)} {t window : Int} {s : Nat} (hs : s < (counted xs).length) (h : ∀ j, s < j → j < (counted xs).length → t < tAt (counted xs) j) (ht : tAt (counted xs) s ≤ t) :
    atP xs t window = if t - tAt (counted xs) s < window then ((tAt (counted xs) s, vAt (counted xs) s), true) else ((0, 0), false) := by
  unfold atP
  rw [lastTo_some hs h ht]
  rfl
theorem atP_no {xs : List (Int × Int)} {t window : Int} (h : ∀ j, j < (counted xs).length → t < tAt (counted xs) j) : atP xs t window = ((0, 0), false) := by
  unfold atP
  rw [lastTo_none h]
theorem tAt_bound {xs : List (Int × Int)} {s : Nat} (hs : s < (counted xs).length) : 0 ≤ tAt (counted xs) s ∧ tAt (counted xs) s ≤ 9007199254740992 := by
  have := counted_time (tAt_mem hs)
  exact ⟨this.1, this.2.1⟩
theorem later_step {ys : List (Int × Int)} {t : Int} {s n : Nat} (h : ∀ j, s + 1 ≤ j → j < n → t < tAt ys j) (hs : t < tAt ys s) : ∀ j, s ≤ j → j < n → t < tAt ys j := fun j h1 h2 => by
  rcases Nat.lt_or_ge s j with h3 | h3
  · exact h j h3 h2
  · obtain rfl : j = s := by omega
    exact hs
theorem filter_take {ys : List (Int × Int)} {k : Nat} (hk : k < ys.length) (p : Int × Int → Bool) : (ys.take (k + 1)).filter p = (ys.take k).filter p ++ (if p (tAt ys k, vAt ys k) then [(tAt ys k, vAt ys k)] else []) := by
  rw [List.take_add_one, List.filter_append, List.getElem?_eq_getElem hk]
  have e : (tAt ys k, vAt ys k) = ys[k] := by rw [pair_at, List.getElem?_eq_getElem hk]; rfl
  rw [e]
  by_cases h : p ys[k] <;> simp [h]
end Go.Proofs.Ytidfiiogjfpfmaa.Ser
