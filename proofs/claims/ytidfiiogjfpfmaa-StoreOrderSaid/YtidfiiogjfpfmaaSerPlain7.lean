/- The plain laws on series, ended: grows, last. -/
import Derived.Test.YtidfiiogjfpfmaaSerPlain6
namespace Go.Proofs.Ytidfiiogjfpfmaa.Ser

/-- a series that one more has been appended to -/
theorem grows {xs : List (Int × Int)} {x : Int × Int} (h : sane xs = true) (ht : isTime x.1 = true) (hv : isNum x.2 = true) (ho : xs.length = 0 ∨ tAt xs (xs.length - 1) < x.1) :
    sane (kept xs ++ [x]) = true ∧ ((xs.length < 64 ∧ kept xs = xs) ∨ (xs.length = 64 ∧ kept xs = xs.drop 1)) := by
  have hl := sane_length h
  by_cases h64 : xs.length < 64
  · rw [kept_short h64]
    exact ⟨sane_snoc h h64 ht hv ho, .inl ⟨h64, rfl⟩⟩
  · rw [kept_long (by omega)]
    refine ⟨sane_snoc (sane_tail h) (by simp; omega) ht hv ?_, .inr ⟨by omega, by rw [List.drop_one]⟩⟩
    right
    have e : tAt xs.tail (xs.tail.length - 1) = tAt xs (xs.length - 1) := by
      unfold tAt
      rw [List.getElem?_tail, List.length_tail, show xs.length - 1 - 1 + 1 = xs.length - 1 by omega]
    rw [e]
    omega
theorem last_snoc (ys : List (Int × Int)) (x : Int × Int) : tAt (ys ++ [x]) ys.length = x.1 ∧ vAt (ys ++ [x]) ys.length = x.2 := ⟨tAt_app_eq ys x, vAt_app_eq ys x⟩

/-- of the last one no later than t, between and at agree -/
theorem lastTo_filter {ys : List (Int × Int)} {t : Int} (hz : ∀ x ∈ ys, 0 ≤ x.1) : lastTo ys t ys.length = (ys.filter (inside 0 t)).getLast? := by
  have key : ∀ k, k ≤ ys.length → lastTo ys t k = ((ys.take k).filter (inside 0 t)).getLast? := by
    intro k
    induction k with
    | zero => intro _; simp [lastTo]
    | succ k ih =>
      intro hk
      have hk' : k < ys.length := by omega
      rw [filter_take hk', lastTo]
      have hmem : (tAt ys k, vAt ys k) ∈ ys := by rw [pair_at]; exact tAt_mem hk'
      have h0 := hz _ hmem
      by_cases hle : tAt ys k ≤ t
      · have hin : inside 0 t (tAt ys k, vAt ys k) = true := by simp [inside, hle]; exact h0
        rw [if_pos hle, hin, if_pos rfl, List.getLast?_append]
        rfl
      · have hin : inside 0 t (tAt ys k, vAt ys k) = false := by simp [inside]; omega
        rw [if_neg hle, hin, if_neg (by simp), List.append_nil]
        exact ih (by omega)
  have := key ys.length (Nat.le_refl _)
  rwa [List.take_length] at this
theorem atP_between {xs : List (Int × Int)} (t window : Int) : atP xs t window = match (between xs 0 t).getLast? with
    | some x => if t - x.1 < window then (x, true) else ((0, 0), false)
    | none => ((0, 0), false) := by
  unfold atP between
  rw [lastTo_filter (fun x hx => (counted_time hx).1)]
  cases (List.filter (inside 0 t) (counted xs)).getLast? <;> rfl
theorem last_of {ys : List (Int × Int)} (h : 0 < ys.length) : ys.getLast? = some (tAt ys (ys.length - 1), vAt ys (ys.length - 1)) := by
  rw [List.getLast?_eq_getElem?, pair_at, List.getElem?_eq_getElem (by omega)]
  rfl
/-- from the last one on there is it alone -/
theorem between_last {xs : List (Int × Int)} {t : Int} (h : 0 < (between xs 0 t).length) : between xs (tAt (between xs 0 t) ((between xs 0 t).length - 1)) t = [(tAt (between xs 0 t) ((between xs 0 t).length - 1), vAt (between xs 0 t) ((between xs 0 t).length - 1))] := by
  have hl := last_of h
  generalize hx : (tAt (between xs 0 t) ((between xs 0 t).length - 1), vAt (between xs 0 t) ((between xs 0 t).length - 1)) = x at hl ⊢
  have e1 : tAt (between xs 0 t) ((between xs 0 t).length - 1) = x.1 := by rw [← hx]
  rw [e1]
  obtain ⟨l, hb⟩ : ∃ l, between xs 0 t = l ++ [x] := by
    obtain ⟨h1, h2⟩ := List.getLast?_eq_some_iff.1 hl
    exact ⟨h1, h2⟩
  have hp : (between xs 0 t).Pairwise (fun x y => x.1 < y.1) := List.Pairwise.filter _ (counted_pairwise xs)
  have hx0 : 0 ≤ x.1 ∧ x.1 ≤ t := by
    have hm : x ∈ between xs 0 t := by rw [hb]; simp
    have := (List.mem_filter.1 hm).2
    simpa [inside] using this
  have e2 : between xs x.1 t = (between xs 0 t).filter (inside x.1 t) := by
    unfold between
    rw [List.filter_filter]
    congr 1
    funext y
    simp [inside]
    omega
  rw [e2, hb, List.filter_append]
  rw [hb, List.pairwise_append] at hp
  have e3 : l.filter (inside x.1 t) = [] := by
    rw [List.filter_eq_nil_iff]
    intro y hy
    have := hp.2.2 y hy x (by simp)
    simp [inside]; omega
  rw [e3]
  simp [inside, hx0.2]
end Go.Proofs.Ytidfiiogjfpfmaa.Ser
