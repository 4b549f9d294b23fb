/- The plain law of lex, continued: what is read is good; what is joined is read again. -/
import Derived.Test.YtbdochcajpempaaLexPlain4
namespace Go.Proofs.Ytbdochcajpempaa.Lex

theorem takeWhile_all {p : UInt8 → Bool} (l : Bs) : (l.takeWhile p).all p = true := by
  induction l with
  | nil => rfl
  | cons c l ih =>
    rcases h : p c with _ | _
    · rw [List.takeWhile_cons_of_neg (by rw [h]; decide)]; rfl
    · rw [List.takeWhile_cons_of_pos h, List.all_cons, h, ih]; rfl
theorem digit_goes {c : UInt8} (h : digit c = true) : goes true c = true := by unfold goes; rw [h]; simp
theorem one_ok {c : UInt8} {l p r : Bs} {k : Nat} (h : one c l = .ok (k, p, r)) : good k p := by
  unfold one at h
  unfold begins at h
  by_cases h1 : letter c = true
  · rw [if_pos h1] at h
    injection h with h
    injection h with hk h
    injection h with hp hr
    subst hk hp
    exact .inl ⟨rfl, _, _, rfl, h1, takeWhile_all _⟩
  · rw [if_neg h1] at h
    by_cases h2 : (digit c || (c == 45 && firstIs digit l)) = true
    · rw [if_pos h2] at h
      injection h with h
      injection h with hk h
      injection h with hp hr
      subst hk hp
      refine .inr (.inl ⟨rfl, _, _, rfl, by simpa using h1, ?_, takeWhile_all _⟩)
      cases l with
      | nil => exact h2
      | cons d l =>
        rcases hd : digit d with _ | _
        · rw [firstIs_cons, hd, Bool.and_false, Bool.or_false] at h2
          rw [h2]; rfl
        · rw [List.takeWhile_cons_of_pos (digit_goes hd), firstIs_cons, hd]
          rw [firstIs_cons, hd] at h2
          exact h2
    · rw [if_neg h2] at h
      by_cases h3 : (c == 34) = true
      · rw [if_pos h3] at h
        simp only at h
        cases ht : text l 1 with
        | error e => rw [ht] at h; cases h
        | ok v =>
          rw [ht] at h
          injection h with h
          injection h with hk h
          subst hk
          exact .inr (.inr (.inl rfl))
      · rw [if_neg h3] at h
        by_cases h4 : (twos.contains c && firstIs (· == 61) l) = true
        · rw [if_pos h4] at h
          simp only at h
          injection h with h
          injection h with hk h
          injection h with hp hr
          subst hk hp
          rw [Bool.and_eq_true] at h4
          cases l with
          | nil => exact absurd h4.2 (by simp [firstIs])
          | cons d l =>
            have hd : d = 61 := eq_of_beq h4.2
            subst hd
            refine .inr (.inr (.inr ⟨rfl, ?_⟩))
            have h5 := h4.1
            simp only [twos, List.contains_cons, List.contains_nil, Bool.or_eq_true, beq_iff_eq, Bool.or_false] at h5
            rcases h5 with h5 | h5 | h5 | h5 <;> subst h5 <;> rfl
        · rw [if_neg h4] at h
          by_cases h5 : ones.contains c = true
          · rw [if_pos h5] at h
            simp only at h
            injection h with h
            injection h with hk h
            injection h with hp hr
            subst hk hp
            refine .inr (.inr (.inr ⟨rfl, ?_⟩))
            simp only [ones, List.contains_cons, List.contains_nil, Bool.or_eq_true, beq_iff_eq, Bool.or_false] at h5
            rcases h5 with h5 | h5 | h5 | h5 | h5 | h5 | h5 | h5 | h5 | h5 <;> subst h5 <;> rfl
          · rw [if_neg h5] at h
            cases h
theorem all_good (f : Nat) (l : Bs) (N : Nat) : ∀ t ∈ (all f l N).1, good t.k t.s := by
  induction f generalizing l with
  | zero => intro t ht; cases ht
  | succ f ih =>
    intro t ht
    unfold all at ht
    cases hs : skip false l with
    | nil => rw [hs] at ht; cases ht
    | cons c r =>
      rw [hs] at ht
      simp only at ht
      cases ho : one c r with
      | error e => rw [ho] at ht; cases ht
      | ok v =>
        obtain ⟨k, p, r'⟩ := v
        rw [ho] at ht
        rcases List.mem_cons.1 ht with h | h
        · subst h; exact one_ok ho
        · exact ih r' t h
end Go.Proofs.Ytbdochcajpempaa.Lex
