/- The plain law of lex, continued: a good token's text is that token. -/
import Derived.Test.YtbdochcajpempaaLexPlain2
namespace Go.Proofs.Ytbdochcajpempaa.Lex

theorem firstIs_cons (p : UInt8 → Bool) (c : UInt8) (l : Bs) : firstIs p (c :: l) = p c := rfl
theorem ends_not61 {r : Bs} (hr : ends r) : firstIs (· == 61) r = false := by
  cases r with
  | nil => rfl
  | cons c r =>
    have hr' : (!(white c || c == 35)) = false := hr
    show (c == 61) = false
    rcases h : (c == 61) with _ | _
    · rfl
    · have := eq_of_beq h
      subst this
      exact absurd hr' (by decide)
theorem letter_facts {c : UInt8} (h : letter c = true) : white c = false ∧ c ≠ 35 := by
  constructor
  · rcases hw : white c with _ | _
    · rfl
    · have := goes_white false c (by rw [hw]; rfl)
      unfold goes at this
      rw [h] at this
      cases this
  · intro hc
    subst hc
    exact absurd h (by decide)
theorem num_facts {c : UInt8} {b : Bool} (h : (digit c || (c == 45 && b)) = true) : white c = false ∧ c ≠ 35 := by
  constructor
  · rcases hw : white c with _ | _
    · rfl
    · simp only [white, Bool.or_eq_true, beq_iff_eq] at hw
      rcases hw with ((hw | hw) | hw) | hw <;> subst hw <;> cases b <;> exact absurd h (by decide)
  · intro hc
    subst hc
    cases b <;> exact absurd h (by decide)
theorem one_good {k : Nat} {s r : Bs} (hg : good k s) (hr : ends r) : ∃ c l, tokText k s ++ r = c :: l ∧ one c l = .ok (k, s, r) ∧ white c = false ∧ c ≠ 35 := by
  rcases hg with ⟨rfl, c, l, rfl, hc, hl⟩ | ⟨rfl, c, l, rfl, hc, hn, hl⟩ | rfl | ⟨rfl, hs⟩
  · refine ⟨c, l ++ r, rfl, ?_, letter_facts hc⟩
    have ht := take_ends (goes_white false) hl hr
    unfold one
    rw [show begins c (l ++ r) = (1, 0) by unfold begins; rw [if_pos hc]]
    simp only [ht.1, ht.2]
  · refine ⟨c, l ++ r, rfl, ?_, num_facts hn⟩
    have ht := take_ends (goes_white true) hl hr
    have hn' : (digit c || (c == 45 && firstIs digit (l ++ r))) = true := by
      cases l with
      | nil => simp only [firstIs, Bool.and_false, Bool.or_false] at hn; rw [hn]; rfl
      | cons d l => exact hn
    unfold one
    rw [show begins c (l ++ r) = (2, 0) by unfold begins; rw [if_neg (by rw [hc]; decide), if_pos hn']]
    simp only [ht.1, ht.2]
  · refine ⟨34, quoteIn s ++ 34 :: r, by simp [tokText, quote], ?_, by decide, by decide⟩
    unfold one
    rw [show begins 34 (quoteIn s ++ 34 :: r) = (3, 0) by unfold begins; rw [if_neg (by decide), if_neg (by simp only [show ((34 : UInt8) == 45) = false by decide, Bool.false_and, Bool.or_false]; decide), if_pos (by decide)]]
    simp only [text_quote]
    rfl
  · have h61 := ends_not61 hr
    simp only [isSign, List.contains_cons, List.contains_nil, Bool.or_eq_true, Bool.or_false, beq_iff_eq] at hs
    rcases hs with h | h | h | h | h | h | h | h | h | h | h | h | h | h <;> subst h <;> refine ⟨_, _, rfl, ?_, by decide, by decide⟩ <;> unfold one begins <;> simp [h61, firstIs_cons, letter, digit, twos, ones]
end Go.Proofs.Ytbdochcajpempaa.Lex
