/- The plain law of lex, continued: by the line; places; a quoted text, cut short. -/
import Derived.Test.YtbdochcajpempaaLexPlain7
namespace Go.Proofs.Ytbdochcajpempaa.Lex

theorem skip_t (c : UInt8) (l : Bs) : skip true (c :: l) = if c = 10 then skip false l else skip true l := rfl
theorem skip_f (c : UInt8) (l : Bs) : skip false (c :: l) = if white c then skip false l else if c = 35 then skip true l else c :: l := rfl
theorem skip_line (a b : Bs) (m : Bool) : skip m (a ++ 10 :: b) = (match skip m a with | [] => skip false b | c :: r => c :: (r ++ 10 :: b)) := by
  induction a generalizing m with
  | nil => cases m <;> rfl
  | cons c a ih =>
    cases m with
    | true =>
      simp only [List.cons_append]
      rw [skip_t, skip_t]
      split
      · exact ih false
      · exact ih true
    | false =>
      simp only [List.cons_append]
      rw [skip_f, skip_f]
      split
      · exact ih false
      · split
        · exact ih true
        · rfl
theorem takeWhile_line (p : UInt8 → Bool) (hp : p 10 = false) (a b : Bs) : (a ++ 10 :: b).takeWhile p = a.takeWhile p ∧ (a ++ 10 :: b).dropWhile p = a.dropWhile p ++ 10 :: b := by
  induction a with
  | nil => simp [hp]
  | cons c a ih =>
    simp only [List.cons_append]
    rcases h : p c with _ | _
    · simp [h]
    · simp [h, ih.1, ih.2]
theorem text_line (n : Nat) : ∀ (l : Bs) (i : Nat) (p r b : Bs), l.length ≤ n → text l i = .ok (p, r) → text (l ++ 10 :: b) i = .ok (p, r ++ 10 :: b) := by
  induction n with
  | zero =>
    intro l i p r b hl h
    cases l with
    | nil => unfold text at h; cases h
    | cons c l => simp at hl
  | succ n ih =>
    intro l i p r b hl h
    cases l with
    | nil => unfold text at h; cases h
    | cons c l =>
      simp only [List.length_cons] at hl
      unfold text at h
      simp only [List.cons_append]
      unfold text
      by_cases h1 : c = 34
      · rw [if_pos h1] at h ⊢
        injection h with h
        injection h with hp hr
        subst hp hr
        rfl
      · rw [if_neg h1] at h ⊢
        by_cases h2 : c = 10
        · rw [if_pos h2] at h; cases h
        · rw [if_neg h2] at h ⊢
          by_cases h3 : c = 92
          · rw [if_pos h3] at h ⊢
            cases l with
            | nil => cases h
            | cons d l =>
              simp only [List.length_cons] at hl
              simp only at h
              simp only [List.cons_append]
              by_cases h4 : d = 92 ∨ d = 34
              · rw [if_pos h4] at h ⊢
                cases ht : text l (i + 2) with
                | error e => rw [ht] at h; cases h
                | ok v =>
                  obtain ⟨q, r2⟩ := v
                  rw [ht] at h
                  rw [ih l (i + 2) q r2 b (by omega) ht]
                  injection h with h
                  injection h with hp hr
                  subst hp hr
                  rfl
              · rw [if_neg h4] at h ⊢
                by_cases h5 : d = 110
                · rw [if_pos h5] at h ⊢
                  cases ht : text l (i + 2) with
                  | error e => rw [ht] at h; cases h
                  | ok v =>
                    obtain ⟨q, r2⟩ := v
                    rw [ht] at h
                    rw [ih l (i + 2) q r2 b (by omega) ht]
                    injection h with h
                    injection h with hp hr
                    subst hp hr
                    rfl
                · rw [if_neg h5] at h; cases h
          · rw [if_neg h3] at h ⊢
            cases ht : text l (i + 1) with
            | error e => rw [ht] at h; cases h
            | ok v =>
              obtain ⟨q, r2⟩ := v
              rw [ht] at h
              rw [ih l (i + 1) q r2 b (by omega) ht]
              injection h with h
              injection h with hp hr
              subst hp hr
              rfl
/-- what a text's error is, and where -/
theorem text_err (n : Nat) : ∀ (l : Bs) (i m : Nat) (e : Int), l.length ≤ n → text l i = .error (m, e) → (e = 12 ∧ m = 0) ∨ (e = 1 ∧ i ≤ m ∧ m < i + l.length) := by
  induction n with
  | zero =>
    intro l i m e hl h
    cases l with
    | nil => unfold text at h; injection h with h; injection h with h1 h2; exact .inl ⟨h2.symm, h1.symm⟩
    | cons c l => simp at hl
  | succ n ih =>
    intro l i m e hl h
    cases l with
    | nil => unfold text at h; injection h with h; injection h with h1 h2; exact .inl ⟨h2.symm, h1.symm⟩
    | cons c l =>
      simp only [List.length_cons] at hl ⊢
      unfold text at h
      by_cases h1 : c = 34
      · rw [if_pos h1] at h; cases h
      · rw [if_neg h1] at h
        by_cases h2 : c = 10
        · rw [if_pos h2] at h; injection h with h; injection h with h1 h2; exact .inl ⟨h2.symm, h1.symm⟩
        · rw [if_neg h2] at h
          by_cases h3 : c = 92
          · rw [if_pos h3] at h
            cases l with
            | nil => injection h with h; injection h with h1 h2; exact .inl ⟨h2.symm, h1.symm⟩
            | cons d l =>
              simp only [List.length_cons] at hl ⊢
              simp only at h
              by_cases h4 : d = 92 ∨ d = 34
              · rw [if_pos h4] at h
                cases ht : text l (i + 2) with
                | ok v => rw [ht] at h; cases h
                | error v =>
                  rw [ht] at h
                  injection h with h
                  rw [h] at ht
                  have := ih l (i + 2) m e (by omega) ht
                  omega
              · rw [if_neg h4] at h
                by_cases h5 : d = 110
                · rw [if_pos h5] at h
                  cases ht : text l (i + 2) with
                  | ok v => rw [ht] at h; cases h
                  | error v =>
                    rw [ht] at h
                    injection h with h
                    rw [h] at ht
                    have := ih l (i + 2) m e (by omega) ht
                    omega
                · rw [if_neg h5] at h
                  injection h with h; injection h with h1 h2
                  omega
          · rw [if_neg h3] at h
            cases ht : text l (i + 1) with
            | ok v => rw [ht] at h; cases h
            | error v =>
              rw [ht] at h
              injection h with h
              rw [h] at ht
              have := ih l (i + 1) m e (by omega) ht
              omega
theorem firstIs_line {p : UInt8 → Bool} (hp : p 10 = false) (l b : Bs) : firstIs p (l ++ 10 :: b) = firstIs p l := by
  cases l with
  | nil => exact hp
  | cons c l => rfl
theorem begins_line (c : UInt8) (l b : Bs) : begins c (l ++ 10 :: b) = begins c l := by
  unfold begins
  rw [firstIs_line (by decide), firstIs_line (by decide)]
theorem begins_two {c : UInt8} {l : Bs} {k n : Nat} (h : begins c l = (k, n)) (hk : k ≠ 0) (hk1 : k ≠ 1) (hk2 : k ≠ 2) (hk3 : k ≠ 3) : k = 4 ∧ 1 ≤ n ∧ n ≤ (c :: l).length := by
  unfold begins at h
  split at h
  · injection h with h1 h2; omega
  · split at h
    · injection h with h1 h2; omega
    · split at h
      · injection h with h1 h2; omega
      · split at h
        · rename_i h4
          injection h with h1 h2
          cases l with
          | nil => simp [firstIs] at h4
          | cons d l => simp; omega
        · split at h
          · injection h with h1 h2
            simp; omega
          · injection h with h1 h2; omega
theorem one_line {c : UInt8} {l p r : Bs} {k : Nat} (b : Bs) (h : one c l = .ok (k, p, r)) : one c (l ++ 10 :: b) = .ok (k, p, r ++ 10 :: b) := by
  unfold one at h ⊢
  rw [begins_line]
  split at h
  · injection h with h
    injection h with hk h
    injection h with hp hr
    subst hk hp hr
    have := takeWhile_line (goes false) (by decide) l b
    simp only [this.1, this.2]
  · injection h with h
    injection h with hk h
    injection h with hp hr
    subst hk hp hr
    have := takeWhile_line (goes true) (by decide) l b
    simp only [this.1, this.2]
  · cases ht : text l 1 with
    | error e => rw [ht] at h; cases h
    | ok v =>
      obtain ⟨q, r2⟩ := v
      rw [ht] at h
      injection h with h
      injection h with hk h
      injection h with hp hr
      subst hk hp hr
      simp only [text_line _ l 1 q r2 b (Nat.le_refl _) ht]
      rfl
  · cases h
  · rename_i k' n' h1 h2 h3 h4 hb
    injection h with h
    injection h with hk h
    injection h with hp hr
    subst hk hp hr
    have hn := (begins_two hb h4 h1 h2 h3).2.2
    simp only [← List.cons_append]
    rw [List.take_append_of_le_length hn, List.drop_append_of_le_length hn]
/-- tokens, each so much further on -/
def moved (m : Nat) (l : List Tok) : List Tok := l.map fun t => ⟨t.k, t.at_ + m, t.s⟩
theorem all_moved (f : Nat) (l : Bs) (N M : Nat) (h : l.length ≤ N) : all f l (N + M) = (moved M (all f l N).1, (all f l N).2.1 + M, (all f l N).2.2) := by
  induction f generalizing l with
  | zero => rfl
  | succ f ih =>
    unfold all
    have hsl := skip_len false l
    cases hs : skip false l with
    | nil => rfl
    | cons c r =>
      rw [hs, List.length_cons] at hsl
      simp only
      cases ho : one c r with
      | error e =>
        obtain ⟨m, e⟩ := e
        simp only [moved, List.map_nil, Prod.mk.injEq, true_and, and_true]
        omega
      | ok v =>
        obtain ⟨k, p, r'⟩ := v
        have hl := one_len ho
        simp only
        rw [ih r' (by omega)]
        simp only [moved, List.map_cons, Prod.mk.injEq, and_true, List.cons.injEq, Tok.mk.injEq, true_and]
        omega
theorem all_line (f : Nat) (a b : Bs) (N g : Nat) (hf : a.length < f) (hg : a.length + b.length + 1 < g) (hN : a.length ≤ N) (h0 : (all f a N).2.2 = 0) :
    all g (a ++ 10 :: b) (N + (b.length + 1)) = ((all f a N).1 ++ moved (N + 1) (all (b.length + 1) b b.length).1, (all (b.length + 1) b b.length).2.1 + (N + 1), (all (b.length + 1) b b.length).2.2) := by
  induction f generalizing a g with
  | zero => omega
  | succ f ih =>
    obtain ⟨g, rfl⟩ : ∃ h, g = h + 1 := ⟨g - 1, by omega⟩
    have hsl := skip_len false a
    have hsk := skip_line a b false
    cases hs : skip false a with
    | nil =>
      rw [hs] at hsk
      have h1 : all (f + 1) a N = ([], N, 0) := by unfold all; rw [hs]
      rw [h1]
      simp only [List.nil_append]
      have h2 : all (g + 1) (a ++ 10 :: b) (N + (b.length + 1)) = all (g + 1) b (N + (b.length + 1)) := by
        show (all (g + 1) (a ++ 10 :: b) (N + (b.length + 1))) = _
        unfold all
        rw [hsk]
      rw [h2, all_fuel (g + 1) (b.length + 1) b _ (by omega) (by omega), show N + (b.length + 1) = b.length + (N + 1) by omega, all_moved _ b b.length (N + 1) (Nat.le_refl _)]
    | cons c r =>
      rw [hs] at hsk hsl
      rw [List.length_cons] at hsl
      unfold all at h0
      rw [hs] at h0
      simp only at h0
      cases ho : one c r with
      | error e =>
        rw [ho] at h0
        obtain ⟨m, e⟩ := e
        exfalso
        simp only at h0
        subst h0
        unfold one at ho
        split at ho
        · cases ho
        · cases ho
        · cases ht : text r 1 with
          | error e =>
            rw [ht] at ho
            have := text_err _ r 1 _ _ (Nat.le_refl _) ht
            injection ho with ho
            rw [ho] at this
            simp at this
          | ok v => rw [ht] at ho; cases ho
        · injection ho with ho
          injection ho with h1 h2
          cases h2
        · cases ho
      | ok v =>
        obtain ⟨k, p, r'⟩ := v
        rw [ho] at h0
        simp only at h0
        have hl := one_len ho
        have := ih r' g (by omega) (by omega) (by omega) h0
        have e1 : all (f + 1) a N = (⟨k, N - (r.length + 1), p⟩ :: (all f r' N).1, (all f r' N).2) := by
          show (all (f + 1) a N) = _
          conv => lhs; unfold all
          rw [hs]
          simp only [ho]
        have e2 : all (g + 1) (a ++ 10 :: b) (N + (b.length + 1)) = (⟨k, N + (b.length + 1) - ((r ++ 10 :: b).length + 1), p⟩ :: (all g (r' ++ 10 :: b) (N + (b.length + 1))).1, (all g (r' ++ 10 :: b) (N + (b.length + 1))).2) := by
          conv => lhs; unfold all
          rw [hsk]
          simp only [one_line b ho]
        rw [e1, e2, this]
        simp only [List.cons_append, Prod.mk.injEq, and_true, List.cons.injEq, Tok.mk.injEq, true_and, List.length_append, List.length_cons]
        omega
end Go.Proofs.Ytbdochcajpempaa.Lex
