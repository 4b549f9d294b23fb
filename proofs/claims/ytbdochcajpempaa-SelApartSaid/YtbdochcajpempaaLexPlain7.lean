/- The plain law of lex, continued: how long; by the line. -/
import Derived.Test.YtbdochcajpempaaLexPlain6
namespace Go.Proofs.Ytbdochcajpempaa.Lex

theorem skip_len (b : Bool) (l : Bs) : (skip b l).length ≤ l.length := by
  induction l generalizing b with
  | nil => cases b <;> simp [skip]
  | cons c l ih =>
    cases b with
    | true =>
      unfold skip
      split
      · exact Nat.le_succ_of_le (ih false)
      · exact Nat.le_succ_of_le (ih true)
    | false =>
      unfold skip
      split
      · exact Nat.le_succ_of_le (ih false)
      · split
        · exact Nat.le_succ_of_le (ih true)
        · exact Nat.le_refl _
theorem text_len (n : Nat) : ∀ (l : Bs) (i : Nat) (p r : Bs), l.length ≤ n → text l i = .ok (p, r) → (quoteIn p).length + 1 + r.length ≤ l.length := by
  induction n with
  | zero =>
    intro l i p r hl h
    cases l with
    | nil => unfold text at h; cases h
    | cons c l => simp at hl
  | succ n ih =>
    intro l i p r hl h
    cases l with
    | nil => unfold text at h; cases h
    | cons c l =>
      simp only [List.length_cons] at hl ⊢
      unfold text at h
      by_cases h1 : c = 34
      · rw [if_pos h1] at h
        injection h with h
        injection h with hp hr
        subst hp hr
        simp [quoteIn]
        omega
      · rw [if_neg h1] at h
        by_cases h2 : c = 10
        · rw [if_pos h2] at h; cases h
        · rw [if_neg h2] at h
          by_cases h3 : c = 92
          · rw [if_pos h3] at h
            cases l with
            | nil => cases h
            | cons d l =>
              simp only [List.length_cons] at hl ⊢
              simp only at h
              by_cases h4 : d = 92 ∨ d = 34
              · rw [if_pos h4] at h
                cases ht : text l (i + 2) with
                | error e => rw [ht] at h; cases h
                | ok v =>
                  obtain ⟨q, r2⟩ := v
                  rw [ht] at h
                  injection h with h
                  injection h with hp hr
                  subst hp hr
                  have := ih l (i + 2) q r2 (by omega) ht
                  simp only [quoteIn, if_pos h4, List.length_cons]
                  omega
              · rw [if_neg h4] at h
                by_cases h5 : d = 110
                · rw [if_pos h5] at h
                  cases ht : text l (i + 2) with
                  | error e => rw [ht] at h; cases h
                  | ok v =>
                    obtain ⟨q, r2⟩ := v
                    rw [ht] at h
                    injection h with h
                    injection h with hp hr
                    subst hp hr
                    have := ih l (i + 2) q r2 (by omega) ht
                    have e : quoteIn (10 :: q) = 92 :: 110 :: quoteIn q := rfl
                    show (quoteIn (10 :: q)).length + 1 + r2.length ≤ _
                    simp only [e, List.length_cons]
                    omega
                · rw [if_neg h5] at h; cases h
          · rw [if_neg h3] at h
            cases ht : text l (i + 1) with
            | error e => rw [ht] at h; cases h
            | ok v =>
              obtain ⟨q, r2⟩ := v
              rw [ht] at h
              injection h with h
              injection h with hp hr
              subst hp hr
              have := ih l (i + 1) q r2 (by omega) ht
              have e : quoteIn (c :: q) = c :: quoteIn q := by
                simp only [quoteIn, if_neg (show ¬ (c = 92 ∨ c = 34) from fun h => h.elim h3 h1), if_neg h2]
              simp only [e, List.length_cons]
              omega
theorem split_len (p : UInt8 → Bool) (l : Bs) : (l.takeWhile p).length + (l.dropWhile p).length = l.length := by
  rw [← List.length_append, List.takeWhile_append_dropWhile]
theorem one_len {c : UInt8} {l p r : Bs} {k : Nat} (h : one c l = .ok (k, p, r)) : (tokText k p).length + r.length ≤ l.length + 1 ∧ r.length ≤ l.length := by
  unfold one at h
  split at h
  · injection h with h
    injection h with hk h
    injection h with hp hr
    subst hk hp hr
    have := split_len (goes false) l
    simp [tokText]
    omega
  · injection h with h
    injection h with hk h
    injection h with hp hr
    subst hk hp hr
    have := split_len (goes true) l
    simp [tokText]
    omega
  · cases ht : text l 1 with
    | error e => rw [ht] at h; cases h
    | ok v =>
      obtain ⟨q, r2⟩ := v
      rw [ht] at h
      injection h with h
      injection h with hk h
      injection h with hp hr
      subst hk hp hr
      have := text_len _ l 1 q r2 (Nat.le_refl _) ht
      simp [tokText, quote]
      omega
  · cases h
  · rename_i k' n' h1 h2 h3 h4 hb
    injection h with h
    injection h with hk h
    injection h with hp hr
    subst hk hp hr
    have hk3 : ¬ k' = 3 := h3
    have hn : 1 ≤ n' := by
      unfold begins at hb
      split at hb
      · injection hb with hb1 hb2; exact absurd hb1.symm h1
      · split at hb
        · injection hb with hb1 hb2; exact absurd hb1.symm h2
        · split at hb
          · injection hb with hb1 hb2; exact absurd hb1.symm h3
          · split at hb
            · injection hb with hb1 hb2; omega
            · split at hb
              · injection hb with hb1 hb2; omega
              · injection hb with hb1 hb2; exact absurd hb1.symm h4
    simp [tokText, hk3]
    omega
/-- how long the tokens' texts are together -/
def tl : List Tok → Nat
  | [] => 0
  | t :: L => (tokText t.k t.s).length + tl L
theorem all_len (f : Nat) (l : Bs) (N : Nat) : tl (all f l N).1 ≤ l.length ∧ (all f l N).1.length ≤ l.length := by
  induction f generalizing l with
  | zero => exact ⟨Nat.zero_le _, Nat.zero_le _⟩
  | succ f ih =>
    unfold all
    have hsl := skip_len false l
    cases hs : skip false l with
    | nil => exact ⟨Nat.zero_le _, Nat.zero_le _⟩
    | cons c r =>
      rw [hs, List.length_cons] at hsl
      simp only
      cases ho : one c r with
      | error e => exact ⟨Nat.zero_le _, Nat.zero_le _⟩
      | ok v =>
        obtain ⟨k, p, r'⟩ := v
        have := one_len ho
        have := ih r'
        simp only [tl, List.length_cons]
        omega
theorem all_fuel (f g : Nat) (l : Bs) (N : Nat) (hf : l.length < f) (hg : l.length < g) : all f l N = all g l N := by
  induction f generalizing l g with
  | zero => omega
  | succ f ih =>
    obtain ⟨g, rfl⟩ : ∃ h, g = h + 1 := ⟨g - 1, by omega⟩
    unfold all
    have hsl := skip_len false l
    cases hs : skip false l with
    | nil => rfl
    | cons c r =>
      rw [hs, List.length_cons] at hsl
      simp only
      cases ho : one c r with
      | error e => rfl
      | ok v =>
        obtain ⟨k, p, r'⟩ := v
        have := one_len ho
        simp only
        rw [ih g r' (by omega) (by omega)]
theorem bare_len (l : List Tok) : (bare l).length = l.length := by simp [bare]
theorem joinR_len (L : List Tok) : (joinR (bare L)).length = tl L + L.length := by
  induction L with
  | nil => rfl
  | cons t L ih =>
    show (32 :: (tokText t.k t.s ++ joinR (bare L))).length = _
    simp only [List.length_cons, List.length_append, ih, tl]
    omega
theorem join_len (L : List Tok) : (join (bare L)).length ≤ tl L + L.length := by
  cases L with
  | nil => exact Nat.zero_le _
  | cons t L =>
    show (tokText t.k t.s ++ joinR (bare L)).length ≤ _
    simp only [List.length_cons, List.length_append, joinR_len, tl]
    omega
theorem good_ne {k : Nat} {s : Bs} (h : good k s) : 1 ≤ (tokText k s).length := by
  obtain ⟨c, l, hcl, _⟩ := one_good (r := []) h rfl
  rw [List.append_nil] at hcl
  rw [hcl]
  simp
theorem join_ge (L : List (Nat × Bs)) (hg : ∀ x ∈ L, good x.1 x.2) : L.length ≤ (join L).length := by
  have hR : ∀ L : List (Nat × Bs), L.length ≤ (joinR L).length := by
    intro L
    induction L with
    | nil => exact Nat.le_refl _
    | cons x L ih =>
      show _ ≤ (32 :: (tokText x.1 x.2 ++ joinR L)).length
      simp only [List.length_cons, List.length_append]
      omega
  cases L with
  | nil => exact Nat.le_refl _
  | cons x L =>
    show _ ≤ (tokText x.1 x.2 ++ joinR L).length
    have := hR L
    have := good_ne (hg x List.mem_cons_self)
    simp only [List.length_cons, List.length_append]
    omega
end Go.Proofs.Ytbdochcajpempaa.Lex
