/- The plain law of lex, continued: places; a quoted text, cut short. -/
import Derived.Test.YtbdochcajpempaaLexPlain8
namespace Go.Proofs.Ytbdochcajpempaa.Lex

/-- the tokens stand in S from lo on, rising; where the first error is -/
def Places (S : Bs) : Nat → List Tok → Nat × Int → Prop
  | lo, [], (n, e) => lo ≤ n ∧ n ≤ S.length ∧ (e = 0 → n = S.length) ∧ (e ≠ 0 → n < S.length)
  | lo, t :: L, x => lo ≤ t.at_ ∧ t.at_ < S.length ∧ 1 ≤ t.k ∧ t.k ≤ 4 ∧ (t.k = 3 → S[t.at_]? = some 34) ∧ (t.k ≠ 3 → t.s ≠ [] ∧ t.at_ + t.s.length ≤ S.length ∧ (S.drop t.at_).take t.s.length = t.s) ∧ Places S (t.at_ + 1) L x
theorem text_suf (n : Nat) : ∀ (l : Bs) (i : Nat) (p r : Bs), l.length ≤ n → text l i = .ok (p, r) → ∃ d, l = d ++ r := by
  induction n with
  | zero =>
    intro l i p r hl h
    cases l with
    | nil => unfold text at h; cases h
    | cons c l => simp at hl
  | succ n ih =>
    intro l i p r hl h
    cases l with
    | nil => unfold text at h; cases h
    | cons c l =>
      simp only [List.length_cons] at hl
      unfold text at h
      by_cases h1 : c = 34
      · rw [if_pos h1] at h
        injection h with h
        injection h with hp hr
        exact ⟨[c], by rw [hr]; rfl⟩
      · rw [if_neg h1] at h
        by_cases h2 : c = 10
        · rw [if_pos h2] at h; cases h
        · rw [if_neg h2] at h
          by_cases h3 : c = 92
          · rw [if_pos h3] at h
            cases l with
            | nil => cases h
            | cons d l =>
              simp only [List.length_cons] at hl
              simp only at h
              by_cases h4 : d = 92 ∨ d = 34
              · rw [if_pos h4] at h
                cases ht : text l (i + 2) with
                | error e => rw [ht] at h; cases h
                | ok v =>
                  obtain ⟨q, r2⟩ := v
                  rw [ht] at h
                  injection h with h
                  injection h with hp hr
                  obtain ⟨x, hx⟩ := ih l (i + 2) q r2 (by omega) ht
                  exact ⟨c :: d :: x, by rw [hx, ← hr]; rfl⟩
              · rw [if_neg h4] at h
                by_cases h5 : d = 110
                · rw [if_pos h5] at h
                  cases ht : text l (i + 2) with
                  | error e => rw [ht] at h; cases h
                  | ok v =>
                    obtain ⟨q, r2⟩ := v
                    rw [ht] at h
                    injection h with h
                    injection h with hp hr
                    obtain ⟨x, hx⟩ := ih l (i + 2) q r2 (by omega) ht
                    exact ⟨c :: d :: x, by rw [hx, ← hr]; rfl⟩
                · rw [if_neg h5] at h; cases h
          · rw [if_neg h3] at h
            cases ht : text l (i + 1) with
            | error e => rw [ht] at h; cases h
            | ok v =>
              obtain ⟨q, r2⟩ := v
              rw [ht] at h
              injection h with h
              injection h with hp hr
              obtain ⟨x, hx⟩ := ih l (i + 1) q r2 (by omega) ht
              exact ⟨c :: x, by rw [hx, ← hr]; rfl⟩
theorem skip_suf (b : Bool) (l : Bs) : ∃ d, l = d ++ skip b l := by
  induction l generalizing b with
  | nil => exact ⟨[], by cases b <;> rfl⟩
  | cons c l ih =>
    cases b with
    | true =>
      rw [skip_t]
      split
      · obtain ⟨d, hd⟩ := ih false
        exact ⟨c :: d, by rw [List.cons_append, ← hd]⟩
      · obtain ⟨d, hd⟩ := ih true
        exact ⟨c :: d, by rw [List.cons_append, ← hd]⟩
    | false =>
      rw [skip_f]
      split
      · obtain ⟨d, hd⟩ := ih false
        exact ⟨c :: d, by rw [List.cons_append, ← hd]⟩
      · split
        · obtain ⟨d, hd⟩ := ih true
          exact ⟨c :: d, by rw [List.cons_append, ← hd]⟩
        · exact ⟨[], rfl⟩
theorem one_suf {c : UInt8} {l p r : Bs} {k : Nat} (h : one c l = .ok (k, p, r)) : (∃ d, c :: l = d ++ r) ∧ 1 ≤ k ∧ k ≤ 4 ∧ (k = 3 → c = 34) ∧ (k ≠ 3 → p ≠ [] ∧ c :: l = p ++ r) := by
  unfold one at h
  split at h
  · injection h with h
    injection h with hk h
    injection h with hp hr
    subst hk hp hr
    have e : c :: l = (c :: l.takeWhile (goes false)) ++ l.dropWhile (goes false) := by
      rw [List.cons_append, List.takeWhile_append_dropWhile]
    exact ⟨⟨_, e⟩, by decide, by decide, fun h => absurd h (by decide), fun _ => ⟨by simp, e⟩⟩
  · injection h with h
    injection h with hk h
    injection h with hp hr
    subst hk hp hr
    have e : c :: l = (c :: l.takeWhile (goes true)) ++ l.dropWhile (goes true) := by
      rw [List.cons_append, List.takeWhile_append_dropWhile]
    exact ⟨⟨_, e⟩, by decide, by decide, fun h => absurd h (by decide), fun _ => ⟨by simp, e⟩⟩
  · rename_i x hb
    cases ht : text l 1 with
    | error e => rw [ht] at h; cases h
    | ok v =>
      obtain ⟨q, r2⟩ := v
      rw [ht] at h
      injection h with h
      injection h with hk h
      injection h with hp hr
      subst hk hp hr
      obtain ⟨d, hd⟩ := text_suf _ l 1 q r2 (Nat.le_refl _) ht
      refine ⟨⟨c :: d, ?_⟩, by decide, by decide, fun _ => ?_, fun h => absurd rfl h⟩
      · rw [List.cons_append, ← hd]
      · unfold begins at hb
        by_cases h1 : letter c = true
        · rw [if_pos h1] at hb; injection hb with h1 h2; omega
        · rw [if_neg h1] at hb
          split at hb
          · injection hb with h1 h2; omega
          · by_cases h3 : (c == 34) = true
            · exact eq_of_beq h3
            · rw [if_neg h3] at hb
              split at hb
              · injection hb with h1 h2; omega
              · split at hb <;> (injection hb with h1 h2; omega)
  · cases h
  · rename_i k' n' h1 h2 h3 h4 hb
    injection h with h
    injection h with hk h
    injection h with hp hr
    subst hk hp hr
    obtain ⟨hk4, hn1, hn⟩ := begins_two hb h4 h1 h2 h3
    have e : c :: l = (c :: l).take n' ++ (c :: l).drop n' := (List.take_append_drop _ _).symm
    refine ⟨⟨_, e⟩, by omega, by omega, fun h => absurd h h3, fun _ => ⟨?_, e⟩⟩
    obtain ⟨m, rfl⟩ : ∃ m, n' = m + 1 := ⟨n' - 1, by omega⟩
    simp
theorem one_err {c : UInt8} {l : Bs} {m : Nat} {e : Int} (h : one c l = .error (m, e)) : m < l.length + 1 ∧ e ≠ 0 ∧ (e = 1 ∨ e = 12) := by
  unfold one at h
  split at h
  · cases h
  · cases h
  · cases ht : text l 1 with
    | error v =>
      rw [ht] at h
      injection h with h
      rw [h] at ht
      have := text_err _ l 1 m e (Nat.le_refl _) ht
      omega
    | ok v => rw [ht] at h; cases h
  · injection h with h
    injection h with h1 h2
    omega
  · cases h
theorem all_err (f : Nat) (l : Bs) (N : Nat) : (all f l N).2.2 = 0 ∨ (all f l N).2.2 = 1 ∨ (all f l N).2.2 = 12 := by
  induction f generalizing l with
  | zero => exact .inl rfl
  | succ f ih =>
    unfold all
    cases hs : skip false l with
    | nil => exact .inl rfl
    | cons c r =>
      simp only
      cases ho : one c r with
      | error v =>
        obtain ⟨m, e⟩ := v
        exact .inr (one_err ho).2.2
      | ok v => exact ih _
theorem all_places (S : Bs) (f : Nat) : ∀ (D l : Bs) (lo : Nat), S = D ++ l → lo ≤ D.length → l.length < f → Places S lo (all f l S.length).1 (all f l S.length).2 := by
  induction f with
  | zero => intro D l lo _ _ h; omega
  | succ f ih =>
    intro D l lo hS hlo hf
    have hSl : S.length = D.length + l.length := by rw [hS, List.length_append]
    obtain ⟨d, hd⟩ := skip_suf false l
    have hsl := skip_len false l
    unfold all
    cases hs : skip false l with
    | nil => exact ⟨by omega, Nat.le_refl _, fun _ => rfl, fun h => absurd rfl h⟩
    | cons c r =>
      rw [hs] at hd hsl
      have hdl : l.length = d.length + (r.length + 1) := by
        have := congrArg List.length hd
        rwa [List.length_append, List.length_cons] at this
      simp only
      cases ho : one c r with
      | error v =>
        obtain ⟨m, e⟩ := v
        obtain ⟨h1, h2, _⟩ := one_err ho
        exact ⟨by omega, by omega, fun h => absurd h h2, fun _ => by omega⟩
      | ok v =>
        obtain ⟨k, p, r'⟩ := v
        obtain ⟨⟨x, hx⟩, hk1, hk4, h34, hp⟩ := one_suf ho
        have hl := one_len ho
        have hxl : r.length + 1 = x.length + r'.length := by
          have := congrArg List.length hx
          rwa [List.length_append, List.length_cons] at this
        have hat : S.length - (r.length + 1) = (D ++ d).length := by rw [List.length_append]; omega
        have hSd : S = (D ++ d) ++ (c :: r) := by rw [hS, hd, List.append_assoc]
        have hdrop : S.drop (S.length - (r.length + 1)) = c :: r := by
          rw [hat]
          conv => lhs; rw [hSd]
          exact List.drop_left
        refine ⟨by simp only; omega, by simp only; omega, hk1, hk4, ?_, ?_, ?_⟩
        · intro h3
          have := congrArg (fun l : Bs => l[0]?) hdrop
          simp only [List.getElem?_drop, Nat.add_zero] at this
          show S[S.length - (r.length + 1)]? = _
          rw [this, h34 h3]
          rfl
        · intro h3
          obtain ⟨hp0, hpe⟩ := hp h3
          have hpl : r.length + 1 = p.length + r'.length := by
            have := congrArg List.length hpe
            rwa [List.length_append, List.length_cons] at this
          refine ⟨hp0, by simp only; omega, ?_⟩
          show (S.drop (S.length - (r.length + 1))).take p.length = p
          rw [hdrop, hpe]
          exact List.take_left
        · refine ih (D ++ d ++ x) r' _ ?_ ?_ (by omega)
          · rw [hSd, hx, List.append_assoc]
            simp [List.append_assoc]
          · simp only [List.length_append]
            omega
theorem text_cut (s : Bs) : ∀ (m i : Nat), text ((quoteIn s).take m) i = .error (0, 12) := by
  induction s with
  | nil =>
    intro m i
    show text ([].take m) i = _
    rw [List.take_nil]
    unfold text
    rfl
  | cons c s ih =>
    intro m i
    cases m with
    | zero => rw [List.take_zero]; unfold text; rfl
    | succ m =>
      unfold quoteIn
      by_cases h1 : c = 92 ∨ c = 34
      · rw [if_pos h1, List.take_succ_cons]
        unfold text
        rw [if_neg (by decide), if_neg (by decide), if_pos rfl]
        cases m with
        | zero => rfl
        | succ m =>
          rw [List.take_succ_cons]
          simp only [h1, if_true, ih, Except.map]
      · rw [if_neg h1]
        by_cases h2 : c = 10
        · rw [if_pos h2, List.take_succ_cons]
          unfold text
          rw [if_neg (by decide), if_neg (by decide), if_pos rfl]
          cases m with
          | zero => rfl
          | succ m =>
            rw [List.take_succ_cons]
            simp only [show ¬ ((110 : UInt8) = 92 ∨ (110 : UInt8) = 34) by decide, if_false, if_true, ih, Except.map]
        · rw [if_neg h2, List.take_succ_cons]
          unfold text
          rw [if_neg (fun h => h1 (.inr h)), if_neg h2, if_neg (fun h => h1 (.inl h)), ih]
          rfl
theorem one_34 (l : Bs) : one 34 l = (text l 1).map (fun r => (3, r.1, r.2)) := by
  unfold one
  rw [show begins 34 l = (3, 0) by unfold begins; rw [if_neg (by decide), if_neg (by simp only [show ((34 : UInt8) == 45) = false by decide, Bool.false_and, Bool.or_false]; decide), if_pos (by decide)]]
  rfl
theorem all_cut (s : Bs) (m f N : Nat) (hm : m ≤ (quoteIn s).length) (hN : N = m + 1) : all (f + 1) ((quote s).take (m + 1)) N = ([], 0, 12) := by
  have e : (quote s).take (m + 1) = 34 :: (quoteIn s).take m := by
    unfold quote
    rw [List.take_succ_cons, List.take_append_of_le_length hm]
  rw [e]
  unfold all
  rw [show skip false (34 :: (quoteIn s).take m) = 34 :: (quoteIn s).take m from rfl]
  simp only [one_34, text_cut, Except.map]
  rw [List.length_take, Nat.min_eq_left hm, hN]
  simp
theorem all_quote (s : Bs) (f N : Nat) (hN : N = (quote s).length + 5) : all (f + 2) ([32, 9] ++ (quote s ++ [35, 32, 34])) N = ([⟨3, 2, s⟩], N, 0) := by
  unfold all
  rw [show skip false ([32, 9] ++ (quote s ++ [35, 32, 34])) = 34 :: (quoteIn s ++ 34 :: [35, 32, 34]) by simp [quote, skip, white]]
  simp only [one_34, text_quote, Except.map]
  unfold all
  rw [show skip false [35, 32, 34] = [] from rfl]
  simp only [List.length_append, List.length_cons, List.length_nil]
  have : (quote s).length = (quoteIn s).length + 2 := by simp [quote]
  simp only [Prod.mk.injEq, List.cons.injEq, Tok.mk.injEq, true_and, and_true]
  omega
end Go.Proofs.Ytbdochcajpempaa.Lex
