/- The plain law of lex, continued: all, token by token, by places. -/
import Derived.Test.YtbdochcajpempaaLexPlain9
namespace Go.Proofs.Ytbdochcajpempaa.Lex

theorem skip_idem (b : Bool) (l : Bs) : skip false (skip b l) = skip b l := by
  induction l generalizing b with
  | nil => cases b <;> rfl
  | cons c l ih =>
    cases b with
    | true =>
      rw [skip_t]
      split
      · exact ih false
      · exact ih true
    | false =>
      rw [skip_f]
      by_cases hw : white c = true
      · rw [if_pos hw]; exact ih false
      · rw [if_neg hw]
        by_cases h35 : c = 35
        · rw [if_pos h35]; exact ih true
        · rw [if_neg h35, skip_f, if_neg hw, if_neg h35]
theorem all_skip (f : Nat) (l : Bs) (N : Nat) : all (f + 1) (skip false l) N = all (f + 1) l N := by
  conv => lhs; unfold all
  conv => rhs; unfold all
  rw [skip_idem]
theorem skip_head {c : UInt8} {r l : Bs} {b : Bool} (h : skip b l = c :: r) : white c = false ∧ c ≠ 35 := by
  have hi := skip_idem b l
  rw [h, skip_f] at hi
  by_cases hw : white c = true
  · rw [if_pos hw] at hi
    have := skip_len false r
    rw [hi] at this
    simp at this
    omega
  · refine ⟨by simpa using hw, fun h35 => ?_⟩
    rw [if_neg hw, if_pos h35] at hi
    have := skip_len true r
    rw [hi] at this
    simp at this
    omega
theorem all_err_at {f N : Nat} {c : UInt8} {r : Bs} {m : Nat} {e : Int} (hs : skip false (c :: r) = c :: r) (h : one c r = .error (m, e)) : all (f + 1) (c :: r) N = ([], N - (r.length + 1) + m, e) := by
  unfold all
  rw [hs]
  simp only [h]
theorem all_ok_at {f N : Nat} {c : UInt8} {r r' p : Bs} {k : Nat} (hs : skip false (c :: r) = c :: r) (h : one c r = .ok (k, p, r')) (hf : r.length < f) :
    all (f + 1) (c :: r) N = (⟨k, N - (r.length + 1), p⟩ :: (all (f + 1) (skip false r') N).1, (all (f + 1) (skip false r') N).2) := by
  have hl := one_len h
  rw [all_skip, all_fuel (f + 1) f r' N (by omega) (by omega)]
  conv => lhs; unfold all
  rw [hs]
  simp only [h]
theorem all_nil (f N : Nat) : all (f + 1) [] N = ([], N, 0) := by
  unfold all
  rfl
theorem begins_kind {c : UInt8} {l : Bs} {k n : Nat} (h : begins c l = (k, n)) : (k = 0 ∨ k = 1 ∨ k = 2 ∨ k = 3 ∨ k = 4) ∧ (k = 4 → 1 ≤ n ∧ n ≤ l.length + 1) := by
  refine ⟨?_, fun h4 => ?_⟩
  · unfold begins at h
    split at h
    · injection h with h1 h2; omega
    · split at h
      · injection h with h1 h2; omega
      · split at h
        · injection h with h1 h2; omega
        · split at h
          · injection h with h1 h2; omega
          · split at h <;> (injection h with h1 h2; omega)
  · have := begins_two h (by omega) (by omega) (by omega) (by omega)
    simpa using this.2
theorem one_kind {c : UInt8} {l : Bs} {k n : Nat} (h : begins c l = (k, n)) :
    (k = 0 → one c l = .error (0, 1)) ∧ (k = 1 → one c l = .ok (1, c :: l.takeWhile (goes false), l.dropWhile (goes false))) ∧ (k = 2 → one c l = .ok (2, c :: l.takeWhile (goes true), l.dropWhile (goes true))) ∧
    (k = 3 → one c l = (text l 1).map (fun r => (3, r.1, r.2))) ∧ (k = 4 → one c l = .ok (4, (c :: l).take n, (c :: l).drop n)) := by
  refine ⟨?_, ?_, ?_, ?_, ?_⟩ <;> intro hk <;> subst hk <;> unfold one <;> rw [h] <;> rfl
end Go.Proofs.Ytbdochcajpempaa.Lex
