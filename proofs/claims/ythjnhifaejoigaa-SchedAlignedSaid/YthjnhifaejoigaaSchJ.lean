/- What the law SchedAligned asks: plain. -/
import Derived.Test.YthjnhifaejoigaaSchH
namespace Go.Proofs.Ythjnhifaejoigaa
set_option linter.unusedSimpArgs false
set_option linter.unusedVariables false
namespace Sch
theorem next_or {I O : Nat} (h : Good I O) (now : Int) : next I O now = -1 ∨ ∃ N P : Nat, next I O now = (N : Int) ∧ now < (N : Int) ∧ N ≤ 9007199254740992 ∧ N = O + P ∧ P % I = 0 := by
  by_cases hn : 0 ≤ next I O now
  · obtain ⟨hf, hm⟩ := next_form h hn
    have hnx := cnt_next h now
    refine .inr ⟨_, cnt I O now * I, hf, ?_, hm, rfl, Nat.mul_mod_left _ _⟩
    rcases Int.lt_or_le now ((tm I O (cnt I O now) : Nat) : Int) with h1 | h1
    · exact h1
    · exact absurd ⟨h1, hm⟩ hnx
  · left
    unfold next at hn ⊢
    split
    · rfl
    · rename_i h1
      rw [if_neg h1] at hn
      split
      · rename_i h2
        rw [if_pos h2] at hn
        omega
      · rfl
theorem due_cut {I O : Nat} (h : Good I O) {last now : Int} {T n : Nat} (hd : due I O last now = some (T, n)) : cnt I O last + n + 1 = cnt I O now ∧ T = tm I O (cnt I O now - 1) := by
  unfold due at hd
  split at hd
  · cases hd
  · rename_i hc
    simp only [Option.some.injEq, Prod.mk.injEq] at hd
    omega
theorem aligned {I O : Nat} (h : Good I O) {last now : Int} {T n : Nat} (hd : due I O last now = some (T, n)) :
    ∃ p : Nat, last < (T : Int) ∧ (T : Int) ≤ now ∧ T ≤ 9007199254740992 ∧ T = O + p ∧ p % I = 0 ∧ due I O T now = none ∧ (0 ≤ next I O now → next I O now = (T : Int) + (I : Int)) ∧ n ≤ 9007199254740992 ∧
      (last < (O : Int) → (p + I) / I = n + 1) ∧ ((O : Int) ≤ last → ∃ d r e : Nat, last = (O : Int) + (d : Int) ∧ d % I = r ∧ d ≤ 9007199254740992 ∧ (T : Int) = last - (r : Int) + (e : Int) ∧ e / I = n + 1 ∧ e ≤ 9007199254740992) := by
  obtain ⟨hcn, hT⟩ := due_cut h hd
  have hl := cnt_last h (n := now) (by omega)
  rw [← hT] at hl
  have hl2 : T ≤ 9007199254740992 := hl.2
  have hlt : last < (T : Int) := by
    rcases Int.lt_or_le last (T : Int) with h1 | h1
    · exact h1
    · have := (lt_cnt h (cnt I O now - 1) last).2 ⟨by rw [← hT]; exact h1, by rw [← hT]; exact hl.2⟩
      omega
  have hT2 : T = O + (cnt I O now - 1) * I := hT
  have hdiv : (cnt I O now - 1) * I / I = cnt I O now - 1 := Nat.mul_div_cancel _ h.pos
  have hcb : cnt I O now - 1 ≤ (cnt I O now - 1) * I := Nat.le_mul_of_pos_right _ h.pos
  refine ⟨(cnt I O now - 1) * I, hlt, hl.1, hl2, hT2, Nat.mul_mod_left _ _, ?_, ?_, by omega, ?_, ?_⟩
  · have := (lt_cnt h (cnt I O now - 1) (T : Int)).2 ⟨by rw [← hT]; omega, by rw [← hT]; exact hl.2⟩
    unfold due
    rw [if_pos (by omega)]
  · intro hn
    rw [(next_form h hn).1, show cnt I O now = cnt I O now - 1 + 1 by omega, tm_succ, ← hT]
    omega
  · intro hlo
    have hc0 : cnt I O last = 0 := by unfold cnt; rw [if_pos hlo]
    rw [Nat.add_div_right _ h.pos, hdiv]
    omega
  · intro hlo
    obtain ⟨m, hm⟩ : ∃ m : Nat, last = (m : Int) := ⟨last.toNat, by omega⟩
    have hc1 : cnt I O last = (m - O) / I + 1 := by rw [hm]; exact cnt_in (by unfold most; omega) (by omega)
    have hdm := Nat.div_add_mod (m - O) I
    rw [Nat.mul_comm] at hdm
    obtain ⟨q, hq⟩ : ∃ q, q = (m - O) / I := ⟨_, rfl⟩
    rw [← hq] at hdm hc1
    have he : (cnt I O now - 1) * I = q * I + (n + 1) * I := by rw [← Nat.add_mul]; congr 1; omega
    refine ⟨m - O, (m - O) % I, (n + 1) * I, by omega, rfl, by omega, by omega, Nat.mul_div_cancel _ h.pos, by omega⟩
end Sch
end Go.Proofs.Ythjnhifaejoigaa
