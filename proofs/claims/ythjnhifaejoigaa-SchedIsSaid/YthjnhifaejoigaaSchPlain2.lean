/- The plain law of sched, continued: the times between, and what the laws say. -/
import Derived.Test.YthjnhifaejoigaaSchPlain
namespace Go.Proofs.Ythjnhifaejoigaa.Sch
set_option linter.unusedSimpArgs false
set_option linter.unusedVariables false

/-- the times between, the first two hundred of them -/
def times (I O : Nat) (last now : Int) : List Int := (List.range (min 200 (cnt I O now - cnt I O last))).map fun i => ((tm I O (cnt I O last + i) : Nat) : Int)
theorem cnt_le_of_next {I O : Nat} (h : Good I O) {last now : Int} (hn : next I O last < 0 ∨ min now (most : Int) < next I O last) : cnt I O now ≤ cnt I O last := by
  rw [cnt_le h]
  have h1 := cnt_next h last
  rintro ⟨a, b⟩
  unfold next at hn
  by_cases hb : (most : Int) ≤ last
  · exact h1 ⟨by omega, b⟩
  · rw [if_neg hb, if_pos b] at hn
    omega
theorem next_form {I O : Nat} (h : Good I O) {last : Int} (hn : 0 ≤ next I O last) : next I O last = ((tm I O (cnt I O last) : Nat) : Int) ∧ tm I O (cnt I O last) ≤ most := by
  unfold next at hn ⊢
  split at hn
  · omega
  · rename_i hb
    rw [if_neg hb]
    split at hn
    · rename_i hc
      rw [if_pos hc]
      exact ⟨rfl, hc⟩
    · omega
theorem cnt_from {I O : Nat} (h : Good I O) {c : Nat} {now : Int} {m : Nat} (hm : min now (most : Int) = (m : Int)) (hF : tm I O c ≤ m) : cnt I O now = c + ((m - tm I O c) / I + 1) := by
  have h0 := h.pos
  have key : ∀ i, c + i < cnt I O now ↔ i < (m - tm I O c) / I + 1 := by
    intro i
    rw [lt_cnt h, Nat.lt_succ_iff, Nat.le_div_iff_mul_le h0]
    have ht : tm I O (c + i) = tm I O c + i * I := by unfold tm; rw [Nat.add_mul]; omega
    rw [ht]
    generalize i * I = x
    omega
  generalize (m - tm I O c) / I = q at *
  have k1 := (key q).2 (by omega)
  have k2 : ¬ c + (q + 1) < cnt I O now := fun hh => by
    have := (key (q + 1)).1 hh
    omega
  omega
end Go.Proofs.Ythjnhifaejoigaa.Sch
