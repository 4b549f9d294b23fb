/- The plain law of dur, continued: part by part; which unit. -/
import Derived.Test.YtanacoollaajkaaDoorDurPlain
import Derived.Lib.Strings
namespace Go.Proofs.YtanacoollaajkaaDoor.Dur
open Go.Lib (decDigits)

theorem unit_lt {l : Bs} {k : Nat} (h : unitOf l = some k) : k < 5 := by
  unfold unitOf at h
  split at h
  · injection h with h; omega
  · split at h
    · injection h with h; omega
    · split at h
      · injection h with h; omega
      · split at h
        · injection h with h; omega
        · split at h
          · injection h with h; omega
          · cases h
  · cases h
theorem sum_fuel (f : Nat) : ∀ (g : Nat) (l : Bs) (a : Nat), 6 - a ≤ f → 6 - a ≤ g → a ≤ 5 → sumOf f l a = sumOf g l a := by
  induction f with
  | zero => intro g l a h1 h2 h3; omega
  | succ f ih =>
    intro g l a h1 h2 h3
    obtain ⟨g, rfl⟩ : ∃ h, g = h + 1 := ⟨g - 1, by omega⟩
    unfold sumOf
    split
    · cases hu : unitOf (num 0 l).2 with
      | none => rfl
      | some k =>
        have hk := unit_lt hu
        simp only
        split
        · rfl
        · split
          · rfl
          · rw [ih g _ (k + 1) (by omega) (by omega) (by omega)]
    · rfl
/-- what the parts are together from a unit on -/
def sumA (l : Bs) (a : Nat) : Option Nat := sumOf 6 l a
theorem sumA_none {l : Bs} {a : Nat} (h : starts l = false) : sumA l a = none := by
  unfold sumA sumOf
  rw [h]
  rfl
theorem sumA_unit {l : Bs} {a : Nat} (hs : starts l = true) (h : ∀ k, unitOf (num 0 l).2 = some k → k < a) : sumA l a = none := by
  unfold sumA sumOf
  rw [if_pos hs]
  cases hu : unitOf (num 0 l).2 with
  | none => rfl
  | some k => simp only; rw [if_pos (h k hu)]
theorem sumA_step {l : Bs} {a k : Nat} (hs : starts l = true) (hu : unitOf (num 0 l).2 = some k) (hk : a ≤ k) :
    sumA l a = if (num 0 l).2.drop (lets k).length = [] then some ((num 0 l).1 * size k) else (sumA ((num 0 l).2.drop (lets k).length) (k + 1)).map (fun v => (num 0 l).1 * size k + v) := by
  have hk5 := unit_lt hu
  conv => lhs; unfold sumA sumOf
  rw [if_pos hs, hu]
  simp only
  rw [if_neg (by omega)]
  unfold sumA
  rw [sum_fuel 5 6 _ (k + 1) (by omega) (by omega) (by omega)]
theorem num_starts (l : Bs) (v : Nat) : (num v l).2.length = l.length ↔ starts l = false := by
  cases l with
  | nil => simp [num, starts]
  | cons c l =>
    unfold num starts
    rcases h : digit c with _ | _
    · simp [h]
    · have : ∀ (l : Bs) v, (num v l).2.length ≤ l.length := by
        intro l
        induction l with
        | nil => intro v; exact Nat.le_refl _
        | cons d l ih =>
          intro v
          unfold num
          split
          · exact Nat.le_succ_of_le (ih _)
          · exact Nat.le_refl _
      have := this l (v * 10 + (c.toNat - 48))
      simp [h]
      omega
theorem num_suf (l : Bs) : ∀ v, l.drop (l.length - (num v l).2.length) = (num v l).2 := by
  induction l with
  | nil => intro v; rfl
  | cons c l ih =>
    intro v
    unfold num
    split
    · have hle : (num (v * 10 + (c.toNat - 48)) l).2.length ≤ l.length := by
        have : ∀ (l : Bs) v, (num v l).2.length ≤ l.length := by
          intro l
          induction l with
          | nil => intro v; exact Nat.le_refl _
          | cons d l ih =>
            intro v
            unfold num
            split
            · exact Nat.le_succ_of_le (ih _)
            · exact Nat.le_refl _
        exact this l _
      rw [List.length_cons, show l.length + 1 - (num (v * 10 + (c.toNat - 48)) l).2.length = (l.length - (num (v * 10 + (c.toNat - 48)) l).2.length) + 1 by omega, List.drop_succ_cons]
      exact ih _
    · simp
theorem pre_cons (c : UInt8) (p l : Bs) : List.isPrefixOf (c :: p) l = (match l with | [] => false | d :: l => c == d && List.isPrefixOf p l) := by
  cases l <;> rfl
/-- a unit's letters stand at the head, and no longer ones -/
theorem unit_iff (j : Nat) (hj : j < 5) (l : Bs) : unitOf l = some j ↔ (List.isPrefixOf (lets j) l = true ∧ ¬ (j = 2 ∧ List.isPrefixOf [109, 115] l = true)) := by
  cases l with
  | nil =>
    rcases j with _ | _ | _ | _ | _ | j <;> simp [unitOf, lets]
  | cons c l =>
    by_cases h109 : c = 109
    · subst h109
      cases l with
      | nil => rcases j with _ | _ | _ | _ | _ | j <;> simp [unitOf, lets, List.isPrefixOf]
      | cons d l =>
        by_cases h115 : d = 115
        · subst h115
          rcases j with _ | _ | _ | _ | _ | j
          · simp [unitOf, lets, List.isPrefixOf]
          · simp [unitOf, lets, List.isPrefixOf]
          · simp [unitOf, lets, List.isPrefixOf]
          · simp [unitOf, lets, List.isPrefixOf]
          · simp [unitOf, lets, List.isPrefixOf]
          · omega
        · have : unitOf (109 :: d :: l) = some 2 := by
            unfold unitOf
            split
            · rename_i h
              injection h with h1 h2
              injection h2 with h2 h3
              exact absurd h2 h115
            · rename_i h
              injection h with h1 h2
              subst h1
              rfl
            · rename_i h; cases h
          rw [this]
          have h115' : ¬ (115 : UInt8) = d := fun h => h115 h.symm
          rcases j with _ | _ | _ | _ | _ | j <;> simp [lets, List.isPrefixOf, h115']
    · have : unitOf (c :: l) = if c = 100 then some 0 else if c = 104 then some 1 else if c = 109 then some 2 else if c = 115 then some 3 else none := by
        unfold unitOf
        split
        · rename_i h
          injection h with h1 h2
          exact absurd h1 h109
        · rename_i h
          injection h with h1 h2
          subst h1
          rfl
        · rename_i h; cases h
      rw [this]
      have h109' : ¬ (109 : UInt8) = c := fun h => h109 h.symm
      rcases j with _ | _ | _ | _ | _ | j
      all_goals simp only [lets, List.isPrefixOf, Bool.and_true, beq_iff_eq, h109, h109', if_false]
      · constructor
        · intro h
          by_cases h0 : c = 100
          · exact ⟨h0.symm, by omega⟩
          · rw [if_neg h0] at h
            split at h
            · cases h
            · split at h <;> cases h
        · intro h
          rw [if_pos h.1.symm]
      · constructor
        · intro h
          by_cases h0 : c = 100
          · rw [if_pos h0] at h; cases h
          · rw [if_neg h0] at h
            by_cases h1 : c = 104
            · exact ⟨h1.symm, by omega⟩
            · rw [if_neg h1] at h
              split at h <;> cases h
        · intro h
          rw [← h.1]
          rfl
      · constructor
        · intro h
          split at h
          · cases h
          · split at h
            · cases h
            · split at h <;> cases h
        · intro h; exact h.1.elim
      · constructor
        · intro h
          by_cases h0 : c = 100
          · rw [if_pos h0] at h; cases h
          · rw [if_neg h0] at h
            by_cases h1 : c = 104
            · rw [if_pos h1] at h; cases h
            · rw [if_neg h1] at h
              by_cases h3 : c = 115
              · exact ⟨h3.symm, by omega⟩
              · rw [if_neg h3] at h; cases h
        · intro h
          rw [← h.1]
          rfl
      · constructor
        · intro h
          split at h
          · cases h
          · split at h
            · cases h
            · split at h <;> cases h
        · intro h
          have h1 := h.1
          rw [beq_eq_false_iff_ne.2 h109', Bool.false_and] at h1
          cases h1
      · omega
end Go.Proofs.YtanacoollaajkaaDoor.Dur
