/- The plain law of sched: a group's times. -/
namespace Go.Proofs.Ythjnhifaejoigaa.Sch

def most : Nat := 9007199254740992
/-- how many times of a group are no greater than a number -/
def cnt (I O : Nat) (n : Int) : Nat := if n < (O : Int) then 0 else (min n.toNat most - O) / I + 1
/-- the time at a place -/
def tm (I O j : Nat) : Nat := O + j * I
structure Good (I O : Nat) : Prop where
  pos : 0 < I
  lt : O < I
  le : I ≤ most
theorem lt_cnt {I O : Nat} (h : Good I O) (j : Nat) (n : Int) : j < cnt I O n ↔ ((tm I O j : Nat) : Int) ≤ n ∧ tm I O j ≤ most := by
  have h1 := h.pos; have h2 := h.lt; have h3 := h.le
  unfold cnt tm
  by_cases hn : n < (O : Int)
  · rw [if_pos hn]
    generalize j * I = m
    constructor
    · intro h; omega
    · rintro ⟨h, _⟩; omega
  · rw [if_neg hn, Nat.lt_succ_iff, Nat.le_div_iff_mul_le h1]
    generalize j * I = m
    omega
theorem cnt_neg {I O : Nat} (n : Int) (hn : n < 0) : cnt I O n = 0 := by
  unfold cnt
  rw [if_pos (by omega)]
/-- how a count stands to another number -/
theorem cnt_le {I O : Nat} (h : Good I O) {j : Nat} {n : Int} : cnt I O n ≤ j ↔ ¬ (((tm I O j : Nat) : Int) ≤ n ∧ tm I O j ≤ most) := by
  rw [← lt_cnt h j n, Nat.not_lt]
theorem tm_mono {I O a b : Nat} (h : a ≤ b) : tm I O a ≤ tm I O b := Nat.add_le_add_left (Nat.mul_le_mul_right _ h) _
theorem tm_lt {I O a b : Nat} (h0 : 0 < I) (h : a < b) : tm I O a < tm I O b := Nat.add_lt_add_left (Nat.mul_lt_mul_of_pos_right h h0) _
theorem tm_succ (I O j : Nat) : tm I O (j + 1) = tm I O j + I := by unfold tm; rw [Nat.add_mul]; omega
theorem cnt_mono {I O : Nat} (h : Good I O) {a b : Int} (hab : a ≤ b) : cnt I O a ≤ cnt I O b := by
  rw [cnt_le h]
  intro hh
  have := (lt_cnt h (cnt I O b) a).2
  have h2 : ¬ (((tm I O (cnt I O b) : Nat) : Int) ≤ b ∧ tm I O (cnt I O b) ≤ most) := (cnt_le h).1 (Nat.le_refl _)
  exact h2 ⟨by omega, hh.2⟩
/-- the last one that is counted -/
theorem cnt_last {I O : Nat} (h : Good I O) {n : Int} (h0 : 0 < cnt I O n) : ((tm I O (cnt I O n - 1) : Nat) : Int) ≤ n ∧ tm I O (cnt I O n - 1) ≤ most := (lt_cnt h _ n).1 (by omega)
/-- the next one -/
theorem cnt_next {I O : Nat} (h : Good I O) (n : Int) : ¬ (((tm I O (cnt I O n) : Nat) : Int) ≤ n ∧ tm I O (cnt I O n) ≤ most) := (cnt_le h).1 (Nat.le_refl _)
theorem cnt_bound {I O : Nat} (h : Good I O) (n : Int) : cnt I O n ≤ most + 1 := by
  rcases Nat.eq_zero_or_pos (cnt I O n) with h0 | h0
  · omega
  · have := (cnt_last h h0).2
    unfold tm at this
    have h1 : cnt I O n - 1 ≤ (cnt I O n - 1) * I := Nat.le_mul_of_pos_right _ h.pos
    omega
/-- what is due -/
def due (I O : Nat) (last now : Int) : Option (Nat × Nat) :=
  if cnt I O now ≤ cnt I O last then none else some (tm I O (cnt I O now - 1), cnt I O now - 1 - cnt I O last)
def next (I O : Nat) (now : Int) : Int := if (most : Int) ≤ now then -1 else if tm I O (cnt I O now) ≤ most then (tm I O (cnt I O now) : Nat) else -1
/-- as the program counts: at a number within the bounds, not below the first time -/
theorem cnt_in {I O : Nat} {n : Nat} (hn : n ≤ most) (ho : O ≤ n) : cnt I O (n : Int) = (n - O) / I + 1 := by
  unfold cnt
  rw [if_neg (by omega), Int.toNat_natCast, Nat.min_eq_left hn]
theorem cnt_min {I O : Nat} (n : Int) (hO : O < most) : cnt I O n = cnt I O (min n (most : Int)) := by
  unfold cnt
  by_cases h : n < (O : Int)
  · rw [if_pos h, if_pos (by omega)]
  · rw [if_neg h, if_neg (by omega)]
    congr 2
    omega
theorem cnt_big {I O : Nat} (n : Int) (hO : O < most) (h : (9007199254740992 : Int) < n) : cnt I O n = cnt I O (9007199254740992 : Int) := by
  rw [cnt_min n hO]
  congr 1
  unfold most
  omega
end Go.Proofs.Ythjnhifaejoigaa.Sch
