/- The plain law of num, continued: the reference's reading. -/
import Derived.Test.YtnallbhckeoldaaDoorNumPlain2
namespace Go.Proofs.YtnallbhckeoldaaDoor.Num
open Go.Lib (decDigits)

/-- how many digits a list begins with -/
def run : Bs → Nat
  | [] => 0
  | c :: l => if digit c = true then run l + 1 else 0
def noDigit : Bs → Bool
  | [] => true
  | c :: _ => !digit c
theorem run_le (l : Bs) : run l ≤ l.length := by
  induction l with
  | nil => exact Nat.le_refl _
  | cons c l ih =>
    unfold run
    split
    · rw [List.length_cons]; omega
    · exact Nat.zero_le _
theorem run_split (l : Bs) : ∃ D, l = D ++ l.drop (run l) ∧ D.all digit = true ∧ D.length = run l ∧ noDigit (l.drop (run l)) = true := by
  induction l with
  | nil => exact ⟨[], rfl, rfl, rfl, rfl⟩
  | cons c l ih =>
    obtain ⟨D, h1, h2, h3, h4⟩ := ih
    unfold run
    rcases hd : digit c with _ | _
    · rw [if_neg (by decide)]
      exact ⟨[], rfl, rfl, rfl, by simp [noDigit, hd]⟩
    · rw [if_pos rfl, List.drop_succ_cons]
      refine ⟨c :: D, ?_, ?_, ?_, h4⟩
      · rw [List.cons_append, ← h1]
      · rw [List.all_cons, hd, h2]; rfl
      · rw [List.length_cons, h3]
theorem scan_bad (c : UInt8) (r : Bs) (v w p : Nat) (pt : Bool) (hc : digit c = false) (h : c ≠ 46 ∨ pt = true ∨ w = 0) : scan (c :: r) v w p pt = none := by
  unfold scan
  rw [if_neg, if_neg (by rw [hc]; decide)]
  rintro ⟨h1, h2, h3⟩
  rcases h with h | h | h
  · exact h h1
  · rw [h] at h2; cases h2
  · omega
theorem scan_tail_bad (t : Bs) (v w : Nat) (h : ¬ (1 ≤ run t ∧ run t ≤ 3) ∨ t.drop (run t) ≠ []) : scan t v w 0 true = none := by
  obtain ⟨E, h1, h2, h3, h4⟩ := run_split t
  rw [h1, scan_places _ _ h2]
  rcases hr : t.drop (run t) with _ | ⟨c, r⟩
  · rw [hr] at h
    have h' : ¬ (1 ≤ run t ∧ run t ≤ 3) := h.elim id (fun h => absurd rfl h)
    unfold scan fin
    rw [if_pos]
    by_cases h0 : run t = 0
    · exact .inr (.inr ⟨rfl, by omega⟩)
    · exact .inr (.inl (by omega))
  · rw [hr] at h4
    exact scan_bad c r _ _ _ _ (by simpa [noDigit] using h4) (.inr (.inl rfl))
/-- digits, a point, and what may not stand behind one -/
theorem ref_bad {l t : Bs} (hl : l.drop (run l) = 46 :: t) (h : ¬ (1 ≤ run t ∧ run t ≤ 3) ∨ t.drop (run t) ≠ [] ∨ run l = 0) : scan l 0 0 0 false = none := by
  obtain ⟨D, h1, h2, h3, h4⟩ := run_split l
  rw [h1, hl, scan_whole _ _ h2]
  by_cases h0 : run l = 0
  · exact scan_bad 46 t _ _ _ _ (by decide) (.inr (.inr (by omega)))
  · rw [scan_point _ _ _ _ (by omega)]
    exact scan_tail_bad t _ _ (by rcases h with h | h | h
                                  · exact .inl h
                                  · exact .inr h
                                  · exact absurd h h0)
theorem ref_bad2 {l : Bs} (hl : ∀ t, l.drop (run l) ≠ 46 :: t) (h : run l = 0 ∨ l.drop (run l) ≠ []) : scan l 0 0 0 false = none := by
  obtain ⟨D, h1, h2, h3, h4⟩ := run_split l
  rw [h1, scan_whole _ _ h2]
  rcases hr : l.drop (run l) with _ | ⟨c, r⟩
  · rw [hr] at h
    have h0 : run l = 0 := h.elim id (fun h => absurd rfl h)
    unfold scan fin
    rw [if_pos (.inl (by omega))]
  · rw [hr] at h4
    exact scan_bad c r _ _ _ _ (by simpa [noDigit] using h4) (.inl (by rintro rfl; exact hl r hr))
/-- what the reference adds up -/
def sum : Nat → Bs → Nat
  | v, [] => v
  | v, c :: l => if c = 46 then sum v l else sum (step v c) l
def plain (l : Bs) : Bool := l.all (fun c => digit c || c == 46)
theorem sum_digits (D r : Bs) (hD : D.all digit = true) : ∀ v, sum v (D ++ r) = sum (val v D) r := by
  induction D with
  | nil => intro v; rw [val_nil]; rfl
  | cons c D ih =>
    intro v
    simp only [List.all_cons, Bool.and_eq_true] at hD
    conv => lhs; rw [List.cons_append]; unfold sum
    rw [if_neg (not_point hD.1).1, ih hD.2, val_cons]
theorem plain_digits {D : Bs} (hD : D.all digit = true) : plain D = true := by
  unfold plain
  rw [List.all_eq_true] at hD ⊢
  intro c hc
  rw [hD c hc]
  rfl
theorem plain_app {a b : Bs} (ha : plain a = true) (hb : plain b = true) : plain (a ++ b) = true := by
  unfold plain at *
  rw [List.all_append, ha, hb]
  rfl
theorem ref_good {l t : Bs} (hl : l.drop (run l) = 46 :: t) (h1 : 1 ≤ run t ∧ run t ≤ 3) (h2 : t.drop (run t) = []) (h3 : run l ≠ 0) :
    scan l 0 0 0 false = some (sum 0 l * 10 ^ (3 - run t)) ∧ plain l = true := by
  obtain ⟨D, a1, a2, a3, _⟩ := run_split l
  obtain ⟨E, b1, b2, b3, _⟩ := run_split t
  rw [h2, List.append_nil] at b1
  subst b1
  rw [hl] at a1
  generalize hk : run t = k at *
  generalize hm : run l = m at *
  subst a1
  refine ⟨?_, plain_app (plain_digits a2) (by
    unfold plain
    rw [List.all_cons, show List.all t (fun c => digit c || c == 46) = true from plain_digits b2]
    rfl)⟩
  rw [scan_frac _ _ a2 (by omega) b2, if_neg (by omega), sum_digits _ _ a2]
  have := sum_digits t [] b2 (val 0 D)
  rw [List.append_nil] at this
  conv => rhs; unfold sum
  rw [if_pos rfl, this, b3]
  rfl
theorem ref_good2 {l : Bs} (h2 : l.drop (run l) = []) (h3 : run l ≠ 0) : scan l 0 0 0 false = some (sum 0 l * 1000) ∧ plain l = true := by
  obtain ⟨D, a1, a2, a3, _⟩ := run_split l
  rw [h2, List.append_nil] at a1
  generalize hm : run l = m at *
  subst a1
  refine ⟨?_, plain_digits a2⟩
  rw [scan_int _ a2 (by omega)]
  have := sum_digits l [] a2 0
  rw [List.append_nil] at this
  rw [this]
  rfl
/-- as it is kept: at most four times the greatest -/
def cap4 (v : Nat) : Nat := min v 36028797018963968
theorem cap4_step (v d : Nat) : cap4 (cap4 v * 10 + d) = cap4 (v * 10 + d) := by unfold cap4; omega
theorem cap4_le (v : Nat) : cap4 v ≤ 36028797018963968 := Nat.min_le_right _ _
theorem cap4_most (v : Nat) : 9007199254740992 < cap4 v ↔ 9007199254740992 < v := by unfold cap4; omega
theorem cap4_small {v : Nat} (h : v ≤ 9007199254740992) : cap4 v = v := by unfold cap4; omega
def cap (v : Nat) : Nat := min v 9007199254740993
theorem cap_step (v d : Nat) : cap (cap v * 10 + d) = cap (v * 10 + d) := by unfold cap; omega
theorem cap_le (v : Nat) : cap v ≤ 9007199254740993 := Nat.min_le_right _ _
theorem cap_most (v : Nat) : 9007199254740992 < cap v ↔ 9007199254740992 < v := by unfold cap; omega
theorem cap_small {v : Nat} (h : v ≤ 9007199254740992) : cap v = v := by unfold cap; omega
/-- at the end: within the bounds, or not -/
theorem done_some (b : Bool) (n : Nat) : done b (some n) = if 9007199254740992 < n then (0, 2) else ((if b = true then -(n : Int) else (n : Int)), 0) := by
  unfold done most
  simp only
  by_cases h : 9007199254740992 < n
  · rw [if_pos h, if_neg (by omega)]
  · rw [if_neg h, if_pos (by omega)]
end Go.Proofs.YtnallbhckeoldaaDoor.Num
