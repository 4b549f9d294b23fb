/- The plain law of num, continued: the laws' own consequences. -/
import Derived.Test.YtnallbhckeoldaaDoorNumPlain
namespace Go.Proofs.YtnallbhckeoldaaDoor.Num
open Go.Lib (decDigits)

theorem digit_le {c : UInt8} (h : digit c = true) : c.toNat - 48 ≤ 9 := by
  unfold digit at h
  simp only [Bool.and_eq_true, decide_eq_true_eq, UInt8.le_iff_toNat_le] at h
  have : (57 : UInt8).toNat = 57 := rfl
  omega
theorem val_lt_step (v d m k : Nat) (h1 : m < (v * 10 + d + 1) * k) (h2 : d ≤ 9) : m < (v + 1) * (k * 10) := by
  refine Nat.lt_of_lt_of_le h1 ?_
  rw [Nat.mul_comm k 10, ← Nat.mul_assoc]
  exact Nat.mul_le_mul_right _ (by omega)
theorem val_lt (D : Bs) (hD : D.all digit = true) : ∀ v, val v D < (v + 1) * 10 ^ D.length := by
  induction D with
  | nil => intro v; rw [val_nil, List.length_nil, Nat.pow_zero]; omega
  | cons c D ih =>
    intro v
    simp only [List.all_cons, Bool.and_eq_true] at hD
    have h1 := ih hD.2 (step v c)
    have h2 := digit_le hD.1
    rw [List.length_cons, Nat.pow_succ, val_cons]
    unfold step at h1 ⊢
    generalize c.toNat - 48 = d at *
    generalize val (v * 10 + d) D = m at *
    generalize 10 ^ D.length = k at *
    exact val_lt_step v d m k h1 h2
theorem val_split (E : Bs) : ∀ v, val v E = v * 10 ^ E.length + val 0 E := by
  induction E with
  | nil => intro v; rw [val_nil, val_nil, List.length_nil, Nat.pow_zero]; omega
  | cons c E ih =>
    intro v
    rw [val_cons, val_cons, ih (step v c), ih (step 0 c), List.length_cons, Nat.pow_succ]
    unfold step
    rw [Nat.add_mul, Nat.mul_comm (10 ^ E.length) 10, Nat.mul_assoc, Nat.zero_mul, Nat.zero_add, Nat.add_assoc]
theorem digs_le (k : Nat) : ∀ n, n < 10 ^ k → 0 < k → (decDigits n).length ≤ k := by
  induction k with
  | zero => intro n _ h; omega
  | succ k ih =>
    intro n hn _
    unfold decDigits
    split
    · simp
    · rename_i h
      rw [Nat.pow_succ] at hn
      have hk : 0 < k := by
        rcases k with _ | k
        · simp at hn; omega
        · omega
      have := ih (n / 10) (by omega) hk
      rw [List.length_append]
      simp
      exact this
theorem tail_one (b : Nat) : (tail (b * 100)).length ≤ 1 := by
  unfold tail
  split
  · simp
  · rw [if_pos (by omega)]; simp
theorem tail_two (b : Nat) : (tail (b * 10)).length ≤ 2 := by
  unfold tail
  split
  · simp
  · split
    · simp
    · rw [if_pos (by omega)]; simp
theorem pos_le {l : Bs} {n : Nat} (h : scan l 0 0 0 false = some n) : (pos n).length ≤ l.length := by
  obtain ⟨D, E, h1, h2, h3, h4, h5, h6⟩ := scan_inv l _ _ _ h
  have hD0 : 0 < D.length := by omega
  have hlt := val_lt D h1 0
  rw [Nat.zero_add, Nat.one_mul] at hlt
  have hdl := digs_le D.length (val 0 D) hlt hD0
  have hE := val_lt E h2 0
  rw [Nat.zero_add, Nat.one_mul] at hE
  rw [val_split] at h5
  generalize ha : val 0 D = a at *
  generalize hb : val 0 E = b at *
  unfold pos
  rw [places_tail]
  rcases h6 with ⟨rfl, rfl⟩ | ⟨e1, rfl⟩
  · simp only [List.length_nil, Nat.pow_zero, Nat.mul_one, Nat.sub_zero] at h5 hE
    have hb0 : b = 0 := by omega
    subst hb0
    have e1 : n / 1000 = a := by omega
    have e2 : n % 1000 = 0 := by omega
    rw [e1, e2, if_pos rfl, List.append_nil]
    exact hdl
  · rw [List.length_append, List.length_append, List.length_cons]
    have hl0 : E.length ≠ 0 := fun h => e1 (List.length_eq_zero_iff.1 h)
    have key : n / 1000 = a ∧ (tail (n % 1000)).length ≤ E.length := by
      rcases h : E.length with _ | _ | _ | _ | k
      · exact absurd h hl0
      · rw [h] at h5 hE
        have e1 : n / 1000 = a := by omega
        have e2 : n % 1000 = b * 100 := by omega
        exact ⟨e1, by rw [e2]; exact tail_one b⟩
      · rw [h] at h5 hE
        have e1 : n / 1000 = a := by omega
        have e2 : n % 1000 = b * 10 := by omega
        exact ⟨e1, by rw [e2]; exact tail_two b⟩
      · rw [h] at h5 hE
        have e1 : n / 1000 = a := by omega
        exact ⟨e1, (tail_facts (n % 1000) (Nat.mod_lt _ (by decide))).2.1⟩
      · omega
    rw [key.1]
    split
    · simp only [List.length_nil]; omega
    · rw [List.length_cons]; have := key.2; omega
/-- a zero ahead of the digits -/
def zero : Bs → Bs
  | 45 :: l => 45 :: 48 :: l
  | l => 48 :: l
theorem zero_neg (s : Bs) : neg (zero s) = neg s ∧ strip (zero s) = 48 :: strip s := by
  by_cases h : ∃ l, s = 45 :: l
  · obtain ⟨l, rfl⟩ := h
    exact ⟨rfl, rfl⟩
  · have h1 : zero s = 48 :: s := by
      unfold zero
      split
      · rename_i l; exact absurd ⟨l, rfl⟩ h
      · rfl
    have h2 : strip s = s := by
      unfold strip
      split
      · rename_i l; exact absurd ⟨l, rfl⟩ h
      · rfl
    have h3 : neg s = false := by
      unfold neg
      split
      · rename_i l; exact absurd ⟨l, rfl⟩ h
      · rfl
    rw [h1, h2, h3]
    exact ⟨rfl, rfl⟩
theorem scan_zero {l : Bs} {n : Nat} (h : scan l 0 0 0 false = some n) : scan (48 :: l) 0 0 0 false = some n := by
  obtain ⟨D, E, h1, h2, h3, h4, h5, h6⟩ := scan_inv l _ _ _ h
  have hz : (48 :: D : Bs).all digit = true := by rw [List.all_cons, h1]; rfl
  have hv : val 0 (48 :: D) = val 0 D := by rw [val_cons]; rfl
  rcases h6 with ⟨rfl, rfl⟩ | ⟨e1, rfl⟩
  · rw [scan_int _ hz (by simp), hv, h5]
    rfl
  · have hl0 : E.length ≠ 0 := fun h => e1 (List.length_eq_zero_iff.1 h)
    rw [← List.cons_append, scan_frac _ _ hz (by simp) h2, if_neg (by omega), hv, h5]
theorem once {s : Bs} {v : Int} (h : parse s = (v, 0)) : parse (zero s) = (v, 0) ∧ (print v).length ≤ s.length ∧ sane v = true ∧ s ≠ [] := by
  have hf := parse_facts s
  rw [h] at hf
  have hs : sane v = true := by
    rcases hf with h' | ⟨_, h' | h'⟩
    · exact h'.2
    · cases h'
    · cases h'
  have hz := zero_neg s
  unfold parse mag done at h
  rcases hm : scan (strip s) 0 0 0 false with _ | n
  · rw [hm] at h
    cases h
  · rw [hm] at h
    simp only at h
    split at h
    · rename_i hn
      injection h with h1 _
      refine ⟨?_, ?_, hs, ?_⟩
      · unfold parse mag
        rw [hz.1, hz.2, scan_zero hm]
        unfold done
        simp only
        rw [if_pos hn, h1]
      · have hp := pos_le hm
        have hna : v.natAbs = n := by
          rw [← h1]
          split <;> simp
        unfold print
        rw [if_pos hs, hna]
        split
        · rename_i hneg
          have hng : neg s = true := by
            rcases hx : neg s with _ | _
            · rw [hx, if_neg (by decide)] at h1
              omega
            · rfl
          have hl : s.length = (strip s).length + 1 := by
            unfold neg at hng
            split at hng
            · rfl
            · cases hng
          rw [List.length_cons, hl]
          omega
        · have hl : (strip s).length ≤ s.length := by
            unfold strip
            split
            · simp
            · exact Nat.le_refl _
          omega
      · rintro rfl
        rw [show scan (strip []) 0 0 0 false = none by rfl] at hm
        cases hm
    · injection h with _ h2
      cases h2
theorem inj {v w : Int} (hv : sane v = true) (hw : sane w = true) (h : print v = print w) : v = w := by
  have h1 := (back v hv).1
  rw [h, (back w hw).1] at h1
  injection h1 with h1 _
  exact h1.symm
theorem print_neg {v : Int} (h : sane v = true) (h0 : 0 < v) : sane (-v) = true ∧ print (-v) = 45 :: print v := by
  have hb := (sane_iff v).1 h
  have hs : sane (-v) = true := (sane_iff _).2 (by omega)
  refine ⟨hs, ?_⟩
  unfold print
  rw [if_pos h, if_pos hs, if_pos (by omega), if_neg (by omega), Int.natAbs_neg]
theorem print_pos (n : Nat) (h : n ≤ 9007199254740992) : print (n : Int) = pos n := by
  unfold print
  rw [if_pos ((sane_iff _).2 (by omega)), if_neg (by omega)]
  rfl
theorem print_part (k r : Nat) (h : 1000 * k + r ≤ 9007199254740992) (hr : r < 1000) : print ((1000 * k + r : Nat) : Int) = decDigits k ++ places r := by
  rw [print_pos _ h]
  unfold pos
  rw [show (1000 * k + r) / 1000 = k by omega, show (1000 * k + r) % 1000 = r by omega]
theorem print_whole (k : Nat) (h : 1000 * k ≤ 9007199254740992) : print ((1000 * k : Nat) : Int) = decDigits k := by
  have := print_part k 0 h (by decide)
  rw [show places 0 = [] by rfl, List.append_nil] at this
  exact this
theorem parse_digs {D : Bs} (hD : D.all digit = true) (h0 : D.length ≠ 0) (r : Bs) : parse (D ++ r) = done false (scan (D ++ r) 0 0 0 false) := by
  have := head_digit (r := r) hD h0
  unfold parse mag
  rw [this.1, this.2.1]
theorem done_of {n : Nat} (h : n ≤ most) : done false (some n) = ((n : Int), 0) := by
  unfold done
  simp only
  rw [if_pos h]
  rfl
theorem join0 (n : Nat) (h : 10000 * n ≤ 9007199254740992) : parse (decDigits n ++ [48]) = (((10000 * n : Nat) : Int), 0) := by
  have hd := val_digs n
  rw [parse_digs hd.1 hd.2.2, scan_int _ (by rw [List.all_append, hd.1]; rfl) (by simp), val_app, hd.2.1, val_cons, val_nil, step_is (a := 0) rfl]
  rw [done_of (by unfold most; omega), show (n * 10 + 0) * 1000 = 10000 * n by omega]
theorem join1 (n : Nat) (h : 1000 * n ≤ 9007199254740992) : parse (decDigits n ++ [46, 48, 48, 48]) = (((1000 * n : Nat) : Int), 0) := by
  have hd := val_digs n
  rw [parse_digs hd.1 hd.2.2, scan_frac _ _ hd.1 hd.2.2 (by rfl), if_neg (by decide), hd.2.1, show ([48, 48, 48] : Bs).length = 3 from rfl, val3 n 0 0 0 48 48 48 rfl rfl rfl, done_of (by unfold most; omega), show ((n * 10 + 0) * 10 + 0) * 10 + 0 = 1000 * n by omega]
theorem join2 (n : Nat) : parse (decDigits n ++ [46, 48, 48, 48, 48]) = (0, 1) := by
  have hd := val_digs n
  rw [parse_digs hd.1 hd.2.2, scan_frac _ _ hd.1 hd.2.2 (by rfl), if_pos (by decide)]
  rfl
end Go.Proofs.YtnallbhckeoldaaDoor.Num
