/- The texts NumPlain, NumPlain2, NumPlain3 in one. -/
import Derived.Lib.ItoaNum
/- The plain law of num: numbers with three places printed and parsed, on lists of octets. -/
namespace Go.Proofs.YtbdochcajpempaaDoor.Num
open Go.Lib (decDigits)

abbrev Bs := List UInt8
def digit (c : UInt8) : Bool := decide (48 ≤ c) && decide (c ≤ 57)
def step (v : Nat) (c : UInt8) : Nat := v * 10 + (c.toNat - 48)
def val (v : Nat) (l : Bs) : Nat := l.foldl step v
theorem val_nil (v : Nat) : val v [] = v := List.foldl_nil
theorem val_cons (v : Nat) (c : UInt8) (l : Bs) : val v (c :: l) = val (step v c) l := List.foldl_cons
theorem val_app (a b : Bs) (v : Nat) : val v (a ++ b) = val (val v a) b := List.foldl_append
theorem step_is {v : Nat} {c : UInt8} {a : Nat} (h : c.toNat = 48 + a) : step v c = v * 10 + a := by unfold step; rw [h, Nat.add_sub_cancel_left]
/-- a number's end: its digits, how many ahead of the point and behind it, and whether there was one -/
def fin (v w p : Nat) (pt : Bool) : Option Nat := if w = 0 ∨ 3 < p ∨ (pt = true ∧ p = 0) then none else some (v * 10 ^ (3 - p))
def scan : Bs → Nat → Nat → Nat → Bool → Option Nat
  | [], v, w, p, pt => fin v w p pt
  | c :: l, v, w, p, pt =>
    if c = 46 ∧ pt = false ∧ 0 < w then scan l v w p true
    else if digit c = true then (if pt = true then scan l (step v c) w (p + 1) pt else scan l (step v c) (w + 1) p pt)
    else none
def neg : Bs → Bool
  | 45 :: _ => true
  | _ => false
def strip : Bs → Bs
  | 45 :: l => l
  | l => l
def most : Nat := 9007199254740992
def mag (s : Bs) : Option Nat := scan (strip s) 0 0 0 false
def done (b : Bool) : Option Nat → Int × Int
  | none => (0, 1)
  | some n => if n ≤ most then ((if b = true then -(n : Int) else (n : Int)), 0) else (0, 2)
def parse (s : Bs) : Int × Int := done (neg s) (mag s)
def sane (v : Int) : Bool := decide (-9007199254740992 ≤ v) && decide (v ≤ 9007199254740992)
def oneDigit (d : Nat) : UInt8 := UInt8.ofNat (48 + d)
/-- the places of a rest below 1000, no zeros behind -/
def places (r : Nat) : Bs :=
  if r = 0 then [] else
  46 :: oneDigit (r / 100) :: (if r % 100 = 0 then [] else oneDigit (r / 10 % 10) :: (if r % 10 = 0 then [] else [oneDigit (r % 10)]))
def pos (n : Nat) : Bs := decDigits (n / 1000) ++ places (n % 1000)
def print (v : Int) : Bs := if sane v = true then (if v < 0 then 45 :: pos v.natAbs else pos v.natAbs) else []

theorem dig_facts (k : Nat) (h : k < 10) : digit (oneDigit k) = true ∧ (oneDigit k).toNat = 48 + k := by
  have : ∀ k : Fin 10, digit (oneDigit k.val) = true ∧ (oneDigit k.val).toNat = 48 + k.val := by decide
  exact this ⟨k, h⟩
theorem not_point {c : UInt8} (h : digit c = true) : c ≠ 46 ∧ c ≠ 45 := by
  constructor <;> (rintro rfl; exact absurd h (by decide))
/-- digits ahead of the point -/
theorem scan_whole (D r : Bs) (hD : D.all digit = true) : ∀ v w p, scan (D ++ r) v w p false = scan r (val v D) (w + D.length) p false := by
  induction D with
  | nil => intro v w p; rw [val_nil]; rfl
  | cons c D ih =>
    intro v w p
    simp only [List.all_cons, Bool.and_eq_true] at hD
    conv => lhs; rw [List.cons_append]; unfold scan
    rw [if_neg (fun h => (not_point hD.1).1 h.1), if_pos hD.1, if_neg (by decide), ih hD.2]
    rw [List.length_cons, show w + 1 + D.length = w + (D.length + 1) by omega, val_cons]
/-- digits behind the point -/
theorem scan_places (D r : Bs) (hD : D.all digit = true) : ∀ v w p, scan (D ++ r) v w p true = scan r (val v D) w (p + D.length) true := by
  induction D with
  | nil => intro v w p; rw [val_nil]; rfl
  | cons c D ih =>
    intro v w p
    simp only [List.all_cons, Bool.and_eq_true] at hD
    conv => lhs; rw [List.cons_append]; unfold scan
    rw [if_neg (fun h => (not_point hD.1).1 h.1), if_pos hD.1, if_pos rfl, ih hD.2]
    rw [List.length_cons, show p + 1 + D.length = p + (D.length + 1) by omega, val_cons]
theorem scan_point (r : Bs) (v w p : Nat) (hw : 0 < w) : scan (46 :: r) v w p false = scan r v w p true := by
  conv => lhs; unfold scan
  rw [if_pos ⟨rfl, rfl, hw⟩]
/-- what is parsed behind the point -/
theorem scan_places_inv (l : Bs) : ∀ v w p n, scan l v w p true = some n → l.all digit = true ∧ w ≠ 0 ∧ p + l.length ≤ 3 ∧ p + l.length ≠ 0 ∧ n = val v l * 10 ^ (3 - (p + l.length)) := by
  induction l with
  | nil =>
    intro v w p n h
    unfold scan fin at h
    split at h
    · cases h
    · rename_i hc
      injection h with h
      refine ⟨rfl, fun h => hc (.inl h), ?_, ?_, ?_⟩
      · exact Nat.le_of_not_lt (fun h => hc (.inr (.inl h)))
      · exact fun h => hc (.inr (.inr ⟨rfl, h⟩))
      · rw [← h, val_nil]; rfl
  | cons c l ih =>
    intro v w p n h
    unfold scan at h
    rw [if_neg (fun h => by cases h.2.1)] at h
    split at h
    · rename_i hd
      rw [if_pos rfl] at h
      obtain ⟨h1, h2, h3, h4, h5⟩ := ih _ _ _ _ h
      refine ⟨?_, h2, ?_, ?_, ?_⟩
      · rw [List.all_cons, hd, h1]; rfl
      · rw [List.length_cons]; omega
      · rw [List.length_cons]; omega
      · rw [h5, List.length_cons, show p + 1 + l.length = p + (l.length + 1) by omega, val_cons]
    · cases h
/-- what is parsed: digits, and perhaps a point and one to three more -/
theorem scan_inv (l : Bs) : ∀ v w n, scan l v w 0 false = some n → ∃ D E : Bs, D.all digit = true ∧ E.all digit = true ∧ w + D.length ≠ 0 ∧ E.length ≤ 3 ∧ n = val (val v D) E * 10 ^ (3 - E.length) ∧
    ((E = [] ∧ l = D) ∨ (E ≠ [] ∧ l = D ++ 46 :: E)) := by
  induction l with
  | nil =>
    intro v w n h
    unfold scan fin at h
    split at h
    · cases h
    · rename_i hc
      injection h with h
      exact ⟨[], [], rfl, rfl, fun h => hc (.inl h), by decide, by rw [← h, val_nil, val_nil]; rfl, .inl ⟨rfl, rfl⟩⟩
  | cons c l ih =>
    intro v w n h
    unfold scan at h
    split at h
    · rename_i hc
      obtain ⟨rfl, _, hw⟩ := hc
      obtain ⟨h1, h2, h3, h4, h5⟩ := scan_places_inv l _ _ _ _ h
      refine ⟨[], l, rfl, h1, by simpa using h2, by omega, ?_, .inr ⟨?_, rfl⟩⟩
      · rw [h5, Nat.zero_add, val_nil]
      · rintro rfl
        exact h4 rfl
    · split at h
      · rename_i hd
        rw [if_neg (by decide)] at h
        obtain ⟨D, E, h1, h2, h3, h4, h5, h6⟩ := ih _ _ _ h
        refine ⟨c :: D, E, by rw [List.all_cons, hd, h1]; rfl, h2, by rw [List.length_cons]; omega, h4, by rw [h5, val_cons], ?_⟩
        rcases h6 with ⟨a, b⟩ | ⟨a, b⟩
        · exact .inl ⟨a, by rw [b]⟩
        · exact .inr ⟨a, by rw [b]; rfl⟩
      · cases h
theorem val_one (c : UInt8) (n : Nat) (hd : digit c = true ∧ c.toNat = 48 + n) : ([c] : Bs).all digit = true ∧ val 0 [c] = n ∧ ([c] : Bs).length ≠ 0 := by
  refine ⟨by rw [List.all_cons, hd.1]; rfl, ?_, by simp⟩
  rw [val_cons, val_nil, step_is hd.2]
  omega
theorem val_more (D : Bs) (c : UInt8) (m n : Nat) (hD : D.all digit = true ∧ val 0 D = m) (hd : digit c = true ∧ c.toNat = 48 + n) : (D ++ [c]).all digit = true ∧ val 0 (D ++ [c]) = m * 10 + n ∧ (D ++ [c]).length ≠ 0 := by
  refine ⟨by rw [List.all_append, List.all_cons, hD.1, hd.1]; rfl, ?_, by simp⟩
  rw [val_app, hD.2, val_cons, val_nil, step_is hd.2]
theorem val_digs (n : Nat) : (decDigits n).all digit = true ∧ val 0 (decDigits n) = n ∧ (decDigits n).length ≠ 0 := by
  induction n using Nat.strongRecOn with
  | _ n ih =>
    by_cases h : n < 10
    · rw [Lib.decDigits_one h]
      exact val_one _ n (dig_facts n h)
    · have hi := ih (n / 10) (by omega)
      have e : decDigits n = decDigits (n / 10) ++ [oneDigit (n % 10)] := by rw [decDigits, dif_neg h]; rfl
      rw [e]
      have := val_more _ (oneDigit (n % 10)) (n / 10) (n % 10) ⟨hi.1, hi.2.1⟩ (dig_facts (n % 10) (Nat.mod_lt _ (by decide)))
      refine ⟨this.1, ?_, this.2.2⟩
      rw [this.2.1]
      omega
/-- the places of a rest below 1000, as digits, and what they are worth -/
def tail (r : Nat) : Bs := if r = 0 then [] else oneDigit (r / 100) :: (if r % 100 = 0 then [] else oneDigit (r / 10 % 10) :: (if r % 10 = 0 then [] else [oneDigit (r % 10)]))
theorem places_tail (r : Nat) : places r = if r = 0 then [] else 46 :: tail r := by
  unfold places tail
  split <;> rfl
theorem tail0 : tail 0 = [] := rfl
theorem tail1 {r : Nat} (h0 : r ≠ 0) (h1 : r % 100 = 0) : tail r = [oneDigit (r / 100)] := by
  unfold tail
  rw [if_neg h0, if_pos h1]
theorem tail2 {r : Nat} (h1 : r % 100 ≠ 0) (h2 : r % 10 = 0) : tail r = [oneDigit (r / 100), oneDigit (r / 10 % 10)] := by
  unfold tail
  rw [if_neg (by rintro rfl; exact h1 rfl), if_neg h1, if_pos h2]
theorem tail3 {r : Nat} (h2 : r % 10 ≠ 0) : tail r = [oneDigit (r / 100), oneDigit (r / 10 % 10), oneDigit (r % 10)] := by
  unfold tail
  rw [if_neg (by rintro rfl; exact h2 rfl), if_neg (by omega), if_neg h2]
theorem val1 (q a : Nat) (c : UInt8) (h : c.toNat = 48 + a) : val q [c] * 10 ^ (3 - 1) = (q * 10 + a) * 100 := by
  rw [val_cons, val_nil, step_is h]
theorem val2 (q a b : Nat) (c d : UInt8) (h : c.toNat = 48 + a) (h2 : d.toNat = 48 + b) : val q [c, d] * 10 ^ (3 - 2) = ((q * 10 + a) * 10 + b) * 10 := by
  rw [val_cons, val_cons, val_nil, step_is h, step_is h2]
theorem val3 (q a b x : Nat) (c d e : UInt8) (h : c.toNat = 48 + a) (h2 : d.toNat = 48 + b) (h3 : e.toNat = 48 + x) : val q [c, d, e] * 10 ^ (3 - 3) = ((q * 10 + a) * 10 + b) * 10 + x := by
  rw [val_cons, val_cons, val_cons, val_nil, step_is h, step_is h2, step_is h3, Nat.sub_self, Nat.pow_zero, Nat.mul_one]
theorem tail_facts (r : Nat) (h : r < 1000) : (tail r).all digit = true ∧ (tail r).length ≤ 3 ∧ (r ≠ 0 → (tail r).length ≠ 0) ∧ ∀ q, val q (tail r) * 10 ^ (3 - (tail r).length) = q * 1000 + r := by
  have h1 := dig_facts (r / 100) (by omega)
  have h2 := dig_facts (r / 10 % 10) (by omega)
  have h3 := dig_facts (r % 10) (by omega)
  by_cases r0 : r = 0
  · rw [r0, tail0]
    exact ⟨rfl, by decide, fun h => (h rfl).elim, fun q => by rw [List.length_nil, val_nil, show (10 : Nat) ^ (3 - 0) = 1000 by decide, Nat.add_zero]⟩
  · by_cases r1 : r % 100 = 0
    · rw [tail1 r0 r1]
      generalize oneDigit (r / 100) = c at h1 ⊢
      refine ⟨by rw [List.all_cons, h1.1]; rfl, by simp, by simp, fun q => ?_⟩
      rw [show ([c] : Bs).length = 1 by rfl, val1 q _ c h1.2]
      omega
    · by_cases r2 : r % 10 = 0
      · rw [tail2 r1 r2]
        generalize oneDigit (r / 100) = c at h1 ⊢
        generalize oneDigit (r / 10 % 10) = d at h2 ⊢
        refine ⟨by rw [List.all_cons, List.all_cons, h1.1, h2.1]; rfl, by simp, by simp, fun q => ?_⟩
        rw [show ([c, d] : Bs).length = 2 by rfl, val2 q _ _ c d h1.2 h2.2]
        omega
      · rw [tail3 r2]
        generalize oneDigit (r / 100) = c at h1 ⊢
        generalize oneDigit (r / 10 % 10) = d at h2 ⊢
        generalize oneDigit (r % 10) = e at h3 ⊢
        refine ⟨by rw [List.all_cons, List.all_cons, List.all_cons, h1.1, h2.1, h3.1]; rfl, by simp, by simp, fun q => ?_⟩
        rw [show ([c, d, e] : Bs).length = 3 by rfl, val3 q _ _ _ c d e h1.2 h2.2 h3.2]
        omega
/-- digits alone -/
theorem scan_int (D : Bs) (hD : D.all digit = true) (h0 : D.length ≠ 0) : scan D 0 0 0 false = some (val 0 D * 1000) := by
  have := scan_whole D [] hD 0 0 0
  rw [List.append_nil] at this
  rw [this]
  unfold scan fin
  rw [if_neg (by rintro (h | h | h) <;> simp_all)]
/-- digits, a point, digits -/
theorem scan_frac (D E : Bs) (hD : D.all digit = true) (h0 : D.length ≠ 0) (hE : E.all digit = true) : scan (D ++ 46 :: E) 0 0 0 false = if E.length = 0 ∨ 3 < E.length then none else some (val (val 0 D) E * 10 ^ (3 - E.length)) := by
  rw [scan_whole D _ hD, scan_point _ _ _ _ (by omega)]
  have := scan_places E [] hE (val 0 D) (0 + D.length) 0
  rw [List.append_nil] at this
  rw [this]
  unfold scan fin
  by_cases h : E.length = 0 ∨ 3 < E.length
  · rw [if_pos h, if_pos]
    rcases h with h | h
    · exact .inr (.inr ⟨rfl, by omega⟩)
    · exact .inr (.inl (by omega))
  · rw [if_neg h, if_neg, Nat.zero_add]
    rintro (h' | h' | h')
    · omega
    · exact h (.inr (by omega))
    · exact h (.inl (by omega))
theorem scan_pos (n : Nat) : scan (pos n) 0 0 0 false = some n := by
  have hd := val_digs (n / 1000)
  have ht := tail_facts (n % 1000) (Nat.mod_lt _ (by decide))
  have hn := Nat.div_add_mod n 1000
  unfold pos
  rw [places_tail]
  by_cases h0 : n % 1000 = 0
  · rw [if_pos h0, List.append_nil, scan_int _ hd.1 hd.2.2, hd.2.1]
    congr 1
    omega
  · rw [if_neg h0, scan_frac _ _ hd.1 hd.2.2 ht.1, if_neg (fun h => h.elim (ht.2.2.1 h0) (fun h => by omega)), hd.2.1, ht.2.2.2]
    congr 1
    omega
theorem head_digit {l : Bs} {r : Bs} (h : l.all digit = true) (h0 : l.length ≠ 0) : neg (l ++ r) = false ∧ strip (l ++ r) = l ++ r ∧ l ++ r ≠ [] := by
  cases l with
  | nil => exact absurd rfl h0
  | cons c l =>
    simp only [List.all_cons, Bool.and_eq_true] at h
    have := (not_point h.1).2
    refine ⟨?_, ?_, by simp⟩
    · unfold neg
      split
      · rename_i hh
        injection hh with h1 h2
        exact absurd h1 this
      · rfl
    · unfold strip
      split
      · rename_i hh
        injection hh with h1 h2
        exact absurd h1 this
      · rfl
theorem pos_head (n : Nat) : neg (pos n) = false ∧ strip (pos n) = pos n ∧ pos n ≠ [] := by
  have hd := val_digs (n / 1000)
  exact head_digit hd.1 hd.2.2
theorem sane_iff (v : Int) : sane v = true ↔ -9007199254740992 ≤ v ∧ v ≤ 9007199254740992 := by simp [sane]
/-- what is printed is parsed -/
theorem back (v : Int) (h : sane v = true) : parse (print v) = (v, 0) ∧ print v ≠ [] := by
  have hb := (sane_iff v).1 h
  have hp := pos_head v.natAbs
  unfold print
  rw [if_pos h]
  by_cases hn : v < 0
  · rw [if_pos hn]
    refine ⟨?_, by simp⟩
    show done true (scan (pos v.natAbs) 0 0 0 false) = _
    rw [scan_pos]
    unfold done
    simp only
    rw [if_pos (by unfold most; omega)]
    refine Prod.ext ?_ rfl
    show -((v.natAbs : Nat) : Int) = v
    omega
  · rw [if_neg hn]
    refine ⟨?_, hp.2.2⟩
    unfold parse mag
    rw [hp.1, hp.2.1, scan_pos]
    unfold done
    simp only
    rw [if_pos (by unfold most; omega), if_neg (by decide)]
    refine Prod.ext ?_ rfl
    show ((v.natAbs : Nat) : Int) = v
    omega
theorem back_none (v : Int) (h : sane v = false) : print v = [] ∧ parse [] = (0, 1) := by
  refine ⟨?_, by rfl⟩
  unfold print
  rw [h]
  rfl
theorem parse_facts (s : Bs) : ((parse s).2 = 0 ∧ sane (parse s).1 = true) ∨ ((parse s).1 = 0 ∧ ((parse s).2 = 1 ∨ (parse s).2 = 2)) := by
  unfold parse done
  split
  · exact .inr ⟨rfl, .inl rfl⟩
  · split
    · rename_i n h
      refine .inl ⟨rfl, (sane_iff _).2 ?_⟩
      unfold most at h
      simp only
      split <;> omega
    · exact .inr ⟨rfl, .inr rfl⟩
end Go.Proofs.YtbdochcajpempaaDoor.Num

/- The plain law of num, continued: the laws' own consequences. -/
namespace Go.Proofs.YtbdochcajpempaaDoor.Num
open Go.Lib (decDigits)

theorem digit_le {c : UInt8} (h : digit c = true) : c.toNat - 48 ≤ 9 := by
  unfold digit at h
  simp only [Bool.and_eq_true, decide_eq_true_eq, UInt8.le_iff_toNat_le] at h
  have : (57 : UInt8).toNat = 57 := rfl
  omega
theorem val_lt_step (v d m k : Nat) (h1 : m < (v * 10 + d + 1) * k) (h2 : d ≤ 9) : m < (v + 1) * (k * 10) := by
  refine Nat.lt_of_lt_of_le h1 ?_
  rw [Nat.mul_comm k 10, ← Nat.mul_assoc]
  exact Nat.mul_le_mul_right _ (by omega)
theorem val_lt (D : Bs) (hD : D.all digit = true) : ∀ v, val v D < (v + 1) * 10 ^ D.length := by
  induction D with
  | nil => intro v; rw [val_nil, List.length_nil, Nat.pow_zero]; omega
  | cons c D ih =>
    intro v
    simp only [List.all_cons, Bool.and_eq_true] at hD
    have h1 := ih hD.2 (step v c)
    have h2 := digit_le hD.1
    rw [List.length_cons, Nat.pow_succ, val_cons]
    unfold step at h1 ⊢
    generalize c.toNat - 48 = d at *
    generalize val (v * 10 + d) D = m at *
    generalize 10 ^ D.length = k at *
    exact val_lt_step v d m k h1 h2
theorem val_split (E : Bs) : ∀ v, val v E = v * 10 ^ E.length + val 0 E := by
  induction E with
  | nil => intro v; rw [val_nil, val_nil, List.length_nil, Nat.pow_zero]; omega
  | cons c E ih =>
    intro v
    rw [val_cons, val_cons, ih (step v c), ih (step 0 c), List.length_cons, Nat.pow_succ]
    unfold step
    rw [Nat.add_mul, Nat.mul_comm (10 ^ E.length) 10, Nat.mul_assoc, Nat.zero_mul, Nat.zero_add, Nat.add_assoc]
theorem digs_le (k : Nat) : ∀ n, n < 10 ^ k → 0 < k → (decDigits n).length ≤ k := by
  induction k with
  | zero => intro n _ h; omega
  | succ k ih =>
    intro n hn _
    unfold decDigits
    split
    · simp
    · rename_i h
      rw [Nat.pow_succ] at hn
      have hk : 0 < k := by
        rcases k with _ | k
        · simp at hn; omega
        · omega
      have := ih (n / 10) (by omega) hk
      rw [List.length_append]
      simp
      exact this
theorem tail_one (b : Nat) : (tail (b * 100)).length ≤ 1 := by
  unfold tail
  split
  · simp
  · rw [if_pos (by omega)]; simp
theorem tail_two (b : Nat) : (tail (b * 10)).length ≤ 2 := by
  unfold tail
  split
  · simp
  · split
    · simp
    · rw [if_pos (by omega)]; simp
theorem pos_le {l : Bs} {n : Nat} (h : scan l 0 0 0 false = some n) : (pos n).length ≤ l.length := by
  obtain ⟨D, E, h1, h2, h3, h4, h5, h6⟩ := scan_inv l _ _ _ h
  have hD0 : 0 < D.length := by omega
  have hlt := val_lt D h1 0
  rw [Nat.zero_add, Nat.one_mul] at hlt
  have hdl := digs_le D.length (val 0 D) hlt hD0
  have hE := val_lt E h2 0
  rw [Nat.zero_add, Nat.one_mul] at hE
  rw [val_split] at h5
  generalize ha : val 0 D = a at *
  generalize hb : val 0 E = b at *
  unfold pos
  rw [places_tail]
  rcases h6 with ⟨rfl, rfl⟩ | ⟨e1, rfl⟩
  · simp only [List.length_nil, Nat.pow_zero, Nat.mul_one, Nat.sub_zero] at h5 hE
    have hb0 : b = 0 := by omega
    subst hb0
    have e1 : n / 1000 = a := by omega
    have e2 : n % 1000 = 0 := by omega
    rw [e1, e2, if_pos rfl, List.append_nil]
    exact hdl
  · rw [List.length_append, List.length_append, List.length_cons]
    have hl0 : E.length ≠ 0 := fun h => e1 (List.length_eq_zero_iff.1 h)
    have key : n / 1000 = a ∧ (tail (n % 1000)).length ≤ E.length := by
      rcases h : E.length with _ | _ | _ | _ | k
      · exact absurd h hl0
      · rw [h] at h5 hE
        have e1 : n / 1000 = a := by omega
        have e2 : n % 1000 = b * 100 := by omega
        exact ⟨e1, by rw [e2]; exact tail_one b⟩
      · rw [h] at h5 hE
        have e1 : n / 1000 = a := by omega
        have e2 : n % 1000 = b * 10 := by omega
        exact ⟨e1, by rw [e2]; exact tail_two b⟩
      · rw [h] at h5 hE
        have e1 : n / 1000 = a := by omega
        exact ⟨e1, (tail_facts (n % 1000) (Nat.mod_lt _ (by decide))).2.1⟩
      · omega
    rw [key.1]
    split
    · simp only [List.length_nil]; omega
    · rw [List.length_cons]; have := key.2; omega
/-- a zero ahead of the digits -/
def zero : Bs → Bs
  | 45 :: l => 45 :: 48 :: l
  | l => 48 :: l
theorem zero_neg (s : Bs) : neg (zero s) = neg s ∧ strip (zero s) = 48 :: strip s := by
  by_cases h : ∃ l, s = 45 :: l
  · obtain ⟨l, rfl⟩ := h
    exact ⟨rfl, rfl⟩
  · have h1 : zero s = 48 :: s := by
      unfold zero
      split
      · rename_i l; exact absurd ⟨l, rfl⟩ h
      · rfl
    have h2 : strip s = s := by
      unfold strip
      split
      · rename_i l; exact absurd ⟨l, rfl⟩ h
      · rfl
    have h3 : neg s = false := by
      unfold neg
      split
      · rename_i l; exact absurd ⟨l, rfl⟩ h
      · rfl
    rw [h1, h2, h3]
    exact ⟨rfl, rfl⟩
theorem scan_zero {l : Bs} {n : Nat} (h : scan l 0 0 0 false = some n) : scan (48 :: l) 0 0 0 false = some n := by
  obtain ⟨D, E, h1, h2, h3, h4, h5, h6⟩ := scan_inv l _ _ _ h
  have hz : (48 :: D : Bs).all digit = true := by rw [List.all_cons, h1]; rfl
  have hv : val 0 (48 :: D) = val 0 D := by rw [val_cons]; rfl
  rcases h6 with ⟨rfl, rfl⟩ | ⟨e1, rfl⟩
  · rw [scan_int _ hz (by simp), hv, h5]
    rfl
  · have hl0 : E.length ≠ 0 := fun h => e1 (List.length_eq_zero_iff.1 h)
    rw [← List.cons_append, scan_frac _ _ hz (by simp) h2, if_neg (by omega), hv, h5]
theorem once {s : Bs} {v : Int} (h : parse s = (v, 0)) : parse (zero s) = (v, 0) ∧ (print v).length ≤ s.length ∧ sane v = true ∧ s ≠ [] := by
  have hf := parse_facts s
  rw [h] at hf
  have hs : sane v = true := by
    rcases hf with h' | ⟨_, h' | h'⟩
    · exact h'.2
    · cases h'
    · cases h'
  have hz := zero_neg s
  unfold parse mag done at h
  rcases hm : scan (strip s) 0 0 0 false with _ | n
  · rw [hm] at h
    cases h
  · rw [hm] at h
    simp only at h
    split at h
    · rename_i hn
      injection h with h1 _
      refine ⟨?_, ?_, hs, ?_⟩
      · unfold parse mag
        rw [hz.1, hz.2, scan_zero hm]
        unfold done
        simp only
        rw [if_pos hn, h1]
      · have hp := pos_le hm
        have hna : v.natAbs = n := by
          rw [← h1]
          split <;> simp
        unfold print
        rw [if_pos hs, hna]
        split
        · rename_i hneg
          have hng : neg s = true := by
            rcases hx : neg s with _ | _
            · rw [hx, if_neg (by decide)] at h1
              omega
            · rfl
          have hl : s.length = (strip s).length + 1 := by
            unfold neg at hng
            split at hng
            · rfl
            · cases hng
          rw [List.length_cons, hl]
          omega
        · have hl : (strip s).length ≤ s.length := by
            unfold strip
            split
            · simp
            · exact Nat.le_refl _
          omega
      · rintro rfl
        rw [show scan (strip []) 0 0 0 false = none by rfl] at hm
        cases hm
    · injection h with _ h2
      cases h2
theorem inj {v w : Int} (hv : sane v = true) (hw : sane w = true) (h : print v = print w) : v = w := by
  have h1 := (back v hv).1
  rw [h, (back w hw).1] at h1
  injection h1 with h1 _
  exact h1.symm
theorem print_neg {v : Int} (h : sane v = true) (h0 : 0 < v) : sane (-v) = true ∧ print (-v) = 45 :: print v := by
  have hb := (sane_iff v).1 h
  have hs : sane (-v) = true := (sane_iff _).2 (by omega)
  refine ⟨hs, ?_⟩
  unfold print
  rw [if_pos h, if_pos hs, if_pos (by omega), if_neg (by omega), Int.natAbs_neg]
theorem print_pos (n : Nat) (h : n ≤ 9007199254740992) : print (n : Int) = pos n := by
  unfold print
  rw [if_pos ((sane_iff _).2 (by omega)), if_neg (by omega)]
  rfl
theorem print_part (k r : Nat) (h : 1000 * k + r ≤ 9007199254740992) (hr : r < 1000) : print ((1000 * k + r : Nat) : Int) = decDigits k ++ places r := by
  rw [print_pos _ h]
  unfold pos
  rw [show (1000 * k + r) / 1000 = k by omega, show (1000 * k + r) % 1000 = r by omega]
theorem print_whole (k : Nat) (h : 1000 * k ≤ 9007199254740992) : print ((1000 * k : Nat) : Int) = decDigits k := by
  have := print_part k 0 h (by decide)
  rw [show places 0 = [] by rfl, List.append_nil] at this
  exact this
theorem parse_digs {D : Bs} (hD : D.all digit = true) (h0 : D.length ≠ 0) (r : Bs) : parse (D ++ r) = done false (scan (D ++ r) 0 0 0 false) := by
  have := head_digit (r := r) hD h0
  unfold parse mag
  rw [this.1, this.2.1]
theorem done_of {n : Nat} (h : n ≤ most) : done false (some n) = ((n : Int), 0) := by
  unfold done
  simp only
  rw [if_pos h]
  rfl
theorem join0 (n : Nat) (h : 10000 * n ≤ 9007199254740992) : parse (decDigits n ++ [48]) = (((10000 * n : Nat) : Int), 0) := by
  have hd := val_digs n
  rw [parse_digs hd.1 hd.2.2, scan_int _ (by rw [List.all_append, hd.1]; rfl) (by simp), val_app, hd.2.1, val_cons, val_nil, step_is (a := 0) rfl]
  rw [done_of (by unfold most; omega), show (n * 10 + 0) * 1000 = 10000 * n by omega]
theorem join1 (n : Nat) (h : 1000 * n ≤ 9007199254740992) : parse (decDigits n ++ [46, 48, 48, 48]) = (((1000 * n : Nat) : Int), 0) := by
  have hd := val_digs n
  rw [parse_digs hd.1 hd.2.2, scan_frac _ _ hd.1 hd.2.2 (by rfl), if_neg (by decide), hd.2.1, show ([48, 48, 48] : Bs).length = 3 from rfl, val3 n 0 0 0 48 48 48 rfl rfl rfl, done_of (by unfold most; omega), show ((n * 10 + 0) * 10 + 0) * 10 + 0 = 1000 * n by omega]
theorem join2 (n : Nat) : parse (decDigits n ++ [46, 48, 48, 48, 48]) = (0, 1) := by
  have hd := val_digs n
  rw [parse_digs hd.1 hd.2.2, scan_frac _ _ hd.1 hd.2.2 (by rfl), if_pos (by decide)]
  rfl
end Go.Proofs.YtbdochcajpempaaDoor.Num

/- The plain law of num, continued: the reference's reading. -/
namespace Go.Proofs.YtbdochcajpempaaDoor.Num
open Go.Lib (decDigits)

/-- how many digits a list begins with -/
def run : Bs → Nat
  | [] => 0
  | c :: l => if digit c = true then run l + 1 else 0
def noDigit : Bs → Bool
  | [] => true
  | c :: _ => !digit c
theorem run_le (l : Bs) : run l ≤ l.length := by
  induction l with
  | nil => exact Nat.le_refl _
  | cons c l ih =>
    unfold run
    split
    · rw [List.length_cons]; omega
    · exact Nat.zero_le _
theorem run_split (l : Bs) : ∃ D, l = D ++ l.drop (run l) ∧ D.all digit = true ∧ D.length = run l ∧ noDigit (l.drop (run l)) = true := by
  induction l with
  | nil => exact ⟨[], rfl, rfl, rfl, rfl⟩
  | cons c l ih =>
    obtain ⟨D, h1, h2, h3, h4⟩ := ih
    unfold run
    rcases hd : digit c with _ | _
    · rw [if_neg (by decide)]
      exact ⟨[], rfl, rfl, rfl, by simp [noDigit, hd]⟩
    · rw [if_pos rfl, List.drop_succ_cons]
      refine ⟨c :: D, ?_, ?_, ?_, h4⟩
      · rw [List.cons_append, ← h1]
      · rw [List.all_cons, hd, h2]; rfl
      · rw [List.length_cons, h3]
theorem scan_bad (c : UInt8) (r : Bs) (v w p : Nat) (pt : Bool) (hc : digit c = false) (h : c ≠ 46 ∨ pt = true ∨ w = 0) : scan (c :: r) v w p pt = none := by
  unfold scan
  rw [if_neg, if_neg (by rw [hc]; decide)]
  rintro ⟨h1, h2, h3⟩
  rcases h with h | h | h
  · exact h h1
  · rw [h] at h2; cases h2
  · omega
theorem scan_tail_bad (t : Bs) (v w : Nat) (h : ¬ (1 ≤ run t ∧ run t ≤ 3) ∨ t.drop (run t) ≠ []) : scan t v w 0 true = none := by
  obtain ⟨E, h1, h2, h3, h4⟩ := run_split t
  rw [h1, scan_places _ _ h2]
  rcases hr : t.drop (run t) with _ | ⟨c, r⟩
  · rw [hr] at h
    have h' : ¬ (1 ≤ run t ∧ run t ≤ 3) := h.elim id (fun h => absurd rfl h)
    unfold scan fin
    rw [if_pos]
    by_cases h0 : run t = 0
    · exact .inr (.inr ⟨rfl, by omega⟩)
    · exact .inr (.inl (by omega))
  · rw [hr] at h4
    exact scan_bad c r _ _ _ _ (by simpa [noDigit] using h4) (.inr (.inl rfl))
/-- digits, a point, and what may not stand behind one -/
theorem ref_bad {l t : Bs} (hl : l.drop (run l) = 46 :: t) (h : ¬ (1 ≤ run t ∧ run t ≤ 3) ∨ t.drop (run t) ≠ [] ∨ run l = 0) : scan l 0 0 0 false = none := by
  obtain ⟨D, h1, h2, h3, h4⟩ := run_split l
  rw [h1, hl, scan_whole _ _ h2]
  by_cases h0 : run l = 0
  · exact scan_bad 46 t _ _ _ _ (by decide) (.inr (.inr (by omega)))
  · rw [scan_point _ _ _ _ (by omega)]
    exact scan_tail_bad t _ _ (by rcases h with h | h | h
                                  · exact .inl h
                                  · exact .inr h
                                  · exact absurd h h0)
theorem ref_bad2 {l : Bs} (hl : ∀ t, l.drop (run l) ≠ 46 :: t) (h : run l = 0 ∨ l.drop (run l) ≠ []) : scan l 0 0 0 false = none := by
  obtain ⟨D, h1, h2, h3, h4⟩ := run_split l
  rw [h1, scan_whole _ _ h2]
  rcases hr : l.drop (run l) with _ | ⟨c, r⟩
  · rw [hr] at h
    have h0 : run l = 0 := h.elim id (fun h => absurd rfl h)
    unfold scan fin
    rw [if_pos (.inl (by omega))]
  · rw [hr] at h4
    exact scan_bad c r _ _ _ _ (by simpa [noDigit] using h4) (.inl (by rintro rfl; exact hl r hr))
/-- what the reference adds up -/
def sum : Nat → Bs → Nat
  | v, [] => v
  | v, c :: l => if c = 46 then sum v l else sum (step v c) l
def plain (l : Bs) : Bool := l.all (fun c => digit c || c == 46)
theorem sum_digits (D r : Bs) (hD : D.all digit = true) : ∀ v, sum v (D ++ r) = sum (val v D) r := by
  induction D with
  | nil => intro v; rw [val_nil]; rfl
  | cons c D ih =>
    intro v
    simp only [List.all_cons, Bool.and_eq_true] at hD
    conv => lhs; rw [List.cons_append]; unfold sum
    rw [if_neg (not_point hD.1).1, ih hD.2, val_cons]
theorem plain_digits {D : Bs} (hD : D.all digit = true) : plain D = true := by
  unfold plain
  rw [List.all_eq_true] at hD ⊢
  intro c hc
  rw [hD c hc]
  rfl
theorem plain_app {a b : Bs} (ha : plain a = true) (hb : plain b = true) : plain (a ++ b) = true := by
  unfold plain at *
  rw [List.all_append, ha, hb]
  rfl
theorem ref_good {l t : Bs} (hl : l.drop (run l) = 46 :: t) (h1 : 1 ≤ run t ∧ run t ≤ 3) (h2 : t.drop (run t) = []) (h3 : run l ≠ 0) :
    scan l 0 0 0 false = some (sum 0 l * 10 ^ (3 - run t)) ∧ plain l = true := by
  obtain ⟨D, a1, a2, a3, _⟩ := run_split l
  obtain ⟨E, b1, b2, b3, _⟩ := run_split t
  rw [h2, List.append_nil] at b1
  subst b1
  rw [hl] at a1
  generalize hk : run t = k at *
  generalize hm : run l = m at *
  subst a1
  refine ⟨?_, plain_app (plain_digits a2) (by
    unfold plain
    rw [List.all_cons, show List.all t (fun c => digit c || c == 46) = true from plain_digits b2]
    rfl)⟩
  rw [scan_frac _ _ a2 (by omega) b2, if_neg (by omega), sum_digits _ _ a2]
  have := sum_digits t [] b2 (val 0 D)
  rw [List.append_nil] at this
  conv => rhs; unfold sum
  rw [if_pos rfl, this, b3]
  rfl
theorem ref_good2 {l : Bs} (h2 : l.drop (run l) = []) (h3 : run l ≠ 0) : scan l 0 0 0 false = some (sum 0 l * 1000) ∧ plain l = true := by
  obtain ⟨D, a1, a2, a3, _⟩ := run_split l
  rw [h2, List.append_nil] at a1
  generalize hm : run l = m at *
  subst a1
  refine ⟨?_, plain_digits a2⟩
  rw [scan_int _ a2 (by omega)]
  have := sum_digits l [] a2 0
  rw [List.append_nil] at this
  rw [this]
  rfl
/-- as it is kept: at most four times the greatest -/
def cap4 (v : Nat) : Nat := min v 36028797018963968
theorem cap4_step (v d : Nat) : cap4 (cap4 v * 10 + d) = cap4 (v * 10 + d) := by unfold cap4; omega
theorem cap4_le (v : Nat) : cap4 v ≤ 36028797018963968 := Nat.min_le_right _ _
theorem cap4_most (v : Nat) : 9007199254740992 < cap4 v ↔ 9007199254740992 < v := by unfold cap4; omega
theorem cap4_small {v : Nat} (h : v ≤ 9007199254740992) : cap4 v = v := by unfold cap4; omega
def cap (v : Nat) : Nat := min v 9007199254740993
theorem cap_step (v d : Nat) : cap (cap v * 10 + d) = cap (v * 10 + d) := by unfold cap; omega
theorem cap_le (v : Nat) : cap v ≤ 9007199254740993 := Nat.min_le_right _ _
theorem cap_most (v : Nat) : 9007199254740992 < cap v ↔ 9007199254740992 < v := by unfold cap; omega
theorem cap_small {v : Nat} (h : v ≤ 9007199254740992) : cap v = v := by unfold cap; omega
/-- at the end: within the bounds, or not -/
theorem done_some (b : Bool) (n : Nat) : done b (some n) = if 9007199254740992 < n then (0, 2) else ((if b = true then -(n : Int) else (n : Int)), 0) := by
  unfold done most
  simp only
  by_cases h : 9007199254740992 < n
  · rw [if_pos h, if_neg (by omega)]
  · rw [if_neg h, if_pos (by omega)]
end Go.Proofs.YtbdochcajpempaaDoor.Num
