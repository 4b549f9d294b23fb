/- The plain law of num: numbers with three places printed and parsed, on lists of octets. -/
import Derived.Lib.ItoaNum
namespace Go.Proofs.YtnallbhckeoldaaDoor.Num
open Go.Lib (decDigits)

abbrev Bs := List UInt8
def digit (c : UInt8) : Bool := decide (48 ≤ c) && decide (c ≤ 57)
def step (v : Nat) (c : UInt8) : Nat := v * 10 + (c.toNat - 48)
def val (v : Nat) (l : Bs) : Nat := l.foldl step v
theorem val_nil (v : Nat) : val v [] = v := List.foldl_nil
theorem val_cons (v : Nat) (c : UInt8) (l : Bs) : val v (c :: l) = val (step v c) l := List.foldl_cons
theorem val_app (a b : Bs) (v : Nat) : val v (a ++ b) = val (val v a) b := List.foldl_append
theorem step_is {v : Nat} {c : UInt8} {a : Nat} (h : c.toNat = 48 + a) : step v c = v * 10 + a := by unfold step; rw [h, Nat.add_sub_cancel_left]
/-- a number's end: its digits, how many ahead of the point and behind it, and whether there was one -/
def fin (v w p : Nat) (pt : Bool) : Option Nat := if w = 0 ∨ 3 < p ∨ (pt = true ∧ p = 0) then none else some (v * 10 ^ (3 - p))
def scan : Bs → Nat → Nat → Nat → Bool → Option Nat
  | [], v, w, p, pt => fin v w p pt
  | c :: l, v, w, p, pt =>
    if c = 46 ∧ pt = false ∧ 0 < w then scan l v w p true
    else if digit c = true then (if pt = true then scan l (step v c) w (p + 1) pt else scan l (step v c) (w + 1) p pt)
    else none
def neg : Bs → Bool
  | 45 :: _ => true
  | _ => false
def strip : Bs → Bs
  | 45 :: l => l
  | l => l
def most : Nat := 9007199254740992
def mag (s : Bs) : Option Nat := scan (strip s) 0 0 0 false
def done (b : Bool) : Option Nat → Int × Int
  | none => (0, 1)
  | some n => if n ≤ most then ((if b = true then -(n : Int) else (n : Int)), 0) else (0, 2)
def parse (s : Bs) : Int × Int := done (neg s) (mag s)
def sane (v : Int) : Bool := decide (-9007199254740992 ≤ v) && decide (v ≤ 9007199254740992)
def oneDigit (d : Nat) : UInt8 := UInt8.ofNat (48 + d)
/-- the places of a rest below 1000, no zeros behind -/
def places (r : Nat) : Bs :=
  if r = 0 then [] else
  46 :: oneDigit (r / 100) :: (if r % 100 = 0 then [] else oneDigit (r / 10 % 10) :: (if r % 10 = 0 then [] else [oneDigit (r % 10)]))
def pos (n : Nat) : Bs := decDigits (n / 1000) ++ places (n % 1000)
def print (v : Int) : Bs := if sane v = true then (if v < 0 then 45 :: pos v.natAbs else pos v.natAbs) else []

theorem dig_facts (k : Nat) (h : k < 10) : digit (oneDigit k) = true ∧ (oneDigit k).toNat = 48 + k := by
  have : ∀ k : Fin 10, digit (oneDigit k.val) = true ∧ (oneDigit k.val).toNat = 48 + k.val := by decide
  exact this ⟨k, h⟩
theorem not_point {c : UInt8} (h : digit c = true) : c ≠ 46 ∧ c ≠ 45 := by
  constructor <;> (rintro rfl; exact absurd h (by decide))
/-- digits ahead of the point -/
theorem scan_whole (D r : Bs) (hD : D.all digit = true) : ∀ v w p, scan (D ++ r) v w p false = scan r (val v D) (w + D.length) p false := by
  induction D with
  | nil => intro v w p; rw [val_nil]; rfl
  | cons c D ih =>
    intro v w p
    simp only [List.all_cons, Bool.and_eq_true] at hD
    conv => lhs; rw [List.cons_append]; unfold scan
    rw [if_neg (fun h => (not_point hD.1).1 h.1), if_pos hD.1, if_neg (by decide), ih hD.2]
    rw [List.length_cons, show w + 1 + D.length = w + (D.length + 1) by omega, val_cons]
/-- digits behind the point -/
theorem scan_places (D r : Bs) (hD : D.all digit = true) : ∀ v w p, scan (D ++ r) v w p true = scan r (val v D) w (p + D.length) true := by
  induction D with
  | nil => intro v w p; rw [val_nil]; rfl
  | cons c D ih =>
    intro v w p
    simp only [List.all_cons, Bool.and_eq_true] at hD
    conv => lhs; rw [List.cons_append]; unfold scan
    rw [if_neg (fun h => (not_point hD.1).1 h.1), if_pos hD.1, if_pos rfl, ih hD.2]
    rw [List.length_cons, show p + 1 + D.length = p + (D.length + 1) by omega, val_cons]
theorem scan_point (r : Bs) (v w p : Nat) (hw : 0 < w) : scan (46 :: r) v w p false = scan r v w p true := by
  conv => lhs; unfold scan
  rw [if_pos ⟨rfl, rfl, hw⟩]
/-- what is parsed behind the point -/
theorem scan_places_inv (l : Bs) : ∀ v w p n, scan l v w p true = some n → l.all digit = true ∧ w ≠ 0 ∧ p + l.length ≤ 3 ∧ p + l.length ≠ 0 ∧ n = val v l * 10 ^ (3 - (p + l.length)) := by
  induction l with
  | nil =>
    intro v w p n h
    unfold scan fin at h
    split at h
    · cases h
    · rename_i hc
      injection h with h
      refine ⟨rfl, fun h => hc (.inl h), ?_, ?_, ?_⟩
      · exact Nat.le_of_not_lt (fun h => hc (.inr (.inl h)))
      · exact fun h => hc (.inr (.inr ⟨rfl, h⟩))
      · rw [← h, val_nil]; rfl
  | cons c l ih =>
    intro v w p n h
    unfold scan at h
    rw [if_neg (fun h => by cases h.2.1)] at h
    split at h
    · rename_i hd
      rw [if_pos rfl] at h
      obtain ⟨h1, h2, h3, h4, h5⟩ := ih _ _ _ _ h
      refine ⟨?_, h2, ?_, ?_, ?_⟩
      · rw [List.all_cons, hd, h1]; rfl
      · rw [List.length_cons]; omega
      · rw [List.length_cons]; omega
      · rw [h5, List.length_cons, show p + 1 + l.length = p + (l.length + 1) by omega, val_cons]
    · cases h
/-- what is parsed: digits, and perhaps a point and one to three more -/
theorem scan_inv (l : Bs) : ∀ v w n, scan l v w 0 false = some n → ∃ D E : Bs, D.all digit = true ∧ E.all digit = true ∧ w + D.length ≠ 0 ∧ E.length ≤ 3 ∧ n = val (val v D) E * 10 ^ (3 - E.length) ∧
    ((E = [] ∧ l = D) ∨ (E ≠ [] ∧ l = D ++ 46 :: E)) := by
  induction l with
  | nil =>
    intro v w n h
    unfold scan fin at h
    split at h
    · cases h
    · rename_i hc
      injection h with h
      exact ⟨[], [], rfl, rfl, fun h => hc (.inl h), by decide, by rw [← h, val_nil, val_nil]; rfl, .inl ⟨rfl, rfl⟩⟩
  | cons c l ih =>
    intro v w n h
    unfold scan at h
    split at h
    · rename_i hc
      obtain ⟨rfl, _, hw⟩ := hc
      obtain ⟨h1, h2, h3, h4, h5⟩ := scan_places_inv l _ _ _ _ h
      refine ⟨[], l, rfl, h1, by simpa using h2, by omega, ?_, .inr ⟨?_, rfl⟩⟩
      · rw [h5, Nat.zero_add, val_nil]
      · rintro rfl
        exact h4 rfl
    · split at h
      · rename_i hd
        rw [if_neg (by decide)] at h
        obtain ⟨D, E, h1, h2, h3, h4, h5, h6⟩ := ih _ _ _ h
        refine ⟨c :: D, E, by rw [List.all_cons, hd, h1]; rfl, h2, by rw [List.length_cons]; omega, h4, by rw [h5, val_cons], ?_⟩
        rcases h6 with ⟨a, b⟩ | ⟨a, b⟩
        · exact .inl ⟨a, by rw [b]⟩
        · exact .inr ⟨a, by rw [b]; rfl⟩
      · cases h
theorem val_one (c : UInt8) (n : Nat) (hd : digit c = true ∧ c.toNat = 48 + n) : ([c] : Bs).all digit = true ∧ val 0 [c] = n ∧ ([c] : Bs).length ≠ 0 := by
  refine ⟨by rw [List.all_cons, hd.1]; rfl, ?_, by simp⟩
  rw [val_cons, val_nil, step_is hd.2]
  omega
theorem val_more (D : Bs) (c : UInt8) (m n : Nat) (hD : D.all digit = true ∧ val 0 D = m) (hd : digit c = true ∧ c.toNat = 48 + n) : (D ++ [c]).all digit = true ∧ val 0 (D ++ [c]) = m * 10 + n ∧ (D ++ [c]).length ≠ 0 := by
  refine ⟨by rw [List.all_append, List.all_cons, hD.1, hd.1]; rfl, ?_, by simp⟩
  rw [val_app, hD.2, val_cons, val_nil, step_is hd.2]
theorem val_digs (n : Nat) : (decDigits n).all digit = true ∧ val 0 (decDigits n) = n ∧ (decDigits n).length ≠ 0 := by
  induction n using Nat.strongRecOn with
  | _ n ih =>
    by_cases h : n < 10
    · rw [Lib.decDigits_one h]
      exact val_one _ n (dig_facts n h)
    · have hi := ih (n / 10) (by omega)
      have e : decDigits n = decDigits (n / 10) ++ [oneDigit (n % 10)] := by rw [decDigits, dif_neg h]; rfl
      rw [e]
      have := val_more _ (oneDigit (n % 10)) (n / 10) (n % 10) ⟨hi.1, hi.2.1⟩ (dig_facts (n % 10) (Nat.mod_lt _ (by decide)))
      refine ⟨this.1, ?_, this.2.2⟩
      rw [this.2.1]
      omega
/-- the places of a rest below 1000, as digits, and what they are worth -/
def tail (r : Nat) : Bs := if r = 0 then [] else oneDigit (r / 100) :: (if r % 100 = 0 then [] else oneDigit (r / 10 % 10) :: (if r % 10 = 0 then [] else [oneDigit (r % 10)]))
theorem places_tail (r : Nat) : places r = if r = 0 then [] else 46 :: tail r := by
  unfold places tail
  split <;> rfl
theorem tail0 : tail 0 = [] := rfl
theorem tail1 {r : Nat} (h0 : r ≠ 0) (h1 : r % 100 = 0) : tail r = [oneDigit (r / 100)] := by
  unfold tail
  rw [if_neg h0, if_pos h1]
theorem tail2 {r : Nat} (h1 : r % 100 ≠ 0) (h2 : r % 10 = 0) : tail r = [oneDigit (r / 100), oneDigit (r / 10 % 10)] := by
  unfold tail
  rw [if_neg (by rintro rfl; exact h1 rfl), if_neg h1, if_pos h2]
theorem tail3 {r : Nat} (h2 : r % 10 ≠ 0) : tail r = [oneDigit (r / 100), oneDigit (r / 10 % 10), oneDigit (r % 10)] := by
  unfold tail
  rw [if_neg (by rintro rfl; exact h2 rfl), if_neg (by omega), if_neg h2]
theorem val1 (q a : Nat) (c : UInt8) (h : c.toNat = 48 + a) : val q [c] * 10 ^ (3 - 1) = (q * 10 + a) * 100 := by
  rw [val_cons, val_nil, step_is h]
theorem val2 (q a b : Nat) (c d : UInt8) (h : c.toNat = 48 + a) (h2 : d.toNat = 48 + b) : val q [c, d] * 10 ^ (3 - 2) = ((q * 10 + a) * 10 + b) * 10 := by
  rw [val_cons, val_cons, val_nil, step_is h, step_is h2]
theorem val3 (q a b x : Nat) (c d e : UInt8) (h : c.toNat = 48 + a) (h2 : d.toNat = 48 + b) (h3 : e.toNat = 48 + x) : val q [c, d, e] * 10 ^ (3 - 3) = ((q * 10 + a) * 10 + b) * 10 + x := by
  rw [val_cons, val_cons, val_cons, val_nil, step_is h, step_is h2, step_is h3, Nat.sub_self, Nat.pow_zero, Nat.mul_one]
theorem tail_facts (r : Nat) (h : r < 1000) : (tail r).all digit = true ∧ (tail r).length ≤ 3 ∧ (r ≠ 0 → (tail r).length ≠ 0) ∧ ∀ q, val q (tail r) * 10 ^ (3 - (tail r).length) = q * 1000 + r := by
  have h1 := dig_facts (r / 100) (by omega)
  have h2 := dig_facts (r / 10 % 10) (by omega)
  have h3 := dig_facts (r % 10) (by omega)
  by_cases r0 : r = 0
  · rw [r0, tail0]
    exact ⟨rfl, by decide, fun h => (h rfl).elim, fun q => by rw [List.length_nil, val_nil, show (10 : Nat) ^ (3 - 0) = 1000 by decide, Nat.add_zero]⟩
  · by_cases r1 : r % 100 = 0
    · rw [tail1 r0 r1]
      generalize oneDigit (r / 100) = c at h1 ⊢
      refine ⟨by rw [List.all_cons, h1.1]; rfl, by simp, by simp, fun q => ?_⟩
      rw [show ([c] : Bs).length = 1 by rfl, val1 q _ c h1.2]
      omega
    · by_cases r2 : r % 10 = 0
      · rw [tail2 r1 r2]
        generalize oneDigit (r / 100) = c at h1 ⊢
        generalize oneDigit (r / 10 % 10) = d at h2 ⊢
        refine ⟨by rw [List.all_cons, List.all_cons, h1.1, h2.1]; rfl, by simp, by simp, fun q => ?_⟩
        rw [show ([c, d] : Bs).length = 2 by rfl, val2 q _ _ c d h1.2 h2.2]
        omega
      · rw [tail3 r2]
        generalize oneDigit (r / 100) = c at h1 ⊢
        generalize oneDigit (r / 10 % 10) = d at h2 ⊢
        generalize oneDigit (r % 10) = e at h3 ⊢
        refine ⟨by rw [List.all_cons, List.all_cons, List.all_cons, h1.1, h2.1, h3.1]; rfl, by simp, by simp, fun q => ?_⟩
        rw [show ([c, d, e] : Bs).length = 3 by rfl, val3 q _ _ _ c d e h1.2 h2.2 h3.2]
        omega
/-- digits alone -/
theorem scan_int (D : Bs) (hD : D.all digit = true) (h0 : D.length ≠ 0) : scan D 0 0 0 false = some (val 0 D * 1000) := by
  have := scan_whole D [] hD 0 0 0
  rw [List.append_nil] at this
  rw [this]
  unfold scan fin
  rw [if_neg (by rintro (h | h | h) <;> simp_all)]
/-- digits, a point, digits -/
theorem scan_frac (D E : Bs) (hD : D.all digit = true) (h0 : D.length ≠ 0) (hE : E.all digit = true) : scan (D ++ 46 :: E) 0 0 0 false = if E.length = 0 ∨ 3 < E.length then none else some (val (val 0 D) E * 10 ^ (3 - E.length)) := by
  rw [scan_whole D _ hD, scan_point _ _ _ _ (by omega)]
  have := scan_places E [] hE (val 0 D) (0 + D.length) 0
  rw [List.append_nil] at this
  rw [this]
  unfold scan fin
  by_cases h : E.length = 0 ∨ 3 < E.length
  · rw [if_pos h, if_pos]
    rcases h with h | h
    · exact .inr (.inr ⟨rfl, by omega⟩)
    · exact .inr (.inl (by omega))
  · rw [if_neg h, if_neg, Nat.zero_add]
    rintro (h' | h' | h')
    · omega
    · exact h (.inr (by omega))
    · exact h (.inl (by omega))
theorem scan_pos (n : Nat) : scan (pos n) 0 0 0 false = some n := by
  have hd := val_digs (n / 1000)
  have ht := tail_facts (n % 1000) (Nat.mod_lt _ (by decide))
  have hn := Nat.div_add_mod n 1000
  unfold pos
  rw [places_tail]
  by_cases h0 : n % 1000 = 0
  · rw [if_pos h0, List.append_nil, scan_int _ hd.1 hd.2.2, hd.2.1]
    congr 1
    omega
  · rw [if_neg h0, scan_frac _ _ hd.1 hd.2.2 ht.1, if_neg (fun h => h.elim (ht.2.2.1 h0) (fun h => by omega)), hd.2.1, ht.2.2.2]
    congr 1
    omega
theorem head_digit {l : Bs} {r : Bs} (h : l.all digit = true) (h0 : l.length ≠ 0) : neg (l ++ r) = false ∧ strip (l ++ r) = l ++ r ∧ l ++ r ≠ [] := by
  cases l with
  | nil => exact absurd rfl h0
  | cons c l =>
    simp only [List.all_cons, Bool.and_eq_true] at h
    have := (not_point h.1).2
    refine ⟨?_, ?_, by simp⟩
    · unfold neg
      split
      · rename_i hh
        injection hh with h1 h2
        exact absurd h1 this
      · rfl
    · unfold strip
      split
      · rename_i hh
        injection hh with h1 h2
        exact absurd h1 this
      · rfl
theorem pos_head (n : Nat) : neg (pos n) = false ∧ strip (pos n) = pos n ∧ pos n ≠ [] := by
  have hd := val_digs (n / 1000)
  exact head_digit hd.1 hd.2.2
theorem sane_iff (v : Int) : sane v = true ↔ -9007199254740992 ≤ v ∧ v ≤ 9007199254740992 := by simp [sane]
/-- what is printed is parsed -/
theorem back (v : Int) (h : sane v = true) : parse (print v) = (v, 0) ∧ print v ≠ [] := by
  have hb := (sane_iff v).1 h
  have hp := pos_head v.natAbs
  unfold print
  rw [if_pos h]
  by_cases hn : v < 0
  · rw [if_pos hn]
    refine ⟨?_, by simp⟩
    show done true (scan (pos v.natAbs) 0 0 0 false) = _
    rw [scan_pos]
    unfold done
    simp only
    rw [if_pos (by unfold most; omega)]
    refine Prod.ext ?_ rfl
    show -((v.natAbs : Nat) : Int) = v
    omega
  · rw [if_neg hn]
    refine ⟨?_, hp.2.2⟩
    unfold parse mag
    rw [hp.1, hp.2.1, scan_pos]
    unfold done
    simp only
    rw [if_pos (by unfold most; omega), if_neg (by decide)]
    refine Prod.ext ?_ rfl
    show ((v.natAbs : Nat) : Int) = v
    omega
theorem back_none (v : Int) (h : sane v = false) : print v = [] ∧ parse [] = (0, 1) := by
  refine ⟨?_, by rfl⟩
  unfold print
  rw [h]
  rfl
theorem parse_facts (s : Bs) : ((parse s).2 = 0 ∧ sane (parse s).1 = true) ∨ ((parse s).1 = 0 ∧ ((parse s).2 = 1 ∨ (parse s).2 = 2)) := by
  unfold parse done
  split
  · exact .inr ⟨rfl, .inl rfl⟩
  · split
    · rename_i n h
      refine .inl ⟨rfl, (sane_iff _).2 ?_⟩
      unfold most at h
      simp only
      split <;> omega
    · exact .inr ⟨rfl, .inr rfl⟩
end Go.Proofs.YtnallbhckeoldaaDoor.Num
