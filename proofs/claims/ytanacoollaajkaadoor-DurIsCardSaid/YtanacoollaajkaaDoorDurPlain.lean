/- The plain law of dur: durations printed and parsed, on lists of octets. -/
import Derived.Lib.ItoaNum
namespace Go.Proofs.YtanacoollaajkaaDoor.Dur
open Go.Lib (decDigits)

abbrev Bs := List UInt8
def digit (c : UInt8) : Bool := decide (48 ≤ c) && decide (c ≤ 57)
/-- a number's value and what is left behind it -/
def num : Nat → Bs → Nat × Bs
  | v, [] => (v, [])
  | v, c :: l => if digit c then num (v * 10 + (c.toNat - 48)) l else (v, c :: l)
def starts : Bs → Bool
  | [] => false
  | c :: _ => digit c
def lets : Nat → Bs
  | 0 => [100]
  | 1 => [104]
  | 2 => [109]
  | 3 => [115]
  | _ => [109, 115]
def size : Nat → Nat
  | 0 => 86400000
  | 1 => 3600000
  | 2 => 60000
  | 3 => 1000
  | _ => 1
/-- which unit a text begins with -/
def unitOf : Bs → Option Nat
  | 109 :: 115 :: _ => some 4
  | c :: _ => if c = 100 then some 0 else if c = 104 then some 1 else if c = 109 then some 2 else if c = 115 then some 3 else none
  | [] => none
/-- what a text's parts are together, from a unit on -/
def sumOf : Nat → Bs → Nat → Option Nat
  | 0, _, _ => none
  | f + 1, s, a =>
    if starts s then
      match unitOf (num 0 s).2 with
      | none => none
      | some k => if k < a then none else
        if (num 0 s).2.drop (lets k).length = [] then some ((num 0 s).1 * size k)
        else (sumOf f ((num 0 s).2.drop (lets k).length) (k + 1)).map (fun v => (num 0 s).1 * size k + v)
    else none
def most : Nat := 9007199254740992
def parse (s : Bs) : Int × Int :=
  match sumOf 6 s 0 with
  | none => (0, 1)
  | some v => if v ≤ most then ((v : Int), 0) else (0, 2)
/-- a duration's parts from a unit on, as so many units are left -/
def parts : Nat → Nat → Bs
  | 0, _ => []
  | m + 1, d => (if 0 < d / size (4 - m) then decDigits (d / size (4 - m)) ++ lets (4 - m) else []) ++ parts m (d % size (4 - m))
def sane (d : Int) : Bool := decide (0 ≤ d) && decide (d ≤ 9007199254740992)
def print (d : Int) : Bs := if sane d then (if d = 0 then [48, 115] else parts 5 d.toNat) else []

theorem num_app (l r : Bs) (hr : starts r = false) (hl : l.all digit = true) : ∀ v, num v (l ++ r) = ((num v l).1, r) := by
  induction l with
  | nil =>
    intro v
    cases r with
    | nil => rfl
    | cons c r =>
      have : digit c = false := hr
      simp [num, this]
  | cons c l ih =>
    intro v
    simp only [List.all_cons, Bool.and_eq_true] at hl
    simp only [List.cons_append, num, hl.1, if_true]
    exact ih hl.2 _
theorem num_snoc (l : Bs) (c : UInt8) (hl : l.all digit = true) (hc : digit c = true) : ∀ v, (num v (l ++ [c])).1 = (num v l).1 * 10 + (c.toNat - 48) := by
  induction l with
  | nil => intro v; simp [num, hc]
  | cons d l ih =>
    intro v
    simp only [List.all_cons, Bool.and_eq_true] at hl
    simp only [List.cons_append, num, hl.1, if_true]
    exact ih hl.2 _
theorem dig_facts (k : Nat) (h : k < 10) : digit (UInt8.ofNat (48 + k)) = true ∧ (UInt8.ofNat (48 + k)).toNat = 48 + k := by
  have : ∀ k : Fin 10, digit (UInt8.ofNat (48 + k.val)) = true ∧ (UInt8.ofNat (48 + k.val)).toNat = 48 + k.val := by decide
  exact this ⟨k, h⟩
theorem digs_all (n : Nat) : (decDigits n).all digit = true ∧ (num 0 (decDigits n)).1 = n ∧ starts (decDigits n) = true := by
  induction n using Nat.strongRecOn with
  | _ n ih =>
    unfold decDigits
    split
    · rename_i h
      have := dig_facts n h
      refine ⟨by simp only [List.all_cons, List.all_nil, this.1, Bool.and_true], ?_, this.1⟩
      simp only [num, this.1, if_true, this.2]
      omega
    · rename_i h
      have hi := ih (n / 10) (by omega)
      have hd := dig_facts (n % 10) (Nat.mod_lt _ (by decide))
      refine ⟨by simp only [List.all_append, List.all_cons, List.all_nil, hi.1, hd.1, Bool.and_true], ?_, ?_⟩
      · rw [num_snoc _ _ hi.1 hd.1, hi.2.1, hd.2]
        omega
      · cases hq : decDigits (n / 10) with
        | nil => rw [hq] at hi; exact absurd hi.2.2 (by decide)
        | cons c l =>
          rw [hq] at hi
          exact hi.2.2
theorem starts_app {l r : Bs} (h : starts l = true) : starts (l ++ r) = true := by
  cases l with
  | nil => cases h
  | cons c l => exact h
theorem num_digs (n : Nat) {r : Bs} (hr : starts r = false) : num 0 (decDigits n ++ r) = (n, r) := by
  have h := digs_all n
  rw [num_app _ _ hr h.1, h.2.1]
theorem starts_lets (k : Nat) (r : Bs) : starts (lets k ++ r) = false := by
  unfold lets
  split <;> rfl
theorem unit_lets (k : Nat) (hk : k < 5) (r : Bs) (hr : r = [] ∨ starts r = true) : unitOf (lets k ++ r) = some k := by
  have h2 : ∀ r : Bs, (r = [] ∨ starts r = true) → unitOf (109 :: r) = some 2 := by
    intro r hr
    cases r with
    | nil => rfl
    | cons c r =>
      have hc : c ≠ 115 := by
        rintro rfl
        rcases hr with h | h
        · cases h
        · exact absurd (show digit 115 = true from h) (by decide)
      unfold unitOf
      split
      · rename_i h
        injection h with h1 h2
        injection h2 with h2 h3
        exact absurd h2 hc
      · rename_i h
        injection h with h1 h2
        subst h1
        rfl
      · rename_i h; cases h
  rcases k with _ | _ | _ | _ | _ | k
  · rfl
  · rfl
  · exact h2 r hr
  · rfl
  · rfl
  · omega
theorem drop_lets (k : Nat) (r : Bs) : (lets k ++ r).drop (lets k).length = r := List.drop_left
/-- one part more -/
theorem sum_part (f n k a : Nat) (r : Bs) (hk : k < 5) (ha : a ≤ k) (hr : r = [] ∨ starts r = true) :
    sumOf (f + 1) (decDigits n ++ (lets k ++ r)) a = if r = [] then some (n * size k) else (sumOf f r (k + 1)).map (fun v => n * size k + v) := by
  conv => lhs; unfold sumOf
  rw [if_pos (starts_app (digs_all n).2.2), num_digs n (starts_lets k r)]
  simp only [unit_lets k hk r hr, drop_lets]
  rw [if_neg (by omega)]
theorem sum_low (f n k a : Nat) (r : Bs) (hk : k < 5) (ha : k < a) (hr : r = [] ∨ starts r = true) : sumOf (f + 1) (decDigits n ++ (lets k ++ r)) a = none := by
  conv => lhs; unfold sumOf
  rw [if_pos (starts_app (digs_all n).2.2), num_digs n (starts_lets k r)]
  simp only [unit_lets k hk r hr]
  rw [if_pos ha]
theorem parts_zero (m : Nat) : parts m 0 = [] := by
  induction m with
  | zero => rfl
  | succ m ih =>
    unfold parts
    rw [Nat.zero_div, if_neg (by decide), Nat.zero_mod, ih]
    rfl
theorem parts_starts (m d : Nat) : parts m d = [] ∨ starts (parts m d) = true := by
  induction m generalizing d with
  | zero => exact .inl rfl
  | succ m ih =>
    unfold parts
    split
    · right
      rw [List.append_assoc]
      exact starts_app (digs_all _).2.2
    · exact ih _
theorem sum_nil (f a : Nat) : sumOf f [] a = none := by
  cases f with
  | zero => rfl
  | succ f => unfold sumOf; rfl
theorem size_pos (k : Nat) : 0 < size k := by
  unfold size
  split <;> decide
/-- what is printed is parsed -/
theorem sum_parts (m : Nat) : ∀ (d f a : Nat), m ≤ 5 → 0 < d → (m = 0 → False) → a + m ≤ 5 → m < f → sumOf f (parts m d) a = some d := by
  induction m with
  | zero => intro d f a _ _ h; exact (h rfl).elim
  | succ m ih =>
    intro d f a hm hd _ ha hf
    obtain ⟨f, rfl⟩ : ∃ g, f = g + 1 := ⟨f - 1, by omega⟩
    have hz := size_pos (4 - m)
    have hdm := Nat.div_add_mod d (size (4 - m))
    unfold parts
    by_cases hq : 0 < d / size (4 - m)
    · rw [if_pos hq, List.append_assoc, sum_part f _ (4 - m) a _ (by omega) (by omega) (parts_starts _ _)]
      by_cases hr : d % size (4 - m) = 0
      · rw [hr, parts_zero, if_pos rfl]
        rw [hr, Nat.add_zero, Nat.mul_comm] at hdm
        rw [hdm]
      · have hm0 : m ≠ 0 := by
          rintro rfl
          exact hr (Nat.mod_one d)
        have hs := ih (d % size (4 - m)) f (4 - m + 1) (by omega) (by omega) (fun h => hm0 h) (by omega) (by omega)
        have hne : parts m (d % size (4 - m)) ≠ [] := by
          intro h
          rw [h, sum_nil] at hs
          cases hs
        rw [if_neg hne, hs]
        show some (d / size (4 - m) * size (4 - m) + d % size (4 - m)) = some d
        rw [Nat.mul_comm, hdm]
    · rw [if_neg hq, List.nil_append]
      have hlt : d < size (4 - m) := by
        rcases Nat.lt_or_ge d (size (4 - m)) with h | h
        · exact h
        · exact absurd (Nat.div_pos h hz) hq
      have hm0 : m ≠ 0 := by
        rintro rfl
        have : size (4 - 0) = 1 := rfl
        omega
      rw [Nat.mod_eq_of_lt hlt]
      exact ih d (f + 1) a (by omega) hd (fun h => hm0 h) (by omega) (by omega)
theorem back (d : Int) (h : sane d = true) : parse (print d) = (d, 0) ∧ print d ≠ [] := by
  have hs : 0 ≤ d ∧ d ≤ 9007199254740992 := by simpa [sane] using h
  unfold print
  rw [if_pos h]
  by_cases h0 : d = 0
  · subst h0
    refine ⟨?_, by decide⟩
    unfold parse
    rw [if_pos rfl, show sumOf 6 [48, 115] 0 = some 0 by decide]
    rfl
  · rw [if_neg h0]
    have hp := sum_parts 5 d.toNat 6 0 (by omega) (by omega) (by omega) (by omega) (by omega)
    refine ⟨?_, ?_⟩
    · unfold parse
      rw [hp]
      simp only
      rw [if_pos (by unfold most; omega)]
      rw [Int.toNat_of_nonneg hs.1]
    · intro e
      rw [e, sum_nil] at hp
      cases hp
theorem back_none (d : Int) (h : sane d = false) : print d = [] ∧ parse [] = (0, 1) := by
  refine ⟨?_, by rfl⟩
  unfold print
  rw [h]
  rfl
theorem parse_facts (s : Bs) : ((parse s).2 = 0 ∧ sane (parse s).1 = true) ∨ ((parse s).1 = 0 ∧ ((parse s).2 = 1 ∨ (parse s).2 = 2)) := by
  unfold parse
  split
  · exact .inr ⟨rfl, .inl rfl⟩
  · split
    · rename_i v _ h
      exact .inl ⟨rfl, by unfold most at h; simp [sane]; omega⟩
    · exact .inr ⟨rfl, .inr rfl⟩
end Go.Proofs.YtanacoollaajkaaDoor.Dur
