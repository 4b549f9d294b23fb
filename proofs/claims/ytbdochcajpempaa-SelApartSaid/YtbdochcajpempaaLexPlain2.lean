/- The plain law of lex, continued: one token, printed and read. -/
import Derived.Test.YtbdochcajpempaaLexPlain
namespace Go.Proofs.Ytbdochcajpempaa.Lex

def isSign (s : Bs) : Bool := [[61, 61], [33, 61], [60, 61], [62, 61], [123], [125], [40], [41], [44], [58], [59], [61], [60], [62]].contains s
/-- may it be a token? -/
def good (k : Nat) (s : Bs) : Prop :=
  (k = 1 ∧ ∃ c l, s = c :: l ∧ letter c = true ∧ l.all (goes false) = true) ∨
  (k = 2 ∧ ∃ c l, s = c :: l ∧ letter c = false ∧ (digit c || (c == 45 && firstIs digit l)) = true ∧ l.all (goes true) = true) ∨
  k = 3 ∨ (k = 4 ∧ isSign s = true)
def quoteIn : Bs → Bs
  | [] => []
  | c :: l => if c = 92 ∨ c = 34 then 92 :: c :: quoteIn l else if c = 10 then 92 :: 110 :: quoteIn l else c :: quoteIn l
def quote (s : Bs) : Bs := 34 :: (quoteIn s ++ [34])
def tokText (k : Nat) (s : Bs) : Bs := if k = 3 then quote s else s
/-- what may stand behind a token: nothing, white, a remark -/
def ends (r : Bs) : Prop := firstIs (fun c => !(white c || c == 35)) r = false

theorem take_ends {p : UInt8 → Bool} (hp : ∀ c, (white c || c == 35) = true → p c = false) {l r : Bs} (hl : l.all p = true) (hr : ends r) : (l ++ r).takeWhile p = l ∧ (l ++ r).dropWhile p = r := by
  induction l with
  | nil =>
    cases r with
    | nil => exact ⟨rfl, rfl⟩
    | cons c r =>
      have : p c = false := hp c (by unfold ends firstIs at hr; simpa only [Bool.not_eq_false'] using hr)
      simp [this]
  | cons c l ih =>
    simp only [List.all_cons, Bool.and_eq_true] at hl
    simp only [List.cons_append]
    rw [List.takeWhile_cons_of_pos hl.1, List.dropWhile_cons_of_pos hl.1, (ih hl.2).1, (ih hl.2).2]
    exact ⟨rfl, rfl⟩
theorem nat_eq {c : UInt8} {n : Nat} (hn : n < 256) : (c == UInt8.ofNat n) = decide (c.toNat = n) := by
  rw [Bool.eq_iff_iff]
  simp only [beq_iff_eq, decide_eq_true_eq, ← UInt8.toNat_inj, UInt8.toNat_ofNat']
  omega
theorem goes_white (b : Bool) (c : UInt8) (h : (white c || c == 35) = true) : goes b c = false := by
  simp only [white, Bool.or_eq_true, beq_iff_eq] at h
  rcases h with (((h | h) | h) | h) | h <;> subst h <;> cases b <;> decide
theorem text_quote (s r : Bs) (i : Nat) : text (quoteIn s ++ 34 :: r) i = .ok (s, r) := by
  induction s generalizing i with
  | nil =>
    show text (34 :: r) i = _
    unfold text
    rw [if_pos rfl]
  | cons c s ih =>
    unfold quoteIn
    by_cases h1 : c = 92 ∨ c = 34
    · rw [if_pos h1]
      simp only [List.cons_append]
      unfold text
      rw [if_neg (by decide), if_neg (by decide), if_pos rfl]
      simp only [h1, if_true, ih, Except.map]
    · rw [if_neg h1]
      by_cases h2 : c = 10
      · rw [if_pos h2]
        simp only [List.cons_append]
        unfold text
        rw [if_neg (by decide), if_neg (by decide), if_pos rfl]
        subst h2
        simp only [show ¬ ((110 : UInt8) = 92 ∨ (110 : UInt8) = 34) by decide, if_false, if_true, ih, Except.map]
      · rw [if_neg h2]
        simp only [List.cons_append]
        unfold text
        rw [if_neg (fun h => h1 (.inr h)), if_neg h2, if_neg (fun h => h1 (.inl h)), ih]
        rfl
end Go.Proofs.Ytbdochcajpempaa.Lex
