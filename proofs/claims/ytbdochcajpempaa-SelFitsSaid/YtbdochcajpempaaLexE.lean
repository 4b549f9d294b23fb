/- lex's begins: the cases joined. -/
import Derived.Test.YtbdochcajpempaaLexD
namespace Go.Proofs.Ytbdochcajpempaa
open Go.RowKit

namespace Lex
theorem begins_eq (c : UInt8) (l : Bs) (hl : letter c = false) (hn : digit c = false) :
    begins c l = if (c == 45 && firstIs digit l) = true then (2, 0) else if (c == 34) = true then (3, 0) else if (twos.contains c && firstIs (· == 61) l) = true then (4, 2) else if ones.contains c = true then (4, 1) else (0, 0) := by
  unfold begins
  rw [if_neg (by rw [hl]; decide), hn]
  simp only [Bool.false_or]
theorem int_ne {c : UInt8} {n : Nat} (hn : n < 256) (h : (c == UInt8.ofNat n) = false) : ((c.toNat : Int) == (n : Int)) = false := by
  rw [beq_eq_false_iff_ne] at h ⊢
  exact fun e => h ((n_eq c n hn).2 e)
theorem int_eq {c : UInt8} {n : Nat} (hn : n < 256) (h : (c == UInt8.ofNat n) = true) : (c.toNat : Int) = (n : Int) := (n_eq c n hn).1 (eq_of_beq h)
end Lex

theorem begins_any (s : ByteArray) (h0 : 0 < s.size) (w : World) :
    Calls Try.prog 36 #[.string s] w fun e w' => e = .returned (.tuple #[.int .i64 ((Lex.begins s[0] ((Lex.bl s).drop 1)).1 : Nat), .int .i64 ((Lex.begins s[0] ((Lex.bl s).drop 1)).2 : Nat)]) ∧ w = w' := by
  obtain ⟨c, hc⟩ : ∃ c, s[0] = c := ⟨_, rfl⟩
  rw [hc]
  have conv : ∀ (a b : Nat), Lex.begins c ((Lex.bl s).drop 1) = (a, b) → (∀ e w', (e = Ending.returned (.tuple #[.int .i64 (a : Int), .int .i64 (b : Int)]) ∧ w = w') → e = .returned (.tuple #[.int .i64 ((Lex.begins c ((Lex.bl s).drop 1)).1 : Nat), .int .i64 ((Lex.begins c ((Lex.bl s).drop 1)).2 : Nat)]) ∧ w = w') := by
    intro a b h e w' hh
    rw [h]
    exact hh
  rcases hl : Lex.letter c with _ | _
  · rcases hn : Lex.digit c with _ | _
    · have hb := Lex.begins_eq c ((Lex.bl s).drop 1) hl hn
      rcases h45 : (c == 45) with _ | _
      · rw [h45, Bool.false_and, if_neg (by decide)] at hb
        have n45 := Lex.int_ne (n := 45) (by decide) h45
        rcases h34 : (c == 34) with _ | _
        · rw [h34, if_neg (by decide)] at hb
          have n34 := Lex.int_ne (n := 34) (by decide) h34
          rcases htw : Lex.twos.contains c with _ | _
          · rw [htw, Bool.false_and, if_neg (by decide)] at hb
            rcases hon : Lex.ones.contains c with _ | _
            · rw [hon, if_neg (by decide)] at hb
              exact (begins_c0 s c h0 hc hl hn n45 n34 htw hon w).mono (conv 0 0 hb)
            · rw [hon, if_pos rfl] at hb
              exact (begins_c1 s c h0 hc hl hn n45 n34 htw hon w).mono (conv 4 1 hb)
          · rw [htw, Bool.true_and] at hb
            by_cases h1 : 1 < s.size
            · rw [Lex.first_in s _ h1] at hb
              obtain ⟨d, hd⟩ : ∃ d, s[1] = d := ⟨_, rfl⟩
              rw [hd] at hb
              rcases h61 : (d == 61) with _ | _
              · rw [h61, if_neg (by decide)] at hb
                have n61 := Lex.int_ne (n := 61) (by decide) h61
                rcases hon : Lex.ones.contains c with _ | _
                · rw [hon, if_neg (by decide)] at hb
                  exact (begins_b0 s c d h1 hc hd hl hn n45 n34 n61 htw hon w).mono (conv 0 0 hb)
                · rw [hon, if_pos rfl] at hb
                  exact (begins_b1 s c d h1 hc hd hl hn n45 n34 n61 htw hon w).mono (conv 4 1 hb)
              · rw [h61, if_pos rfl] at hb
                exact (begins_two s c d h1 hc hd hl hn n45 n34 (Lex.int_eq (n := 61) (by decide) h61) htw w).mono (conv 4 2 hb)
            · rw [Lex.first_out s _ h1, if_neg (by decide)] at hb
              rcases hon : Lex.ones.contains c with _ | _
              · rw [hon, if_neg (by decide)] at hb
                exact (begins_a0 s c h0 hc h1 hl hn n45 n34 htw hon w).mono (conv 0 0 hb)
              · rw [hon, if_pos rfl] at hb
                exact (begins_a1 s c h0 hc h1 hl hn n45 n34 htw hon w).mono (conv 4 1 hb)
        · rw [h34, if_pos rfl] at hb
          exact (begins_q s c h0 hc hl hn (Lex.int_eq (n := 34) (by decide) h34) w).mono (conv 3 0 hb)
      · rw [h45, Bool.true_and] at hb
        have e45 := Lex.int_eq (n := 45) (by decide) h45
        have c45 : c = 45 := eq_of_beq h45
        have htw : (Lex.bl ⟨#[61, 33, 60, 62]⟩).contains c = false := by rw [c45]; rfl
        have hon : (Lex.bl ⟨#[123, 125, 40, 41, 44, 58, 59, 61, 60, 62]⟩).contains c = false := by rw [c45]; rfl
        have hz : (if (c == 34) = true then (3, 0) else if (Lex.twos.contains c && Lex.firstIs (· == 61) ((Lex.bl s).drop 1)) = true then (4, 2) else if Lex.ones.contains c = true then (4, 1) else (0, 0)) = ((0, 0) : Nat × Nat) := by
          rw [c45]
          rfl
        rw [hz] at hb
        by_cases h1 : 1 < s.size
        · rw [Lex.first_in s _ h1] at hb
          obtain ⟨d, hd⟩ : ∃ d, s[1] = d := ⟨_, rfl⟩
          rw [hd] at hb
          rcases hn1 : Lex.digit d with _ | _
          · rw [hn1, if_neg (by decide)] at hb
            exact (begins_m1 s c d h1 hc hd hl hn e45 hn1 htw hon w).mono (conv 0 0 hb)
          · rw [hn1, if_pos rfl] at hb
            exact (begins_minus s c d h1 hc hd hl hn e45 hn1 w).mono (conv 2 0 hb)
        · rw [Lex.first_out s _ h1, if_neg (by decide)] at hb
          exact (begins_m0 s c h0 hc h1 hl hn e45 htw hon w).mono (conv 0 0 hb)
    · exact (begins_digit s c h0 hc hl hn w).mono (conv 2 0 (by unfold Lex.begins; rw [if_neg (by rw [hl]; decide), if_pos (by rw [hn]; rfl)]))
  · exact (begins_letter s c h0 hc hl w).mono (conv 1 0 (by unfold Lex.begins; rw [if_pos hl]))
end Go.Proofs.Ytbdochcajpempaa
