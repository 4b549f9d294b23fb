/- The walk of lex's run: how far a word or a number goes. -/
import Derived.Test.YtbdochcajpempaaLexB
namespace Go.Proofs.Ytbdochcajpempaa
open Go.RowKit

namespace Lex
/-- the place behind a run -/
def runAt (s : ByteArray) (b : Bool) (i : Nat) : Nat := s.size - (((bl s).drop i).dropWhile (goes b)).length
theorem runAt_end (s : ByteArray) (b : Bool) (i : Nat) (h : s.size ≤ i) : runAt s b i = s.size := by
  unfold runAt
  rw [drop_all s i h]
  rfl
theorem runAt_go (s : ByteArray) (b : Bool) (i : Nat) (h : i < s.size) (hg : goes b s[i] = true) : runAt s b i = runAt s b (i + 1) := by
  unfold runAt
  rw [drop_cons s i h, List.dropWhile_cons_of_pos hg]
theorem runAt_stop (s : ByteArray) (b : Bool) (i : Nat) (h : i < s.size) (hg : goes b s[i] = false) : runAt s b i = i := by
  unfold runAt
  rw [drop_cons s i h, List.dropWhile_cons_of_neg (by rw [hg]; decide), ← drop_cons s i h, List.length_drop, bl_len]
  omega
theorem goes_letter {b : Bool} {c : UInt8} (h : letter c = true) : goes b c = true := by unfold goes; rw [h]; rfl
theorem goes_digit {b : Bool} {c : UInt8} (h : digit c = true) : goes b c = true := by unfold goes; rw [h]; simp
theorem goes_point {b : Bool} {c : UInt8} (h1 : letter c = false) (h2 : digit c = false) : goes b c = (b && c == 46) := by unfold goes; rw [h1, h2]; rfl
end Lex

set_option maxHeartbeats 1000000 in
theorem run_any (s : ByteArray) (b : Bool) (h1 : 1 ≤ s.size) (hs : s.size ≤ 4611686018427387904) (w : World) :
    Calls Try.prog 38 #[.string s, .bool b] w fun e w' => e = .returned (.int .i64 (Lex.runAt s b 1 : Nat)) ∧ w = w' := by
  go_enter Try.func38, Try.ntmps38
  go_wp2
  go_loop [5] (fun j => ∃ k : Nat, 1 ≤ k ∧ k ≤ s.size ∧ j = .int .i64 k ∧ Lex.runAt s b 1 = Lex.runAt s b k) (fun j => s.size - (intOf j).toNat)
  case atStart => exact ⟨1, Nat.le_refl _, h1, rfl, rfl⟩
  case round =>
    obtain ⟨k, hik, hk, rfl, hsk⟩ := hrel
    have HSK := Lib.hid hsk
    clear hsk
    by_cases hlt : k < s.size
    · rcases hl : Lex.letter s[k] with _ | _
      · rcases hd : Lex.digit s[k] with _ | _
        · rcases b with _ | _
          · go_wp2_with (first | (go_at_call 47; refine (letter_any _ _).mono ?_; rintro e w' ⟨rfl, rfl⟩; rw [hl]) | (go_at_call 48; refine (digit_any _ _).mono ?_; rintro e w' ⟨rfl, rfl⟩; rw [hd]))
            go_ret
            exact ⟨ret_int (by rw [HSK.out, Lex.runAt_stop s false k hlt (by rw [Lex.goes_point hl hd]; rfl)]), rfl⟩
          · go_wp2_with (first | (go_at_call 47; refine (letter_any _ _).mono ?_; rintro e w' ⟨rfl, rfl⟩; rw [hl]) | (go_at_call 48; refine (digit_any _ _).mono ?_; rintro e w' ⟨rfl, rfl⟩; rw [hd]))
            · have h46 : (s[k].toNat : Int) = 46 := by first | assumption | exact eq_of_beq (by assumption)
              have c46 : s[k] = 46 := (n_eq s[k] 46 (by decide)).2 h46
              go_round
              case rel => exact ⟨k + 1, by omega, by omega, by go_num, by rw [HSK.out, Lex.runAt_go s true k hlt (by rw [Lex.goes_point hl hd, c46]; rfl)]⟩
              case measure => simp [intOf]; omega
            · have h46 : ¬ (s[k].toNat : Int) = 46 := by first | assumption | exact ne_of_beq_false (by assumption)
              have c46 : (s[k] == 46) = false := by
                rw [beq_eq_false_iff_ne]
                exact fun h => h46 ((n_eq s[k] 46 (by decide)).1 h)
              go_ret
              exact ⟨ret_int (by rw [HSK.out, Lex.runAt_stop s true k hlt (by rw [Lex.goes_point hl hd, c46]; rfl)]), rfl⟩
        · go_wp2_with (first | (go_at_call 47; refine (letter_any _ _).mono ?_; rintro e w' ⟨rfl, rfl⟩; rw [hl]) | (go_at_call 48; refine (digit_any _ _).mono ?_; rintro e w' ⟨rfl, rfl⟩; rw [hd]))
          go_round
          case rel => exact ⟨k + 1, by omega, by omega, by go_num, by rw [HSK.out, Lex.runAt_go s b k hlt (Lex.goes_digit hd)]⟩
          case measure => simp [intOf]; omega
      · go_wp2_with (first | (go_at_call 47; refine (letter_any _ _).mono ?_; rintro e w' ⟨rfl, rfl⟩; rw [hl]))
        go_round
        case rel => exact ⟨k + 1, by omega, by omega, by go_num, by rw [HSK.out, Lex.runAt_go s b k hlt (Lex.goes_letter hl)]⟩
        case measure => simp [intOf]; omega
    · go_wp2
      go_ret
      exact ⟨ret_int (by rw [HSK.out, Lex.runAt_end s b k (by omega)]; omega), rfl⟩
end Go.Proofs.Ytbdochcajpempaa
