/- The walks of the small functions of lex: what is white, a letter, a digit. -/
import Derived.Test.YtbdochcajpempaaProg
import Derived.Test.YtbdochcajpempaaLexPlain
import Derived.WalkKit
import Derived.WalkSpells
import Derived.WalkLawsBesides
import Derived.Lib.Hide
import Derived.IntWalk
import Derived.BigQuiet
import Derived.Deep.QuietTactic
namespace Go.Proofs.Ytbdochcajpempaa
open Go.RowKit

theorem ret_bool {a b : Bool} (h : a = b) : Ending.returned (.bool a) = .returned (.bool b) := by rw [h]
theorem ret_int {k : IntKind} {a b : Int} (h : a = b) : Ending.returned (.int k a) = .returned (.int k b) := by rw [h]

theorem n_eq (c : UInt8) (n : Nat) (hn : n < 256) : (c = UInt8.ofNat n) ↔ (c.toNat : Int) = (n : Int) := by
  rw [← UInt8.toNat_inj, UInt8.toNat_ofNat']
  omega
theorem n_le (c : UInt8) (n : Nat) (hn : n < 256) : (c ≤ UInt8.ofNat n) ↔ (c.toNat : Int) ≤ (n : Int) := by
  rw [UInt8.le_iff_toNat_le, UInt8.toNat_ofNat']
  omega
theorem n_ge (c : UInt8) (n : Nat) (hn : n < 256) : (UInt8.ofNat n ≤ c) ↔ (n : Int) ≤ (c.toNat : Int) := by
  rw [UInt8.le_iff_toNat_le, UInt8.toNat_ofNat']
  omega
theorem white_int (c : UInt8) : (Lex.white c = true) ↔ ((c.toNat : Int) = 32 ∨ (c.toNat : Int) = 9 ∨ (c.toNat : Int) = 13 ∨ (c.toNat : Int) = 10) := by
  have h1 := n_eq c 32 (by decide)
  have h2 := n_eq c 9 (by decide)
  have h3 := n_eq c 13 (by decide)
  have h4 := n_eq c 10 (by decide)
  simp only [Lex.white, Bool.or_eq_true, beq_iff_eq]
  exact ⟨fun h => h.elim (fun h => h.elim (fun h => h.elim (fun h => .inl (h1.1 h)) fun h => .inr (.inl (h2.1 h))) fun h => .inr (.inr (.inl (h3.1 h)))) fun h => .inr (.inr (.inr (h4.1 h))),
    fun h => h.elim (fun h => .inl (.inl (.inl (h1.2 h)))) fun h => h.elim (fun h => .inl (.inl (.inr (h2.2 h)))) fun h => h.elim (fun h => .inl (.inr (h3.2 h))) fun h => .inr (h4.2 h)⟩
theorem digit_int (c : UInt8) : (Lex.digit c = true) ↔ (48 ≤ (c.toNat : Int) ∧ (c.toNat : Int) ≤ 57) := by
  have h1 := n_ge c 48 (by decide)
  have h2 := n_le c 57 (by decide)
  simp only [Lex.digit, Bool.and_eq_true, decide_eq_true_eq]
  exact ⟨fun h => ⟨h1.1 h.1, h2.1 h.2⟩, fun h => ⟨h1.2 h.1, h2.2 h.2⟩⟩
theorem letter_int (c : UInt8) : (Lex.letter c = true) ↔ ((97 ≤ (c.toNat : Int) ∧ (c.toNat : Int) ≤ 122) ∨ (65 ≤ (c.toNat : Int) ∧ (c.toNat : Int) ≤ 90) ∨ (c.toNat : Int) = 95) := by
  have h1 := n_ge c 97 (by decide)
  have h2 := n_le c 122 (by decide)
  have h3 := n_ge c 65 (by decide)
  have h4 := n_le c 90 (by decide)
  have h5 := n_eq c 95 (by decide)
  simp only [Lex.letter, Bool.or_eq_true, Bool.and_eq_true, decide_eq_true_eq, beq_iff_eq]
  exact ⟨fun h => h.elim (fun h => h.elim (fun h => .inl ⟨h1.1 h.1, h2.1 h.2⟩) fun h => .inr (.inl ⟨h3.1 h.1, h4.1 h.2⟩)) fun h => .inr (.inr (h5.1 h)),
    fun h => h.elim (fun h => .inl (.inl ⟨h1.2 h.1, h2.2 h.2⟩)) fun h => h.elim (fun h => .inl (.inr ⟨h3.2 h.1, h4.2 h.2⟩)) fun h => .inr (h5.2 h)⟩

set_option maxHeartbeats 400000 in
theorem white_any (c : UInt8) (w : World) : Calls Try.prog 46 #[.int .u8 (c.toNat : Int)] w fun e w' => e = .returned (.bool (Lex.white c)) ∧ w = w' := by
  go_enter Try.func46, Try.ntmps46
  go_wp2
  all_goals go_ret
  all_goals exact ⟨ret_bool (by rw [Bool.eq_iff_iff, white_int]; simp; try omega), rfl⟩
set_option maxHeartbeats 400000 in
theorem letter_any (c : UInt8) (w : World) : Calls Try.prog 47 #[.int .u8 (c.toNat : Int)] w fun e w' => e = .returned (.bool (Lex.letter c)) ∧ w = w' := by
  go_enter Try.func47, Try.ntmps47
  go_wp2
  all_goals go_ret
  all_goals exact ⟨ret_bool (by rw [Bool.eq_iff_iff, letter_int]; simp; try omega), rfl⟩
set_option maxHeartbeats 400000 in
theorem digit_any (c : UInt8) (w : World) : Calls Try.prog 48 #[.int .u8 (c.toNat : Int)] w fun e w' => e = .returned (.bool (Lex.digit c)) ∧ w = w' := by
  go_enter Try.func48, Try.ntmps48
  go_wp2
  all_goals go_ret
  all_goals exact ⟨ret_bool (by rw [Bool.eq_iff_iff, digit_int]; simp; try omega), rfl⟩
end Go.Proofs.Ytbdochcajpempaa
