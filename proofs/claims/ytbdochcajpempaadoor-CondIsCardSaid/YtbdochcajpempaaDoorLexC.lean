/- The texts LexA, LexB, LexC in one. -/
import Derived.Test.YtbdochcajpempaaDoorProg
import Derived.Test.YtbdochcajpempaaDoorLexPlain
import Derived.WalkKit
import Derived.WalkSpells
import Derived.WalkLawsBesides
import Derived.Lib.Hide
import Derived.IntWalk
import Derived.BigQuiet
import Derived.Deep.QuietTactic
import Derived.LoopTactic
import Derived.Below
/- The walks of the small functions of lex: what is white, a letter, a digit. -/
namespace Go.Proofs.YtbdochcajpempaaDoor
open Go.RowKit

theorem ret_bool {a b : Bool} (h : a = b) : Ending.returned (.bool a) = .returned (.bool b) := by rw [h]
theorem ret_int {k : IntKind} {a b : Int} (h : a = b) : Ending.returned (.int k a) = .returned (.int k b) := by rw [h]

theorem n_eq (c : UInt8) (n : Nat) (hn : n < 256) : (c = UInt8.ofNat n) ↔ (c.toNat : Int) = (n : Int) := by
  rw [← UInt8.toNat_inj, UInt8.toNat_ofNat']
  omega
theorem n_le (c : UInt8) (n : Nat) (hn : n < 256) : (c ≤ UInt8.ofNat n) ↔ (c.toNat : Int) ≤ (n : Int) := by
  rw [UInt8.le_iff_toNat_le, UInt8.toNat_ofNat']
  omega
theorem n_ge (c : UInt8) (n : Nat) (hn : n < 256) : (UInt8.ofNat n ≤ c) ↔ (n : Int) ≤ (c.toNat : Int) := by
  rw [UInt8.le_iff_toNat_le, UInt8.toNat_ofNat']
  omega
theorem white_int (c : UInt8) : (Lex.white c = true) ↔ ((c.toNat : Int) = 32 ∨ (c.toNat : Int) = 9 ∨ (c.toNat : Int) = 13 ∨ (c.toNat : Int) = 10) := by
  have h1 := n_eq c 32 (by decide)
  have h2 := n_eq c 9 (by decide)
  have h3 := n_eq c 13 (by decide)
  have h4 := n_eq c 10 (by decide)
  simp only [Lex.white, Bool.or_eq_true, beq_iff_eq]
  exact ⟨fun h => h.elim (fun h => h.elim (fun h => h.elim (fun h => .inl (h1.1 h)) fun h => .inr (.inl (h2.1 h))) fun h => .inr (.inr (.inl (h3.1 h)))) fun h => .inr (.inr (.inr (h4.1 h))),
    fun h => h.elim (fun h => .inl (.inl (.inl (h1.2 h)))) fun h => h.elim (fun h => .inl (.inl (.inr (h2.2 h)))) fun h => h.elim (fun h => .inl (.inr (h3.2 h))) fun h => .inr (h4.2 h)⟩
theorem digit_int (c : UInt8) : (Lex.digit c = true) ↔ (48 ≤ (c.toNat : Int) ∧ (c.toNat : Int) ≤ 57) := by
  have h1 := n_ge c 48 (by decide)
  have h2 := n_le c 57 (by decide)
  simp only [Lex.digit, Bool.and_eq_true, decide_eq_true_eq]
  exact ⟨fun h => ⟨h1.1 h.1, h2.1 h.2⟩, fun h => ⟨h1.2 h.1, h2.2 h.2⟩⟩
theorem letter_int (c : UInt8) : (Lex.letter c = true) ↔ ((97 ≤ (c.toNat : Int) ∧ (c.toNat : Int) ≤ 122) ∨ (65 ≤ (c.toNat : Int) ∧ (c.toNat : Int) ≤ 90) ∨ (c.toNat : Int) = 95) := by
  have h1 := n_ge c 97 (by decide)
  have h2 := n_le c 122 (by decide)
  have h3 := n_ge c 65 (by decide)
  have h4 := n_le c 90 (by decide)
  have h5 := n_eq c 95 (by decide)
  simp only [Lex.letter, Bool.or_eq_true, Bool.and_eq_true, decide_eq_true_eq, beq_iff_eq]
  exact ⟨fun h => h.elim (fun h => h.elim (fun h => .inl ⟨h1.1 h.1, h2.1 h.2⟩) fun h => .inr (.inl ⟨h3.1 h.1, h4.1 h.2⟩)) fun h => .inr (.inr (h5.1 h)),
    fun h => h.elim (fun h => .inl (.inl ⟨h1.2 h.1, h2.2 h.2⟩)) fun h => h.elim (fun h => .inl (.inr ⟨h3.2 h.1, h4.2 h.2⟩)) fun h => .inr (h5.2 h)⟩

set_option maxHeartbeats 400000 in
theorem white_any (c : UInt8) (w : World) : Calls Tryd.prog 56 #[.int .u8 (c.toNat : Int)] w fun e w' => e = .returned (.bool (Lex.white c)) ∧ w = w' := by
  go_enter Tryd.func56, Tryd.ntmps56
  go_wp2
  all_goals go_ret
  all_goals exact ⟨ret_bool (by rw [Bool.eq_iff_iff, white_int]; simp; try omega), rfl⟩
set_option maxHeartbeats 400000 in
theorem letter_any (c : UInt8) (w : World) : Calls Tryd.prog 57 #[.int .u8 (c.toNat : Int)] w fun e w' => e = .returned (.bool (Lex.letter c)) ∧ w = w' := by
  go_enter Tryd.func57, Tryd.ntmps57
  go_wp2
  all_goals go_ret
  all_goals exact ⟨ret_bool (by rw [Bool.eq_iff_iff, letter_int]; simp; try omega), rfl⟩
set_option maxHeartbeats 400000 in
theorem digit_any (c : UInt8) (w : World) : Calls Tryd.prog 58 #[.int .u8 (c.toNat : Int)] w fun e w' => e = .returned (.bool (Lex.digit c)) ∧ w = w' := by
  go_enter Tryd.func58, Tryd.ntmps58
  go_wp2
  all_goals go_ret
  all_goals exact ⟨ret_bool (by rw [Bool.eq_iff_iff, digit_int]; simp; try omega), rfl⟩
end Go.Proofs.YtbdochcajpempaaDoor

/- The walk of lex's skip: what is left behind white and remarks. -/
namespace Go.Proofs.YtbdochcajpempaaDoor
open Go.RowKit

namespace Lex
abbrev bl (s : ByteArray) : Bs := s.data.toList
theorem bl_len (s : ByteArray) : (bl s).length = s.size := by simp [bl]
theorem drop_cons (s : ByteArray) (i : Nat) (h : i < s.size) : (bl s).drop i = s[i] :: (bl s).drop (i + 1) := by
  rw [List.drop_eq_getElem_cons (by rw [bl_len]; exact h)]
  rfl
theorem drop_all (s : ByteArray) (i : Nat) (h : s.size ≤ i) : (bl s).drop i = [] := List.drop_eq_nil_of_le (by rw [bl_len]; exact h)
/-- the place behind white and remarks -/
def skipAt (s : ByteArray) (b : Bool) (i : Nat) : Nat := s.size - (skip b ((bl s).drop i)).length
theorem skipAt_ge (s : ByteArray) (b : Bool) (i : Nat) (h : i ≤ s.size) : i ≤ skipAt s b i ∧ skipAt s b i ≤ s.size := by
  have := skip_len b ((bl s).drop i)
  rw [List.length_drop, bl_len] at this
  unfold skipAt
  omega
theorem skipAt_end (s : ByteArray) (b : Bool) (i : Nat) (h : s.size ≤ i) : skipAt s b i = s.size := by
  unfold skipAt
  rw [drop_all s i h]
  cases b <;> rfl
theorem skipAt_white (s : ByteArray) (i : Nat) (h : i < s.size) (hw : white s[i] = true) : skipAt s false i = skipAt s false (i + 1) := by
  unfold skipAt
  rw [drop_cons s i h, skip_f, if_pos hw]
theorem skipAt_mark (s : ByteArray) (i : Nat) (h : i < s.size) (hw : white s[i] = false) (h35 : s[i] = 35) : skipAt s false i = skipAt s true (i + 1) := by
  unfold skipAt
  rw [drop_cons s i h, skip_f, if_neg (by rw [hw]; decide), if_pos h35]
theorem skipAt_in (s : ByteArray) (i : Nat) (h : i < s.size) (h10 : s[i] ≠ 10) : skipAt s true i = skipAt s true (i + 1) := by
  unfold skipAt
  rw [drop_cons s i h, skip_t, if_neg h10]
theorem skipAt_out (s : ByteArray) (i : Nat) (h : i < s.size) (h10 : s[i] = 10) : skipAt s true i = skipAt s false i := by
  unfold skipAt
  rw [drop_cons s i h, skip_t, if_pos h10, skip_f, if_pos (by rw [h10]; rfl)]
theorem skipAt_here (s : ByteArray) (i : Nat) (h : i < s.size) (hw : white s[i] = false) (h35 : s[i] ≠ 35) : skipAt s false i = i := by
  unfold skipAt
  rw [drop_cons s i h, skip_f, if_neg (by rw [hw]; decide), if_neg h35, ← drop_cons s i h, List.length_drop, bl_len]
  omega
end Lex

theorem neq_t {a b : Int} (h : (a != b) = true) : ¬ a = b := bne_iff_ne.1 h
theorem neq_f {a b : Int} (h : (a != b) = false) : a = b := by simpa using h

set_option maxHeartbeats 1000000 in
theorem skip_any (s : ByteArray) (i : Nat) (hi : i ≤ s.size) (hs : s.size ≤ 4611686018427387904) (w : World) :
    Calls Tryd.prog 39 #[.string s, .int .i64 i] w fun e w' => e = .returned (.int .i64 (Lex.skipAt s false i : Nat)) ∧ w = w' := by
  go_enter Tryd.func39, Tryd.ntmps39
  go_wp2
  go_loop [1] (fun j => ∃ k : Nat, i ≤ k ∧ k ≤ s.size ∧ j = .int .i64 k ∧ Lex.skipAt s false i = Lex.skipAt s false k) (fun j => s.size - (intOf j).toNat)
  case atStart => exact ⟨i, Nat.le_refl _, hi, rfl, rfl⟩
  case round =>
    obtain ⟨k, hik, hk, rfl, hsk⟩ := hrel
    have HSK := Lib.hid hsk
    clear hsk
    by_cases hlt : k < s.size
    · rcases hw : Lex.white s[k] with _ | _
      · go_wp2_with (first | (go_at_call 56; refine (white_any _ _).mono ?_; rintro e w' ⟨rfl, rfl⟩; rw [hw]))
        · have h35 : (s[k].toNat : Int) = 35 := eq_of_beq (by assumption)
          have c35 : s[k] = 35 := (n_eq s[k] 35 (by decide)).2 h35
          have hin : Lex.skipAt s false i = Lex.skipAt s true k := by
            rw [HSK.out, Lex.skipAt_mark s k hlt hw c35, ← Lex.skipAt_in s k hlt (by rw [c35]; decide)]
          go_loop [1] (fun j => ∃ m : Nat, k ≤ m ∧ m ≤ s.size ∧ j = .int .i64 m ∧ Lex.skipAt s false i = Lex.skipAt s true m) (fun j => s.size - (intOf j).toNat)
          case atStart => exact ⟨k, Nat.le_refl _, hk, rfl, hin⟩
          case round =>
            clear hin
            obtain ⟨m, hkm, hm, rfl, hsm⟩ := hrel
            have HSM := Lib.hid hsm
            clear hsm
            by_cases hlm : m < s.size
            · go_wp2
              · have h10 : ¬ (s[m].toNat : Int) = 10 := neq_t (by assumption)
                have c10 : s[m] ≠ 10 := fun h => h10 ((n_eq s[m] 10 (by decide)).1 h)
                go_round
                case rel => exact ⟨m + 1, by omega, by omega, by go_num, by rw [HSM.out, Lex.skipAt_in s m hlm c10]⟩
                case measure => simp [intOf]; omega
              · have c10 : s[m] = 10 := (n_eq s[m] 10 (by decide)).2 (neq_f (by assumption))
                have hne : m ≠ k := fun e => by
                  subst e
                  rw [c35] at c10
                  exact absurd c10 (by decide)
                go_round
                case rel => exact ⟨m, by omega, by omega, by go_num, by rw [HSM.out, Lex.skipAt_out s m hlm c10]⟩
                case measure => simp [intOf]; omega
            · go_wp2
              go_round
              case rel => exact ⟨m, by omega, by omega, by go_num, by rw [HSM.out, Lex.skipAt_end s true m (by omega), Lex.skipAt_end s false m (by omega)]⟩
              case measure => simp [intOf]; omega
        · go_ret
          have h35 : ¬ (s[k].toNat : Int) = 35 := ne_of_beq_false (by assumption)
          exact ⟨ret_int (by rw [HSK.out, Lex.skipAt_here s k hlt hw (fun h => h35 ((n_eq s[k] 35 (by decide)).1 h))]), rfl⟩
      · go_wp2_with (first | (go_at_call 56; refine (white_any _ _).mono ?_; rintro e w' ⟨rfl, rfl⟩; rw [hw]))
        go_round
        case rel => exact ⟨k + 1, by omega, by omega, by go_num, by rw [HSK.out, Lex.skipAt_white s k hlt hw]⟩
        case measure => simp [intOf]; omega
    · go_wp2
      go_ret
      exact ⟨ret_int (by rw [HSK.out, Lex.skipAt_end s false k (by omega)]; omega), rfl⟩
end Go.Proofs.YtbdochcajpempaaDoor

/- The walk of lex's run: how far a word or a number goes. -/
namespace Go.Proofs.YtbdochcajpempaaDoor
open Go.RowKit

namespace Lex
/-- the place behind a run -/
def runAt (s : ByteArray) (b : Bool) (i : Nat) : Nat := s.size - (((bl s).drop i).dropWhile (goes b)).length
theorem runAt_end (s : ByteArray) (b : Bool) (i : Nat) (h : s.size ≤ i) : runAt s b i = s.size := by
  unfold runAt
  rw [drop_all s i h]
  rfl
theorem runAt_go (s : ByteArray) (b : Bool) (i : Nat) (h : i < s.size) (hg : goes b s[i] = true) : runAt s b i = runAt s b (i + 1) := by
  unfold runAt
  rw [drop_cons s i h, List.dropWhile_cons_of_pos hg]
theorem runAt_stop (s : ByteArray) (b : Bool) (i : Nat) (h : i < s.size) (hg : goes b s[i] = false) : runAt s b i = i := by
  unfold runAt
  rw [drop_cons s i h, List.dropWhile_cons_of_neg (by rw [hg]; decide), ← drop_cons s i h, List.length_drop, bl_len]
  omega
theorem goes_letter {b : Bool} {c : UInt8} (h : letter c = true) : goes b c = true := by unfold goes; rw [h]; rfl
theorem goes_digit {b : Bool} {c : UInt8} (h : digit c = true) : goes b c = true := by unfold goes; rw [h]; simp
theorem goes_point {b : Bool} {c : UInt8} (h1 : letter c = false) (h2 : digit c = false) : goes b c = (b && c == 46) := by unfold goes; rw [h1, h2]; rfl
end Lex

set_option maxHeartbeats 1000000 in
theorem run_any (s : ByteArray) (b : Bool) (h1 : 1 ≤ s.size) (hs : s.size ≤ 4611686018427387904) (w : World) :
    Calls Tryd.prog 42 #[.string s, .bool b] w fun e w' => e = .returned (.int .i64 (Lex.runAt s b 1 : Nat)) ∧ w = w' := by
  go_enter Tryd.func42, Tryd.ntmps42
  go_wp2
  go_loop [5] (fun j => ∃ k : Nat, 1 ≤ k ∧ k ≤ s.size ∧ j = .int .i64 k ∧ Lex.runAt s b 1 = Lex.runAt s b k) (fun j => s.size - (intOf j).toNat)
  case atStart => exact ⟨1, Nat.le_refl _, h1, rfl, rfl⟩
  case round =>
    obtain ⟨k, hik, hk, rfl, hsk⟩ := hrel
    have HSK := Lib.hid hsk
    clear hsk
    by_cases hlt : k < s.size
    · rcases hl : Lex.letter s[k] with _ | _
      · rcases hd : Lex.digit s[k] with _ | _
        · rcases b with _ | _
          · go_wp2_with (first | (go_at_call 57; refine (letter_any _ _).mono ?_; rintro e w' ⟨rfl, rfl⟩; rw [hl]) | (go_at_call 58; refine (digit_any _ _).mono ?_; rintro e w' ⟨rfl, rfl⟩; rw [hd]))
            go_ret
            exact ⟨ret_int (by rw [HSK.out, Lex.runAt_stop s false k hlt (by rw [Lex.goes_point hl hd]; rfl)]), rfl⟩
          · go_wp2_with (first | (go_at_call 57; refine (letter_any _ _).mono ?_; rintro e w' ⟨rfl, rfl⟩; rw [hl]) | (go_at_call 58; refine (digit_any _ _).mono ?_; rintro e w' ⟨rfl, rfl⟩; rw [hd]))
            · have h46 : (s[k].toNat : Int) = 46 := by first | assumption | exact eq_of_beq (by assumption)
              have c46 : s[k] = 46 := (n_eq s[k] 46 (by decide)).2 h46
              go_round
              case rel => exact ⟨k + 1, by omega, by omega, by go_num, by rw [HSK.out, Lex.runAt_go s true k hlt (by rw [Lex.goes_point hl hd, c46]; rfl)]⟩
              case measure => simp [intOf]; omega
            · have h46 : ¬ (s[k].toNat : Int) = 46 := by first | assumption | exact ne_of_beq_false (by assumption)
              have c46 : (s[k] == 46) = false := by
                rw [beq_eq_false_iff_ne]
                exact fun h => h46 ((n_eq s[k] 46 (by decide)).1 h)
              go_ret
              exact ⟨ret_int (by rw [HSK.out, Lex.runAt_stop s true k hlt (by rw [Lex.goes_point hl hd, c46]; rfl)]), rfl⟩
        · go_wp2_with (first | (go_at_call 57; refine (letter_any _ _).mono ?_; rintro e w' ⟨rfl, rfl⟩; rw [hl]) | (go_at_call 58; refine (digit_any _ _).mono ?_; rintro e w' ⟨rfl, rfl⟩; rw [hd]))
          go_round
          case rel => exact ⟨k + 1, by omega, by omega, by go_num, by rw [HSK.out, Lex.runAt_go s b k hlt (Lex.goes_digit hd)]⟩
          case measure => simp [intOf]; omega
      · go_wp2_with (first | (go_at_call 57; refine (letter_any _ _).mono ?_; rintro e w' ⟨rfl, rfl⟩; rw [hl]))
        go_round
        case rel => exact ⟨k + 1, by omega, by omega, by go_num, by rw [HSK.out, Lex.runAt_go s b k hlt (Lex.goes_letter hl)]⟩
        case measure => simp [intOf]; omega
    · go_wp2
      go_ret
      exact ⟨ret_int (by rw [HSK.out, Lex.runAt_end s b k (by omega)]; omega), rfl⟩
end Go.Proofs.YtbdochcajpempaaDoor
