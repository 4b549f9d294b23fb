/- The walk of lex's skip: what is left behind white and remarks. -/
import Derived.Test.YtbdochcajpempaaLexA
import Derived.LoopTactic
import Derived.Below
namespace Go.Proofs.Ytbdochcajpempaa
open Go.RowKit

namespace Lex
abbrev bl (s : ByteArray) : Bs := s.data.toList
theorem bl_len (s : ByteArray) : (bl s).length = s.size := by simp [bl]
theorem drop_cons (s : ByteArray) (i : Nat) (h : i < s.size) : (bl s).drop i = s[i] :: (bl s).drop (i + 1) := by
  rw [List.drop_eq_getElem_cons (by rw [bl_len]; exact h)]
  rfl
theorem drop_all (s : ByteArray) (i : Nat) (h : s.size ≤ i) : (bl s).drop i = [] := List.drop_eq_nil_of_le (by rw [bl_len]; exact h)
/-- the place behind white and remarks -/
def skipAt (s : ByteArray) (b : Bool) (i : Nat) : Nat := s.size - (skip b ((bl s).drop i)).length
theorem skipAt_ge (s : ByteArray) (b : Bool) (i : Nat) (h : i ≤ s.size) : i ≤ skipAt s b i ∧ skipAt s b i ≤ s.size := by
  have := skip_len b ((bl s).drop i)
  rw [List.length_drop, bl_len] at this
  unfold skipAt
  omega
theorem skipAt_end (s : ByteArray) (b : Bool) (i : Nat) (h : s.size ≤ i) : skipAt s b i = s.size := by
  unfold skipAt
  rw [drop_all s i h]
  cases b <;> rfl
theorem skipAt_white (s : ByteArray) (i : Nat) (h : i < s.size) (hw : white s[i] = true) : skipAt s false i = skipAt s false (i + 1) := by
  unfold skipAt
  rw [drop_cons s i h, skip_f, if_pos hw]
theorem skipAt_mark (s : ByteArray) (i : Nat) (h : i < s.size) (hw : white s[i] = false) (h35 : s[i] = 35) : skipAt s false i = skipAt s true (i + 1) := by
  unfold skipAt
  rw [drop_cons s i h, skip_f, if_neg (by rw [hw]; decide), if_pos h35]
theorem skipAt_in (s : ByteArray) (i : Nat) (h : i < s.size) (h10 : s[i] ≠ 10) : skipAt s true i = skipAt s true (i + 1) := by
  unfold skipAt
  rw [drop_cons s i h, skip_t, if_neg h10]
theorem skipAt_out (s : ByteArray) (i : Nat) (h : i < s.size) (h10 : s[i] = 10) : skipAt s true i = skipAt s false i := by
  unfold skipAt
  rw [drop_cons s i h, skip_t, if_pos h10, skip_f, if_pos (by rw [h10]; rfl)]
theorem skipAt_here (s : ByteArray) (i : Nat) (h : i < s.size) (hw : white s[i] = false) (h35 : s[i] ≠ 35) : skipAt s false i = i := by
  unfold skipAt
  rw [drop_cons s i h, skip_f, if_neg (by rw [hw]; decide), if_neg h35, ← drop_cons s i h, List.length_drop, bl_len]
  omega
end Lex

theorem neq_t {a b : Int} (h : (a != b) = true) : ¬ a = b := bne_iff_ne.1 h
theorem neq_f {a b : Int} (h : (a != b) = false) : a = b := by simpa using h

set_option maxHeartbeats 1000000 in
theorem skip_any (s : ByteArray) (i : Nat) (hi : i ≤ s.size) (hs : s.size ≤ 4611686018427387904) (w : World) :
    Calls Try.prog 35 #[.string s, .int .i64 i] w fun e w' => e = .returned (.int .i64 (Lex.skipAt s false i : Nat)) ∧ w = w' := by
  go_enter Try.func35, Try.ntmps35
  go_wp2
  go_loop [1] (fun j => ∃ k : Nat, i ≤ k ∧ k ≤ s.size ∧ j = .int .i64 k ∧ Lex.skipAt s false i = Lex.skipAt s false k) (fun j => s.size - (intOf j).toNat)
  case atStart => exact ⟨i, Nat.le_refl _, hi, rfl, rfl⟩
  case round =>
    obtain ⟨k, hik, hk, rfl, hsk⟩ := hrel
    have HSK := Lib.hid hsk
    clear hsk
    by_cases hlt : k < s.size
    · rcases hw : Lex.white s[k] with _ | _
      · go_wp2_with (first | (go_at_call 46; refine (white_any _ _).mono ?_; rintro e w' ⟨rfl, rfl⟩; rw [hw]))
        · have h35 : (s[k].toNat : Int) = 35 := eq_of_beq (by assumption)
          have c35 : s[k] = 35 := (n_eq s[k] 35 (by decide)).2 h35
          have hin : Lex.skipAt s false i = Lex.skipAt s true k := by
            rw [HSK.out, Lex.skipAt_mark s k hlt hw c35, ← Lex.skipAt_in s k hlt (by rw [c35]; decide)]
          go_loop [1] (fun j => ∃ m : Nat, k ≤ m ∧ m ≤ s.size ∧ j = .int .i64 m ∧ Lex.skipAt s false i = Lex.skipAt s true m) (fun j => s.size - (intOf j).toNat)
          case atStart => exact ⟨k, Nat.le_refl _, hk, rfl, hin⟩
          case round =>
            clear hin
            obtain ⟨m, hkm, hm, rfl, hsm⟩ := hrel
            have HSM := Lib.hid hsm
            clear hsm
            by_cases hlm : m < s.size
            · go_wp2
              · have h10 : ¬ (s[m].toNat : Int) = 10 := neq_t (by assumption)
                have c10 : s[m] ≠ 10 := fun h => h10 ((n_eq s[m] 10 (by decide)).1 h)
                go_round
                case rel => exact ⟨m + 1, by omega, by omega, by go_num, by rw [HSM.out, Lex.skipAt_in s m hlm c10]⟩
                case measure => simp [intOf]; omega
              · have c10 : s[m] = 10 := (n_eq s[m] 10 (by decide)).2 (neq_f (by assumption))
                have hne : m ≠ k := fun e => by
                  subst e
                  rw [c35] at c10
                  exact absurd c10 (by decide)
                go_round
                case rel => exact ⟨m, by omega, by omega, by go_num, by rw [HSM.out, Lex.skipAt_out s m hlm c10]⟩
                case measure => simp [intOf]; omega
            · go_wp2
              go_round
              case rel => exact ⟨m, by omega, by omega, by go_num, by rw [HSM.out, Lex.skipAt_end s true m (by omega), Lex.skipAt_end s false m (by omega)]⟩
              case measure => simp [intOf]; omega
        · go_ret
          have h35 : ¬ (s[k].toNat : Int) = 35 := ne_of_beq_false (by assumption)
          exact ⟨ret_int (by rw [HSK.out, Lex.skipAt_here s k hlt hw (fun h => h35 ((n_eq s[k] 35 (by decide)).1 h))]), rfl⟩
      · go_wp2_with (first | (go_at_call 46; refine (white_any _ _).mono ?_; rintro e w' ⟨rfl, rfl⟩; rw [hw]))
        go_round
        case rel => exact ⟨k + 1, by omega, by omega, by go_num, by rw [HSK.out, Lex.skipAt_white s k hlt hw]⟩
        case measure => simp [intOf]; omega
    · go_wp2
      go_ret
      exact ⟨ret_int (by rw [HSK.out, Lex.skipAt_end s false k (by omega)]; omega), rfl⟩
end Go.Proofs.Ytbdochcajpempaa
