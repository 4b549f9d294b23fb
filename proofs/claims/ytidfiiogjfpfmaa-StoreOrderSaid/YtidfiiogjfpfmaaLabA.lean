/- The walks of label's Name and of the reference's Name. -/
import Derived.Test.YtidfiiogjfpfmaaProg
import Derived.Test.YtidfiiogjfpfmaaLabPlain
import Derived.WalkKit
import Derived.WalkSpells
import Derived.WalkLawsBesides
import Derived.Lib.Hide
import Derived.IntWalk
import Derived.BigQuiet
import Derived.Deep.QuietTactic
import Derived.LoopTactic
import Derived.Below
namespace Go.Proofs.Ytidfiiogjfpfmaa
open Go.RowKit
set_option linter.unusedSimpArgs false
set_option linter.unusedVariables false

namespace Lab
theorem retb {a b : Bool} (h : a = b) : Ending.returned (.bool a) = .returned (.bool b) := by rw [h]
theorem o_le (c : UInt8) (n : Nat) (hn : n < 256) : (c ≤ UInt8.ofNat n) ↔ (c.toNat : Int) ≤ (n : Int) := by
  rw [UInt8.le_iff_toNat_le, UInt8.toNat_ofNat']
  omega
theorem o_ge (c : UInt8) (n : Nat) (hn : n < 256) : (UInt8.ofNat n ≤ c) ↔ (n : Int) ≤ (c.toNat : Int) := by
  rw [UInt8.le_iff_toNat_le, UInt8.toNat_ofNat']
  omega
theorem o_eq (c : UInt8) (n : Nat) (hn : n < 256) : (c = UInt8.ofNat n) ↔ (c.toNat : Int) = (n : Int) := by
  rw [← UInt8.toNat_inj, UInt8.toNat_ofNat']
  omega
theorem digit_int (c : UInt8) : (digit c = true) ↔ (48 ≤ (c.toNat : Int) ∧ (c.toNat : Int) ≤ 57) := by
  have h1 := o_ge c 48 (by decide)
  have h2 := o_le c 57 (by decide)
  simp only [digit, Bool.and_eq_true, decide_eq_true_eq]
  exact ⟨fun h => ⟨h1.1 h.1, h2.1 h.2⟩, fun h => ⟨h1.2 h.1, h2.2 h.2⟩⟩
theorem letter_int (c : UInt8) : (letter c = true) ↔ ((97 ≤ (c.toNat : Int) ∧ (c.toNat : Int) ≤ 122) ∨ (65 ≤ (c.toNat : Int) ∧ (c.toNat : Int) ≤ 90) ∨ (c.toNat : Int) = 95) := by
  have h1 := o_ge c 97 (by decide)
  have h2 := o_le c 122 (by decide)
  have h3 := o_ge c 65 (by decide)
  have h4 := o_le c 90 (by decide)
  have h5 := o_eq c 95 (by decide)
  simp only [letter, Bool.or_eq_true, Bool.and_eq_true, decide_eq_true_eq, beq_iff_eq]
  constructor
  · rintro ((h | h) | h)
    · exact .inl ⟨h1.1 h.1, h2.1 h.2⟩
    · exact .inr (.inl ⟨h3.1 h.1, h4.1 h.2⟩)
    · exact .inr (.inr (h5.1 h))
  · rintro (h | h | h)
    · exact .inl (.inl ⟨h1.2 h.1, h2.2 h.2⟩)
    · exact .inl (.inr ⟨h3.2 h.1, h4.2 h.2⟩)
    · exact .inr (h5.2 h)
theorem nameAt_is (s : ByteArray) (i : Nat) (h : i < s.size) (c : UInt8) (hc : s[i] = c) : nameAt s i = (letter c || (digit c && decide (0 < i))) := by
  unfold nameAt
  rw [get_at s i h, hc]
/-- the ways in which an octet may stand there -/
theorem nameAt_yes {s : ByteArray} {i : Nat} {h : i < s.size} {c : UInt8} (hc : s[i] = c) (hn : nameAt s i = true) :
    (97 ≤ (c.toNat : Int) ∧ (c.toNat : Int) ≤ 122) ∨ (65 ≤ (c.toNat : Int) ∧ (c.toNat : Int) ≤ 90) ∨ (c.toNat : Int) = 95 ∨ (48 ≤ (c.toNat : Int) ∧ (c.toNat : Int) ≤ 57 ∧ 0 < i) := by
  rw [nameAt_is s i h c hc, Bool.or_eq_true, Bool.and_eq_true, letter_int, digit_int, decide_eq_true_eq] at hn
  rcases hn with (h1 | h1 | h1) | h1
  · exact .inl h1
  · exact .inr (.inl h1)
  · exact .inr (.inr (.inl h1))
  · exact .inr (.inr (.inr ⟨h1.1.1, h1.1.2, h1.2⟩))
/-- and in which it may not -/
theorem nameAt_no {s : ByteArray} {i : Nat} {h : i < s.size} {c : UInt8} (hc : s[i] = c) (hn : nameAt s i = false) :
    (c.toNat : Int) < 48 ∨ (57 < (c.toNat : Int) ∧ (c.toNat : Int) < 65) ∨ (90 < (c.toNat : Int) ∧ (c.toNat : Int) < 95) ∨ (95 < (c.toNat : Int) ∧ (c.toNat : Int) < 97) ∨ 122 < (c.toNat : Int) ∨ (48 ≤ (c.toNat : Int) ∧ (c.toNat : Int) ≤ 57 ∧ i = 0) := by
  rw [nameAt_is s i h c hc, Bool.or_eq_false_iff, Bool.and_eq_false_iff] at hn
  have h1 : ¬ ((97 ≤ (c.toNat : Int) ∧ (c.toNat : Int) ≤ 122) ∨ (65 ≤ (c.toNat : Int) ∧ (c.toNat : Int) ≤ 90) ∨ (c.toNat : Int) = 95) := fun h => by rw [(letter_int c).2 h] at hn; cases hn.1
  rcases hn.2 with h2 | h2
  · have h3 : ¬ (48 ≤ (c.toNat : Int) ∧ (c.toNat : Int) ≤ 57) := fun h => by rw [(digit_int c).2 h] at h2; cases h2
    omega
  · have h3 : ¬ 0 < i := of_decide_eq_false h2
    omega
end Lab

set_option maxRecDepth 100000 in
set_option maxHeartbeats 4000000 in
theorem name_any (s : ByteArray) (w : World) : Calls Try.prog 47 #[.string s] w fun e w' => e = .returned (.bool (Lab.name s)) ∧ w = w' := by
  by_cases h1 : s.size < 1
  · have hd : decide (s.size < 1) = true := decide_eq_true h1
    have hd' : decide ((s.size : Int) < 1) = true := decide_eq_true (by omega)
    have HN := Lib.hid (show Lab.name s = false by unfold Lab.name; rw [decide_eq_false (by omega : ¬ 1 ≤ s.size)]; rfl)
    clear h1
    go_enter Try.func47, Try.ntmps47
    go_wp2
    go_ret
    exact ⟨by rw [HN.out]; rfl, rfl⟩
  · have hd' : decide ((s.size : Int) < 1) = false := decide_eq_false (by omega)
    by_cases h2 : 64 < s.size
    · have hd2 : decide ((64 : Int) < (s.size : Int)) = true := decide_eq_true (by omega)
      have HN := Lib.hid (show Lab.name s = false by unfold Lab.name; rw [decide_eq_false (by omega : ¬ s.size ≤ 64), Bool.and_false]; rfl)
      clear h1
      go_enter Try.func47, Try.ntmps47
      go_wp2
      go_ret
      exact ⟨by rw [HN.out]; rfl, rfl⟩
    · have hd2 : decide ((64 : Int) < (s.size : Int)) = false := decide_eq_false (by omega)
      have HN := Lib.hid (show Lab.name s = Lab.allTo (Lab.nameAt s) s.size by unfold Lab.name; rw [decide_eq_true (by omega : 1 ≤ s.size), decide_eq_true (by omega : s.size ≤ 64)]; rfl)
      clear h1
      go_enter Try.func47, Try.ntmps47
      go_wp2
      go_loop [3] (fun j => ∃ i : Nat, i ≤ s.size ∧ j = .int .i64 (i : Nat) ∧ Lab.allTo (Lab.nameAt s) i = true) (fun j => s.size - (intOf j).toNat)
      case atStart => exact ⟨0, Nat.zero_le _, rfl, rfl⟩
      case round =>
        obtain ⟨i, hi, rfl, hall⟩ := hrel
        have HALL := Lib.hid hall
        clear hall
        by_cases hlt : i < s.size
        · have hdi : decide (i < s.size) = true := decide_eq_true hlt
          obtain ⟨c, hc⟩ : ∃ c, s[i] = c := ⟨_, rfl⟩
          rcases hn : Lab.nameAt s i with _ | _
          · have hways := Lab.nameAt_no hc hn
            have HB := Lib.hid (show Lab.name s = false by rw [HN.out]; exact Lab.allTo_bad hlt hn)
            have n95 : ((c.toNat : Int) == 95) = false := by rw [beq_eq_false_iff_ne]; omega
            clear hn
            rcases hways with h | ⟨h, h'⟩ | ⟨h, h'⟩ | ⟨h, h'⟩ | h | ⟨h, h', hz⟩
            · have a1 : decide ((97 : Int) ≤ (c.toNat : Int)) = false := by first | exact decide_eq_true (by omega) | exact decide_eq_false (by omega)
              have a2 : decide ((c.toNat : Int) ≤ 122) = true := by first | exact decide_eq_true (by omega) | exact decide_eq_false (by omega)
              have a3 : decide ((65 : Int) ≤ (c.toNat : Int)) = false := by first | exact decide_eq_true (by omega) | exact decide_eq_false (by omega)
              have a4 : decide ((c.toNat : Int) ≤ 90) = true := by first | exact decide_eq_true (by omega) | exact decide_eq_false (by omega)
              have a5 : decide ((48 : Int) ≤ (c.toNat : Int)) = false := by first | exact decide_eq_true (by omega) | exact decide_eq_false (by omega)
              have a6 : decide ((c.toNat : Int) ≤ 57) = true := by first | exact decide_eq_true (by omega) | exact decide_eq_false (by omega)
              clear h
              go_wp2
              go_ret
              exact ⟨by rw [HB.out]; rfl, rfl⟩
            · have a1 : decide ((97 : Int) ≤ (c.toNat : Int)) = false := by first | exact decide_eq_true (by omega) | exact decide_eq_false (by omega)
              have a2 : decide ((c.toNat : Int) ≤ 122) = true := by first | exact decide_eq_true (by omega) | exact decide_eq_false (by omega)
              have a3 : decide ((65 : Int) ≤ (c.toNat : Int)) = false := by first | exact decide_eq_true (by omega) | exact decide_eq_false (by omega)
              have a4 : decide ((c.toNat : Int) ≤ 90) = true := by first | exact decide_eq_true (by omega) | exact decide_eq_false (by omega)
              have a5 : decide ((48 : Int) ≤ (c.toNat : Int)) = true := by first | exact decide_eq_true (by omega) | exact decide_eq_false (by omega)
              have a6 : decide ((c.toNat : Int) ≤ 57) = false := by first | exact decide_eq_true (by omega) | exact decide_eq_false (by omega)
              clear h h'
              go_wp2
              go_ret
              exact ⟨by rw [HB.out]; rfl, rfl⟩
            · have a1 : decide ((97 : Int) ≤ (c.toNat : Int)) = false := by first | exact decide_eq_true (by omega) | exact decide_eq_false (by omega)
              have a2 : decide ((c.toNat : Int) ≤ 122) = true := by first | exact decide_eq_true (by omega) | exact decide_eq_false (by omega)
              have a3 : decide ((65 : Int) ≤ (c.toNat : Int)) = true := by first | exact decide_eq_true (by omega) | exact decide_eq_false (by omega)
              have a4 : decide ((c.toNat : Int) ≤ 90) = false := by first | exact decide_eq_true (by omega) | exact decide_eq_false (by omega)
              have a5 : decide ((48 : Int) ≤ (c.toNat : Int)) = true := by first | exact decide_eq_true (by omega) | exact decide_eq_false (by omega)
              have a6 : decide ((c.toNat : Int) ≤ 57) = false := by first | exact decide_eq_true (by omega) | exact decide_eq_false (by omega)
              clear h h'
              go_wp2
              go_ret
              exact ⟨by rw [HB.out]; rfl, rfl⟩
            · have a1 : decide ((97 : Int) ≤ (c.toNat : Int)) = false := by first | exact decide_eq_true (by omega) | exact decide_eq_false (by omega)
              have a2 : decide ((c.toNat : Int) ≤ 122) = true := by first | exact decide_eq_true (by omega) | exact decide_eq_false (by omega)
              have a3 : decide ((65 : Int) ≤ (c.toNat : Int)) = true := by first | exact decide_eq_true (by omega) | exact decide_eq_false (by omega)
              have a4 : decide ((c.toNat : Int) ≤ 90) = false := by first | exact decide_eq_true (by omega) | exact decide_eq_false (by omega)
              have a5 : decide ((48 : Int) ≤ (c.toNat : Int)) = true := by first | exact decide_eq_true (by omega) | exact decide_eq_false (by omega)
              have a6 : decide ((c.toNat : Int) ≤ 57) = false := by first | exact decide_eq_true (by omega) | exact decide_eq_false (by omega)
              clear h h'
              go_wp2
              go_ret
              exact ⟨by rw [HB.out]; rfl, rfl⟩
            · have a1 : decide ((97 : Int) ≤ (c.toNat : Int)) = true := by first | exact decide_eq_true (by omega) | exact decide_eq_false (by omega)
              have a2 : decide ((c.toNat : Int) ≤ 122) = false := by first | exact decide_eq_true (by omega) | exact decide_eq_false (by omega)
              have a3 : decide ((65 : Int) ≤ (c.toNat : Int)) = true := by first | exact decide_eq_true (by omega) | exact decide_eq_false (by omega)
              have a4 : decide ((c.toNat : Int) ≤ 90) = false := by first | exact decide_eq_true (by omega) | exact decide_eq_false (by omega)
              have a5 : decide ((48 : Int) ≤ (c.toNat : Int)) = true := by first | exact decide_eq_true (by omega) | exact decide_eq_false (by omega)
              have a6 : decide ((c.toNat : Int) ≤ 57) = false := by first | exact decide_eq_true (by omega) | exact decide_eq_false (by omega)
              clear h
              go_wp2
              go_ret
              exact ⟨by rw [HB.out]; rfl, rfl⟩
            · have hi1 : ((i : Int) == 0) = true := by rw [beq_iff_eq]; omega
              have a1 : decide ((97 : Int) ≤ (c.toNat : Int)) = false := by first | exact decide_eq_true (by omega) | exact decide_eq_false (by omega)
              have a2 : decide ((c.toNat : Int) ≤ 122) = true := by first | exact decide_eq_true (by omega) | exact decide_eq_false (by omega)
              have a3 : decide ((65 : Int) ≤ (c.toNat : Int)) = false := by first | exact decide_eq_true (by omega) | exact decide_eq_false (by omega)
              have a4 : decide ((c.toNat : Int) ≤ 90) = true := by first | exact decide_eq_true (by omega) | exact decide_eq_false (by omega)
              have a5 : decide ((48 : Int) ≤ (c.toNat : Int)) = true := by first | exact decide_eq_true (by omega) | exact decide_eq_false (by omega)
              have a6 : decide ((c.toNat : Int) ≤ 57) = true := by first | exact decide_eq_true (by omega) | exact decide_eq_false (by omega)
              clear h h' hz
              go_wp2
              go_ret
              exact ⟨by rw [HB.out]; rfl, rfl⟩
          · have hways := Lab.nameAt_yes hc hn
            have HS := Lib.hid (Lab.allTo_step HALL.out hn)
            clear hn
            rcases hways with ⟨h, h'⟩ | ⟨h, h'⟩ | h | ⟨h, h', h0⟩
            · have n95 : ((c.toNat : Int) == 95) = false := by rw [beq_eq_false_iff_ne]; omega
              have a1 : decide ((97 : Int) ≤ (c.toNat : Int)) = true := by first | exact decide_eq_true (by omega) | exact decide_eq_false (by omega)
              have a2 : decide ((c.toNat : Int) ≤ 122) = true := by first | exact decide_eq_true (by omega) | exact decide_eq_false (by omega)
              have a3 : decide ((65 : Int) ≤ (c.toNat : Int)) = true := by first | exact decide_eq_true (by omega) | exact decide_eq_false (by omega)
              have a4 : decide ((c.toNat : Int) ≤ 90) = false := by first | exact decide_eq_true (by omega) | exact decide_eq_false (by omega)
              have a5 : decide ((48 : Int) ≤ (c.toNat : Int)) = true := by first | exact decide_eq_true (by omega) | exact decide_eq_false (by omega)
              have a6 : decide ((c.toNat : Int) ≤ 57) = false := by first | exact decide_eq_true (by omega) | exact decide_eq_false (by omega)
              clear h h'
              go_wp2
              go_round
              case rel => exact ⟨i + 1, by omega, by go_num, HS.out⟩
              case measure => simp [intOf]; omega
            · have n95 : ((c.toNat : Int) == 95) = false := by rw [beq_eq_false_iff_ne]; omega
              have a1 : decide ((97 : Int) ≤ (c.toNat : Int)) = false := by first | exact decide_eq_true (by omega) | exact decide_eq_false (by omega)
              have a2 : decide ((c.toNat : Int) ≤ 122) = true := by first | exact decide_eq_true (by omega) | exact decide_eq_false (by omega)
              have a3 : decide ((65 : Int) ≤ (c.toNat : Int)) = true := by first | exact decide_eq_true (by omega) | exact decide_eq_false (by omega)
              have a4 : decide ((c.toNat : Int) ≤ 90) = true := by first | exact decide_eq_true (by omega) | exact decide_eq_false (by omega)
              have a5 : decide ((48 : Int) ≤ (c.toNat : Int)) = true := by first | exact decide_eq_true (by omega) | exact decide_eq_false (by omega)
              have a6 : decide ((c.toNat : Int) ≤ 57) = false := by first | exact decide_eq_true (by omega) | exact decide_eq_false (by omega)
              clear h h'
              go_wp2
              go_round
              case rel => exact ⟨i + 1, by omega, by go_num, HS.out⟩
              case measure => simp [intOf]; omega
            · have n95 : ((c.toNat : Int) == 95) = true := by rw [beq_iff_eq]; exact h
              have a1 : decide ((97 : Int) ≤ (c.toNat : Int)) = false := by first | exact decide_eq_true (by omega) | exact decide_eq_false (by omega)
              have a2 : decide ((c.toNat : Int) ≤ 122) = true := by first | exact decide_eq_true (by omega) | exact decide_eq_false (by omega)
              have a3 : decide ((65 : Int) ≤ (c.toNat : Int)) = true := by first | exact decide_eq_true (by omega) | exact decide_eq_false (by omega)
              have a4 : decide ((c.toNat : Int) ≤ 90) = false := by first | exact decide_eq_true (by omega) | exact decide_eq_false (by omega)
              have a5 : decide ((48 : Int) ≤ (c.toNat : Int)) = true := by first | exact decide_eq_true (by omega) | exact decide_eq_false (by omega)
              have a6 : decide ((c.toNat : Int) ≤ 57) = false := by first | exact decide_eq_true (by omega) | exact decide_eq_false (by omega)
              clear h
              go_wp2
              go_round
              case rel => exact ⟨i + 1, by omega, by go_num, HS.out⟩
              case measure => simp [intOf]; omega
            · have n95 : ((c.toNat : Int) == 95) = false := by rw [beq_eq_false_iff_ne]; omega
              have hi0 : ((i : Int) == 0) = false := by rw [beq_eq_false_iff_ne]; omega
              have a1 : decide ((97 : Int) ≤ (c.toNat : Int)) = false := by first | exact decide_eq_true (by omega) | exact decide_eq_false (by omega)
              have a2 : decide ((c.toNat : Int) ≤ 122) = true := by first | exact decide_eq_true (by omega) | exact decide_eq_false (by omega)
              have a3 : decide ((65 : Int) ≤ (c.toNat : Int)) = false := by first | exact decide_eq_true (by omega) | exact decide_eq_false (by omega)
              have a4 : decide ((c.toNat : Int) ≤ 90) = true := by first | exact decide_eq_true (by omega) | exact decide_eq_false (by omega)
              have a5 : decide ((48 : Int) ≤ (c.toNat : Int)) = true := by first | exact decide_eq_true (by omega) | exact decide_eq_false (by omega)
              have a6 : decide ((c.toNat : Int) ≤ 57) = true := by first | exact decide_eq_true (by omega) | exact decide_eq_false (by omega)
              clear h h' h0
              go_wp2
              go_round
              case rel => exact ⟨i + 1, by omega, by go_num, HS.out⟩
              case measure => simp [intOf]; omega
        · obtain rfl : i = s.size := by omega
          have hdi : decide (s.size < s.size) = false := decide_eq_false (by omega)
          go_wp2
          go_ret
          exact ⟨by rw [HN.out, HALL.out]; rfl, rfl⟩

end Go.Proofs.Ytidfiiogjfpfmaa
