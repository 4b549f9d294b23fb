/- The walks of the reference's Digit and Run. -/
import Derived.Test.YtanacoollaajkaaDoorDurG
namespace Go.Proofs.YtanacoollaajkaaDoor
open Go.RowKit

set_option maxHeartbeats 400000 in
theorem rDigit_any (c : UInt8) (w : World) : Calls Tryd.prog 26 #[.int .u8 (c.toNat : Int)] w fun e w' => e = .returned (.bool (Dur.digit c)) ∧ w = w' := by
  go_enter Tryd.func26, Tryd.ntmps26
  go_wp2
  all_goals go_ret
  all_goals exact ⟨ret_bool (by rw [Bool.eq_iff_iff, digit_int]; simp; try omega), rfl⟩
namespace Dur
/-- how many digits there are from a place on -/
def runN (s : ByteArray) (k : Nat) : Nat := s.size - k - (num 0 ((bl s).drop k)).2.length
theorem num_rest (l : Bs) : ∀ v u, (num v l).2 = (num u l).2 := by
  induction l with
  | nil => intro v u; rfl
  | cons c l ih =>
    intro v u
    unfold num
    split
    · exact ih _ _
    · rfl
theorem runN_go {s : ByteArray} {k : Nat} (h : k < s.size) (hd : digit s[k] = true) : runN s k = runN s (k + 1) + 1 := by
  unfold runN
  rw [drop_cons s k h]
  conv => lhs; unfold num
  rw [if_pos hd, num_rest _ _ 0]
  have := num_len ((bl s).drop (k + 1)) 0
  rw [List.length_drop, bl_len] at this
  omega
theorem runN_stop {s : ByteArray} {k : Nat} (h : k < s.size) (hd : digit s[k] = false) : runN s k = 0 := by
  unfold runN
  rw [drop_cons s k h]
  unfold num
  rw [hd, if_neg (by decide), ← drop_cons s k h, List.length_drop, bl_len]
  omega
theorem runN_end {s : ByteArray} {k : Nat} (h : s.size ≤ k) : runN s k = 0 := by
  unfold runN
  omega
end Dur
set_option maxHeartbeats 1000000 in
theorem rRun_any (s : ByteArray) (at_ : Nat) (hs : s.size ≤ 4611686018427387904) (ha : at_ ≤ s.size) (w : World) :
    Calls Tryd.prog 21 #[.string s, .int .i64 at_] w fun e w' => e = .returned (.int .i64 (Dur.runN s at_ : Nat)) ∧ w = w' := by
  go_enter Tryd.func21, Tryd.ntmps21
  go_wp2
  go_loop [5] (fun j => ∃ k : Nat, at_ + k ≤ s.size ∧ j = .int .i64 k ∧ Dur.runN s at_ = k + Dur.runN s (at_ + k)) (fun j => s.size - (intOf j).toNat)
  case atStart => exact ⟨0, by omega, rfl, by simp⟩
  case round =>
    obtain ⟨k, hk, rfl, hq⟩ := hrel
    by_cases hlt : at_ + k < s.size
    · obtain ⟨c, hc⟩ : ∃ c, s[at_ + k] = c := ⟨_, rfl⟩
      have hl2 : (at_ : Int) + (k : Int) < (s.size : Int) := by omega
      rcases hd : Dur.digit c with _ | _
      · have HQ := Lib.hid (show Dur.runN s at_ = k by rw [hq, Dur.runN_stop hlt (by rw [hc]; exact hd), Nat.add_zero])
        clear hq
        go_wp2_with fail
        refine (rDigit_any c _).mono ?_
        rintro e w' ⟨rfl, rfl⟩
        rw [hd]
        go_wp2
        go_ret
        exact ⟨by rw [HQ.out]; rfl, rfl⟩
      · have HQ := Lib.hid (show Dur.runN s at_ = (k + 1) + Dur.runN s (at_ + (k + 1)) by rw [hq, Dur.runN_go hlt (by rw [hc]; exact hd), Nat.add_assoc at_ k 1]; omega)
        clear hq
        go_wp2_with fail
        refine (rDigit_any c _).mono ?_
        rintro e w' ⟨rfl, rfl⟩
        rw [hd]
        go_wp2
        go_round
        case rel => exact ⟨k + 1, by omega, by go_num, HQ.out⟩
        case measure => simp [intOf]; omega
    · have HQ := Lib.hid (show Dur.runN s at_ = k by rw [hq, Dur.runN_end (by omega), Nat.add_zero])
      clear hq
      go_wp2
      go_ret
      exact ⟨by rw [HQ.out]; rfl, rfl⟩
end Go.Proofs.YtanacoollaajkaaDoor
