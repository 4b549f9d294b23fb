/- The walks of the small functions of num and of the reference: what is a number; a digit more; digits from a place on. -/
import Derived.Test.YtnallbhckeoldaaDoorProg
import Derived.Test.YtnallbhckeoldaaDoorNumPlain3
import Derived.WalkKit
import Derived.WalkSpells
import Derived.WalkLawsBesides
import Derived.Lib.Hide
import Derived.IntWalk
import Derived.BigQuiet
import Derived.Deep.QuietTactic
import Derived.LoopTactic
import Derived.Below
namespace Go.Proofs.YtnallbhckeoldaaDoor
open Go.RowKit

theorem ret_bool {a b : Bool} (h : a = b) : Ending.returned (.bool a) = .returned (.bool b) := by rw [h]
theorem ret_int {k : IntKind} {a b : Int} (h : a = b) : Ending.returned (.int k a) = .returned (.int k b) := by rw [h]
theorem ret_int2 {k l : IntKind} {a b c d : Int} (h : a = b) (h2 : c = d) : Ending.returned (.tuple #[.int k a, .int l c]) = .returned (.tuple #[.int k b, .int l d]) := by rw [h, h2]
theorem n_le (c : UInt8) (n : Nat) (hn : n < 256) : (c ≤ UInt8.ofNat n) ↔ (c.toNat : Int) ≤ (n : Int) := by
  rw [UInt8.le_iff_toNat_le, UInt8.toNat_ofNat']
  omega
theorem n_ge (c : UInt8) (n : Nat) (hn : n < 256) : (UInt8.ofNat n ≤ c) ↔ (n : Int) ≤ (c.toNat : Int) := by
  rw [UInt8.le_iff_toNat_le, UInt8.toNat_ofNat']
  omega
theorem n_eq (c : UInt8) (n : Nat) (hn : n < 256) : (c = UInt8.ofNat n) ↔ (c.toNat : Int) = (n : Int) := by
  rw [← UInt8.toNat_inj, UInt8.toNat_ofNat']
  omega
theorem digit_int (c : UInt8) : (Num.digit c = true) ↔ (48 ≤ (c.toNat : Int) ∧ (c.toNat : Int) ≤ 57) := by
  have h1 := n_ge c 48 (by decide)
  have h2 := n_le c 57 (by decide)
  simp only [Num.digit, Bool.and_eq_true, decide_eq_true_eq]
  exact ⟨fun h => ⟨h1.1 h.1, h2.1 h.2⟩, fun h => ⟨h1.2 h.1, h2.2 h.2⟩⟩
namespace Num
abbrev bl (s : ByteArray) : Bs := s.data.toList
theorem bl_len (s : ByteArray) : (bl s).length = s.size := by simp [bl]
theorem drop_cons (s : ByteArray) (i : Nat) (h : i < s.size) : (bl s).drop i = s[i] :: (bl s).drop (i + 1) := by
  rw [List.drop_eq_getElem_cons (by rw [bl_len]; exact h)]
  rfl
theorem drop_all (s : ByteArray) (i : Nat) (h : s.size ≤ i) : (bl s).drop i = [] := List.drop_eq_nil_of_le (by rw [bl_len]; exact h)
theorem bl_extract (s : ByteArray) (a b : Nat) : bl (s.extract a b) = ((bl s).drop a).take (b - a) := by
  unfold bl
  rw [ByteArray.data_extract, Array.toList_extract]
theorem bl_from (s : ByteArray) (k : Nat) : bl (s.extract k s.size) = (bl s).drop k := by
  rw [bl_extract, List.take_of_length_le]
  rw [List.length_drop, bl_len]
  omega
theorem ba_ext {s t : ByteArray} (h : bl s = bl t) : s = t := by
  cases s; cases t
  simp only [bl] at h
  congr
  exact Array.toList_inj.1 h
theorem bl_append (a b : ByteArray) : bl (a ++ b) = bl a ++ bl b := by simp [bl]
theorem bl_mk (l : Bs) : bl ⟨l.toArray⟩ = l := by simp [bl]
theorem mk_size (l : Bs) : (⟨l.toArray⟩ : ByteArray).size = l.length := by simp [ByteArray.size]
end Num

set_option maxHeartbeats 400000 in
theorem sane_any (d : Int) (w : World) : Calls Tryd.prog 12 #[.int .i64 d] w fun e w' => e = .returned (.bool (Num.sane d)) ∧ w = w' := by
  go_enter Tryd.func12, Tryd.ntmps12
  go_wp2
  all_goals go_ret
  all_goals exact ⟨ret_bool (by simp [Num.sane]; try omega), rfl⟩
set_option maxHeartbeats 400000 in
theorem rSane_any (d : Int) (w : World) : Calls Tryd.prog 13 #[.int .i64 d] w fun e w' => e = .returned (.bool (Num.sane d)) ∧ w = w' := by
  go_enter Tryd.func13, Tryd.ntmps13
  go_wp2
  all_goals go_ret
  all_goals exact ⟨ret_bool (by simp [Num.sane]; try omega), rfl⟩
set_option maxHeartbeats 400000 in
theorem more_any (v d : Nat) (hv : v ≤ 9007199254740993) (hd : d ≤ 9) (w : World) : Calls Tryd.prog 17 #[.int .i64 v, .int .i64 d] w fun e w' => e = .returned (.int .i64 (Num.cap (v * 10 + d) : Nat)) ∧ w = w' := by
  go_enter Tryd.func17, Tryd.ntmps17
  go_wp2
  all_goals go_ret
  all_goals exact ⟨ret_int (by unfold Num.cap; omega), rfl⟩
set_option maxHeartbeats 400000 in
theorem rDigit_any (c : UInt8) (w : World) : Calls Tryd.prog 23 #[.int .u8 (c.toNat : Int)] w fun e w' => e = .returned (.bool (Num.digit c)) ∧ w = w' := by
  go_enter Tryd.func23, Tryd.ntmps23
  go_wp2
  all_goals go_ret
  all_goals exact ⟨ret_bool (by rw [Bool.eq_iff_iff, digit_int]; simp; try omega), rfl⟩
set_option maxHeartbeats 1000000 in
theorem rRun_any (s : ByteArray) (at_ : Nat) (hs : s.size ≤ 4611686018427387904) (ha : at_ ≤ s.size) (w : World) :
    Calls Tryd.prog 18 #[.string s, .int .i64 at_] w fun e w' => e = .returned (.int .i64 (Num.run ((Num.bl s).drop at_) : Nat)) ∧ w = w' := by
  go_enter Tryd.func18, Tryd.ntmps18
  go_wp2
  go_loop [5] (fun j => ∃ k : Nat, at_ + k ≤ s.size ∧ j = .int .i64 k ∧ Num.run ((Num.bl s).drop at_) = k + Num.run ((Num.bl s).drop (at_ + k))) (fun j => s.size - (intOf j).toNat)
  case atStart => exact ⟨0, by omega, rfl, by simp⟩
  case round =>
    obtain ⟨k, hk, rfl, hq⟩ := hrel
    by_cases hlt : at_ + k < s.size
    · have hdc := Num.drop_cons s (at_ + k) hlt
      obtain ⟨c, hc⟩ : ∃ c, s[at_ + k] = c := ⟨_, rfl⟩
      rw [hc] at hdc
      have hl2 : (at_ : Int) + (k : Int) < (s.size : Int) := by omega
      rcases hd : Num.digit c with _ | _
      · have HQ := Lib.hid (show Num.run ((Num.bl s).drop at_) = k by rw [hq, hdc]; simp [Num.run, hd])
        clear hq hdc
        go_wp2_with fail
        refine (rDigit_any c _).mono ?_
        rintro e w' ⟨rfl, rfl⟩
        rw [hd]
        go_wp2
        go_ret
        exact ⟨by rw [HQ.out]; rfl, rfl⟩
      · have HQ := Lib.hid (show Num.run ((Num.bl s).drop at_) = (k + 1) + Num.run ((Num.bl s).drop (at_ + (k + 1))) by
          rw [hq, hdc, show at_ + (k + 1) = at_ + k + 1 by omega]
          simp [Num.run, hd]
          omega)
        clear hq hdc
        go_wp2_with fail
        refine (rDigit_any c _).mono ?_
        rintro e w' ⟨rfl, rfl⟩
        rw [hd]
        go_wp2
        go_round
        case rel => exact ⟨k + 1, by omega, by go_num, HQ.out⟩
        case measure => simp [intOf]; omega
    · have HQ := Lib.hid (show Num.run ((Num.bl s).drop at_) = k by rw [hq, Num.drop_all s (at_ + k) (by omega)]; simp [Num.run])
      clear hq
      go_wp2
      go_ret
      exact ⟨by rw [HQ.out]; rfl, rfl⟩
end Go.Proofs.YtnallbhckeoldaaDoor
