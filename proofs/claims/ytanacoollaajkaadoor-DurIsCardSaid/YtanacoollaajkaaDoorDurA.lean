/- The walks of the small functions of dur: what is a duration; a number at a text's head; a sum. -/
import Derived.Test.YtanacoollaajkaaDoorProg
import Derived.Test.YtanacoollaajkaaDoorDurPlain
import Derived.Test.YtanacoollaajkaaDoorDurShelf
import Derived.WalkKit
import Derived.WalkSpells
import Derived.WalkLawsBesides
import Derived.Lib.Hide
import Derived.IntWalk
import Derived.BigQuiet
import Derived.Deep.QuietTactic
import Derived.LoopTactic
import Derived.Below
namespace Go.Proofs.YtanacoollaajkaaDoor
open Go.RowKit

theorem ret_bool {a b : Bool} (h : a = b) : Ending.returned (.bool a) = .returned (.bool b) := by rw [h]
theorem ret_int {k : IntKind} {a b : Int} (h : a = b) : Ending.returned (.int k a) = .returned (.int k b) := by rw [h]
theorem n_eq (c : UInt8) (n : Nat) (hn : n < 256) : (c = UInt8.ofNat n) ↔ (c.toNat : Int) = (n : Int) := by
  rw [← UInt8.toNat_inj, UInt8.toNat_ofNat']
  omega
theorem n_le (c : UInt8) (n : Nat) (hn : n < 256) : (c ≤ UInt8.ofNat n) ↔ (c.toNat : Int) ≤ (n : Int) := by
  rw [UInt8.le_iff_toNat_le, UInt8.toNat_ofNat']
  omega
theorem n_ge (c : UInt8) (n : Nat) (hn : n < 256) : (UInt8.ofNat n ≤ c) ↔ (n : Int) ≤ (c.toNat : Int) := by
  rw [UInt8.le_iff_toNat_le, UInt8.toNat_ofNat']
  omega
theorem digit_int (c : UInt8) : (Dur.digit c = true) ↔ (48 ≤ (c.toNat : Int) ∧ (c.toNat : Int) ≤ 57) := by
  have h1 := n_ge c 48 (by decide)
  have h2 := n_le c 57 (by decide)
  simp only [Dur.digit, Bool.and_eq_true, decide_eq_true_eq]
  exact ⟨fun h => ⟨h1.1 h.1, h2.1 h.2⟩, fun h => ⟨h1.2 h.1, h2.2 h.2⟩⟩
namespace Dur
abbrev bl (s : ByteArray) : Bs := s.data.toList
theorem bl_len (s : ByteArray) : (bl s).length = s.size := by simp [bl]
theorem drop_cons (s : ByteArray) (i : Nat) (h : i < s.size) : (bl s).drop i = s[i] :: (bl s).drop (i + 1) := by
  rw [List.drop_eq_getElem_cons (by rw [bl_len]; exact h)]
  rfl
theorem drop_all (s : ByteArray) (i : Nat) (h : s.size ≤ i) : (bl s).drop i = [] := List.drop_eq_nil_of_le (by rw [bl_len]; exact h)
theorem bl_extract (s : ByteArray) (a b : Nat) : bl (s.extract a b) = ((bl s).drop a).take (b - a) := by
  unfold bl
  rw [ByteArray.data_extract, Array.toList_extract]
theorem bl_from (s : ByteArray) (k : Nat) : bl (s.extract k s.size) = (bl s).drop k := by
  rw [bl_extract, List.take_of_length_le]
  rw [List.length_drop, bl_len]
  omega
theorem ba_ext {s t : ByteArray} (h : bl s = bl t) : s = t := by
  cases s; cases t
  simp only [bl] at h
  congr
  exact Array.toList_inj.1 h
theorem bl_append (a b : ByteArray) : bl (a ++ b) = bl a ++ bl b := by simp [bl]
theorem bl_mk (l : Bs) : bl ⟨l.toArray⟩ = l := by simp [bl]
/-- the number at a text's head, as it is kept: at most one beyond the greatest -/
def cap (v : Nat) : Nat := min v 9007199254740993
theorem cap_step (v d : Nat) : cap (cap v * 10 + d) = cap (v * 10 + d) := by unfold cap; omega
theorem cap_le (v : Nat) : cap v ≤ 9007199254740993 := Nat.min_le_right _ _
theorem cap_small {v : Nat} (h : v ≤ 9007199254740993) : cap v = v := Nat.min_eq_left h
theorem num_len (l : Bs) : ∀ v, (num v l).2.length ≤ l.length := by
  induction l with
  | nil => intro v; exact Nat.le_refl _
  | cons c l ih =>
    intro v
    unfold num
    split
    · exact Nat.le_succ_of_le (ih _)
    · exact Nat.le_refl _
end Dur

set_option maxHeartbeats 400000 in
theorem sane_any (d : Int) (w : World) : Calls Tryd.prog 12 #[.int .i64 d] w fun e w' => e = .returned (.bool (Dur.sane d)) ∧ w = w' := by
  go_enter Tryd.func12, Tryd.ntmps12
  go_wp2
  all_goals go_ret
  all_goals exact ⟨ret_bool (by simp [Dur.sane]; try omega), rfl⟩
set_option maxHeartbeats 400000 in
theorem rSane_any (d : Int) (w : World) : Calls Tryd.prog 13 #[.int .i64 d] w fun e w' => e = .returned (.bool (Dur.sane d)) ∧ w = w' := by
  go_enter Tryd.func13, Tryd.ntmps13
  go_wp2
  all_goals go_ret
  all_goals exact ⟨ret_bool (by simp [Dur.sane]; try omega), rfl⟩

set_option maxHeartbeats 1000000 in
theorem count_any (s : ByteArray) (hs : s.size ≤ 4611686018427387904) (w : World) :
    Calls Tryd.prog 17 #[.string s] w fun e w' => e = .returned (.tuple #[.int .i64 (Dur.cap (Dur.num 0 (Dur.bl s)).1 : Nat), .int .i64 ((s.size - (Dur.num 0 (Dur.bl s)).2.length : Nat) : Int)]) ∧ w = w' := by
  go_enter Tryd.func17, Tryd.ntmps17
  go_wp2
  go_loop [4, 5] (fun n j => ∃ (k v : Nat), k ≤ s.size ∧ j = .int .i64 k ∧ n = .int .i64 (Dur.cap v : Nat) ∧ Dur.num 0 (Dur.bl s) = Dur.num v ((Dur.bl s).drop k)) (fun _ j => s.size - (intOf j).toNat)
  case atStart => exact ⟨0, 0, Nat.zero_le _, rfl, rfl, rfl⟩
  case round =>
    obtain ⟨k, v, hk, rfl, rfl, hn⟩ := hrel
    have hcl := Dur.cap_le v
    by_cases hlt : k < s.size
    · have hd := Dur.drop_cons s k hlt
      obtain ⟨c, hc⟩ : ∃ c, s[k] = c := ⟨_, rfl⟩
      rw [hc] at hd
      rcases hdg : Dur.digit c with _ | _
      · have hst : Dur.num 0 (Dur.bl s) = (v, (Dur.bl s).drop k) := by
          rw [hn, hd]
          simp [Dur.num, hdg]
        have hnd : ¬ (48 ≤ (c.toNat : Int) ∧ (c.toNat : Int) ≤ 57) := fun h => by rw [(digit_int c).2 h] at hdg; cases hdg
        have HST := Lib.hid hst
        have hlen : s.size - ((Dur.bl s).drop k).length = k := by rw [List.length_drop, Dur.bl_len]; omega
        have HLEN := Lib.hid hlen
        clear hst hlen hn hd hdg
        go_wp2
        all_goals (go_ret2; exact ⟨by rw [HST.out, HLEN.out]; rfl, rfl⟩)
      · have hb := (digit_int c).1 hdg
        have HN := Lib.hid (show Dur.num 0 (Dur.bl s) = Dur.num (v * 10 + (c.toNat - 48)) ((Dur.bl s).drop (k + 1)) by
          rw [hn, hd]
          conv => lhs; unfold Dur.num
          rw [if_pos hdg])
        obtain ⟨hb1, hb2⟩ := hb
        obtain ⟨m, hm⟩ : ∃ m, m = Dur.cap v := ⟨_, rfl⟩
        have HM := Lib.hid hm
        rw [← hm] at hcl ⊢
        clear hn hd hdg hm
        go_wp2
        go_round
        case rel =>
          have hq : min ((m : Int) * 10 + ((c.toNat : Int) - 48)) 9007199254740993 = ((Dur.cap (v * 10 + (c.toNat - 48)) : Nat) : Int) := by
            have := HM.out
            unfold Dur.cap at this ⊢
            omega
          exact ⟨k + 1, v * 10 + (c.toNat - 48), by omega, by go_num, by rw [hq], HN.out⟩
        case measure => simp [intOf]; omega
    · have hst : Dur.num 0 (Dur.bl s) = (v, []) := by
        rw [hn, Dur.drop_all s k (by omega)]
        rfl
      have HST := Lib.hid hst
      clear hst hn
      go_wp2
      go_ret2
      exact ⟨by rw [HST.out]; simp; omega, rfl⟩
namespace Dur
theorem cap_add (S n z : Nat) (hz : 0 < z) : (if 9007199254740992 < cap S ∨ (9007199254740992 - cap S) / z < cap n then 9007199254740993 else cap S + cap n * z) = cap (S + n * z) := by
  have key : ∀ a : Nat, a ≤ 9007199254740992 → ((9007199254740992 - a) / z < cap n ↔ 9007199254740992 < a + n * z) := by
    intro a ha
    rw [Nat.div_lt_iff_lt_mul hz]
    unfold cap
    rcases Nat.lt_or_ge n 9007199254740993 with h | h
    · rw [Nat.min_eq_left (by omega)]
      omega
    · rw [Nat.min_eq_right h]
      have h1 : 9007199254740993 * 1 ≤ 9007199254740993 * z := Nat.mul_le_mul_left _ hz
      have h2 : 9007199254740993 * z ≤ n * z := Nat.mul_le_mul_right _ h
      omega
  by_cases hS : 9007199254740992 < cap S
  · rw [if_pos (.inl hS)]
    unfold cap at hS ⊢
    have : 9007199254740993 ≤ S := by omega
    rw [Nat.min_eq_right (by omega)]
  · have hS2 : cap S = S := by unfold cap at hS ⊢; omega
    rw [hS2] at hS ⊢
    have hk := key S (by omega)
    by_cases hb : (9007199254740992 - S) / z < cap n
    · rw [if_pos (.inr hb)]
      have := hk.1 hb
      unfold cap
      rw [Nat.min_eq_right (by omega)]
    · rw [if_neg (fun h => h.elim hS hb)]
      have h3 : ¬ 9007199254740992 < S + n * z := fun h => hb (hk.2 h)
      have hn : cap n = n := by
        unfold cap
        have : n * 1 ≤ n * z := Nat.mul_le_mul_left _ hz
        omega
      rw [hn]
      unfold cap
      rw [Nat.min_eq_left (by omega)]
end Dur
set_option maxHeartbeats 1000000 in
theorem add_any (S n z : Nat) (hz : 0 < z) (hz2 : z ≤ 86400000) (w : World) :
    Calls Tryd.prog 19 #[.int .i64 (Dur.cap S : Nat), .int .i64 (Dur.cap n : Nat), .int .i64 (z : Nat)] w fun e w' => e = .returned (.int .i64 (Dur.cap (S + n * z) : Nat)) ∧ w = w' := by
  have hr := Dur.cap_add S n z hz
  have hS := Dur.cap_le S
  have hn := Dur.cap_le n
  rw [← hr]
  generalize Dur.cap S = a at *
  generalize Dur.cap n = b at *
  clear hr
  by_cases h1 : 9007199254740992 < a
  · have hd : decide ((9007199254740992 : Int) < (a : Int)) = true := by simp; omega
    rw [if_pos (.inl h1)]
    clear h1
    go_enter Tryd.func19, Tryd.ntmps19
    go_wp2
    go_ret
    exact ⟨rfl, rfl⟩
  · have hd : decide ((9007199254740992 : Int) < (a : Int)) = false := by simp; omega
    obtain ⟨q, hq⟩ : ∃ q, q = (9007199254740992 - a) / z := ⟨_, rfl⟩
    have hq2 : Int.tdiv ((9007199254740992 : Int) - (a : Int)) (z : Int) = (q : Int) := by
      rw [hq, show (9007199254740992 : Int) - (a : Int) = ((9007199254740992 - a : Nat) : Int) by omega]
      rfl
    have hq3 : q ≤ 9007199254740992 := by rw [hq]; exact Nat.le_trans (Nat.div_le_self _ _) (by omega)
    have hz0 : ((z : Int) == 0) = false := by simp; omega
    have w1 : IntKind.i64.wrap ((9007199254740992 : Int) - (a : Int)) = (9007199254740992 : Int) - (a : Int) := IntWalk.i64_in _ (by omega)
    have hqz : (9007199254740992 - a) / z = q := hq.symm
    by_cases h2 : q < b
    · rw [hqz, if_pos (.inr h2)]
      have hd2 : decide (q < b) = true := by simp; omega
      clear h1 h2 hq hqz
      go_enter Tryd.func19, Tryd.ntmps19
      go_wp2
      go_ret
      exact ⟨rfl, rfl⟩
    · rw [hqz, if_neg (fun h => h.elim h1 h2)]
      have hd2 : decide (q < b) = false := by simp; omega
      have hm : b * z ≤ 9007199254740992 := by
        have h3 : b * z ≤ q * z := Nat.mul_le_mul_right _ (by omega)
        have h4 : q * z ≤ 9007199254740992 - a := by rw [hq]; exact Nat.div_mul_le_self _ _
        omega
      obtain ⟨m, hm2⟩ : ∃ m, m = b * z := ⟨_, rfl⟩
      rw [← hm2] at hm ⊢
      have hm3 : (b : Int) * (z : Int) = (m : Int) := by rw [hm2]; exact (Int.natCast_mul b z).symm
      clear h1 h2 hq hqz hm2
      go_enter Tryd.func19, Tryd.ntmps19
      go_wp2
      go_ret
      exact ⟨ret_int (by omega), rfl⟩
end Go.Proofs.YtanacoollaajkaaDoor
