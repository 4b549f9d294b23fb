/- The walks of the reference's small functions over series: sane, the same; what a series counts as; a clone. -/
import Derived.Test.YtjoaafekhleocaaSerA
namespace Go.Proofs.Ytjoaafekhleocaa
open Go.RowKit

theorem time' (t : Int) (w : World) : Calls Try.prog 25 #[.int .i64 t] w fun e w' => e = .returned (.bool (Ser.isTime t)) ∧ w' = w := (rTime_any t w).mono fun _ _ h => ⟨h.1, h.2.symm⟩
theorem num' (t : Int) (w : World) : Calls Try.prog 26 #[.int .i64 t] w fun e w' => e = .returned (.bool (Ser.isNum t)) ∧ w' = w := (rNum_any t w).mono fun _ _ h => ⟨h.1, h.2.symm⟩

set_option maxRecDepth 100000 in
set_option maxHeartbeats 1000000 in
theorem rSane_any (A : Option Addr) (n c : Nat) (xs : List (Int × Int)) (w : World) (h : Smp w w.heap.size A n c xs) :
    Calls Try.prog 15 #[.slice A n c] w fun e w' => e = .returned (.bool (Ser.sane xs)) ∧ Below w.heap.size w w' := by
  have hlen := h.1
  have hc := h.2.1
  have hc2 := h.2.2.1
  go_enter Try.func15, Try.ntmps15
  go_wp2
  go_loopw [3] (fun i wr => ∃ k : Nat, k ≤ n ∧ i = .int .i64 k ∧ (∀ j, j < k → Ser.okAt xs j = true) ∧ Below w.heap.size w wr) (fun i _ => n - (intOf i).toNat)
  case atStart => exact ⟨0, Nat.zero_le _, rfl, fun j hj => absurd hj (by omega), Below.refl _ _⟩
  case round =>
    obtain ⟨k, hk, rfl, hok, hb⟩ := hrel
    by_cases hlt : k < n
    · obtain ⟨b, off, rfl, hbB, hcell⟩ := h.at_ hlt
      have h1 := (hb.cell (p := ⟨b, off + k * 2, none⟩) hbB).trans (hcell k hlt).1
      have h2 := (hb.cell (p := ⟨b, off + k * 2 + 1, none⟩) hbB).trans (hcell k hlt).2
      have HOK := Lib.hid hok
      have HC := Lib.hid hcell
      have HL := Lib.hid hlen
      have hbs := hb.size
      clear hok hcell h hlen
      have j0 : (0 : Int) ≤ (k : Int) := by omega
      have j1 : (k : Int) < (n : Int) := by omega
      by_cases ht : Ser.isTime (Ser.tAt xs k) = true
      · by_cases hv : Ser.isNum (Ser.vAt xs k) = true
        · rcases Nat.eq_zero_or_pos k with hk0 | hk0
          · have hd : decide (0 < k) = false := by simp; omega
            have HK0 := Lib.hid hk0
            clear hk0
            go_wp2
            go_quiet (first | (go_at_call 25; exact Calls.quiet_of_same (time' _ _)) | (go_at_call 26; exact Calls.quiet_of_same (num' _ _)))
            go_wp2
            go_roundw
            case rel => exact ⟨k + 1, by omega, by go_num, Ser.ok_snoc HOK.out (Ser.okAt_mk ht hv (.inl HK0.out)), (by repeat (first | assumption | exact Below.refl _ _ | apply Mem.below_drewN | apply Below.drew | refine Below.alloc ?_ (by first | assumption | omega | (simp; done) | (simp; omega)) _ | refine Below.setCell ?_ (by first | assumption | omega | (simp; done) | (simp; omega)) _))⟩
            case measure => simp [intOf]; omega
          · have hd : decide (0 < k) = true := by simp; omega
            have h3 := (hb.cell (p := ⟨b, off + (k - 1) * 2, none⟩) hbB).trans (HC.out (k - 1) (by omega)).1
            have i0 : (0 : Int) ≤ (k : Int) - 1 := by omega
            have i1 : (k : Int) - 1 < (n : Int) := by omega
            have s1 : IntKind.i64.wrap ((k : Int) - 1) = (k : Int) - 1 := IntWalk.i64_in _ (by omega)
            have s2 : ((k : Int) - 1).toNat = k - 1 := by omega
            by_cases ho : Ser.tAt xs k ≤ Ser.tAt xs (k - 1)
            · go_wp2
              go_quiet (first | (go_at_call 25; exact Calls.quiet_of_same (time' _ _)) | (go_at_call 26; exact Calls.quiet_of_same (num' _ _)))
              clear s1 s2
              go_wp2
              go_ret
              exact ⟨ret_bool (Ser.not_sane_order (by rw [HL.out]; omega) hk0 ho).symm, (by repeat (first | assumption | exact Below.refl _ _ | apply Mem.below_drewN | apply Below.drew | refine Below.alloc ?_ (by first | assumption | omega | (simp; done) | (simp; omega)) _ | refine Below.setCell ?_ (by first | assumption | omega | (simp; done) | (simp; omega)) _))⟩
            · go_wp2
              go_quiet (first | (go_at_call 25; exact Calls.quiet_of_same (time' _ _)) | (go_at_call 26; exact Calls.quiet_of_same (num' _ _)))
              clear s1 s2
              go_wp2
              go_roundw
              case rel => exact ⟨k + 1, by omega, by go_num, Ser.ok_snoc HOK.out (Ser.okAt_mk ht hv (.inr (by omega))), (by repeat (first | assumption | exact Below.refl _ _ | apply Mem.below_drewN | apply Below.drew | refine Below.alloc ?_ (by first | assumption | omega | (simp; done) | (simp; omega)) _ | refine Below.setCell ?_ (by first | assumption | omega | (simp; done) | (simp; omega)) _))⟩
              case measure => simp [intOf]; omega
        · have hv' : Ser.isNum (Ser.vAt xs k) = false := by simpa using hv
          clear hv
          go_wp2
          go_quiet (first | (go_at_call 25; exact Calls.quiet_of_same (time' _ _)) | (go_at_call 26; exact Calls.quiet_of_same (num' _ _)))
          go_wp2
          go_ret
          exact ⟨ret_bool (Ser.not_sane_num (by rw [HL.out]; omega) hv').symm, (by repeat (first | assumption | exact Below.refl _ _ | apply Mem.below_drewN | apply Below.drew | refine Below.alloc ?_ (by first | assumption | omega | (simp; done) | (simp; omega)) _ | refine Below.setCell ?_ (by first | assumption | omega | (simp; done) | (simp; omega)) _))⟩
      · have ht' : Ser.isTime (Ser.tAt xs k) = false := by simpa using ht
        clear ht
        go_wp2
        go_quiet (first | (go_at_call 25; exact Calls.quiet_of_same (time' _ _)) | (go_at_call 26; exact Calls.quiet_of_same (num' _ _)))
        go_wp2
        go_ret
        exact ⟨ret_bool (Ser.not_sane_time (by rw [HL.out]; omega) ht').symm, (by repeat (first | assumption | exact Below.refl _ _ | apply Mem.below_drewN | apply Below.drew | refine Below.alloc ?_ (by first | assumption | omega | (simp; done) | (simp; omega)) _ | refine Below.setCell ?_ (by first | assumption | omega | (simp; done) | (simp; omega)) _))⟩
    · obtain rfl : k = n := by omega
      go_wp2
      go_ret
      refine ⟨ret_bool ?_, hb⟩
      by_cases h64 : k ≤ 64
      · rw [Ser.sane_mk hlen h64 hok]; simp; omega
      · rw [Ser.sane_long (by omega)]; simp; omega
end Go.Proofs.Ytjoaafekhleocaa
