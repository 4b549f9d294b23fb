/- The walks of the small functions of series and its reference: what is a time, a number, a series; whether two series are the same. -/
import Derived.Test.YtidfiiogjfpfmaaProg
import Derived.Test.YtidfiiogjfpfmaaSerPlain
import Derived.Test.YtidfiiogjfpfmaaSerMem
import Derived.WalkKit
import Derived.WalkSpells
import Derived.WalkLawsBesides
import Derived.Lib.Hide
import Derived.IntWalk
import Derived.BigQuiet
import Derived.Deep.QuietTactic
namespace Go.Proofs.Ytidfiiogjfpfmaa.SerW
open Go.RowKit

theorem ret_bool {a b : Bool} (h : a = b) : Ending.returned (.bool a) = .returned (.bool b) := by rw [h]
theorem ret_int {k : IntKind} {a b : Int} (h : a = b) : Ending.returned (.int k a) = .returned (.int k b) := by rw [h]
theorem bcell {W w1 : World} (hb : Below W.heap.size W w1) : (∀ b o, b < W.heap.size → w1.cell? ⟨b, o, none⟩ = W.cell? ⟨b, o, none⟩) ∧ (∀ b o, b < W.heap.size → w1.frozen? ⟨b, o, none⟩ = W.frozen? ⟨b, o, none⟩) :=
  ⟨fun b o h => hb.cell (p := ⟨b, o, none⟩) h, fun b o h => hb.frozen (p := ⟨b, o, none⟩) h⟩

set_option maxHeartbeats 400000 in
theorem time_any (t : Int) (w : World) : Calls Try.prog 30 #[.int .i64 t] w fun e w' => e = .returned (.bool (Ser.isTime t)) ∧ w = w' := by
  go_enter Try.func30, Try.ntmps30
  go_wp2
  all_goals go_ret
  all_goals exact ⟨ret_bool (by simp [Ser.isTime]; omega), rfl⟩
set_option maxHeartbeats 400000 in
theorem numSane_any (t : Int) (w : World) : Calls Try.prog 31 #[.int .i64 t] w fun e w' => e = .returned (.bool (Ser.isNum t)) ∧ w = w' := by
  go_enter Try.func31, Try.ntmps31
  go_wp2
  all_goals go_ret
  all_goals exact ⟨ret_bool (by simp [Ser.isNum]; omega), rfl⟩
set_option maxRecDepth 100000 in
set_option maxHeartbeats 1000000 in
theorem sane_any (A : Option Addr) (n c : Nat) (xs : List (Int × Int)) (w : World) (h : Smp w w.heap.size A n c xs) :
    Calls Try.prog 24 #[.slice A n c] w fun e w' => e = .returned (.bool (Ser.sane xs)) ∧ Below w.heap.size w w' := by
  have hlen := h.1
  have hc := h.2.1
  have hc2 := h.2.2.1
  by_cases h64 : 64 < n
  · go_enter Try.func24, Try.ntmps24
    go_wp2
    go_ret
    exact ⟨ret_bool (by simp [Ser.sane]; omega), Below.refl _ _⟩
  · have h64' : ¬ (64 : Int) < (n : Int) := by omega
    go_enter Try.func24, Try.ntmps24
    go_wp2
    go_loopw [10] (fun i wr => ∃ k : Nat, k ≤ n ∧ i = .int .i64 k ∧ (∀ j, j < k → Ser.okAt xs j = true) ∧ Below w.heap.size w wr) (fun i _ => n - (intOf i).toNat)
    case atStart => exact ⟨0, Nat.zero_le _, rfl, fun j hj => absurd hj (by omega), Below.refl _ _⟩
    case round =>
      obtain ⟨k, hk, rfl, hok, hb⟩ := hrel
      by_cases hlt : k < n
      · obtain ⟨b, off, rfl, hbB, hcell⟩ := h.at_ hlt
        have h1 := (hb.cell (p := ⟨b, off + k * 2, none⟩) hbB).trans (hcell k hlt).1
        have h2 := (hb.cell (p := ⟨b, off + k * 2 + 1, none⟩) hbB).trans (hcell k hlt).2
        have HOK := Lib.hid hok
        have HC := Lib.hid hcell
        have HH := Lib.hid h
        have HL := Lib.hid hlen
        have hbs := hb.size
        clear hok hcell h hlen
        by_cases ht : Ser.isTime (Ser.tAt xs k) = true
        · by_cases hv : Ser.isNum (Ser.vAt xs k) = true
          · rcases Nat.eq_zero_or_pos k with hk0 | hk0
            · have hd : decide (0 < k) = false := by simp; omega
              have HK0 := Lib.hid hk0
              clear hk0
              go_wp2_with (first | (go_at_call 30; refine (time_any _ _).mono ?_; rintro e w' ⟨rfl, rfl⟩) | (go_at_call 31; refine (numSane_any _ _).mono ?_; rintro e w' ⟨rfl, rfl⟩))
              go_quiet (fail)
              go_wp2
              go_roundw
              case rel => exact ⟨k + 1, by omega, by go_num, Ser.ok_snoc HOK.out (Ser.okAt_mk ht hv (.inl HK0.out)), (by repeat (first | assumption | exact Below.refl _ _ | apply Mem.below_drewN | apply Below.drew | refine Below.alloc ?_ (by first | assumption | omega | (simp; done) | (simp; omega)) _ | refine Below.setCell ?_ (by first | assumption | omega | (simp; done) | (simp; omega)) _))⟩
              case measure => simp [intOf]; omega
            · have hd : decide (0 < k) = true := by simp; omega
              have h3 : ∀ o, (wr.alloc o).cell? ⟨b, off + (k - 1) * 2, none⟩ = some (.int .i64 (Ser.tAt xs (k - 1))) := fun o => (World.cell?_alloc_lt wr o _ (show b < wr.heap.size by omega)).trans ((hb.cell (p := ⟨b, off + (k - 1) * 2, none⟩) hbB).trans (HC.out (k - 1) (by omega)).1)
              have i0 : (0 : Int) ≤ (k : Int) - 1 := by omega
              have i1 : (k : Int) - 1 < (n : Int) := by omega
              have s1 : IntKind.i64.wrap ((k : Int) - 1) = (k : Int) - 1 := IntWalk.i64_in _ (by omega)
              have s2 : ((k : Int) - 1).toNat = k - 1 := by omega
              by_cases ho : Ser.tAt xs k ≤ Ser.tAt xs (k - 1)
              · go_wp2_with (first | (go_at_call 30; refine (time_any _ _).mono ?_; rintro e w' ⟨rfl, rfl⟩) | (go_at_call 31; refine (numSane_any _ _).mono ?_; rintro e w' ⟨rfl, rfl⟩))
                go_quiet (fail)
                clear s1 s2
                go_wp2
                go_ret
                exact ⟨ret_bool (Ser.not_sane_order (by rw [HL.out]; omega) hk0 ho).symm, (by repeat (first | assumption | exact Below.refl _ _ | apply Mem.below_drewN | apply Below.drew | refine Below.alloc ?_ (by first | assumption | omega | (simp; done) | (simp; omega)) _ | refine Below.setCell ?_ (by first | assumption | omega | (simp; done) | (simp; omega)) _))⟩
              · go_wp2_with (first | (go_at_call 30; refine (time_any _ _).mono ?_; rintro e w' ⟨rfl, rfl⟩) | (go_at_call 31; refine (numSane_any _ _).mono ?_; rintro e w' ⟨rfl, rfl⟩))
                go_quiet (fail)
                clear s1 s2
                go_wp2
                go_roundw
                case rel => exact ⟨k + 1, by omega, by go_num, Ser.ok_snoc HOK.out (Ser.okAt_mk ht hv (.inr (by omega))), (by repeat (first | assumption | exact Below.refl _ _ | apply Mem.below_drewN | apply Below.drew | refine Below.alloc ?_ (by first | assumption | omega | (simp; done) | (simp; omega)) _ | refine Below.setCell ?_ (by first | assumption | omega | (simp; done) | (simp; omega)) _))⟩
                case measure => simp [intOf]; omega
          · have hv' : Ser.isNum (Ser.vAt xs k) = false := by simpa using hv
            clear hv
            go_wp2_with (first | (go_at_call 30; refine (time_any _ _).mono ?_; rintro e w' ⟨rfl, rfl⟩) | (go_at_call 31; refine (numSane_any _ _).mono ?_; rintro e w' ⟨rfl, rfl⟩))
            go_ret
            exact ⟨ret_bool (Ser.not_sane_num (by rw [HL.out]; omega) hv').symm, (by repeat (first | assumption | exact Below.refl _ _ | apply Mem.below_drewN | apply Below.drew | refine Below.alloc ?_ (by first | assumption | omega | (simp; done) | (simp; omega)) _ | refine Below.setCell ?_ (by first | assumption | omega | (simp; done) | (simp; omega)) _))⟩
        · have ht' : Ser.isTime (Ser.tAt xs k) = false := by simpa using ht
          clear ht
          go_wp2_with (first | (go_at_call 30; refine (time_any _ _).mono ?_; rintro e w' ⟨rfl, rfl⟩) | (go_at_call 31; refine (numSane_any _ _).mono ?_; rintro e w' ⟨rfl, rfl⟩))
          go_ret
          exact ⟨ret_bool (Ser.not_sane_time (by rw [HL.out]; omega) ht').symm, (by repeat (first | assumption | exact Below.refl _ _ | apply Mem.below_drewN | apply Below.drew | refine Below.alloc ?_ (by first | assumption | omega | (simp; done) | (simp; omega)) _ | refine Below.setCell ?_ (by first | assumption | omega | (simp; done) | (simp; omega)) _))⟩
      · obtain rfl : k = n := by omega
        go_wp2
        go_ret
        exact ⟨ret_bool (Ser.sane_mk hlen (by omega) hok).symm, hb⟩
end Go.Proofs.Ytidfiiogjfpfmaa.SerW
