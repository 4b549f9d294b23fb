/- The walks of the reference's Few, of the law's upLabels. -/
import Derived.Test.YtidfiiogjfpfmaaStoM
import Derived.Test.YtidfiiogjfpfmaaSelR
namespace Go.Proofs.Ytidfiiogjfpfmaa
open Go.RowKit
set_option linter.unusedSimpArgs false
set_option linter.unusedVariables false

namespace Sto
def up (a : ByteArray) : List Lab.Pr := [(⟨#[95, 95, 110, 97, 109, 101, 95, 95]⟩, ⟨#[117, 112]⟩), (⟨#[97]⟩, a)]
end Sto

set_option maxRecDepth 100000 in
set_option maxHeartbeats 4000000 in
theorem up_any (a : ByteArray) (ha : a.size ≤ 9223372036854775807) (w : World) :
    Calls Try.prog 22 #[.string a] w fun e w' => ∃ A, e = .returned (.slice A 2 2) ∧ Prs w' w'.heap.size A 2 2 (Sto.up a) ∧ Below w.heap.size w w' := by
  go_enter Try.func22, Try.ntmps22
  go_wp2
  go_ret
  refine ⟨some ⟨w.heap.size, 0, none⟩, rfl, ⟨⟨rfl, by omega, by omega, fun _ => ⟨w.heap.size, 0, rfl, by simp, fun j x hj i u hu => ?_⟩⟩, fun p hp => ?_⟩, (Below.refl _ _).alloc (Nat.le_refl _) _⟩
  · match j, hj with
    | 0, hj =>
      cases hj
      match i, hu with
      | 0, hu => cases hu; simp
      | 1, hu => cases hu; simp
    | 1, hj =>
      cases hj
      match i, hu with
      | 0, hu => cases hu; simp
      | 1, hu => cases hu; simp
  · unfold Sto.up at hp
    simp at hp
    rcases hp with rfl | rfl
    · exact ⟨by decide, by decide⟩
    · exact ⟨by show (1 : Nat) ≤ _; omega, ha⟩

set_option maxRecDepth 100000 in
set_option maxHeartbeats 8000000 in
theorem few14_any (A : Option Addr) (n c : Nat) (ses : List Sto.Se) (w : World) (h : Stt w w.heap.size A n c ses) :
    Calls Try.prog 8 #[.slice A n c] w fun e w' => ∃ b : Bool, e = .returned (.bool b) ∧ Below w.heap.size w w' := by
  have hl := h.len
  have hcap := Nat.le_trans h.cap.1 h.cap.2
  have HH := Lib.hid h
  clear h
  go_enter Try.func8, Try.ntmps8
  go_wp2
  go_loopw [3] (fun i wr => ∃ k : Nat, k ≤ n ∧ i = .int .i64 (k : Nat) ∧ Below w.heap.size w wr) (fun i _ => n - (intOf i).toNat)
  case atStart => exact ⟨0, Nat.zero_le _, rfl, Below.refl _ _⟩
  case round =>
    obtain ⟨k, hk, rfl, hb⟩ := hrel
    by_cases hlt : k < n
    · have hdk : decide (k < n) = true := decide_eq_true hlt
      obtain ⟨k2, hk2⟩ : ∃ y, y = k + 1 := ⟨_, rfl⟩
      have hwk : IntKind.i64.wrap ((k : Int) + 1) = ((k2 : Nat) : Int) := by rw [hk2, show (k : Int) + 1 = ((k + 1 : Nat) : Int) by omega]; exact IntWalk.i64_in _ (by omega)
      have HK2 := Lib.hid hk2
      obtain ⟨bb, off, s, hA, hbB, hs, hin, hc0, hc1⟩ := HH.out.at_ hlt
      have x0 := (hb.cell (p := ⟨bb, off + k * 2, none⟩) hbB).trans hc0
      have x1 := (hb.cell (p := ⟨bb, off + k * 2 + 1, none⟩) hbB).trans hc1
      have HIN := Lib.hid ((hin.below hb).more hb.size)
      subst hA
      clear hk2 hs hin hc0 x1
      go_wp2_with fail
      refine (fewL_any s.LA s.Ln s.Lc s.ls wr HIN.out.1).mono ?_
      rintro e w2 ⟨b, rfl, -, hb2⟩
      have hB2 := hb.trans (hb2.mono hb.size)
      have x1 := (hB2.cell (p := ⟨bb, off + k * 2 + 1, none⟩) hbB).trans (by assumption : w.cell? ⟨bb, off + k * 2 + 1, none⟩ = some (.slice s.SA s.Sn s.Sc))
      rcases b with _ | _
      · go_wp2
        go_ret
        exact ⟨_, rfl, hB2⟩
      · rcases hd : decide (100 < (s.Sn : Int)) with _ | _
        · go_wp2
          go_roundw
          case rel => exact ⟨k2, by have := HK2.out; omega, rfl, hB2⟩
          case measure => have := HK2.out; simp [intOf]; omega
        · go_wp2
          go_ret
          exact ⟨_, rfl, hB2⟩
    · obtain rfl : k = n := by omega
      have hdk : decide (k < k) = false := decide_eq_false (by omega)
      go_wp2
      go_ret
      exact ⟨_, rfl, hb⟩
end Go.Proofs.Ytidfiiogjfpfmaa
