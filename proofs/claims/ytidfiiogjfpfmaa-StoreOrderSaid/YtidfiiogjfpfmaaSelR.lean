/- The walks of the references' Few and Short: each says something, true or false; true, that there are few. -/
import Derived.Test.YtidfiiogjfpfmaaSelPlain
import Derived.Deep.LoopGhost
import Derived.BigQuiet
namespace Go.Proofs.Ytidfiiogjfpfmaa
open Go.RowKit
set_option linter.unusedSimpArgs false
set_option linter.unusedVariables false

/-- it says true or false, true of no more than K, and nothing that lay has turned -/
def FewB (w : World) (n K : Nat) (e : Ending) (w' : World) : Prop := ∃ b : Bool, e = .returned (.bool b) ∧ (b = true → n ≤ K) ∧ Below w.heap.size w w'
def Cnt (x : Value) : Prop := ∃ i : Int, x = .int .i64 i

set_option maxRecDepth 100000 in
set_option maxHeartbeats 4000000 in
theorem fewL_any (A : Option Addr) (n c : Nat) (xs : List Lab.Pr) (w : World) (h : Prs w w.heap.size A n c xs) :
    Calls Try.prog 9 #[.slice A n c] w (FewB w n 40) := by
  have hl := h.len
  have hcap := Nat.le_trans h.1.2.1 h.1.2.2.1
  have HL := Lib.hid hl
  have HH := Lib.hid h
  clear h hl
  go_enter Try.func9, Try.ntmps9
  go_wp2
  go_loopw [3, 4] (fun s3 s4 wr => ∃ k : Nat, k ≤ n ∧ s4 = .int .i64 (k : Nat) ∧ Cnt s3 ∧ Below w.heap.size w wr) (fun _ s4 _ => n - (intOf s4).toNat)
  case atStart => exact ⟨0, Nat.zero_le _, rfl, ⟨_, rfl⟩, Below.refl _ _⟩
  case round =>
    obtain ⟨k, hk, rfl, ⟨x, rfl⟩, hb⟩ := hrel
    by_cases hlt : k < n
    · have hdk : decide (k < n) = true := decide_eq_true hlt
      obtain ⟨b, off, rfl, hbB, hcell⟩ := HH.out.at_ hlt
      obtain ⟨p, hp⟩ : ∃ p, xs[k]? = some p := ⟨_, List.getElem?_eq_getElem (by rw [HL.out]; exact hlt)⟩
      have h1 := (hb.cell (p := ⟨b, off + k * 2, none⟩) hbB).trans (hcell k p hp).1
      have h2 := (hb.cell (p := ⟨b, off + k * 2 + 1, none⟩) hbB).trans (hcell k p hp).2
      clear hcell hp
      go_wp2
      go_quiet (fail)
      go_wp2
      go_roundw
      case rel => exact ⟨k + 1, by omega, by go_num, ⟨_, rfl⟩, (by repeat (first | assumption | exact Below.refl _ _ | apply Mem.below_drewN | apply Below.drew | refine Below.alloc ?_ (by first | assumption | omega | (simp; done) | (simp; omega)) _ | refine Below.setCell ?_ (by first | assumption | omega | (simp; done) | (simp; omega)) _))⟩
      case measure => simp [intOf]; omega
    · obtain rfl : k = n := by omega
      have hdk : decide (k < k) = false := decide_eq_false (by omega)
      rcases hd1 : decide ((k : Int) ≤ 40) with _ | _
      · go_wp2
        go_ret
        exact ⟨_, rfl, (by first | exact fun h => absurd h (by decide) | (intro _; have := of_decide_eq_true hd1; omega)), hb⟩
      · rcases hd2 : decide (x ≤ 3000) with _ | _
        all_goals
          go_wp2
          go_ret
          exact ⟨_, rfl, (by first | exact fun h => absurd h (by decide) | (intro _; have := of_decide_eq_true hd1; omega)), hb⟩

set_option maxRecDepth 100000 in
set_option maxHeartbeats 4000000 in
theorem fewS_any (nm : ByteArray) (A : Option Addr) (n c : Nat) (xs : List Lab.Mt) (w : World) (h : Mts w w.heap.size A n c xs) :
    Calls Try.prog 17 #[.agg #[.string nm, .slice A n c]] w (FewB w n 40) := by
  have hl := h.len
  have hcap := Nat.le_trans h.1.2.1 h.1.2.2.1
  have HL := Lib.hid hl
  have HH := Lib.hid h
  clear h hl
  go_enter Try.func17, Try.ntmps17
  go_wp2
  have hB1 := (Below.refl w.heap.size w).alloc (Nat.le_refl _) (.cells #[.string nm, .slice A n c] 43)
  have hblk := (Mem.Blk.new w 43 #[.string nm, .slice A n c])
  have hlt1 : w.heap.size < (w.alloc (.cells #[.string nm, .slice A n c] 43)).heap.size := by simp
  have hsz1 : w.heap.size ≤ (w.alloc (.cells #[.string nm, .slice A n c] 43)).heap.size := by simp
  obtain ⟨W1, hW1⟩ : ∃ W1, W1 = w.alloc (.cells #[.string nm, .slice A n c] 43) := ⟨_, rfl⟩
  rw [← hW1] at hB1 hblk hlt1 hsz1 ⊢
  clear hW1
  have HBLK := Lib.hid hblk
  clear hblk
  go_loopw [3, 4] (fun s3 s4 wr => ∃ k : Nat, k ≤ n ∧ s4 = .int .i64 (k : Nat) ∧ Cnt s3 ∧ Below W1.heap.size W1 wr) (fun _ s4 _ => n - (intOf s4).toNat)
  case atStart => exact ⟨0, Nat.zero_le _, rfl, ⟨_, rfl⟩, Below.refl _ _⟩
  case round =>
    obtain ⟨k, hk, rfl, ⟨x, rfl⟩, hb1⟩ := hrel
    have hb := hB1.trans (hb1.mono hB1.size)
    have x1 : wr.cell? ⟨w.heap.size, 1, none⟩ = some (.slice A n c) := (hb1.cell (p := ⟨w.heap.size, 1, none⟩) hlt1).trans (HBLK.out.cell 1)
    by_cases hlt : k < n
    · have hdk : decide (k < n) = true := decide_eq_true hlt
      obtain ⟨b, off, rfl, hbB, hcell⟩ := HH.out.at_ hlt
      obtain ⟨p, hp⟩ : ∃ p, xs[k]? = some p := ⟨_, List.getElem?_eq_getElem (by rw [HL.out]; exact hlt)⟩
      have h1 := (hb.cell (p := ⟨b, off + k * 3, none⟩) hbB).trans (hcell k p hp).1
      have h2 := (hb.cell (p := ⟨b, off + k * 3 + 1, none⟩) hbB).trans (hcell k p hp).2.1
      clear hcell hp
      go_wp2
      go_quiet (fail)
      go_wp2
      go_roundw
      case rel => exact ⟨k + 1, by omega, by go_num, ⟨_, rfl⟩, Mem.below_drewN hb1 _⟩
      case measure => simp [intOf]; omega
    · obtain rfl : k = n := by omega
      have hdk : decide (k < k) = false := decide_eq_false (by omega)
      rcases hd1 : decide ((k : Int) ≤ 40) with _ | _
      · go_wp2
        go_ret
        exact ⟨_, rfl, (by first | exact fun h => absurd h (by decide) | (intro _; have := of_decide_eq_true hd1; omega)), hb⟩
      · rcases hd2 : decide (x ≤ 3000) with _ | _
        all_goals
          go_wp2
          go_ret
          exact ⟨_, rfl, (by first | exact fun h => absurd h (by decide) | (intro _; have := of_decide_eq_true hd1; omega)), hb⟩

end Go.Proofs.Ytidfiiogjfpfmaa
