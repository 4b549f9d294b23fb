/- The walk of the reference's unit. -/
import Derived.Test.YtanacoollaajkaaDoorDurL
namespace Go.Proofs.YtanacoollaajkaaDoor
open Go.RowKit

namespace Dur
/-- the best unit among the first so many -/
def bestN (R : Bs) : Nat → Int
  | 0 => -1
  | j + 1 => if List.isPrefixOf (lets j) R = true ∧ (bestN R j < 0 ∨ (lets (bestN R j).toNat).length < (lets j).length) then (j : Int) else bestN R j
theorem bestN_range (R : Bs) : ∀ j, -1 ≤ bestN R j ∧ bestN R j < j := by
  intro j
  induction j with
  | zero => exact ⟨Int.le_refl _, by unfold bestN; decide⟩
  | succ j ih =>
    unfold bestN
    split
    · omega
    · omega
theorem bestN_five (R : Bs) : bestN R 5 = match unitOf R with | some k => (k : Int) | none => -1 := by
  cases R with
  | nil => decide
  | cons c R =>
    by_cases h1 : c = 100
    · subst h1; simp [bestN, unitOf, lets, List.isPrefixOf]
    · by_cases h2 : c = 104
      · subst h2; simp [bestN, unitOf, lets, List.isPrefixOf]
      · by_cases h4 : c = 115
        · subst h4; simp [bestN, unitOf, lets, List.isPrefixOf]
        · by_cases h3 : c = 109
          · subst h3
            cases R with
            | nil => decide
            | cons d R =>
              by_cases h5 : d = 115
              · subst h5; simp [bestN, unitOf, lets, List.isPrefixOf]
              · simp [bestN, unitOf, lets, List.isPrefixOf, h5, Ne.symm h5]
          · simp [bestN, unitOf, lets, List.isPrefixOf, h1, h2, h3, h4, Ne.symm h1, Ne.symm h2, Ne.symm h3, Ne.symm h4]
theorem toL (s : ByteArray) : s.toList = bl s := Lib.toList_data s
theorem pre_fit {s : ByteArray} {a j : Nat} (h : a + (letS j).size ≤ s.size) : ((s.extract a (a + (letS j).size)).toList == (letS j).toList) = List.isPrefixOf (lets j) ((bl s).drop a) := by
  have hl : (letS j).size = (lets j).length := by unfold letS; simp [ByteArray.size]
  rw [toL, toL, bl_extract, show bl (letS j) = lets j from bl_mk _, show a + (letS j).size - a = (lets j).length by omega, Bool.eq_iff_iff, beq_iff_eq, List.isPrefixOf_iff_prefix]
  constructor
  · intro h
    exact ⟨_, by conv => lhs; lhs; rw [← h]
                 exact List.take_append_drop _ _⟩
  · rintro ⟨r, hr⟩
    rw [← hr]
    simp
theorem pre_over {s : ByteArray} {a j : Nat} (h : ¬ a + (letS j).size ≤ s.size) (ha : a ≤ s.size) : List.isPrefixOf (lets j) ((bl s).drop a) = false := by
  have hl : (letS j).size = (lets j).length := by unfold letS; simp [ByteArray.size]
  rcases hx : List.isPrefixOf (lets j) ((bl s).drop a) with _ | _
  · rfl
  · obtain ⟨r, hr⟩ := List.isPrefixOf_iff_prefix.1 hx
    have := congrArg List.length hr
    rw [List.length_append, List.length_drop, bl_len] at this
    omega
theorem bestN_not {R : Bs} {j : Nat} (h : List.isPrefixOf (lets j) R = false) : bestN R (j + 1) = bestN R j := by
  conv => lhs; unfold bestN
  rw [if_neg (fun hh => by rw [h] at hh; cases hh.1)]
theorem bestN_yes {R : Bs} {j : Nat} (h : List.isPrefixOf (lets j) R = true) (h2 : bestN R j < 0 ∨ (letS (bestN R j).toNat).size < (letS j).size) : bestN R (j + 1) = j := by
  have hl : ∀ j, (letS j).size = (lets j).length := fun j => by unfold letS; simp [ByteArray.size]
  conv => lhs; unfold bestN
  rw [if_pos ⟨h, by rw [hl, hl] at h2; exact h2⟩]
theorem bestN_no {R : Bs} {j : Nat} (h0 : ¬ bestN R j < 0) (h2 : ¬ (letS (bestN R j).toNat).size < (letS j).size) : bestN R (j + 1) = bestN R j := by
  have hl : ∀ j, (letS j).size = (lets j).length := fun j => by unfold letS; simp [ByteArray.size]
  conv => lhs; unfold bestN
  rw [if_neg]
  rintro ⟨_, h | h⟩
  · exact h0 h
  · rw [hl, hl] at h2; exact h2 h
end Dur

set_option maxRecDepth 100000 in
set_option maxHeartbeats 4000000 in
theorem rUnit_any (s : ByteArray) (at_ : Nat) (hs : s.size ≤ 4611686018427387904) (ha : at_ ≤ s.size) (w : World) :
    Calls Tryd.prog 22 #[.string s, .int .i64 at_] w fun e w' => e = .returned (.int .i64 (Dur.bestN ((Dur.bl s).drop at_) 5)) ∧ Below w.heap.size w w' := by
  obtain ⟨R, hR⟩ : ∃ R, R = (Dur.bl s).drop at_ := ⟨_, rfl⟩
  have HR := Lib.hid hR
  rw [← hR]
  clear hR
  go_enter Tryd.func22, Tryd.ntmps22
  go_wp2_with fail
  refine (rUnits_any _).mono ?_
  rintro e w1 ⟨rfl, rfl⟩
  have hcell : ∀ j, j < 5 → (w.alloc (.cells unitCells 43)).cell? ⟨w.heap.size, j * 2, none⟩ = some (.string (letS j)) := fun j hj => by
    rw [Lib.cell_of_heap (heap_alloc_new w _)]
    exact (unitCells_at j hj).1
  have hB1 := (Below.refl w.heap.size w).alloc (Nat.le_refl _) (.cells unitCells 43)
  have hlt1 : w.heap.size < (w.alloc (.cells unitCells 43)).heap.size := by simp
  obtain ⟨W1, hW1⟩ : ∃ W1, W1 = w.alloc (.cells unitCells 43) := ⟨_, rfl⟩
  rw [← hW1] at hcell hB1 hlt1 ⊢
  clear hW1
  have HCELL := Lib.hid hcell
  clear hcell
  go_wp2
  go_loopw [6, 7] (fun s6 s7 wr => ∃ j : Nat, j ≤ 5 ∧ s7 = .int .i64 j ∧ s6 = .int .i64 (Dur.bestN R j) ∧ Below W1.heap.size W1 wr) (fun _ s7 _ => 5 - (intOf s7).toNat)
  case atStart => exact ⟨0, by omega, rfl, rfl, Below.refl _ _⟩
  case round =>
    obtain ⟨j, hj, rfl, rfl, hb⟩ := hrel
    by_cases hlt : j < 5
    · have hc := (hb.cell (p := ⟨w.heap.size, j * 2, none⟩) hlt1).trans (HCELL.out j hlt)
      have hl : (letS j).size ≤ 2 := by unfold letS; have := Dur.lets_len j; simpa [ByteArray.size] using this
      have hd5 : decide (j < 5) = true := by simp; omega
      have hbr := Dur.bestN_range R j
      obtain ⟨B, hB⟩ : ∃ B, B = Dur.bestN R j := ⟨_, rfl⟩
      rw [← hB] at hbr ⊢
      have HB := Lib.hid hB
      clear hB
      by_cases hfit : at_ + (letS j).size ≤ s.size
      · have hfit2 : (at_ : Int) + ((letS j).size : Int) ≤ (s.size : Int) := by omega
        have hpf := Dur.pre_fit hfit
        rcases hpre : ((s.extract at_ (at_ + (letS j).size)).toList == (letS j).toList) with _ | _
        · have HN := Lib.hid (show Dur.bestN R (j + 1) = B by rw [HB.out]; exact Dur.bestN_not (by rw [HR.out, ← hpf, hpre]))
          clear hpf
          go_wp2
          go_roundw
          case rel => exact ⟨j + 1, by omega, by go_num, by rw [HN.out], (by repeat (first | assumption | exact Below.refl _ _ | apply Mem.below_drewN | apply Below.drew | refine Below.alloc ?_ (by first | assumption | omega | (simp; done) | (simp; omega)) _ | refine Below.setCell ?_ (by first | assumption | omega | (simp; done) | (simp; omega)) _))⟩
          case measure => simp [intOf]; omega
        · have HY := Lib.hid (show List.isPrefixOf (Dur.lets j) R = true by rw [HR.out, ← hpf, hpre])
          clear hpf
          by_cases hB0 : B < 0
          · have HN := Lib.hid (show Dur.bestN R (j + 1) = j from Dur.bestN_yes HY.out (.inl (by rw [← HB.out]; exact hB0)))
            go_wp2
            go_roundw
            case rel => exact ⟨j + 1, by omega, by go_num, by rw [HN.out], (by repeat (first | assumption | exact Below.refl _ _ | apply Mem.below_drewN | apply Below.drew | refine Below.alloc ?_ (by first | assumption | omega | (simp; done) | (simp; omega)) _ | refine Below.setCell ?_ (by first | assumption | omega | (simp; done) | (simp; omega)) _))⟩
            case measure => simp [intOf]; omega
          · have hcB := (hb.cell (p := ⟨w.heap.size, B.toNat * 2, none⟩) hlt1).trans (HCELL.out B.toNat (by omega))
            have hlB : (letS B.toNat).size ≤ 2 := by unfold letS; have := Dur.lets_len B.toNat; simpa [ByteArray.size] using this
            by_cases hsz : (letS B.toNat).size < (letS j).size
            · have HN := Lib.hid (show Dur.bestN R (j + 1) = j from Dur.bestN_yes HY.out (.inr (by rw [← HB.out]; exact hsz)))
              go_wp2
              go_roundw
              case rel => exact ⟨j + 1, by omega, by go_num, by rw [HN.out], (by repeat (first | assumption | exact Below.refl _ _ | apply Mem.below_drewN | apply Below.drew | refine Below.alloc ?_ (by first | assumption | omega | (simp; done) | (simp; omega)) _ | refine Below.setCell ?_ (by first | assumption | omega | (simp; done) | (simp; omega)) _))⟩
              case measure => simp [intOf]; omega
            · have HN := Lib.hid (show Dur.bestN R (j + 1) = B by rw [HB.out]; exact Dur.bestN_no (by rw [← HB.out]; exact hB0) (by rw [← HB.out]; exact hsz))
              go_wp2
              go_roundw
              case rel => exact ⟨j + 1, by omega, by go_num, by rw [HN.out], (by repeat (first | assumption | exact Below.refl _ _ | apply Mem.below_drewN | apply Below.drew | refine Below.alloc ?_ (by first | assumption | omega | (simp; done) | (simp; omega)) _ | refine Below.setCell ?_ (by first | assumption | omega | (simp; done) | (simp; omega)) _))⟩
              case measure => simp [intOf]; omega
      · have hfit2 : ¬ (at_ : Int) + ((letS j).size : Int) ≤ (s.size : Int) := by omega
        have HN := Lib.hid (show Dur.bestN R (j + 1) = B by rw [HB.out]; exact Dur.bestN_not (by rw [HR.out]; exact Dur.pre_over hfit ha))
        go_wp2
        go_roundw
        case rel => exact ⟨j + 1, by omega, by go_num, by rw [HN.out], (by repeat (first | assumption | exact Below.refl _ _ | apply Mem.below_drewN | apply Below.drew | refine Below.alloc ?_ (by first | assumption | omega | (simp; done) | (simp; omega)) _ | refine Below.setCell ?_ (by first | assumption | omega | (simp; done) | (simp; omega)) _))⟩
        case measure => simp [intOf]; omega
    · obtain rfl : j = 5 := by omega
      have hd5 : decide ((5 : Nat) < 5) = false := by decide
      go_wp2
      go_ret
      exact ⟨rfl, hB1.trans (hb.mono hB1.size)⟩
end Go.Proofs.YtanacoollaajkaaDoor
