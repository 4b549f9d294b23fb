/- The walk of the reference's Print. -/
import Derived.Test.YtanacoollaajkaaDoorDurM
import Derived.Test.YtanacoollaajkaaDoorDurJ
namespace Go.Proofs.YtanacoollaajkaaDoor
open Go.RowKit
set_option linter.unusedSimpArgs false
set_option linter.unusedVariables false

set_option maxRecDepth 100000 in
set_option maxHeartbeats 8000000 in
theorem rPrint_any (d : Int) (w : World) :
    Calls Tryd.prog 15 #[.int .i64 d] w fun e w' => e = .returned (.string ⟨(Dur.print d).toArray⟩) ∧ Below w.heap.size w w' := by
  rcases hs : Dur.sane d with _ | _
  · have HP := Lib.hid (Dur.back_none d hs).1
    go_enter Tryd.func15, Tryd.ntmps15
    go_wp2_with fail
    refine (rSane_any _ _).mono ?_
    rintro e w2 ⟨rfl, rfl⟩
    rw [hs]
    go_wp2
    go_ret
    rw [HP.out]
    exact ⟨rfl, Below.refl _ _⟩
  · by_cases h0 : d = 0
    · subst h0
      go_enter Tryd.func15, Tryd.ntmps15
      go_wp2_with fail
      refine (rSane_any _ _).mono ?_
      rintro e w2 ⟨rfl, rfl⟩
      rw [hs]
      go_wp2
      go_ret
      exact ⟨rfl, Below.refl _ _⟩
    · have hb0 : 0 ≤ d ∧ d ≤ 9007199254740992 := by simpa [Dur.sane] using hs
      obtain ⟨D0, rfl⟩ : ∃ D0 : Nat, d = (D0 : Int) := ⟨d.toNat, by omega⟩
      have HP := Lib.hid (show Dur.print (D0 : Int) = Dur.parts 5 D0 by
        unfold Dur.print
        rw [if_pos hs, if_neg h0]
        rfl)
      have hz : ((D0 : Int) == 0) = false := by simp; omega
      have hD0 : D0 ≤ 9007199254740992 := by omega
      have HS := Lib.hid hs
      have hpl := Dur.parts_len 5 D0 (by omega)
      clear hb0 h0 hs
      go_enter Tryd.func15, Tryd.ntmps15
      go_wp2_with fail
      refine (rSane_any _ _).mono ?_
      rintro e w2 ⟨rfl, rfl⟩
      rw [HS.out]
      go_wp2_with fail
      refine (rUnits_any _).mono ?_
      rintro e w1 ⟨rfl, rfl⟩
      have hcell : ∀ j, j < 5 → (w.alloc (.cells unitCells 43)).cell? ⟨w.heap.size, j * 2, none⟩ = some (.string (letS j)) ∧ (w.alloc (.cells unitCells 43)).cell? ⟨w.heap.size, j * 2 + 1, none⟩ = some (.int .i64 (Dur.size j : Nat)) := fun j hj => by
        rw [Lib.cell_of_heap (heap_alloc_new w _), Lib.cell_of_heap (heap_alloc_new w _)]
        exact unitCells_at j hj
      have hB1 := (Below.refl w.heap.size w).alloc (Nat.le_refl _) (.cells unitCells 43)
      have hlt1 : w.heap.size < (w.alloc (.cells unitCells 43)).heap.size := by simp
      obtain ⟨W1, hW1⟩ : ∃ W1, W1 = w.alloc (.cells unitCells 43) := ⟨_, rfl⟩
      rw [← hW1] at hcell hB1 hlt1 ⊢
      clear hW1
      have HCELL := Lib.hid hcell
      clear hcell
      go_wp2
      go_loopw [0, 3, 5] (fun s0 s3 s5 wr => ∃ (j D : Nat) (acc : ByteArray), j ≤ 5 ∧ s5 = .int .i64 j ∧ s0 = .int .i64 (D : Nat) ∧ s3 = .string acc ∧ D ≤ 9007199254740992 ∧ Dur.parts 5 D0 = Dur.bl acc ++ Dur.parts (5 - j) D ∧ Below W1.heap.size W1 wr) (fun _ _ i _ => 5 - (intOf i).toNat)
      case atStart => exact ⟨0, D0, ⟨#[]⟩, by omega, rfl, rfl, rfl, hD0, rfl, Below.refl _ _⟩
      case round =>
        obtain ⟨j, D, acc, hj, rfl, rfl, rfl, hD, hq, hb⟩ := hrel
        have hbs := hb.size
        have hacc : acc.size ≤ 115 := by
          have := congrArg List.length hq
          rw [List.length_append, Dur.bl_len] at this
          omega
        by_cases hlt : j < 5
        · have hd5 : decide (j < 5) = true := by simp; omega
          have hc := (hb.cell (p := ⟨w.heap.size, j * 2, none⟩) hlt1).trans (HCELL.out j hlt).1
          have hc1 := (hb.cell (p := ⟨w.heap.size, j * 2 + 1, none⟩) hlt1).trans (HCELL.out j hlt).2
          have hzp := Dur.size_pos j
          rw [Dur.parts_succ j D hlt] at hq
          have hge : (0 < D / Dur.size j) ↔ Dur.size j ≤ D := Nat.div_pos_iff.trans ⟨fun h => h.2, fun h => ⟨hzp, h⟩⟩
          obtain ⟨q, hqd⟩ : ∃ q, q = D / Dur.size j := ⟨_, rfl⟩
          obtain ⟨r, hrd⟩ : ∃ r, r = D % Dur.size j := ⟨_, rfl⟩
          have hq1 : Int.tdiv (D : Int) (Dur.size j : Int) = (q : Int) := by rw [hqd]; rfl
          have hr1 : Int.tmod (D : Int) (Dur.size j : Int) = (r : Int) := by rw [hrd]; rfl
          have hqle : q ≤ D := by rw [hqd]; exact Nat.div_le_self _ _
          have hrle : r ≤ D := by rw [hrd]; exact Nat.mod_le _ _
          have hz0 : ¬ Dur.size j = 0 := by omega
          rw [← hqd] at hge
          rw [← hqd, ← hrd] at hq
          obtain ⟨z, hz⟩ : ∃ z, z = Dur.size j := ⟨_, rfl⟩
          rw [← hz] at hc1 hq1 hr1 hz0 hge hzp
          clear hqd hrd hz
          have hll : (letS j).size ≤ 2 := by unfold letS; have := Dur.lets_len j; simpa [ByteArray.size] using this
          by_cases hq0 : 0 < q
          · have hdq : decide (z ≤ D) = true := by simp; omega
            rw [if_pos hq0] at hq
            obtain ⟨Y, hY⟩ : ∃ Y : ByteArray, Y = ⟨(Lib.decDigits q).toArray⟩ := ⟨_, rfl⟩
            have hYs : Y.size ≤ 21 := by rw [hY]; have := Dur.digs_len q (by omega); simpa [ByteArray.size] using this
            have HY := Lib.hid hY.symm
            have HQ := Lib.hid (show Dur.parts 5 D0 = Dur.bl (acc ++ Y ++ letS j) ++ Dur.parts (5 - (j + 1)) r by
              rw [hq, Dur.bl_append, Dur.bl_append, hY, Dur.bl_mk, letS, Dur.bl_mk]
              simp only [List.append_assoc])
            have z1 : ¬ 9223372036854775807 < acc.size + Y.size := by omega
            have z2 : ¬ 9223372036854775807 < (acc ++ Y).size + (letS j).size := by rw [ByteArray.size_append]; omega
            have z3 : ¬ 9223372036854775807 < acc.size + Y.size + (letS j).size := by omega
            have hltr : w.heap.size < wr.heap.size := by omega
            have hwq : IntKind.i64.wrap (q : Int) = (q : Int) := IntWalk.i64_in _ (by omega)
            clear hq hY hge
            go_wp2
            refine wp_region_held_drew (S := fun W' => Below wr.heap.size wr W') (by kernel_rfl) (Below.refl _ _).drew (fun hHeld => ?_)
            refine wpAnyH_take (i := 0) (v := ?_) (by simp only [List.getElem?_toArray, List.getElem?_cons_succ, List.getElem?_cons_zero]; exact rfl) (by kernel_rfl) (by kernel_rfl) (by kernel_rfl) (by exact fun _ _ _ h => h) (Or.inl ⟨by rfl, ?_⟩) hHeld ?_
            rotate_left
            · intro wq hSw; go_simp; all_goals (with_reducible rfl)
            try simp only [Act.put, List.setIfInBounds_toArray, List.set_cons_zero, List.set_cons_succ]
            refine wpAnyH_take (i := 1) (v := ?_) (by simp only [List.getElem?_toArray, List.getElem?_cons_succ, List.getElem?_cons_zero]; exact rfl) (by kernel_rfl) (by kernel_rfl) (by kernel_rfl) (by exact fun _ _ _ h => h) (Or.inl ⟨by rfl, ?_⟩) hHeld ?_
            rotate_left
            · intro wq hSw; go_simp; all_goals (with_reducible rfl)
            try simp only [Act.put, List.setIfInBounds_toArray, List.set_cons_zero, List.set_cons_succ]
            refine wpAnyH_take (i := 2) (v := ?_) (by simp only [List.getElem?_toArray, List.getElem?_cons_succ, List.getElem?_cons_zero]; exact rfl) (by kernel_rfl) (by kernel_rfl) (by kernel_rfl) (by exact fun _ _ _ h => h) (Or.inl ⟨by rfl, ?_⟩) hHeld ?_
            rotate_left
            · intro wq hSw; go_simp; all_goals (with_reducible rfl)
            try simp only [Act.put, List.setIfInBounds_toArray, List.set_cons_zero, List.set_cons_succ]
            refine wpAnyH_take (i := 3) (v := ?_) (by simp only [List.getElem?_toArray, List.getElem?_cons_succ, List.getElem?_cons_zero]; exact rfl) (by kernel_rfl) (by kernel_rfl) (by kernel_rfl) (by exact fun _ _ _ h => h) (Or.inl ⟨by rfl, ?_⟩) hHeld ?_
            rotate_left
            · intro wq hSw; go_simp; all_goals (with_reducible rfl)
            try simp only [Act.put, List.setIfInBounds_toArray, List.set_cons_zero, List.set_cons_succ]
            refine wpAnyH_take (i := 4) (v := ?_) (by simp only [List.getElem?_toArray, List.getElem?_cons_succ, List.getElem?_cons_zero]; exact rfl) (by kernel_rfl) (by kernel_rfl) (by kernel_rfl) (by exact fun _ _ _ h => h) (Or.inl ⟨by rfl, ?_⟩) hHeld ?_
            rotate_left
            · intro wq hSw; go_simp; all_goals (with_reducible rfl)
            try simp only [Act.put, List.setIfInBounds_toArray, List.set_cons_zero, List.set_cons_succ]
            refine wpAnyH_take (i := 5) (v := ?_) (by simp only [List.getElem?_toArray, List.getElem?_cons_succ, List.getElem?_cons_zero]; exact rfl) (by kernel_rfl) (by kernel_rfl) (by kernel_rfl) (by exact fun _ _ _ h => h) (Or.inl ⟨by rfl, ?_⟩) hHeld ?_
            rotate_left
            · intro wq hSw; go_simp; all_goals (with_reducible rfl)
            try simp only [Act.put, List.setIfInBounds_toArray, List.set_cons_zero, List.set_cons_succ]
            refine wpAnyH_take (i := 6) (v := ?_) (by simp only [List.getElem?_toArray, List.getElem?_cons_succ, List.getElem?_cons_zero]; exact rfl) (by kernel_rfl) (by kernel_rfl) (by kernel_rfl) (by exact fun _ _ _ h => h) (Or.inl ⟨by rfl, ?_⟩) hHeld ?_
            rotate_left
            · intro wq hSw; have k1 := (hSw.cell (p := ⟨w.heap.size, j * 2 + 1, none⟩) hltr).trans hc1; go_simp; all_goals (with_reducible rfl)
            try simp only [Act.put, List.setIfInBounds_toArray, List.set_cons_zero, List.set_cons_succ]
            refine wpAnyH_take (i := 7) (v := ?_) (by simp only [List.getElem?_toArray, List.getElem?_cons_succ, List.getElem?_cons_zero]; exact rfl) (by kernel_rfl) (by kernel_rfl) (by kernel_rfl) (by exact fun _ _ _ h => h) (Or.inl ⟨by rfl, ?_⟩) hHeld ?_
            rotate_left
            · intro wq hSw; go_simp; all_goals (with_reducible rfl)
            try simp only [Act.put, List.setIfInBounds_toArray, List.set_cons_zero, List.set_cons_succ]
            refine wpAnyH_take (i := 10) (v := ?_) (by simp only [List.getElem?_toArray, List.getElem?_cons_succ, List.getElem?_cons_zero]; exact rfl) (by kernel_rfl) (by kernel_rfl) (by kernel_rfl) (by exact fun _ _ _ h => h) (Or.inl ⟨by rfl, ?_⟩) hHeld ?_
            rotate_left
            · intro wq hSw; go_simp; all_goals (with_reducible rfl)
            try simp only [Act.put, List.setIfInBounds_toArray, List.set_cons_zero, List.set_cons_succ]
            refine wpAnyH_take (i := 11) (v := ?_) (by simp only [List.getElem?_toArray, List.getElem?_cons_succ, List.getElem?_cons_zero]; exact rfl) (by kernel_rfl) (by kernel_rfl) (by kernel_rfl) (by exact fun _ _ _ h => h) (Or.inl ⟨by rfl, ?_⟩) hHeld ?_
            rotate_left
            · intro wq hSw; go_simp; all_goals (with_reducible rfl)
            try simp only [Act.put, List.setIfInBounds_toArray, List.set_cons_zero, List.set_cons_succ]
            refine wpAnyH_take (i := 12) (v := ?_) (by simp only [List.getElem?_toArray, List.getElem?_cons_succ, List.getElem?_cons_zero]; exact rfl) (by kernel_rfl) (by kernel_rfl) (by kernel_rfl) (by exact fun _ _ _ h => h) (Or.inl ⟨by rfl, ?_⟩) hHeld ?_
            rotate_left
            · intro wq hSw; go_simp; all_goals (with_reducible rfl)
            try simp only [Act.put, List.setIfInBounds_toArray, List.set_cons_zero, List.set_cons_succ]
            refine wpAnyH_take (i := 13) (v := ?_) (by simp only [List.getElem?_toArray, List.getElem?_cons_succ, List.getElem?_cons_zero]; exact rfl) (by kernel_rfl) (by kernel_rfl) (by kernel_rfl) (by exact fun _ _ _ h => h) (Or.inl ⟨by rfl, ?_⟩) hHeld ?_
            rotate_left
            · intro wq hSw; go_simp; all_goals (with_reducible rfl)
            try simp only [Act.put, List.setIfInBounds_toArray, List.set_cons_zero, List.set_cons_succ]
            refine wpAnyH_take (i := 14) (v := ?_) (by simp only [List.getElem?_toArray, List.getElem?_cons_succ, List.getElem?_cons_zero]; exact rfl) (by kernel_rfl) (by kernel_rfl) (by kernel_rfl) (by exact fun _ _ _ h => h) (Or.inl ⟨by rfl, ?_⟩) hHeld ?_
            rotate_left
            · intro wq hSw; have k1 := (hSw.cell (p := ⟨w.heap.size, j * 2, none⟩) hltr).trans hc; go_simp; all_goals (with_reducible rfl)
            try simp only [Act.put, List.setIfInBounds_toArray, List.set_cons_zero, List.set_cons_succ]
            refine wpAnyH_ready (rs := [8]) (by kernel_rfl) (by simp) ?_
            refine AllReadyH.cons (by simp only [List.getElem?_toArray, List.getElem?_cons_succ, List.getElem?_cons_zero]; exact rfl) (fun K hK => ?_) ?_
            · go_simp
              refine (rDigits_any q _ (by omega)).mono ?_
              rintro e w4 ⟨rfl, hB4⟩
              rw [HY.out]
              show K _ _
              refine hK.out _ _ (hHeld.trans (hB4.mono hHeld.size)) (fun hHeld => ?_)
              clear hK K hB4
              try simp only [Act.put, List.setIfInBounds_toArray, List.set_cons_zero, List.set_cons_succ]
              refine wpAnyH_take (i := 9) (v := ?_) (by simp only [List.getElem?_toArray, List.getElem?_cons_succ, List.getElem?_cons_zero]; exact rfl) (by kernel_rfl) (by kernel_rfl) (by kernel_rfl) (by exact fun _ _ _ h => h) (Or.inl ⟨by rfl, ?_⟩) hHeld ?_
              rotate_left
              · intro wq hSw; go_simp; all_goals (with_reducible rfl)
              try simp only [Act.put, List.setIfInBounds_toArray, List.set_cons_zero, List.set_cons_succ]
              refine wpAnyH_take (i := 15) (v := ?_) (by simp only [List.getElem?_toArray, List.getElem?_cons_succ, List.getElem?_cons_zero]; exact rfl) (by kernel_rfl) (by kernel_rfl) (by kernel_rfl) (by exact fun _ _ _ h => h) (Or.inl ⟨by rfl, ?_⟩) hHeld ?_
              rotate_left
              · intro wq hSw; go_simp; all_goals (with_reducible rfl)
              try simp only [Act.put, List.setIfInBounds_toArray, List.set_cons_zero, List.set_cons_succ]
              refine wpAnyH_take (i := 16) (v := ?_) (by simp only [List.getElem?_toArray, List.getElem?_cons_succ, List.getElem?_cons_zero]; exact rfl) (by kernel_rfl) (by kernel_rfl) (by kernel_rfl) (by exact fun _ _ _ h => h) (Or.inl ⟨by rfl, ?_⟩) hHeld ?_
              rotate_left
              · intro wq hSw; go_simp; all_goals (with_reducible rfl)
              try simp only [Act.put, List.setIfInBounds_toArray, List.set_cons_zero, List.set_cons_succ]
              refine wpAnyH_done (by kernel_rfl) ?_ _
              have hc1' := (hHeld.cell (p := ⟨w.heap.size, j * 2 + 1, none⟩) hltr).trans hc1
              have hb2 := hb.trans (hHeld.mono hb.size)
              clear hc hc1 z1 z2 z3 hwq
              go_wp2
              go_roundw
              case rel => exact ⟨j + 1, r, acc ++ Y ++ letS j, by omega, by go_num, rfl, rfl, by omega, HQ.out, hb2⟩
              case measure => simp [intOf]; omega
            · exact AllReadyH.nil
          · have hdq : decide (z ≤ D) = false := by simp; omega
            rw [if_neg hq0, List.nil_append] at hq
            have HQ := Lib.hid hq
            clear hq hge
            go_wp2
            go_roundw
            case rel => exact ⟨j + 1, r, acc, by omega, by go_num, rfl, rfl, by omega, HQ.out, (by repeat (first | assumption | exact Below.refl _ _ | apply Mem.below_drewN | apply Below.drew | refine Below.alloc ?_ (by first | assumption | omega | (simp; done) | (simp; omega)) _ | refine Below.setCell ?_ (by first | assumption | omega | (simp; done) | (simp; omega)) _))⟩
            case measure => simp [intOf]; omega
        · obtain rfl : j = 5 := by omega
          have hd5 : decide ((5 : Nat) < 5) = false := by decide
          have HF := Lib.hid (show Dur.bl acc = Dur.print (D0 : Int) by
            rw [HP.out, hq]
            simp [Dur.parts])
          clear hq
          go_wp2
          go_ret
          refine ⟨?_, hB1.trans (hb.mono hB1.size)⟩
          rw [← HF.out]
          rw [show (⟨(Dur.bl acc).toArray⟩ : ByteArray) = acc from Dur.ba_ext (Dur.bl_mk _)]
          rfl
end Go.Proofs.YtanacoollaajkaaDoor
