/- The walk of dur's Print. -/
import Derived.Test.YtanacoollaajkaaDoorDurC
import Derived.Deep.RegionHeld3
import Derived.Lib.ItoaLen
import Derived.Lib.Builder
namespace Go.Proofs.YtanacoollaajkaaDoor
open Go.RowKit
set_option linter.unusedSimpArgs false
set_option linter.unusedVariables false

theorem below_grow {w : World} (k : Nat) (os : Array Obj) : Below w.heap.size w (Go.Sort.grow (w.drewN k) os) :=
  ⟨rfl, rfl, rfl, by simp [Go.Sort.grow], fun i hi => by
    show (w.heap ++ os)[i]? = w.heap[i]?
    rw [Array.getElem?_append_left hi]⟩
theorem itoa_any (q : Nat) (hq : q ≤ 9223372036854775807) (w : World) (hG : Glob w) :
    Calls Tryd.prog 23 #[.int .i64 (q : Int)] w fun e w' => e = .returned (.string ⟨(Lib.decDigits q).toArray⟩) ∧ Below w.heap.size w w' := by
  refine (Tryd.strconv_Itoa (q : Int) (by omega) (by omega) w hG.2).mono ?_
  rintro e w' ⟨rfl, k, os, rfl⟩
  exact ⟨by rw [Lib.itoa_nonneg], below_grow k os⟩
namespace Dur
theorem parts_succ (j D : Nat) (hj : j < 5) : parts (5 - j) D = (if 0 < D / size j then Lib.decDigits (D / size j) ++ lets j else []) ++ parts (5 - (j + 1)) (D % size j) := by
  obtain ⟨m, hm⟩ : ∃ m, 5 - j = m + 1 := ⟨4 - j, by omega⟩
  rw [hm, show 5 - (j + 1) = m by omega]
  conv => lhs; unfold parts
  rw [show 4 - m = j by omega]
theorem digs_len (n : Nat) (h : n ≤ 9223372036854775807) : (Lib.decDigits n).length ≤ 21 := by
  have := Lib.itoa_length_le (n : Int) (by omega) (by omega)
  rwa [Lib.itoa_nonneg] at this
theorem lets_len (j : Nat) : (lets j).length ≤ 2 := by unfold lets; split <;> decide
theorem parts_len (m : Nat) : ∀ d, d ≤ 9223372036854775807 → (parts m d).length ≤ m * 23 := by
  induction m with
  | zero => intro d _; exact Nat.zero_le _
  | succ m ih =>
    intro d hd
    unfold parts
    have h1 := ih (d % size (4 - m)) (Nat.le_trans (Nat.mod_le _ _) hd)
    have h2 := digs_len (d / size (4 - m)) (Nat.le_trans (Nat.div_le_self _ _) hd)
    have h3 := lets_len (4 - m)
    rw [List.length_append]
    split
    · rw [List.length_append]
      omega
    · simp only [List.length_nil]
      omega
end Dur

set_option maxRecDepth 100000 in
set_option maxHeartbeats 8000000 in
theorem print_any (d : Int) (w : World) (hG : Glob w) :
    Calls Tryd.prog 14 #[.int .i64 d] w fun e w' => e = .returned (.string ⟨(Dur.print d).toArray⟩) ∧ Below w.heap.size w w' := by
  have HG := Lib.hid hG
  clear hG
  rcases hs : Dur.sane d with _ | _
  · have HP := Lib.hid (Dur.back_none d hs).1
    go_enter Tryd.func14, Tryd.ntmps14
    go_wp2_with fail
    refine (sane_any _ _).mono ?_
    rintro e w2 ⟨rfl, rfl⟩
    rw [hs]
    go_wp2
    go_ret
    rw [HP.out]
    exact ⟨rfl, Below.refl _ _⟩
  · by_cases h0 : d = 0
    · subst h0
      go_enter Tryd.func14, Tryd.ntmps14
      go_wp2_with fail
      refine (sane_any _ _).mono ?_
      rintro e w2 ⟨rfl, rfl⟩
      rw [hs]
      go_wp2
      go_ret
      exact ⟨rfl, Below.refl _ _⟩
    · have hb0 : 0 ≤ d ∧ d ≤ 9007199254740992 := by simpa [Dur.sane] using hs
      obtain ⟨D0, rfl⟩ : ∃ D0 : Nat, d = (D0 : Int) := ⟨d.toNat, by omega⟩
      have HP := Lib.hid (show Dur.print (D0 : Int) = Dur.parts 5 D0 by
        unfold Dur.print
        rw [if_pos hs, if_neg h0]
        rfl)
      have hz : ((D0 : Int) == 0) = false := by simp; omega
      have hD0 : D0 ≤ 9007199254740992 := by omega
      have HS := Lib.hid hs
      have hpl := Dur.parts_len 5 D0 (by omega)
      clear hb0 h0 hs
      go_enter Tryd.func14, Tryd.ntmps14
      go_wp2_with fail
      refine (sane_any _ _).mono ?_
      rintro e w2 ⟨rfl, rfl⟩
      rw [HS.out]
      obtain ⟨⟨ty, fr, hg0⟩, _⟩ := HG.out
      go_wp2_with (refine wpList_load_row rfl 36 _ rfl 0 rfl ty unitCells fr _ hg0 Tryd.underlying36 rfl (by kernel_rfl) ?_)
      clear hg0
      go_loopw [0, 3, 13] (fun s0 s3 s13 wr => ∃ (j D : Nat) (acc : ByteArray), j ≤ 5 ∧ s13 = .int .i64 j ∧ s0 = .int .i64 (D : Nat) ∧ s3 = .string acc ∧ D ≤ 9007199254740992 ∧ Dur.parts 5 D0 = Dur.bl acc ++ Dur.parts (5 - j) D ∧ Below w.heap.size w wr) (fun _ _ i _ => 5 - (intOf i).toNat)
      case atStart => exact ⟨0, D0, ⟨#[]⟩, by omega, rfl, rfl, rfl, hD0, rfl, Below.refl _ _⟩
      case round =>
        obtain ⟨j, D, acc, hj, rfl, rfl, rfl, hD, hq, hb⟩ := hrel
        have hbs := hb.size
        have hacc : acc.size ≤ 115 := by
          have := congrArg List.length hq
          rw [List.length_append, Dur.bl_len] at this
          omega
        by_cases hlt : j < 5
        · have hd5 : decide (j < 5) = true := by simp; omega
          have hidx := units_at j hlt
          have hzp := Dur.size_pos j
          rw [Dur.parts_succ j D hlt] at hq
          obtain ⟨q, hqd⟩ : ∃ q, q = D / Dur.size j := ⟨_, rfl⟩
          obtain ⟨r, hrd⟩ : ∃ r, r = D % Dur.size j := ⟨_, rfl⟩
          have hq1 : Int.tdiv (D : Int) (Dur.size j : Int) = (q : Int) := by rw [hqd]; rfl
          have hr1 : Int.tmod (D : Int) (Dur.size j : Int) = (r : Int) := by rw [hrd]; rfl
          have hqle : q ≤ D := by rw [hqd]; exact Nat.div_le_self _ _
          have hrle : r ≤ D := by rw [hrd]; exact Nat.mod_le _ _
          have hz0 : ¬ Dur.size j = 0 := by omega
          rw [← hqd, ← hrd] at hq
          obtain ⟨z, hz⟩ : ∃ z, z = Dur.size j := ⟨_, rfl⟩
          rw [← hz] at hidx hq1 hr1 hz0
          clear hqd hrd hzp hz
          have hll : (letS j).size ≤ 2 := by unfold letS; have := Dur.lets_len j; simpa [ByteArray.size] using this
          by_cases hq0 : 0 < q
          · have hdq : decide (0 < q) = true := by simp; omega
            rw [if_pos hq0] at hq
            obtain ⟨Y, hY⟩ : ∃ Y : ByteArray, Y = ⟨(Lib.decDigits q).toArray⟩ := ⟨_, rfl⟩
            have hYs : Y.size ≤ 21 := by rw [hY]; have := Dur.digs_len q (by omega); simpa [ByteArray.size] using this
            have HY := Lib.hid hY.symm
            have HQ := Lib.hid (show Dur.parts 5 D0 = Dur.bl (acc ++ (Y ++ letS j)) ++ Dur.parts (5 - (j + 1)) r by
              rw [hq, Dur.bl_append, Dur.bl_append, hY, Dur.bl_mk, letS, Dur.bl_mk]
              simp only [List.append_assoc])
            have z1 : ¬ 9223372036854775807 < Y.size + (letS j).size := by omega
            have z2 : ¬ 9223372036854775807 < acc.size + (Y.size + (letS j).size) := by omega
            clear hq hY
            have hc0 : (wr.alloc (.cells #[.string (letS j), .int .i64 (z : Int)] 35)).cell? ⟨wr.heap.size, 0, none⟩ = some (.string (letS j)) := by rw [Lib.cell_of_heap (heap_alloc_new wr _)]; rfl
            have hc1 : (wr.alloc (.cells #[.string (letS j), .int .i64 (z : Int)] 35)).cell? ⟨wr.heap.size, 1, none⟩ = some (.int .i64 (z : Int)) := by rw [Lib.cell_of_heap (heap_alloc_new wr _)]; rfl
            have hbW : Below w.heap.size w (wr.alloc (.cells #[.string (letS j), .int .i64 (z : Int)] 35)) := hb.alloc hbs _
            have hlt1 : wr.heap.size < (wr.alloc (.cells #[.string (letS j), .int .i64 (z : Int)] 35)).heap.size := by simp
            go_wp2
            generalize wr.alloc (.cells #[.string (letS j), .int .i64 (z : Int)] 35) = W1 at hc0 hc1 hbW hlt1 ⊢
            have hG1 := HG.out.below hbW
            refine wp_region_held_drew (S := fun W' => Below W1.heap.size W1 W') (by kernel_rfl) (Below.refl _ _).drew (fun hHeld => ?_)
            refine wpAnyH_take (i := 0) (v := ?_) (by simp only [List.getElem?_toArray, List.getElem?_cons_succ, List.getElem?_cons_zero]; exact rfl) (by kernel_rfl) (by kernel_rfl) (by kernel_rfl) (by exact fun _ _ _ h => h) (Or.inl ⟨by rfl, ?_⟩) hHeld ?_
            rotate_left
            · intro wq hSw; go_simp; all_goals (with_reducible rfl)
            try simp only [Act.put, List.setIfInBounds_toArray, List.set_cons_zero, List.set_cons_succ]
            refine wpAnyH_take (i := 1) (v := ?_) (by simp only [List.getElem?_toArray, List.getElem?_cons_succ, List.getElem?_cons_zero]; exact rfl) (by kernel_rfl) (by kernel_rfl) (by kernel_rfl) (by exact fun _ _ _ h => h) (Or.inl ⟨by rfl, ?_⟩) hHeld ?_
            rotate_left
            · intro wq hSw; go_simp; all_goals (with_reducible rfl)
            try simp only [Act.put, List.setIfInBounds_toArray, List.set_cons_zero, List.set_cons_succ]
            refine wpAnyH_take (i := 3) (v := ?_) (by simp only [List.getElem?_toArray, List.getElem?_cons_succ, List.getElem?_cons_zero]; exact rfl) (by kernel_rfl) (by kernel_rfl) (by kernel_rfl) (by exact fun _ _ _ h => h) (Or.inl ⟨by rfl, ?_⟩) hHeld ?_
            rotate_left
            · intro wq hSw; go_simp; all_goals (with_reducible rfl)
            try simp only [Act.put, List.setIfInBounds_toArray, List.set_cons_zero, List.set_cons_succ]
            refine wpAnyH_take (i := 4) (v := ?_) (by simp only [List.getElem?_toArray, List.getElem?_cons_succ, List.getElem?_cons_zero]; exact rfl) (by kernel_rfl) (by kernel_rfl) (by kernel_rfl) (by exact fun _ _ _ h => h) (Or.inl ⟨by rfl, ?_⟩) hHeld ?_
            rotate_left
            · intro wq hSw; have k1 := (hSw.cell (p := ⟨wr.heap.size, 0, none⟩) hlt1).trans hc0; go_simp; all_goals (with_reducible rfl)
            try simp only [Act.put, List.setIfInBounds_toArray, List.set_cons_zero, List.set_cons_succ]
            refine wpAnyH_ready (rs := [2]) (by kernel_rfl) (by simp) ?_
            refine AllReadyH.cons (by simp only [List.getElem?_toArray, List.getElem?_cons_succ, List.getElem?_cons_zero]; exact rfl) (fun K hK => ?_) ?_
            · go_simp
              refine (itoa_any q (by omega) _ (hG1.below hHeld)).mono ?_
              rintro e w4 ⟨rfl, hB4⟩
              rw [HY.out]
              show K _ _
              refine hK.out _ _ (hHeld.trans (hB4.mono hHeld.size)) (fun hHeld => ?_)
              clear hK K hB4
              try simp only [Act.put, List.setIfInBounds_toArray, List.set_cons_zero, List.set_cons_succ]
              refine wpAnyH_take (i := 5) (v := ?_) (by simp only [List.getElem?_toArray, List.getElem?_cons_succ, List.getElem?_cons_zero]; exact rfl) (by kernel_rfl) (by kernel_rfl) (by kernel_rfl) (by exact fun _ _ _ h => h) (Or.inl ⟨by rfl, ?_⟩) hHeld ?_
              rotate_left
              · intro wq hSw; go_simp; all_goals (with_reducible rfl)
              try simp only [Act.put, List.setIfInBounds_toArray, List.set_cons_zero, List.set_cons_succ]
              refine wpAnyH_take (i := 6) (v := ?_) (by simp only [List.getElem?_toArray, List.getElem?_cons_succ, List.getElem?_cons_zero]; exact rfl) (by kernel_rfl) (by kernel_rfl) (by kernel_rfl) (by exact fun _ _ _ h => h) (Or.inl ⟨by rfl, ?_⟩) hHeld ?_
              rotate_left
              · intro wq hSw; go_simp; all_goals (with_reducible rfl)
              try simp only [Act.put, List.setIfInBounds_toArray, List.set_cons_zero, List.set_cons_succ]
              refine wpAnyH_take (i := 7) (v := ?_) (by simp only [List.getElem?_toArray, List.getElem?_cons_succ, List.getElem?_cons_zero]; exact rfl) (by kernel_rfl) (by kernel_rfl) (by kernel_rfl) (by exact fun _ _ _ h => h) (Or.inl ⟨by rfl, ?_⟩) hHeld ?_
              rotate_left
              · intro wq hSw; go_simp; all_goals (with_reducible rfl)
              try simp only [Act.put, List.setIfInBounds_toArray, List.set_cons_zero, List.set_cons_succ]
              refine wpAnyH_done (by kernel_rfl) ?_ _
              have hc1' := (hHeld.cell (p := ⟨wr.heap.size, 1, none⟩) hlt1).trans hc1
              have hb2 := hbW.trans (hHeld.mono hbW.size)
              clear hc0 hc1 z1 z2
              go_wp2
              go_roundw
              case rel => exact ⟨j + 1, r, acc ++ (Y ++ letS j), by omega, by go_num, rfl, rfl, by omega, HQ.out, hb2⟩
              case measure => simp [intOf]; omega
            · exact AllReadyH.nil
          · have hdq : decide (0 < q) = false := by simp; omega
            rw [if_neg hq0, List.nil_append] at hq
            have HQ := Lib.hid hq
            clear hq
            go_wp2
            go_roundw
            case rel => exact ⟨j + 1, r, acc, by omega, by go_num, rfl, rfl, by omega, HQ.out, (by repeat (first | assumption | exact Below.refl _ _ | apply Mem.below_drewN | apply Below.drew | refine Below.alloc ?_ (by first | assumption | omega | (simp; done) | (simp; omega)) _ | refine Below.setCell ?_ (by first | assumption | omega | (simp; done) | (simp; omega)) _))⟩
            case measure => simp [intOf]; omega
        · obtain rfl : j = 5 := by omega
          have hd5 : decide ((5 : Nat) < 5) = false := by decide
          have HF := Lib.hid (show Dur.bl acc = Dur.print (D0 : Int) by
            rw [HP.out, hq]
            simp [Dur.parts])
          clear hq
          go_wp2
          go_ret
          refine ⟨?_, hb⟩
          rw [← HF.out]
          rw [show (⟨(Dur.bl acc).toArray⟩ : ByteArray) = acc from Dur.ba_ext (Dur.bl_mk _)]
          rfl
end Go.Proofs.YtanacoollaajkaaDoor
