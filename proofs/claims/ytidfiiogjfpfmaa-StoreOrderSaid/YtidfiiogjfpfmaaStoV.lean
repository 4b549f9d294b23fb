/- The walk of the law StoreTwice. -/
import Derived.Test.YtidfiiogjfpfmaaStoR
import Derived.Test.YtidfiiogjfpfmaaStoU
import Derived.Test.YtidfiiogjfpfmaaRow
namespace Go.Proofs.Ytidfiiogjfpfmaa
open Go.RowKit
set_option linter.unusedSimpArgs false
set_option linter.unusedVariables false
attribute [local go_sem ↓] SerW.smp_neq SerW.smp_eql SerW.smp_guard

theorem same14_is (A D : Option Addr) (n c m d : Nat) (xs ys : List Sto.Se) (hxy : xs.map Sto.Se.val = ys.map Sto.Se.val) (w : World) (h : Stt w w.heap.size A n c xs) (g : Stt w w.heap.size D m d ys) :
    Calls Try.prog 12 #[.slice A n c, .slice D m d] w fun e w' => e = .returned (.bool true) ∧ Below w.heap.size w w' := by
  have := same14_any A D n c m d xs ys w h g
  rw [decide_eq_true hxy] at this
  exact this

set_option maxRecDepth 100000 in
set_option maxHeartbeats 16000000 in
theorem storeTwice_any (A : Option Addr) (n c : Nat) (ses : List Sto.Se) (B : Option Addr) (m d : Nat) (ls : List Lab.Pr) (x : Int × Int) (less : Int) (hless : -9223372036854775808 ≤ less ∧ less ≤ 9223372036854775807) (w : World) (h : Stt w w.heap.size A n c ses) (g : Prs w w.heap.size B m d ls) :
    Calls Try.prog 6 #[.slice A n c, .slice B m d, .agg #[.int .i64 x.1, .int .i64 x.2], .int .i64 less] w fun e w' => LawR w e w' := by
  have HH := Lib.hid h
  have HG := Lib.hid g
  clear h g
  go_enter Try.func6, Try.ntmps6
  go_wp2_with fail
  have hB1 := (Below.refl w.heap.size w).alloc (Nat.le_refl _) (.cells #[.int .i64 x.1, .int .i64 x.2] 25)
  have hblk := (Mem.Blk.new w 25 #[.int .i64 x.1, .int .i64 x.2])
  have hlt1 : w.heap.size < (w.alloc (.cells #[.int .i64 x.1, .int .i64 x.2] 25)).heap.size := by simp
  have hsz1 : w.heap.size ≤ (w.alloc (.cells #[.int .i64 x.1, .int .i64 x.2] 25)).heap.size := by simp
  obtain ⟨W1, hW1⟩ : ∃ W1, W1 = w.alloc (.cells #[.int .i64 x.1, .int .i64 x.2] 25) := ⟨_, rfl⟩
  rw [← hW1] at hB1 hblk hlt1 hsz1 ⊢
  clear hW1
  have HBLK := Lib.hid hblk
  clear hblk
  refine (awake_any W1).mono ?_
  rintro e w2 ⟨rfl, hb2⟩
  have hC2 := hb2
  go_wp2_with fail
  refine (few14_any A n c ses w2 ((HH.out.later hB1).later hC2)).mono ?_
  rintro e w3 ⟨b3, rfl, hb3⟩
  have hC3 := hC2.trans (hb3.mono hC2.size)
  rcases b3 with _ | _
  · go_wp2
    go_ret
    exact ⟨rfl, hB1.trans (hC3.mono hB1.size)⟩
  · go_wp2_with fail
    refine (fewL_any B m d ls w3 ((HG.out.later hB1).later hC3)).mono ?_
    rintro e w4 ⟨b4, rfl, -, hb4⟩
    have hC4 := hC3.trans (hb4.mono hC3.size)
    have u0 := (hC4.cell (p := ⟨w.heap.size, 0, none⟩) hlt1).trans (HBLK.out.cell 0)
    have u1 := (hC4.cell (p := ⟨w.heap.size, 1, none⟩) hlt1).trans (HBLK.out.cell 1)
    simp at u0 u1
    have hl4 := Nat.lt_of_lt_of_le hlt1 hC4.size
    clear hb2 hb3 hb4
    rcases b4 with _ | _
    · go_wp2
      go_ret
      exact ⟨rfl, hB1.trans (hC4.mono hB1.size)⟩
    · by_cases hl0 : less < 0
      · have hd0 : decide (less < 0) = true := decide_eq_true hl0
        go_wp2
        go_ret
        exact ⟨rfl, hB1.trans (hC4.mono hB1.size)⟩
      · have hd0 : decide (less < 0) = false := decide_eq_false hl0
        by_cases hl1 : 9007199254740992 < less
        · have hd1 : decide (9007199254740992 < less) = true := decide_eq_true hl1
          go_wp2
          go_ret
          exact ⟨rfl, hB1.trans (hC4.mono hB1.size)⟩
        · have hd1 : decide (9007199254740992 < less) = false := decide_eq_false hl1
          have HL0 := Lib.hid hl0
          have HL1 := Lib.hid hl1
          clear hl0 hl1 hless
          go_wp2_with fail
          refine (add_any A n c ses B m d ls x w4 ((HH.out.later hB1).later hC4) ((HG.out.later hB1).later hC4)).mono ?_
          rintro e w5 ⟨A5, n5, c5, ses5, er, rfl, h5, hr5, hb5⟩
          have hC5 := hC4.trans (hb5.mono hC4.size)
          have u0 := (hb5.cell (p := ⟨w.heap.size, 0, none⟩) hl4).trans u0
          have u1 := (hb5.cell (p := ⟨w.heap.size, 1, none⟩) hl4).trans u1
          have hl5 := Nat.lt_of_lt_of_le hl4 hb5.size
          clear hb5
          by_cases her : er = 0
          · subst her
            obtain ⟨p, s, hw⟩ := Sto.add_ok hr5
            have HW := Lib.hid hw
            have H5 := Lib.hid h5
            have HG5 := Lib.hid ((HG.out.later hB1).later hC5)
            clear hw hr5 h5
            go_wp2_with fail
            refine (add_any A5 n5 c5 ses5 B m d ls x w5 H5.out HG5.out).mono ?_
            rintro e w6 ⟨A6, n6, c6, ses6, er6, rfl, h6, hr6, hb6⟩
            have hq6 := Sto.went_late HW.out HW.out.time HW.out.num (Int.le_refl _) hr6
            rw [Prod.mk.injEq] at hq6
            obtain ⟨hs6, rfl⟩ := hq6
            have hC6 := hC5.trans (hb6.mono hC5.size)
            have u0 := (hb6.cell (p := ⟨w.heap.size, 0, none⟩) hl5).trans u0
            have u1 := (hb6.cell (p := ⟨w.heap.size, 1, none⟩) hl5).trans u1
            have hl6 := Nat.lt_of_lt_of_le hl5 hb6.size
            have H6 := Lib.hid h6
            have HS6 := Lib.hid hs6
            have H56 := Lib.hid (H5.out.later hb6)
            have HG6 := Lib.hid (HG5.out.later hb6)
            clear hr6 hs6 h6 hb6
            obtain ⟨z, hz⟩ : ∃ z : Int, z = max 0 (x.1 - less) := ⟨_, rfl⟩
            have htm := HW.out.time
            unfold Ser.isTime at htm
            rw [Bool.and_eq_true, decide_eq_true_iff, decide_eq_true_iff] at htm
            have hwz : IntKind.i64.wrap (x.1 - less) = x.1 - less := IntWalk.i64_in _ (by have := HL0.out; have := HL1.out; omega)
            have hzle : z ≤ x.1 := by have := HL0.out; omega
            have hzt : Ser.isTime z = true := by unfold Ser.isTime; rw [Bool.and_eq_true, decide_eq_true_iff, decide_eq_true_iff]; omega
            have HZ := Lib.hid hz
            have HZL := Lib.hid hzle
            have HZT := Lib.hid hzt
            clear hz htm hzle hzt
            go_wp2_with fail
            rw [← HZ.out]
            refine (add_any A5 n5 c5 ses5 B m d ls (z, x.2) w6 H56.out HG6.out).mono ?_
            rintro e w7 ⟨A7, n7, c7, ses7, er7, rfl, h7, hr7, hb7⟩
            have hq7 := Sto.went_late (z := (z, x.2)) HW.out HZT.out HW.out.num HZL.out hr7
            rw [Prod.mk.injEq] at hq7
            obtain ⟨hs7, rfl⟩ := hq7
            have hC7 := hC6.trans (hb7.mono hC6.size)
            have hl7 := Nat.lt_of_lt_of_le hl6 hb7.size
            have U0 := Lib.hid ((hb7.cell (p := ⟨w.heap.size, 0, none⟩) hl6).trans u0)
            have U1 := Lib.hid ((hb7.cell (p := ⟨w.heap.size, 1, none⟩) hl6).trans u1)
            have H7 := Lib.hid h7
            have HS7 := Lib.hid hs7
            have H57 := Lib.hid (H56.out.later hb7)
            have H67 := Lib.hid (H6.out.later hb7)
            have HG7 := Lib.hid (HG6.out.later hb7)
            clear hr7 hs7 h7 hb7 u0 u1 hwz
            go_wp2_with fail
            refine (get_any A5 n5 c5 ses5 B m d ls w7 H57.out HG7.out).mono ?_
            rintro e w8 ⟨A8, n8, c8, ss, rfl, h8, hg8, hb8⟩
            have hss := Sto.went_get HW.out hg8
            subst hss
            have hC8 := hC7.trans (hb8.mono hC7.size)
            have hl8 := Nat.lt_of_lt_of_le hl7 hb8.size
            obtain ⟨ys, hys⟩ := HW.out.last
            have hn8 : n8 = ys.length + 1 := by have := h8.1; rw [hys, List.length_append] at this; exact this.symm
            obtain ⟨k8, hk8⟩ : ∃ k, ys.length = k := ⟨_, rfl⟩
            rw [hk8] at hn8
            have hcap8 := Nat.le_trans h8.2.1 h8.2.2.1
            obtain ⟨b8, o8, hA8, hb8B, hc8⟩ := h8.2.2.2 (by omega)
            have hl := Ser.last_snoc ys x
            rw [← hys, hk8] at hl
            have X0 := Lib.hid ((hc8 k8 (by omega)).1.trans (by rw [hl.1]))
            have X1 := Lib.hid ((hc8 k8 (by omega)).2.trans (by rw [hl.2]))
            have V0 := Lib.hid ((hb8.cell (p := ⟨w.heap.size, 0, none⟩) hl7).trans U0.out)
            have V1 := Lib.hid ((hb8.cell (p := ⟨w.heap.size, 1, none⟩) hl7).trans U1.out)
            have H58 := Lib.hid (H57.out.later hb8)
            have H68 := Lib.hid (H67.out.later hb8)
            have H78 := Lib.hid (H7.out.later hb8)
            have hgt : decide (0 < n8) = true := decide_eq_true (by omega)
            have hw1 : IntKind.i64.wrap ((n8 : Int) - 1) = ((k8 : Nat) : Int) := by rw [show (n8 : Int) - 1 = ((k8 : Nat) : Int) by omega]; exact IntWalk.i64_in _ (by omega)
            have i0 : (0 : Int) ≤ (k8 : Int) := by omega
            have i1 : (k8 : Int) < (n8 : Int) := by omega
            subst hA8
            clear hys hn8 hk8 hc8 hl h8 hg8 hb8 hcap8
            go_wp2
            refine wp_region_held_drew (S := fun W' => Below w8.heap.size w8 W') (by kernel_rfl) (Below.refl _ _).drew (fun hHeld => ?_)
            refine wpAnyH_take (i := 0) (v := ?_) (by simp only [List.getElem?_toArray, List.getElem?_cons_succ, List.getElem?_cons_zero]; exact rfl) (by kernel_rfl) (by kernel_rfl) (by kernel_rfl) (by exact fun _ _ _ h => h) (Or.inl ⟨by rfl, ?_⟩) hHeld ?_
            rotate_left
            · intro wq hSw; go_simp; all_goals (with_reducible rfl)
            try simp only [Act.put, List.setIfInBounds_toArray, List.set_cons_zero, List.set_cons_succ]
            refine wpAnyH_take (i := 1) (v := ?_) (by simp only [List.getElem?_toArray, List.getElem?_cons_succ, List.getElem?_cons_zero]; exact rfl) (by kernel_rfl) (by kernel_rfl) (by kernel_rfl) (by exact fun _ _ _ h => h) (Or.inl ⟨by rfl, ?_⟩) hHeld ?_
            rotate_left
            · intro wq hSw; go_simp; all_goals (with_reducible rfl)
            try simp only [Act.put, List.setIfInBounds_toArray, List.set_cons_zero, List.set_cons_succ]
            refine wpAnyH_take (i := 2) (v := ?_) (by simp only [List.getElem?_toArray, List.getElem?_cons_succ, List.getElem?_cons_zero]; exact rfl) (by kernel_rfl) (by kernel_rfl) (by kernel_rfl) (by exact fun _ _ _ h => h) (Or.inl ⟨by rfl, ?_⟩) hHeld ?_
            rotate_left
            · intro wq hSw; go_simp; all_goals (with_reducible rfl)
            try simp only [Act.put, List.setIfInBounds_toArray, List.set_cons_zero, List.set_cons_succ]
            refine wpAnyH_take (i := 3) (v := ?_) (by simp only [List.getElem?_toArray, List.getElem?_cons_succ, List.getElem?_cons_zero]; exact rfl) (by kernel_rfl) (by kernel_rfl) (by kernel_rfl) (by exact fun _ _ _ h => h) (Or.inl ⟨by rfl, ?_⟩) hHeld ?_
            rotate_left
            · intro wq hSw; go_simp; all_goals (with_reducible rfl)
            try simp only [Act.put, List.setIfInBounds_toArray, List.set_cons_zero, List.set_cons_succ]
            refine wpAnyH_take (i := 4) (v := ?_) (by simp only [List.getElem?_toArray, List.getElem?_cons_succ, List.getElem?_cons_zero]; exact rfl) (by kernel_rfl) (by kernel_rfl) (by kernel_rfl) (by exact fun _ _ _ h => h) (Or.inl ⟨by rfl, ?_⟩) hHeld ?_
            rotate_left
            · intro wq hSw; go_simp; all_goals (with_reducible rfl)
            try simp only [Act.put, List.setIfInBounds_toArray, List.set_cons_zero, List.set_cons_succ]
            refine wpAnyH_take (i := 5) (v := ?_) (by simp only [List.getElem?_toArray, List.getElem?_cons_succ, List.getElem?_cons_zero]; exact rfl) (by kernel_rfl) (by kernel_rfl) (by kernel_rfl) (by exact fun _ _ _ h => h) (Or.inl ⟨by rfl, ?_⟩) hHeld ?_
            rotate_left
            · intro wq hSw; go_simp; all_goals (with_reducible rfl)
            try simp only [Act.put, List.setIfInBounds_toArray, List.set_cons_zero, List.set_cons_succ]
            refine wpAnyH_take (i := 6) (v := ?_) (by simp only [List.getElem?_toArray, List.getElem?_cons_succ, List.getElem?_cons_zero]; exact rfl) (by kernel_rfl) (by kernel_rfl) (by kernel_rfl) (by exact fun _ _ _ h => h) (Or.inl ⟨by rfl, ?_⟩) hHeld ?_
            rotate_left
            · intro wq hSw; go_simp; all_goals (with_reducible rfl)
            try simp only [Act.put, List.setIfInBounds_toArray, List.set_cons_zero, List.set_cons_succ]
            refine wpAnyH_take (i := 7) (v := ?_) (by simp only [List.getElem?_toArray, List.getElem?_cons_succ, List.getElem?_cons_zero]; exact rfl) (by kernel_rfl) (by kernel_rfl) (by kernel_rfl) (by exact fun _ _ _ h => h) (Or.inl ⟨by rfl, ?_⟩) hHeld ?_
            rotate_left
            · intro wq hSw; go_simp; all_goals (with_reducible rfl)
            try simp only [Act.put, List.setIfInBounds_toArray, List.set_cons_zero, List.set_cons_succ]
            refine wpAnyH_take (i := 8) (v := ?_) (by simp only [List.getElem?_toArray, List.getElem?_cons_succ, List.getElem?_cons_zero]; exact rfl) (by kernel_rfl) (by kernel_rfl) (by kernel_rfl) (by exact fun _ _ _ h => h) (Or.inl ⟨by rfl, ?_⟩) hHeld ?_
            rotate_left
            · intro wq hSw; go_simp; all_goals (with_reducible rfl)
            try simp only [Act.put, List.setIfInBounds_toArray, List.set_cons_zero, List.set_cons_succ]
            refine wpAnyH_take (i := 9) (v := ?_) (by simp only [List.getElem?_toArray, List.getElem?_cons_succ, List.getElem?_cons_zero]; exact rfl) (by kernel_rfl) (by kernel_rfl) (by kernel_rfl) (by exact fun _ _ _ h => h) (Or.inl ⟨by rfl, ?_⟩) hHeld ?_
            rotate_left
            · intro wq hSw; go_simp; all_goals (with_reducible rfl)
            try simp only [Act.put, List.setIfInBounds_toArray, List.set_cons_zero, List.set_cons_succ]
            refine wpAnyH_take (i := 10) (v := ?_) (by simp only [List.getElem?_toArray, List.getElem?_cons_succ, List.getElem?_cons_zero]; exact rfl) (by kernel_rfl) (by kernel_rfl) (by kernel_rfl) (by exact fun _ _ _ h => h) (Or.inl ⟨by rfl, ?_⟩) hHeld ?_
            rotate_left
            · intro wq hSw; go_simp; all_goals (with_reducible rfl)
            try simp only [Act.put, List.setIfInBounds_toArray, List.set_cons_zero, List.set_cons_succ]
            refine wpAnyH_take (i := 11) (v := ?_) (by simp only [List.getElem?_toArray, List.getElem?_cons_succ, List.getElem?_cons_zero]; exact rfl) (by kernel_rfl) (by kernel_rfl) (by kernel_rfl) (by exact fun _ _ _ h => h) (Or.inl ⟨by rfl, ?_⟩) hHeld ?_
            rotate_left
            · intro wq hSw; go_simp; all_goals (with_reducible rfl)
            try simp only [Act.put, List.setIfInBounds_toArray, List.set_cons_zero, List.set_cons_succ]
            refine wpAnyH_ready (rs := [12]) (by kernel_rfl) (by simp) ?_
            refine AllReadyH.cons (by simp only [List.getElem?_toArray, List.getElem?_cons_succ, List.getElem?_cons_zero]; exact rfl) (fun K hK => ?_) ?_
            · go_simp
              refine (same14_is A5 A6 n5 c5 n6 c6 ses5 ses6 HS6.out.symm _ (H58.out.later hHeld) (H68.out.later hHeld)).mono ?_
              rintro e w9 ⟨rfl, hb9⟩
              show K _ _
              refine hK.out _ _ (hHeld.trans (hb9.mono hHeld.size)) (fun hHeld => ?_)
              clear hK K
              try simp only [Act.put, List.setIfInBounds_toArray, List.set_cons_zero, List.set_cons_succ]
              refine wpAnyH_take (i := 13) (v := ?_) (by simp only [List.getElem?_toArray, List.getElem?_cons_succ, List.getElem?_cons_zero]; exact rfl) (by kernel_rfl) (by kernel_rfl) (by kernel_rfl) (by exact fun _ _ _ h => h) (Or.inl ⟨by rfl, ?_⟩) hHeld ?_
              rotate_left
              · intro wq hSw; go_simp; all_goals (with_reducible rfl)
              try simp only [Act.put, List.setIfInBounds_toArray, List.set_cons_zero, List.set_cons_succ]
              refine wpAnyH_take (i := 14) (v := ?_) (by simp only [List.getElem?_toArray, List.getElem?_cons_succ, List.getElem?_cons_zero]; exact rfl) (by kernel_rfl) (by kernel_rfl) (by kernel_rfl) (by exact fun _ _ _ h => h) (Or.inl ⟨by rfl, ?_⟩) hHeld ?_
              rotate_left
              · intro wq hSw; go_simp; all_goals (with_reducible rfl)
              try simp only [Act.put, List.setIfInBounds_toArray, List.set_cons_zero, List.set_cons_succ]
              refine wpAnyH_take (i := 15) (v := ?_) (by simp only [List.getElem?_toArray, List.getElem?_cons_succ, List.getElem?_cons_zero]; exact rfl) (by kernel_rfl) (by kernel_rfl) (by kernel_rfl) (by exact fun _ _ _ h => h) (Or.inl ⟨by rfl, ?_⟩) hHeld ?_
              rotate_left
              · intro wq hSw; go_simp; all_goals (with_reducible rfl)
              try simp only [Act.put, List.setIfInBounds_toArray, List.set_cons_zero, List.set_cons_succ]
              refine wpAnyH_take (i := 16) (v := ?_) (by simp only [List.getElem?_toArray, List.getElem?_cons_succ, List.getElem?_cons_zero]; exact rfl) (by kernel_rfl) (by kernel_rfl) (by kernel_rfl) (by exact fun _ _ _ h => h) (Or.inl ⟨by rfl, ?_⟩) hHeld ?_
              rotate_left
              · intro wq hSw; go_simp; all_goals (with_reducible rfl)
              try simp only [Act.put, List.setIfInBounds_toArray, List.set_cons_zero, List.set_cons_succ]
              refine wpAnyH_ready (rs := [17]) (by kernel_rfl) (by simp) ?_
              refine AllReadyH.cons (by simp only [List.getElem?_toArray, List.getElem?_cons_succ, List.getElem?_cons_zero]; exact rfl) (fun K hK => ?_) ?_
              · go_simp
                refine (same14_is A5 A7 n5 c5 n7 c7 ses5 ses7 HS7.out.symm _ (H58.out.later hHeld) (H78.out.later hHeld)).mono ?_
                rintro e w10 ⟨rfl, hb10⟩
                show K _ _
                refine hK.out _ _ (hHeld.trans (hb10.mono hHeld.size)) (fun hHeld => ?_)
                clear hK K
                try simp only [Act.put, List.setIfInBounds_toArray, List.set_cons_zero, List.set_cons_succ]
                refine wpAnyH_take (i := 18) (v := ?_) (by simp only [List.getElem?_toArray, List.getElem?_cons_succ, List.getElem?_cons_zero]; exact rfl) (by kernel_rfl) (by kernel_rfl) (by kernel_rfl) (by exact fun _ _ _ h => h) (Or.inl ⟨by rfl, ?_⟩) hHeld ?_
                rotate_left
                · intro wq hSw; go_simp; all_goals (with_reducible rfl)
                try simp only [Act.put, List.setIfInBounds_toArray, List.set_cons_zero, List.set_cons_succ]
                refine wpAnyH_take (i := 19) (v := ?_) (by simp only [List.getElem?_toArray, List.getElem?_cons_succ, List.getElem?_cons_zero]; exact rfl) (by kernel_rfl) (by kernel_rfl) (by kernel_rfl) (by exact fun _ _ _ h => h) (Or.inl ⟨by rfl, ?_⟩) hHeld ?_
                rotate_left
                · intro wq hSw; go_simp; all_goals (with_reducible rfl)
                try simp only [Act.put, List.setIfInBounds_toArray, List.set_cons_zero, List.set_cons_succ]
                refine wpAnyH_take (i := 20) (v := ?_) (by simp only [List.getElem?_toArray, List.getElem?_cons_succ, List.getElem?_cons_zero]; exact rfl) (by kernel_rfl) (by kernel_rfl) (by kernel_rfl) (by exact fun _ _ _ h => h) (Or.inl ⟨by rfl, ?_⟩) hHeld ?_
                rotate_left
                · intro wq hSw; go_simp; all_goals (with_reducible rfl)
                try simp only [Act.put, List.setIfInBounds_toArray, List.set_cons_zero, List.set_cons_succ]
                refine wpAnyH_take (i := 21) (v := ?_) (by simp only [List.getElem?_toArray, List.getElem?_cons_succ, List.getElem?_cons_zero]; exact rfl) (by kernel_rfl) (by kernel_rfl) (by kernel_rfl) (by exact fun _ _ _ h => h) (Or.inl ⟨by rfl, ?_⟩) hHeld ?_
                rotate_left
                · intro wq hSw; go_simp; all_goals (with_reducible rfl)
                try simp only [Act.put, List.setIfInBounds_toArray, List.set_cons_zero, List.set_cons_succ]
                refine wpAnyH_take (i := 22) (v := ?_) (by simp only [List.getElem?_toArray, List.getElem?_cons_succ, List.getElem?_cons_zero]; exact rfl) (by kernel_rfl) (by kernel_rfl) (by kernel_rfl) (by exact fun _ _ _ h => h) (Or.inl ⟨by rfl, ?_⟩) hHeld ?_
                rotate_left
                · intro wq hSw; go_simp; all_goals (with_reducible rfl)
                try simp only [Act.put, List.setIfInBounds_toArray, List.set_cons_zero, List.set_cons_succ]
                refine wpAnyH_take (i := 23) (v := ?_) (by simp only [List.getElem?_toArray, List.getElem?_cons_succ, List.getElem?_cons_zero]; exact rfl) (by kernel_rfl) (by kernel_rfl) (by kernel_rfl) (by exact fun _ _ _ h => h) (Or.inl ⟨by rfl, ?_⟩) hHeld ?_
                rotate_left
                · intro wq hSw; go_simp; all_goals (with_reducible rfl)
                try simp only [Act.put, List.setIfInBounds_toArray, List.set_cons_zero, List.set_cons_succ]
                refine wpAnyH_take (i := 24) (v := ?_) (by simp only [List.getElem?_toArray, List.getElem?_cons_succ, List.getElem?_cons_zero]; exact rfl) (by kernel_rfl) (by kernel_rfl) (by kernel_rfl) (by exact fun _ _ _ h => h) (Or.inl ⟨by rfl, ?_⟩) hHeld ?_
                rotate_left
                · intro wq hSw; go_simp; all_goals (with_reducible rfl)
                try simp only [Act.put, List.setIfInBounds_toArray, List.set_cons_zero, List.set_cons_succ]
                refine wpAnyH_take (i := 25) (v := ?_) (by simp only [List.getElem?_toArray, List.getElem?_cons_succ, List.getElem?_cons_zero]; exact rfl) (by kernel_rfl) (by kernel_rfl) (by kernel_rfl) (by exact fun _ _ _ h => h) (Or.inl ⟨by rfl, ?_⟩) hHeld ?_
                rotate_left
                · intro wq hSw; go_simp; all_goals (with_reducible rfl)
                try simp only [Act.put, List.setIfInBounds_toArray, List.set_cons_zero, List.set_cons_succ]
                refine wpAnyH_take (i := 26) (v := ?_) (by simp only [List.getElem?_toArray, List.getElem?_cons_succ, List.getElem?_cons_zero]; exact rfl) (by kernel_rfl) (by kernel_rfl) (by kernel_rfl) (by exact fun _ _ _ h => h) (Or.inl ⟨by rfl, ?_⟩) hHeld ?_
                rotate_left
                · intro wq hSw; go_simp; all_goals (with_reducible rfl)
                try simp only [Act.put, List.setIfInBounds_toArray, List.set_cons_zero, List.set_cons_succ]
                refine wpAnyH_take (i := 27) (v := ?_) (by simp only [List.getElem?_toArray, List.getElem?_cons_succ, List.getElem?_cons_zero]; exact rfl) (by kernel_rfl) (by kernel_rfl) (by kernel_rfl) (by exact fun _ _ _ h => h) (Or.inl ⟨by rfl, ?_⟩) hHeld ?_
                rotate_left
                · intro wq hSw; go_simp; all_goals (with_reducible rfl)
                try simp only [Act.put, List.setIfInBounds_toArray, List.set_cons_zero, List.set_cons_succ]
                refine wpAnyH_take (i := 28) (v := ?_) (by simp only [List.getElem?_toArray, List.getElem?_cons_succ, List.getElem?_cons_zero]; exact rfl) (by kernel_rfl) (by kernel_rfl) (by kernel_rfl) (by exact fun _ _ _ h => h) (Or.inl ⟨by rfl, ?_⟩) hHeld ?_
                rotate_left
                · intro wq hSw; go_simp; all_goals (with_reducible rfl)
                try simp only [Act.put, List.setIfInBounds_toArray, List.set_cons_zero, List.set_cons_succ]
                refine wpAnyH_take (i := 29) (v := ?_) (by simp only [List.getElem?_toArray, List.getElem?_cons_succ, List.getElem?_cons_zero]; exact rfl) (by kernel_rfl) (by kernel_rfl) (by kernel_rfl) (by exact fun _ _ _ h => h) (Or.inl ⟨by rfl, ?_⟩) hHeld ?_
                rotate_left
                · intro wq hSw; go_simp; all_goals (with_reducible rfl)
                try simp only [Act.put, List.setIfInBounds_toArray, List.set_cons_zero, List.set_cons_succ]
                refine wpAnyH_take (i := 30) (v := ?_) (by simp only [List.getElem?_toArray, List.getElem?_cons_succ, List.getElem?_cons_zero]; exact rfl) (by kernel_rfl) (by kernel_rfl) (by kernel_rfl) (by exact fun _ _ _ h => h) (Or.inl ⟨by rfl, ?_⟩) hHeld ?_
                rotate_left
                · intro wq hSw; have z0 := (hSw.cell (p := ⟨b8, o8 + k8 * 2, none⟩) hb8B).trans X0.out; have z1 := (hSw.cell (p := ⟨b8, o8 + k8 * 2 + 1, none⟩) hb8B).trans X1.out; go_simp; all_goals (with_reducible rfl)
                try simp only [Act.put, List.setIfInBounds_toArray, List.set_cons_zero, List.set_cons_succ]
                refine wpAnyH_take (i := 31) (v := ?_) (by simp only [List.getElem?_toArray, List.getElem?_cons_succ, List.getElem?_cons_zero]; exact rfl) (by kernel_rfl) (by kernel_rfl) (by kernel_rfl) (by exact fun _ _ _ h => h) (Or.inl ⟨by rfl, ?_⟩) hHeld ?_
                rotate_left
                · intro wq hSw; have z0 := (hSw.cell (p := ⟨w.heap.size, 0, none⟩) hl8).trans V0.out; have z1 := (hSw.cell (p := ⟨w.heap.size, 1, none⟩) hl8).trans V1.out; go_simp; all_goals (with_reducible rfl)
                try simp only [Act.put, List.setIfInBounds_toArray, List.set_cons_zero, List.set_cons_succ]
                refine wpAnyH_take (i := 32) (v := ?_) (by simp only [List.getElem?_toArray, List.getElem?_cons_succ, List.getElem?_cons_zero]; exact rfl) (by kernel_rfl) (by kernel_rfl) (by kernel_rfl) (by exact fun _ _ _ h => h) (Or.inl ⟨by rfl, ?_⟩) hHeld ?_
                rotate_left
                · intro wq hSw; go_simp; all_goals (with_reducible rfl)
                try simp only [Act.put, List.setIfInBounds_toArray, List.set_cons_zero, List.set_cons_succ]
                refine wpAnyH_take (i := 33) (v := ?_) (by simp only [List.getElem?_toArray, List.getElem?_cons_succ, List.getElem?_cons_zero]; exact rfl) (by kernel_rfl) (by kernel_rfl) (by kernel_rfl) (by exact fun _ _ _ h => h) (Or.inl ⟨by rfl, ?_⟩) hHeld ?_
                rotate_left
                · intro wq hSw; go_simp; all_goals (with_reducible rfl)
                try simp only [Act.put, List.setIfInBounds_toArray, List.set_cons_zero, List.set_cons_succ]
                refine wpAnyH_take (i := 34) (v := ?_) (by simp only [List.getElem?_toArray, List.getElem?_cons_succ, List.getElem?_cons_zero]; exact rfl) (by kernel_rfl) (by kernel_rfl) (by kernel_rfl) (by exact fun _ _ _ h => h) (Or.inl ⟨by rfl, ?_⟩) hHeld ?_
                rotate_left
                · intro wq hSw; go_simp; all_goals (with_reducible rfl)
                try simp only [Act.put, List.setIfInBounds_toArray, List.set_cons_zero, List.set_cons_succ]
                refine wpAnyH_done (by kernel_rfl) ?_ _
                go_wp2
                go_ret
                exact ⟨rfl, hB1.trans ((hC8.trans (hHeld.mono hC8.size)).mono hB1.size)⟩
              · exact AllReadyH.nil
            · exact AllReadyH.nil
          · go_wp2
            go_ret
            exact ⟨rfl, hB1.trans (hC5.mono hB1.size)⟩
end Go.Proofs.Ytidfiiogjfpfmaa
