/- The walk of the reference's Digits (as for dur). -/
import Derived.Test.YtnallbhckeoldaaDoorNumA
import Derived.Deep.RegionHeld3
import Derived.Laws.BytesArg
import Derived.Lib.ItoaLen
import Derived.Lib.Builder
namespace Go.Proofs.YtnallbhckeoldaaDoor
open Go.RowKit
set_option linter.unusedSimpArgs false
set_option linter.unusedVariables false

theorem conv_at (W : World) (b : Nat) (x : Int) (h : 0 ≤ x) (h2 : x < 256) (hc : W.cell? ⟨b, 0, none⟩ = some (.int .u8 x)) : (convert 44 9 (.slice (some ⟨b, 0, none⟩) 1 1)).run Tryd.prog W = .ok (.string ⟨#[UInt8.ofNat x.toNat]⟩) W := by
  obtain ⟨n, rfl⟩ := Int.eq_ofNat_of_zero_le h
  have hn : (UInt8.ofNat n).toNat = n := by rw [UInt8.toNat_ofNat']; omega
  have := run_convert_bytes_back W 44 9 5 ⟨b, 0, none⟩ 1 [UInt8.ofNat n] Tryd.underlying44 Tryd.underlying5 Tryd.underlying9 (by
    intro j hj
    have hj0 : j = 0 := by simpa using hj
    subst hj0
    show W.cell? ((Addr.mk b 0 none).add 0) = some (.int .u8 ((UInt8.ofNat n).toNat : Int))
    rw [hn, show (Addr.mk b 0 none).add 0 = ⟨b, 0, none⟩ from rfl, hc])
  exact this
theorem new_cell (W : World) (x : Value) : (W.alloc (.cells #[x] 5)).cell? ⟨W.heap.size, 0, none⟩ = some x := by rw [Lib.cell_of_heap (heap_alloc_new W _)]; rfl
theorem conv_one (W : World) (x : Int) (h : 0 ≤ x) (h2 : x < 256) : (convert 44 9 (.slice (some ⟨W.heap.size, 0, none⟩) 1 1)).run Tryd.prog (W.alloc (.cells #[.int .u8 x] 5)) = .ok (.string ⟨#[UInt8.ofNat x.toNat]⟩) (W.alloc (.cells #[.int .u8 x] 5)) :=
  conv_at _ _ x h h2 (new_cell W _)

theorem digs_more {n : Nat} (h : ¬ n < 10) : Lib.decDigits n = Lib.decDigits (n / 10) ++ [UInt8.ofNat (48 + n % 10)] := by rw [Lib.decDigits, dif_neg h]
theorem digs_one {n : Nat} (h : n < 10) : Lib.decDigits n = [UInt8.ofNat (48 + n)] := Lib.decDigits_one h
namespace Num
theorem digs_len (n : Nat) (h : n ≤ 9223372036854775807) : (Lib.decDigits n).length ≤ 21 := by
  have := Lib.itoa_length_le (n : Int) (by omega) (by omega)
  rwa [Lib.itoa_nonneg] at this
end Num

set_option maxRecDepth 100000 in
set_option maxHeartbeats 4000000 in
theorem rDigits_small (n : Nat) (h : n < 10) (w : World) : Calls Tryd.prog 21 #[.int .i64 (n : Int)] w fun e w' => e = .returned (.string ⟨(Lib.decDigits n).toArray⟩) ∧ Below w.heap.size w w' := by
  have hd : decide (n < 10) = true := by simp; omega
  have hd' : decide ((n : Int) < 10) = true := by simp; omega
  have hw1 : IntKind.u8.wrap (48 + (n : Int)) = 48 + (n : Int) := by rw [IntKind.wrap_u8]; omega
  have hcv := conv_one w (48 + (n : Int)) (by omega) (by omega)
  have HD := Lib.hid (Lib.decDigits_one h)
  go_enter Tryd.func21, Tryd.ntmps21
  go_wp2_with fail
  go_ret
  rw [HD.out]
  exact ⟨by rfl, (Below.refl _ _).alloc (Nat.le_refl _) _⟩

set_option maxRecDepth 100000 in
set_option maxHeartbeats 8000000 in
theorem rDigits_any (n : Nat) : ∀ (w : World), n ≤ 9007199254740992 → Calls Tryd.prog 21 #[.int .i64 (n : Int)] w fun e w' => e = .returned (.string ⟨(Lib.decDigits n).toArray⟩) ∧ Below w.heap.size w w' := by
  induction n using Nat.strongRecOn with
  | _ n ih =>
    intro w hn
    by_cases h : n < 10
    · exact rDigits_small n h w
    · have hd : decide (n < 10) = false := by simp; omega
      have hd' : decide ((n : Int) < 10) = false := by simp; omega
      obtain ⟨q, hq⟩ : ∃ q, q = n / 10 := ⟨_, rfl⟩
      obtain ⟨r, hr⟩ : ∃ r, r = n % 10 := ⟨_, rfl⟩
      have hq1 : Int.tdiv (n : Int) 10 = (q : Int) := by rw [hq]; rfl
      have hr1 : Int.tmod (n : Int) 10 = (r : Int) := by rw [hr]; rfl
      have hr2 : r < 10 := by omega
      have wq1 : IntKind.i64.wrap (q : Int) = (q : Int) := IntWalk.i64_in _ (by omega)
      have wr1 : IntKind.i64.wrap (48 + (r : Int)) = 48 + (r : Int) := IntWalk.i64_in _ (by omega)
      have IH := Lib.hid (ih q (by omega))
      have hqn : q ≤ 9007199254740992 := by omega
      have hw1 : IntKind.u8.wrap (48 + (r : Int)) = 48 + (r : Int) := by rw [IntKind.wrap_u8]; omega
      obtain ⟨Y, hY⟩ : ∃ Y : ByteArray, Y = ⟨(Lib.decDigits q).toArray⟩ := ⟨_, rfl⟩
      obtain ⟨Z, hZ⟩ : ∃ Z : ByteArray, Z = ⟨#[UInt8.ofNat (48 + r)]⟩ := ⟨_, rfl⟩
      have hYs : Y.size ≤ 21 := by rw [hY, Num.mk_size]; exact Num.digs_len q (by omega)
      have hZs : Z.size ≤ 1 := by rw [hZ]; exact Nat.le_refl 1
      have hcv : ∀ W : World, (convert 44 9 (.slice (some ⟨W.heap.size, 0, none⟩) 1 1)).run Tryd.prog (W.alloc (.cells #[.int .u8 (48 + (r : Int))] 5)) = .ok (.string Z) (W.alloc (.cells #[.int .u8 (48 + (r : Int))] 5)) := fun W => by
        rw [conv_one W (48 + (r : Int)) (by omega) (by omega), hZ, show (48 + (r : Int)).toNat = 48 + r by omega]
      have hcv2 : ∀ W : World, (convert 44 9 (.slice (some ⟨W.heap.size, 0, none⟩) 1 1)).run Tryd.prog (W.alloc (.cells #[.int .u8 (48 + (r : Int))] 5)).drew = .ok (.string Z) (W.alloc (.cells #[.int .u8 (48 + (r : Int))] 5)).drew := fun W => hcv W.drew
      have hcv3 : ∀ (W : World) (b : Nat), W.cell? ⟨b, 0, none⟩ = some (.int .u8 (48 + (r : Int))) → (convert 44 9 (.slice (some ⟨b, 0, none⟩) 1 1)).run Tryd.prog W = .ok (.string Z) W := fun W b hc => by
        rw [conv_at W b (48 + (r : Int)) (by omega) (by omega) hc, hZ, show (48 + (r : Int)).toNat = 48 + r by omega]
      have HC3 := Lib.hid hcv3
      have z1 : ¬ 9223372036854775807 < Y.size + Z.size := by omega
      have HE := Lib.hid (show (Y ++ Z : ByteArray) = ⟨(Lib.decDigits n).toArray⟩ by
        apply Num.ba_ext
        rw [Num.bl_append, Num.bl_mk, hY, hZ, Num.bl_mk, hq, hr, digs_more h])
      have HY := Lib.hid hY.symm
      clear ih hq hr hY hZ hcv hcv2 hcv3
      go_enter Tryd.func21, Tryd.ntmps21
      go_wp2_with fail
      refine wp_region_held_drew (S := fun W' => Below w.heap.size w W') (by kernel_rfl) (Below.refl _ _).drew (fun hHeld => ?_)
      refine wpAnyH_take (i := 0) (v := ?_) (by simp only [List.getElem?_toArray, List.getElem?_cons_succ, List.getElem?_cons_zero]; exact rfl) (by kernel_rfl) (by kernel_rfl) (by kernel_rfl) (by exact fun _ _ _ h => h) (Or.inl ⟨by rfl, ?_⟩) hHeld ?_
      rotate_left
      · intro wq hSw; go_simp; all_goals (with_reducible rfl)
      try simp only [Act.put, List.setIfInBounds_toArray, List.set_cons_zero, List.set_cons_succ]
      refine wpAnyH_take (i := 1) (v := ?_) (by simp only [List.getElem?_toArray, List.getElem?_cons_succ, List.getElem?_cons_zero]; exact rfl) (by kernel_rfl) (by kernel_rfl) (by kernel_rfl) (by exact fun _ _ _ h => h) (Or.inl ⟨by rfl, ?_⟩) hHeld ?_
      rotate_left
      · intro wq hSw; go_simp; all_goals (with_reducible rfl)
      try simp only [Act.put, List.setIfInBounds_toArray, List.set_cons_zero, List.set_cons_succ]
      refine wpAnyH_take (i := 3) (v := ?_) (by simp only [List.getElem?_toArray, List.getElem?_cons_succ, List.getElem?_cons_zero]; exact rfl) (by kernel_rfl) (by kernel_rfl) (by kernel_rfl) (by exact fun _ _ _ h => h) (Or.inl ⟨by rfl, ?_⟩) hHeld ?_
      rotate_left
      · intro wq hSw; go_simp; all_goals (with_reducible rfl)
      try simp only [Act.put, List.setIfInBounds_toArray, List.set_cons_zero, List.set_cons_succ]
      refine wpAnyH_take (i := 4) (v := ?_) (by simp only [List.getElem?_toArray, List.getElem?_cons_succ, List.getElem?_cons_zero]; exact rfl) (by kernel_rfl) (by kernel_rfl) (by kernel_rfl) (by exact fun _ _ _ h => h) (Or.inl ⟨by rfl, ?_⟩) hHeld ?_
      rotate_left
      · intro wq hSw; go_simp; all_goals (with_reducible rfl)
      try simp only [Act.put, List.setIfInBounds_toArray, List.set_cons_zero, List.set_cons_succ]
      refine wpAnyH_take (i := 5) (v := ?_) (by simp only [List.getElem?_toArray, List.getElem?_cons_succ, List.getElem?_cons_zero]; exact rfl) (by kernel_rfl) (by kernel_rfl) (by kernel_rfl) (by exact fun _ _ _ h => h) (Or.inl ⟨by rfl, ?_⟩) hHeld ?_
      rotate_left
      · intro wq hSw; go_simp; all_goals (with_reducible rfl)
      try simp only [Act.put, List.setIfInBounds_toArray, List.set_cons_zero, List.set_cons_succ]
      refine wpAnyH_take (i := 6) (v := ?_) (by simp only [List.getElem?_toArray, List.getElem?_cons_succ, List.getElem?_cons_zero]; exact rfl) (by kernel_rfl) (by kernel_rfl) (by kernel_rfl) (by exact fun _ _ _ h => h) (Or.inl ⟨by rfl, ?_⟩) hHeld ?_
      rotate_left
      · intro wq hSw; go_simp; all_goals (with_reducible rfl)
      try simp only [Act.put, List.setIfInBounds_toArray, List.set_cons_zero, List.set_cons_succ]
      refine wpAnyH_ready (rs := [2, 7]) (by kernel_rfl) (by simp) ?_
      refine AllReadyH.cons (by simp only [List.getElem?_toArray, List.getElem?_cons_succ, List.getElem?_cons_zero]; exact rfl) (fun K hK => ?_) ?_
      · go_simp
        refine (IH.out _ hqn).mono ?_
        rintro e w4 ⟨rfl, hB4⟩
        rw [HY.out]
        show K _ _
        refine hK.out _ _ (hHeld.trans (hB4.mono hHeld.size)) (fun hHeld => ?_)
        clear hK K hB4
        try simp only [Act.put, List.setIfInBounds_toArray, List.set_cons_zero, List.set_cons_succ]
        refine wpAnyH_ready (rs := [7]) (by kernel_rfl) (by simp) ?_
        refine AllReadyH.cons (by simp only [List.getElem?_toArray, List.getElem?_cons_succ, List.getElem?_cons_zero]; exact rfl) (fun K hK => ?_) ?_
        · go_simp
          refine hK.out _ _ (hHeld.alloc hHeld.size _) (fun hHeld => ?_)
          clear hK K
          try simp only [Act.put, List.setIfInBounds_toArray, List.set_cons_zero, List.set_cons_succ]
          have k8 := HC3.out (w4.alloc (.cells #[.int .u8 (48 + (r : Int))] 5)) w4.heap.size (new_cell w4 _)
          refine wpAnyH_ready (rs := [8]) (by kernel_rfl) (by simp) ?_
          refine AllReadyH.cons (by simp only [List.getElem?_toArray, List.getElem?_cons_succ, List.getElem?_cons_zero]; exact rfl) (fun K hK => ?_) ?_
          · go_simp
            refine hK.out _ _ hHeld (fun hHeld => ?_)
            clear hK K k8
            try simp only [Act.put, List.setIfInBounds_toArray, List.set_cons_zero, List.set_cons_succ]
            refine wpAnyH_take (i := 9) (v := ?_) (by simp only [List.getElem?_toArray, List.getElem?_cons_succ, List.getElem?_cons_zero]; exact rfl) (by kernel_rfl) (by kernel_rfl) (by kernel_rfl) (by exact fun _ _ _ h => h) (Or.inl ⟨by rfl, ?_⟩) hHeld ?_
            rotate_left
            · intro wq hSw; go_simp; all_goals (with_reducible rfl)
            try simp only [Act.put, List.setIfInBounds_toArray, List.set_cons_zero, List.set_cons_succ]
            refine wpAnyH_take (i := 10) (v := ?_) (by simp only [List.getElem?_toArray, List.getElem?_cons_succ, List.getElem?_cons_zero]; exact rfl) (by kernel_rfl) (by kernel_rfl) (by kernel_rfl) (by exact fun _ _ _ h => h) (Or.inl ⟨by rfl, ?_⟩) hHeld ?_
            rotate_left
            · intro wq hSw; go_simp; all_goals (with_reducible rfl)
            try simp only [Act.put, List.setIfInBounds_toArray, List.set_cons_zero, List.set_cons_succ]
            refine wpAnyH_done (by kernel_rfl) ?_ _
            go_wp2_with fail
            go_ret
            rw [← HE.out]
            exact ⟨rfl, hHeld⟩
          · exact AllReadyH.nil
        · exact AllReadyH.nil
      · refine AllReadyH.cons (by simp only [List.getElem?_toArray, List.getElem?_cons_succ, List.getElem?_cons_zero]; exact rfl) (fun K hK => ?_) ?_
        · go_simp
          have hcX : ((w.alloc (.cells #[.int .u8 (48 + (r : Int))] 5)).drew).cell? ⟨w.heap.size, 0, none⟩ = some (.int .u8 (48 + (r : Int))) := new_cell w _
          have hlX : w.heap.size < ((w.alloc (.cells #[.int .u8 (48 + (r : Int))] 5)).drew).heap.size := by simp
          refine hK.out _ _ ((Below.refl w.heap.size w).alloc (Nat.le_refl _) _).drew (fun hHeld => ?_)
          clear hK K
          try simp only [Act.put, List.setIfInBounds_toArray, List.set_cons_zero, List.set_cons_succ]
          generalize (w.alloc (.cells #[.int .u8 (48 + (r : Int))] 5)).drew = X at hcX hlX hHeld ⊢
          refine wpAnyH_ready (rs := [2, 8]) (by kernel_rfl) (by simp) ?_
          refine AllReadyH.cons (by simp only [List.getElem?_toArray, List.getElem?_cons_succ, List.getElem?_cons_zero]; exact rfl) (fun K hK => ?_) ?_
          · go_simp
            refine (IH.out _ hqn).mono ?_
            rintro e w4 ⟨rfl, hB4⟩
            rw [HY.out]
            show K _ _
            refine hK.out _ _ (hHeld.trans (hB4.mono hHeld.size)) (fun hHeld => ?_)
            have k8 := HC3.out w4 w.heap.size ((hB4.cell (p := ⟨w.heap.size, 0, none⟩) hlX).trans hcX)
            clear hK K hB4
            try simp only [Act.put, List.setIfInBounds_toArray, List.set_cons_zero, List.set_cons_succ]
            refine wpAnyH_ready (rs := [8]) (by kernel_rfl) (by simp) ?_
            refine AllReadyH.cons (by simp only [List.getElem?_toArray, List.getElem?_cons_succ, List.getElem?_cons_zero]; exact rfl) (fun K hK => ?_) ?_
            · go_simp
              refine hK.out _ _ hHeld (fun hHeld => ?_)
              clear hK K k8
              try simp only [Act.put, List.setIfInBounds_toArray, List.set_cons_zero, List.set_cons_succ]
              refine wpAnyH_take (i := 9) (v := ?_) (by simp only [List.getElem?_toArray, List.getElem?_cons_succ, List.getElem?_cons_zero]; exact rfl) (by kernel_rfl) (by kernel_rfl) (by kernel_rfl) (by exact fun _ _ _ h => h) (Or.inl ⟨by rfl, ?_⟩) hHeld ?_
              rotate_left
              · intro wq hSw; go_simp; all_goals (with_reducible rfl)
              try simp only [Act.put, List.setIfInBounds_toArray, List.set_cons_zero, List.set_cons_succ]
              refine wpAnyH_take (i := 10) (v := ?_) (by simp only [List.getElem?_toArray, List.getElem?_cons_succ, List.getElem?_cons_zero]; exact rfl) (by kernel_rfl) (by kernel_rfl) (by kernel_rfl) (by exact fun _ _ _ h => h) (Or.inl ⟨by rfl, ?_⟩) hHeld ?_
              rotate_left
              · intro wq hSw; go_simp; all_goals (with_reducible rfl)
              try simp only [Act.put, List.setIfInBounds_toArray, List.set_cons_zero, List.set_cons_succ]
              refine wpAnyH_done (by kernel_rfl) ?_ _
              go_wp2_with fail
              go_ret
              rw [← HE.out]
              exact ⟨rfl, hHeld⟩
            · exact AllReadyH.nil
          · refine AllReadyH.cons (by simp only [List.getElem?_toArray, List.getElem?_cons_succ, List.getElem?_cons_zero]; exact rfl) (fun K hK => ?_) ?_
            · have k8 := HC3.out X w.heap.size hcX
              go_simp
              refine hK.out _ _ hHeld (fun hHeld => ?_)
              clear hK K k8
              try simp only [Act.put, List.setIfInBounds_toArray, List.set_cons_zero, List.set_cons_succ]
              refine wpAnyH_ready (rs := [2]) (by kernel_rfl) (by simp) ?_
              refine AllReadyH.cons (by simp only [List.getElem?_toArray, List.getElem?_cons_succ, List.getElem?_cons_zero]; exact rfl) (fun K hK => ?_) ?_
              · go_simp
                refine (IH.out _ hqn).mono ?_
                rintro e w4 ⟨rfl, hB4⟩
                rw [HY.out]
                show K _ _
                refine hK.out _ _ (hHeld.trans (hB4.mono hHeld.size)) (fun hHeld => ?_)
                clear hK K hB4
                try simp only [Act.put, List.setIfInBounds_toArray, List.set_cons_zero, List.set_cons_succ]
                refine wpAnyH_take (i := 9) (v := ?_) (by simp only [List.getElem?_toArray, List.getElem?_cons_succ, List.getElem?_cons_zero]; exact rfl) (by kernel_rfl) (by kernel_rfl) (by kernel_rfl) (by exact fun _ _ _ h => h) (Or.inl ⟨by rfl, ?_⟩) hHeld ?_
                rotate_left
                · intro wq hSw; go_simp; all_goals (with_reducible rfl)
                try simp only [Act.put, List.setIfInBounds_toArray, List.set_cons_zero, List.set_cons_succ]
                refine wpAnyH_take (i := 10) (v := ?_) (by simp only [List.getElem?_toArray, List.getElem?_cons_succ, List.getElem?_cons_zero]; exact rfl) (by kernel_rfl) (by kernel_rfl) (by kernel_rfl) (by exact fun _ _ _ h => h) (Or.inl ⟨by rfl, ?_⟩) hHeld ?_
                rotate_left
                · intro wq hSw; go_simp; all_goals (with_reducible rfl)
                try simp only [Act.put, List.setIfInBounds_toArray, List.set_cons_zero, List.set_cons_succ]
                refine wpAnyH_done (by kernel_rfl) ?_ _
                go_wp2_with fail
                go_ret
                rw [← HE.out]
                exact ⟨rfl, hHeld⟩
              · exact AllReadyH.nil
            · exact AllReadyH.nil
        · exact AllReadyH.nil
end Go.Proofs.YtnallbhckeoldaaDoor
