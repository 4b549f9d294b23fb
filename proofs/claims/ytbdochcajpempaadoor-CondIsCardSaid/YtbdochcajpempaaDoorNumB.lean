/- The texts NumA, NumB in one. -/
import Derived.Test.YtbdochcajpempaaDoorProg
import Derived.Test.YtbdochcajpempaaDoorNumPlain3
import Derived.WalkKit
import Derived.WalkSpells
import Derived.WalkLawsBesides
import Derived.Lib.Hide
import Derived.IntWalk
import Derived.BigQuiet
import Derived.Deep.QuietTactic
import Derived.LoopTactic
import Derived.Below
import Derived.Deep.RegionHeld3
import Derived.Laws.BytesArg
import Derived.Lib.ItoaLen
import Derived.Lib.Builder
/- The walks of the small functions of num and of the reference: what is a number; a digit more; digits from a place on. -/
namespace Go.Proofs.YtbdochcajpempaaDoor
open Go.RowKit

theorem num_ret_bool {a b : Bool} (h : a = b) : Ending.returned (.bool a) = .returned (.bool b) := by rw [h]
theorem num_ret_int {k : IntKind} {a b : Int} (h : a = b) : Ending.returned (.int k a) = .returned (.int k b) := by rw [h]
theorem ret_int2 {k l : IntKind} {a b c d : Int} (h : a = b) (h2 : c = d) : Ending.returned (.tuple #[.int k a, .int l c]) = .returned (.tuple #[.int k b, .int l d]) := by rw [h, h2]
theorem num_n_le (c : UInt8) (n : Nat) (hn : n < 256) : (c ≤ UInt8.ofNat n) ↔ (c.toNat : Int) ≤ (n : Int) := by
  rw [UInt8.le_iff_toNat_le, UInt8.toNat_ofNat']
  omega
theorem num_n_ge (c : UInt8) (n : Nat) (hn : n < 256) : (UInt8.ofNat n ≤ c) ↔ (n : Int) ≤ (c.toNat : Int) := by
  rw [UInt8.le_iff_toNat_le, UInt8.toNat_ofNat']
  omega
theorem num_n_eq (c : UInt8) (n : Nat) (hn : n < 256) : (c = UInt8.ofNat n) ↔ (c.toNat : Int) = (n : Int) := by
  rw [← UInt8.toNat_inj, UInt8.toNat_ofNat']
  omega
theorem num_digit_int (c : UInt8) : (Num.digit c = true) ↔ (48 ≤ (c.toNat : Int) ∧ (c.toNat : Int) ≤ 57) := by
  have h1 := num_n_ge c 48 (by decide)
  have h2 := num_n_le c 57 (by decide)
  simp only [Num.digit, Bool.and_eq_true, decide_eq_true_eq]
  exact ⟨fun h => ⟨h1.1 h.1, h2.1 h.2⟩, fun h => ⟨h1.2 h.1, h2.2 h.2⟩⟩
namespace Num
abbrev bl (s : ByteArray) : Bs := s.data.toList
theorem bl_len (s : ByteArray) : (bl s).length = s.size := by simp [bl]
theorem drop_cons (s : ByteArray) (i : Nat) (h : i < s.size) : (bl s).drop i = s[i] :: (bl s).drop (i + 1) := by
  rw [List.drop_eq_getElem_cons (by rw [bl_len]; exact h)]
  rfl
theorem drop_all (s : ByteArray) (i : Nat) (h : s.size ≤ i) : (bl s).drop i = [] := List.drop_eq_nil_of_le (by rw [bl_len]; exact h)
theorem bl_extract (s : ByteArray) (a b : Nat) : bl (s.extract a b) = ((bl s).drop a).take (b - a) := by
  unfold bl
  rw [ByteArray.data_extract, Array.toList_extract]
theorem bl_from (s : ByteArray) (k : Nat) : bl (s.extract k s.size) = (bl s).drop k := by
  rw [bl_extract, List.take_of_length_le]
  rw [List.length_drop, bl_len]
  omega
theorem ba_ext {s t : ByteArray} (h : bl s = bl t) : s = t := by
  cases s; cases t
  simp only [bl] at h
  congr
  exact Array.toList_inj.1 h
theorem bl_append (a b : ByteArray) : bl (a ++ b) = bl a ++ bl b := by simp [bl]
theorem bl_mk (l : Bs) : bl ⟨l.toArray⟩ = l := by simp [bl]
theorem mk_size (l : Bs) : (⟨l.toArray⟩ : ByteArray).size = l.length := by simp [ByteArray.size]
end Num

set_option maxHeartbeats 400000 in
theorem sane_any (d : Int) (w : World) : Calls Tryd.prog 30 #[.int .i64 d] w fun e w' => e = .returned (.bool (Num.sane d)) ∧ w = w' := by
  go_enter Tryd.func30, Tryd.ntmps30
  go_wp2
  all_goals go_ret
  all_goals exact ⟨num_ret_bool (by simp [Num.sane]; try omega), rfl⟩
set_option maxHeartbeats 400000 in
theorem rSane_any (d : Int) (w : World) : Calls Tryd.prog 32 #[.int .i64 d] w fun e w' => e = .returned (.bool (Num.sane d)) ∧ w = w' := by
  go_enter Tryd.func32, Tryd.ntmps32
  go_wp2
  all_goals go_ret
  all_goals exact ⟨num_ret_bool (by simp [Num.sane]; try omega), rfl⟩
set_option maxHeartbeats 400000 in
theorem more_any (v d : Nat) (hv : v ≤ 9007199254740993) (hd : d ≤ 9) (w : World) : Calls Tryd.prog 45 #[.int .i64 v, .int .i64 d] w fun e w' => e = .returned (.int .i64 (Num.cap (v * 10 + d) : Nat)) ∧ w = w' := by
  go_enter Tryd.func45, Tryd.ntmps45
  go_wp2
  all_goals go_ret
  all_goals exact ⟨num_ret_int (by unfold Num.cap; omega), rfl⟩
set_option maxHeartbeats 400000 in
theorem rDigit_any (c : UInt8) (w : World) : Calls Tryd.prog 85 #[.int .u8 (c.toNat : Int)] w fun e w' => e = .returned (.bool (Num.digit c)) ∧ w = w' := by
  go_enter Tryd.func85, Tryd.ntmps85
  go_wp2
  all_goals go_ret
  all_goals exact ⟨num_ret_bool (by rw [Bool.eq_iff_iff, num_digit_int]; simp; try omega), rfl⟩
set_option maxHeartbeats 1000000 in
theorem rRun_any (s : ByteArray) (at_ : Nat) (hs : s.size ≤ 4611686018427387904) (ha : at_ ≤ s.size) (w : World) :
    Calls Tryd.prog 79 #[.string s, .int .i64 at_] w fun e w' => e = .returned (.int .i64 (Num.run ((Num.bl s).drop at_) : Nat)) ∧ w = w' := by
  go_enter Tryd.func79, Tryd.ntmps79
  go_wp2
  go_loop [5] (fun j => ∃ k : Nat, at_ + k ≤ s.size ∧ j = .int .i64 k ∧ Num.run ((Num.bl s).drop at_) = k + Num.run ((Num.bl s).drop (at_ + k))) (fun j => s.size - (intOf j).toNat)
  case atStart => exact ⟨0, by omega, rfl, by simp⟩
  case round =>
    obtain ⟨k, hk, rfl, hq⟩ := hrel
    by_cases hlt : at_ + k < s.size
    · have hdc := Num.drop_cons s (at_ + k) hlt
      obtain ⟨c, hc⟩ : ∃ c, s[at_ + k] = c := ⟨_, rfl⟩
      rw [hc] at hdc
      have hl2 : (at_ : Int) + (k : Int) < (s.size : Int) := by omega
      rcases hd : Num.digit c with _ | _
      · have HQ := Lib.hid (show Num.run ((Num.bl s).drop at_) = k by rw [hq, hdc]; simp [Num.run, hd])
        clear hq hdc
        go_wp2_with fail
        refine (rDigit_any c _).mono ?_
        rintro e w' ⟨rfl, rfl⟩
        rw [hd]
        go_wp2
        go_ret
        exact ⟨by rw [HQ.out]; rfl, rfl⟩
      · have HQ := Lib.hid (show Num.run ((Num.bl s).drop at_) = (k + 1) + Num.run ((Num.bl s).drop (at_ + (k + 1))) by
          rw [hq, hdc, show at_ + (k + 1) = at_ + k + 1 by omega]
          simp [Num.run, hd]
          omega)
        clear hq hdc
        go_wp2_with fail
        refine (rDigit_any c _).mono ?_
        rintro e w' ⟨rfl, rfl⟩
        rw [hd]
        go_wp2
        go_round
        case rel => exact ⟨k + 1, by omega, by go_num, HQ.out⟩
        case measure => simp [intOf]; omega
    · have HQ := Lib.hid (show Num.run ((Num.bl s).drop at_) = k by rw [hq, Num.drop_all s (at_ + k) (by omega)]; simp [Num.run])
      clear hq
      go_wp2
      go_ret
      exact ⟨by rw [HQ.out]; rfl, rfl⟩
end Go.Proofs.YtbdochcajpempaaDoor

/- The walk of the reference's Digits (as for dur). -/
namespace Go.Proofs.YtbdochcajpempaaDoor
open Go.RowKit
set_option linter.unusedSimpArgs false
set_option linter.unusedVariables false

theorem conv_at (W : World) (b : Nat) (x : Int) (h : 0 ≤ x) (h2 : x < 256) (hc : W.cell? ⟨b, 0, none⟩ = some (.int .u8 x)) : (convert 83 9 (.slice (some ⟨b, 0, none⟩) 1 1)).run Tryd.prog W = .ok (.string ⟨#[UInt8.ofNat x.toNat]⟩) W := by
  obtain ⟨n, rfl⟩ := Int.eq_ofNat_of_zero_le h
  have hn : (UInt8.ofNat n).toNat = n := by rw [UInt8.toNat_ofNat']; omega
  have := run_convert_bytes_back W 83 9 5 ⟨b, 0, none⟩ 1 [UInt8.ofNat n] Tryd.underlying83 Tryd.underlying5 Tryd.underlying9 (by
    intro j hj
    have hj0 : j = 0 := by simpa using hj
    subst hj0
    show W.cell? ((Addr.mk b 0 none).add 0) = some (.int .u8 ((UInt8.ofNat n).toNat : Int))
    rw [hn, show (Addr.mk b 0 none).add 0 = ⟨b, 0, none⟩ from rfl, hc])
  exact this
theorem new_cell (W : World) (x : Value) : (W.alloc (.cells #[x] 5)).cell? ⟨W.heap.size, 0, none⟩ = some x := by rw [Lib.cell_of_heap (heap_alloc_new W _)]; rfl
theorem conv_one (W : World) (x : Int) (h : 0 ≤ x) (h2 : x < 256) : (convert 83 9 (.slice (some ⟨W.heap.size, 0, none⟩) 1 1)).run Tryd.prog (W.alloc (.cells #[.int .u8 x] 5)) = .ok (.string ⟨#[UInt8.ofNat x.toNat]⟩) (W.alloc (.cells #[.int .u8 x] 5)) :=
  conv_at _ _ x h h2 (new_cell W _)

theorem digs_more {n : Nat} (h : ¬ n < 10) : Lib.decDigits n = Lib.decDigits (n / 10) ++ [UInt8.ofNat (48 + n % 10)] := by rw [Lib.decDigits, dif_neg h]
theorem digs_one {n : Nat} (h : n < 10) : Lib.decDigits n = [UInt8.ofNat (48 + n)] := Lib.decDigits_one h
namespace Num
theorem digs_len (n : Nat) (h : n ≤ 9223372036854775807) : (Lib.decDigits n).length ≤ 21 := by
  have := Lib.itoa_length_le (n : Int) (by omega) (by omega)
  rwa [Lib.itoa_nonneg] at this
end Num

set_option maxRecDepth 100000 in
set_option maxHeartbeats 4000000 in
theorem rDigits_small (n : Nat) (h : n < 10) (w : World) : Calls Tryd.prog 55 #[.int .i64 (n : Int)] w fun e w' => e = .returned (.string ⟨(Lib.decDigits n).toArray⟩) ∧ Below w.heap.size w w' := by
  have hd : decide (n < 10) = true := by simp; omega
  have hd' : decide ((n : Int) < 10) = true := by simp; omega
  have hw1 : IntKind.u8.wrap (48 + (n : Int)) = 48 + (n : Int) := by rw [IntKind.wrap_u8]; omega
  have hcv := conv_one w (48 + (n : Int)) (by omega) (by omega)
  have HD := Lib.hid (Lib.decDigits_one h)
  go_enter Tryd.func55, Tryd.ntmps55
  go_wp2_with fail
  go_ret
  rw [HD.out]
  exact ⟨by rfl, (Below.refl _ _).alloc (Nat.le_refl _) _⟩

set_option maxRecDepth 100000 in
set_option maxHeartbeats 8000000 in
theorem rDigits_any (n : Nat) : ∀ (w : World), n ≤ 9007199254740992 → Calls Tryd.prog 55 #[.int .i64 (n : Int)] w fun e w' => e = .returned (.string ⟨(Lib.decDigits n).toArray⟩) ∧ Below w.heap.size w w' := by
  induction n using Nat.strongRecOn with
  | _ n ih =>
    intro w hn
    by_cases h : n < 10
    · exact rDigits_small n h w
    · have hd : decide (n < 10) = false := by simp; omega
      have hd' : decide ((n : Int) < 10) = false := by simp; omega
      obtain ⟨q, hq⟩ : ∃ q, q = n / 10 := ⟨_, rfl⟩
      obtain ⟨r, hr⟩ : ∃ r, r = n % 10 := ⟨_, rfl⟩
      have hq1 : Int.tdiv (n : Int) 10 = (q : Int) := by rw [hq]; rfl
      have hr1 : Int.tmod (n : Int) 10 = (r : Int) := by rw [hr]; rfl
      have hr2 : r < 10 := by omega
      have wq1 : IntKind.i64.wrap (q : Int) = (q : Int) := IntWalk.i64_in _ (by omega)
      have wr1 : IntKind.i64.wrap (48 + (r : Int)) = 48 + (r : Int) := IntWalk.i64_in _ (by omega)
      have IH := Lib.hid (ih q (by omega))
      have hqn : q ≤ 9007199254740992 := by omega
      have hw1 : IntKind.u8.wrap (48 + (r : Int)) = 48 + (r : Int) := by rw [IntKind.wrap_u8]; omega
      obtain ⟨Y, hY⟩ : ∃ Y : ByteArray, Y = ⟨(Lib.decDigits q).toArray⟩ := ⟨_, rfl⟩
      obtain ⟨Z, hZ⟩ : ∃ Z : ByteArray, Z = ⟨#[UInt8.ofNat (48 + r)]⟩ := ⟨_, rfl⟩
      have hYs : Y.size ≤ 21 := by rw [hY, Num.mk_size]; exact Num.digs_len q (by omega)
      have hZs : Z.size ≤ 1 := by rw [hZ]; exact Nat.le_refl 1
      have hcv : ∀ W : World, (convert 83 9 (.slice (some ⟨W.heap.size, 0, none⟩) 1 1)).run Tryd.prog (W.alloc (.cells #[.int .u8 (48 + (r : Int))] 5)) = .ok (.string Z) (W.alloc (.cells #[.int .u8 (48 + (r : Int))] 5)) := fun W => by
        rw [conv_one W (48 + (r : Int)) (by omega) (by omega), hZ, show (48 + (r : Int)).toNat = 48 + r by omega]
      have hcv2 : ∀ W : World, (convert 83 9 (.slice (some ⟨W.heap.size, 0, none⟩) 1 1)).run Tryd.prog (W.alloc (.cells #[.int .u8 (48 + (r : Int))] 5)).drew = .ok (.string Z) (W.alloc (.cells #[.int .u8 (48 + (r : Int))] 5)).drew := fun W => hcv W.drew
      have hcv3 : ∀ (W : World) (b : Nat), W.cell? ⟨b, 0, none⟩ = some (.int .u8 (48 + (r : Int))) → (convert 83 9 (.slice (some ⟨b, 0, none⟩) 1 1)).run Tryd.prog W = .ok (.string Z) W := fun W b hc => by
        rw [conv_at W b (48 + (r : Int)) (by omega) (by omega) hc, hZ, show (48 + (r : Int)).toNat = 48 + r by omega]
      have HC3 := Lib.hid hcv3
      have z1 : ¬ 9223372036854775807 < Y.size + Z.size := by omega
      have HE := Lib.hid (show (Y ++ Z : ByteArray) = ⟨(Lib.decDigits n).toArray⟩ by
        apply Num.ba_ext
        rw [Num.bl_append, Num.bl_mk, hY, hZ, Num.bl_mk, hq, hr, digs_more h])
      have HY := Lib.hid hY.symm
      clear ih hq hr hY hZ hcv hcv2 hcv3
      go_enter Tryd.func55, Tryd.ntmps55
      go_wp2_with fail
      refine wp_region_held_drew (S := fun W' => Below w.heap.size w W') (by kernel_rfl) (Below.refl _ _).drew (fun hHeld => ?_)
      refine wpAnyH_take (i := 0) (v := ?_) (by simp only [List.getElem?_toArray, List.getElem?_cons_succ, List.getElem?_cons_zero]; exact rfl) (by kernel_rfl) (by kernel_rfl) (by kernel_rfl) (by exact fun _ _ _ h => h) (Or.inl ⟨by rfl, ?_⟩) hHeld ?_
      rotate_left
      · intro wq hSw; go_simp; all_goals (with_reducible rfl)
      try simp only [Act.put, List.setIfInBounds_toArray, List.set_cons_zero, List.set_cons_succ]
      refine wpAnyH_take (i := 1) (v := ?_) (by simp only [List.getElem?_toArray, List.getElem?_cons_succ, List.getElem?_cons_zero]; exact rfl) (by kernel_rfl) (by kernel_rfl) (by kernel_rfl) (by exact fun _ _ _ h => h) (Or.inl ⟨by rfl, ?_⟩) hHeld ?_
      rotate_left
      · intro wq hSw; go_simp; all_goals (with_reducible rfl)
      try simp only [Act.put, List.setIfInBounds_toArray, List.set_cons_zero, List.set_cons_succ]
      refine wpAnyH_take (i := 3) (v := ?_) (by simp only [List.getElem?_toArray, List.getElem?_cons_succ, List.getElem?_cons_zero]; exact rfl) (by kernel_rfl) (by kernel_rfl) (by kernel_rfl) (by exact fun _ _ _ h => h) (Or.inl ⟨by rfl, ?_⟩) hHeld ?_
      rotate_left
      · intro wq hSw; go_simp; all_goals (with_reducible rfl)
      try simp only [Act.put, List.setIfInBounds_toArray, List.set_cons_zero, List.set_cons_succ]
      refine wpAnyH_take (i := 4) (v := ?_) (by simp only [List.getElem?_toArray, List.getElem?_cons_succ, List.getElem?_cons_zero]; exact rfl) (by kernel_rfl) (by kernel_rfl) (by kernel_rfl) (by exact fun _ _ _ h => h) (Or.inl ⟨by rfl, ?_⟩) hHeld ?_
      rotate_left
      · intro wq hSw; go_simp; all_goals (with_reducible rfl)
      try simp only [Act.put, List.setIfInBounds_toArray, List.set_cons_zero, List.set_cons_succ]
      refine wpAnyH_take (i := 5) (v := ?_) (by simp only [List.getElem?_toArray, List.getElem?_cons_succ, List.getElem?_cons_zero]; exact rfl) (by kernel_rfl) (by kernel_rfl) (by kernel_rfl) (by exact fun _ _ _ h => h) (Or.inl ⟨by rfl, ?_⟩) hHeld ?_
      rotate_left
      · intro wq hSw; go_simp; all_goals (with_reducible rfl)
      try simp only [Act.put, List.setIfInBounds_toArray, List.set_cons_zero, List.set_cons_succ]
      refine wpAnyH_take (i := 6) (v := ?_) (by simp only [List.getElem?_toArray, List.getElem?_cons_succ, List.getElem?_cons_zero]; exact rfl) (by kernel_rfl) (by kernel_rfl) (by kernel_rfl) (by exact fun _ _ _ h => h) (Or.inl ⟨by rfl, ?_⟩) hHeld ?_
      rotate_left
      · intro wq hSw; go_simp; all_goals (with_reducible rfl)
      try simp only [Act.put, List.setIfInBounds_toArray, List.set_cons_zero, List.set_cons_succ]
      refine wpAnyH_ready (rs := [2, 7]) (by kernel_rfl) (by simp) ?_
      refine AllReadyH.cons (by simp only [List.getElem?_toArray, List.getElem?_cons_succ, List.getElem?_cons_zero]; exact rfl) (fun K hK => ?_) ?_
      · go_simp
        refine (IH.out _ hqn).mono ?_
        rintro e w4 ⟨rfl, hB4⟩
        rw [HY.out]
        show K _ _
        refine hK.out _ _ (hHeld.trans (hB4.mono hHeld.size)) (fun hHeld => ?_)
        clear hK K hB4
        try simp only [Act.put, List.setIfInBounds_toArray, List.set_cons_zero, List.set_cons_succ]
        refine wpAnyH_ready (rs := [7]) (by kernel_rfl) (by simp) ?_
        refine AllReadyH.cons (by simp only [List.getElem?_toArray, List.getElem?_cons_succ, List.getElem?_cons_zero]; exact rfl) (fun K hK => ?_) ?_
        · go_simp
          refine hK.out _ _ (hHeld.alloc hHeld.size _) (fun hHeld => ?_)
          clear hK K
          try simp only [Act.put, List.setIfInBounds_toArray, List.set_cons_zero, List.set_cons_succ]
          have k8 := HC3.out (w4.alloc (.cells #[.int .u8 (48 + (r : Int))] 5)) w4.heap.size (new_cell w4 _)
          refine wpAnyH_ready (rs := [8]) (by kernel_rfl) (by simp) ?_
          refine AllReadyH.cons (by simp only [List.getElem?_toArray, List.getElem?_cons_succ, List.getElem?_cons_zero]; exact rfl) (fun K hK => ?_) ?_
          · go_simp
            refine hK.out _ _ hHeld (fun hHeld => ?_)
            clear hK K k8
            try simp only [Act.put, List.setIfInBounds_toArray, List.set_cons_zero, List.set_cons_succ]
            refine wpAnyH_take (i := 9) (v := ?_) (by simp only [List.getElem?_toArray, List.getElem?_cons_succ, List.getElem?_cons_zero]; exact rfl) (by kernel_rfl) (by kernel_rfl) (by kernel_rfl) (by exact fun _ _ _ h => h) (Or.inl ⟨by rfl, ?_⟩) hHeld ?_
            rotate_left
            · intro wq hSw; go_simp; all_goals (with_reducible rfl)
            try simp only [Act.put, List.setIfInBounds_toArray, List.set_cons_zero, List.set_cons_succ]
            refine wpAnyH_take (i := 10) (v := ?_) (by simp only [List.getElem?_toArray, List.getElem?_cons_succ, List.getElem?_cons_zero]; exact rfl) (by kernel_rfl) (by kernel_rfl) (by kernel_rfl) (by exact fun _ _ _ h => h) (Or.inl ⟨by rfl, ?_⟩) hHeld ?_
            rotate_left
            · intro wq hSw; go_simp; all_goals (with_reducible rfl)
            try simp only [Act.put, List.setIfInBounds_toArray, List.set_cons_zero, List.set_cons_succ]
            refine wpAnyH_done (by kernel_rfl) ?_ _
            go_wp2_with fail
            go_ret
            rw [← HE.out]
            exact ⟨rfl, hHeld⟩
          · exact AllReadyH.nil
        · exact AllReadyH.nil
      · refine AllReadyH.cons (by simp only [List.getElem?_toArray, List.getElem?_cons_succ, List.getElem?_cons_zero]; exact rfl) (fun K hK => ?_) ?_
        · go_simp
          have hcX : ((w.alloc (.cells #[.int .u8 (48 + (r : Int))] 5)).drew).cell? ⟨w.heap.size, 0, none⟩ = some (.int .u8 (48 + (r : Int))) := new_cell w _
          have hlX : w.heap.size < ((w.alloc (.cells #[.int .u8 (48 + (r : Int))] 5)).drew).heap.size := by simp
          refine hK.out _ _ ((Below.refl w.heap.size w).alloc (Nat.le_refl _) _).drew (fun hHeld => ?_)
          clear hK K
          try simp only [Act.put, List.setIfInBounds_toArray, List.set_cons_zero, List.set_cons_succ]
          generalize (w.alloc (.cells #[.int .u8 (48 + (r : Int))] 5)).drew = X at hcX hlX hHeld ⊢
          refine wpAnyH_ready (rs := [2, 8]) (by kernel_rfl) (by simp) ?_
          refine AllReadyH.cons (by simp only [List.getElem?_toArray, List.getElem?_cons_succ, List.getElem?_cons_zero]; exact rfl) (fun K hK => ?_) ?_
          · go_simp
            refine (IH.out _ hqn).mono ?_
            rintro e w4 ⟨rfl, hB4⟩
            rw [HY.out]
            show K _ _
            refine hK.out _ _ (hHeld.trans (hB4.mono hHeld.size)) (fun hHeld => ?_)
            have k8 := HC3.out w4 w.heap.size ((hB4.cell (p := ⟨w.heap.size, 0, none⟩) hlX).trans hcX)
            clear hK K hB4
            try simp only [Act.put, List.setIfInBounds_toArray, List.set_cons_zero, List.set_cons_succ]
            refine wpAnyH_ready (rs := [8]) (by kernel_rfl) (by simp) ?_
            refine AllReadyH.cons (by simp only [List.getElem?_toArray, List.getElem?_cons_succ, List.getElem?_cons_zero]; exact rfl) (fun K hK => ?_) ?_
            · go_simp
              refine hK.out _ _ hHeld (fun hHeld => ?_)
              clear hK K k8
              try simp only [Act.put, List.setIfInBounds_toArray, List.set_cons_zero, List.set_cons_succ]
              refine wpAnyH_take (i := 9) (v := ?_) (by simp only [List.getElem?_toArray, List.getElem?_cons_succ, List.getElem?_cons_zero]; exact rfl) (by kernel_rfl) (by kernel_rfl) (by kernel_rfl) (by exact fun _ _ _ h => h) (Or.inl ⟨by rfl, ?_⟩) hHeld ?_
              rotate_left
              · intro wq hSw; go_simp; all_goals (with_reducible rfl)
              try simp only [Act.put, List.setIfInBounds_toArray, List.set_cons_zero, List.set_cons_succ]
              refine wpAnyH_take (i := 10) (v := ?_) (by simp only [List.getElem?_toArray, List.getElem?_cons_succ, List.getElem?_cons_zero]; exact rfl) (by kernel_rfl) (by kernel_rfl) (by kernel_rfl) (by exact fun _ _ _ h => h) (Or.inl ⟨by rfl, ?_⟩) hHeld ?_
              rotate_left
              · intro wq hSw; go_simp; all_goals (with_reducible rfl)
              try simp only [Act.put, List.setIfInBounds_toArray, List.set_cons_zero, List.set_cons_succ]
              refine wpAnyH_done (by kernel_rfl) ?_ _
              go_wp2_with fail
              go_ret
              rw [← HE.out]
              exact ⟨rfl, hHeld⟩
            · exact AllReadyH.nil
          · refine AllReadyH.cons (by simp only [List.getElem?_toArray, List.getElem?_cons_succ, List.getElem?_cons_zero]; exact rfl) (fun K hK => ?_) ?_
            · have k8 := HC3.out X w.heap.size hcX
              go_simp
              refine hK.out _ _ hHeld (fun hHeld => ?_)
              clear hK K k8
              try simp only [Act.put, List.setIfInBounds_toArray, List.set_cons_zero, List.set_cons_succ]
              refine wpAnyH_ready (rs := [2]) (by kernel_rfl) (by simp) ?_
              refine AllReadyH.cons (by simp only [List.getElem?_toArray, List.getElem?_cons_succ, List.getElem?_cons_zero]; exact rfl) (fun K hK => ?_) ?_
              · go_simp
                refine (IH.out _ hqn).mono ?_
                rintro e w4 ⟨rfl, hB4⟩
                rw [HY.out]
                show K _ _
                refine hK.out _ _ (hHeld.trans (hB4.mono hHeld.size)) (fun hHeld => ?_)
                clear hK K hB4
                try simp only [Act.put, List.setIfInBounds_toArray, List.set_cons_zero, List.set_cons_succ]
                refine wpAnyH_take (i := 9) (v := ?_) (by simp only [List.getElem?_toArray, List.getElem?_cons_succ, List.getElem?_cons_zero]; exact rfl) (by kernel_rfl) (by kernel_rfl) (by kernel_rfl) (by exact fun _ _ _ h => h) (Or.inl ⟨by rfl, ?_⟩) hHeld ?_
                rotate_left
                · intro wq hSw; go_simp; all_goals (with_reducible rfl)
                try simp only [Act.put, List.setIfInBounds_toArray, List.set_cons_zero, List.set_cons_succ]
                refine wpAnyH_take (i := 10) (v := ?_) (by simp only [List.getElem?_toArray, List.getElem?_cons_succ, List.getElem?_cons_zero]; exact rfl) (by kernel_rfl) (by kernel_rfl) (by kernel_rfl) (by exact fun _ _ _ h => h) (Or.inl ⟨by rfl, ?_⟩) hHeld ?_
                rotate_left
                · intro wq hSw; go_simp; all_goals (with_reducible rfl)
                try simp only [Act.put, List.setIfInBounds_toArray, List.set_cons_zero, List.set_cons_succ]
                refine wpAnyH_done (by kernel_rfl) ?_ _
                go_wp2_with fail
                go_ret
                rw [← HE.out]
                exact ⟨rfl, hHeld⟩
              · exact AllReadyH.nil
            · exact AllReadyH.nil
        · exact AllReadyH.nil
end Go.Proofs.YtbdochcajpempaaDoor
