/- The walk of the law DurOrder. -/
import Derived.Test.YtanacoollaajkaaDoorDurH
import Derived.Deep.RegionHeld3
namespace Go.Proofs.YtanacoollaajkaaDoor
open Go.RowKit
set_option linter.unusedSimpArgs false
set_option linter.unusedVariables false

theorem and_mask (k : Int) : ∃ m : Nat, bits .and .i64 k 65535 = (m : Int) ∧ m ≤ 65535 := by
  have h : (BitVec.ofInt 64 k &&& BitVec.ofInt 64 65535).toNat ≤ 65535 := by
    rw [BitVec.toNat_and]
    exact Nat.le_trans Nat.and_le_right (by decide)
  refine ⟨(BitVec.ofInt 64 k &&& BitVec.ofInt 64 65535).toNat, ?_, h⟩
  show IntKind.i64.wrap (((BitVec.ofInt 64 k &&& BitVec.ofInt 64 65535).toNat : Nat) : Int) = _
  exact IntWalk.i64_in _ (by omega)
def nameCells : Array Value := #[.string ⟨#[100]⟩, .string ⟨#[104]⟩, .string ⟨#[109]⟩, .string ⟨#[115]⟩, .string ⟨#[109, 115]⟩]
theorem names_at (q : Nat) (h : q < 5) : nameCells[q]? = some (.string (letS q)) := by
  rcases q with _ | _ | _ | _ | _ | q
  · rfl
  · rfl
  · rfl
  · rfl
  · rfl
  · omega
namespace Dur
theorem two_units (a b x y : Nat) (hx : x < 5) (hy : y < 5) (A B : ByteArray) (hA : (⟨(Lib.decDigits a).toArray⟩ : ByteArray) = A) (hB : (⟨(Lib.decDigits b).toArray⟩ : ByteArray) = B) (h1 : a * size x + b * size y ≤ 9007199254740992) :
    parse (bl (A ++ letS x ++ B ++ letS y)) = if y ≤ x then ((0 : Int), (1 : Int)) else (((a * size x + b * size y : Nat) : Int), 0) := by
  have e : bl (A ++ letS x ++ B ++ letS y) = Lib.decDigits a ++ (lets x ++ (Lib.decDigits b ++ (lets y ++ []))) := by
    rw [bl_append, bl_append, bl_append, ← hA, ← hB, bl_mk, bl_mk, letS, letS, bl_mk, bl_mk]
    simp only [List.append_assoc, List.append_nil]
  have hst : starts (Lib.decDigits b ++ (lets y ++ [])) = true := starts_app (digs_all b).2.2
  have hne : Lib.decDigits b ++ (lets y ++ []) ≠ [] := by
    intro h
    rw [h] at hst
    cases hst
  have h := sum_part 5 a x 0 (Lib.decDigits b ++ (lets y ++ [])) hx (Nat.zero_le _) (.inr hst)
  rw [if_neg hne] at h
  unfold parse
  rw [e, h]
  by_cases hc : y ≤ x
  · rw [if_pos hc, sum_low 4 b y (x + 1) [] hy (by omega) (.inl rfl)]
    rfl
  · rw [if_neg hc, sum_part 4 b y (x + 1) [] hy (by omega) (.inl rfl), if_pos rfl]
    simp only [Option.map_some]
    rw [if_pos (by unfold most; omega)]
theorem size_le (k : Nat) : size k ≤ 86400000 := by unfold size; split <;> decide
end Dur

set_option maxRecDepth 100000 in
set_option maxHeartbeats 8000000 in
theorem durOrder_any (a i b k : Int) (w : World) (hG : Glob w) : Calls Tryd.prog 8 #[.int .i64 a, .int .i64 i, .int .i64 b, .int .i64 k] w (LawR w) := by
  have HG := Lib.hid hG
  clear hG
  obtain ⟨mi, hmi, hmi2⟩ := and_mask i
  obtain ⟨mk, hmk, hmk2⟩ := and_mask k
  obtain ⟨x, hx5, hxm⟩ : ∃ x, x < 5 ∧ x = mi % 5 := ⟨mi % 5, Nat.mod_lt _ (by decide), rfl⟩
  obtain ⟨y, hy5, hym⟩ : ∃ y, y < 5 ∧ y = mk % 5 := ⟨mk % 5, Nat.mod_lt _ (by decide), rfl⟩
  have hx1 : Int.tmod (mi : Int) 5 = (x : Int) := by rw [hxm]; rfl
  have hy1 : Int.tmod (mk : Int) 5 = (y : Int) := by rw [hym]; rfl
  clear hxm hym
  by_cases hr : 0 ≤ a ∧ 0 ≤ b ∧ a ≤ 100000 ∧ b ≤ 100000
  · obtain ⟨p, rfl⟩ : ∃ p : Nat, a = (p : Int) := ⟨a.toNat, by omega⟩
    obtain ⟨q, rfl⟩ : ∃ q : Nat, b = (q : Int) := ⟨b.toNat, by omega⟩
    have hp : p ≤ 100000 := by omega
    have hq : q ≤ 100000 := by omega
    have e1 : decide ((100000 : Int) < (p : Int)) = false := by simp; omega
    have e1' : decide (100000 < p) = false := by simp; omega
    have e2 : decide ((100000 : Int) < (q : Int)) = false := by simp; omega
    have e2' : decide (100000 < q) = false := by simp; omega
    obtain ⟨A, hA⟩ : ∃ Y : ByteArray, (⟨(Lib.decDigits p).toArray⟩ : ByteArray) = Y := ⟨_, rfl⟩
    obtain ⟨B, hB⟩ : ∃ Y : ByteArray, (⟨(Lib.decDigits q).toArray⟩ : ByteArray) = Y := ⟨_, rfl⟩
    have sA : A.size ≤ 21 := by rw [← hA, Dur.mk_size]; exact Dur.digs_len _ (by omega)
    have sB : B.size ≤ 21 := by rw [← hB, Dur.mk_size]; exact Dur.digs_len _ (by omega)
    have sx : (letS x).size ≤ 2 := by unfold letS; rw [Dur.mk_size]; exact Dur.lets_len x
    have sy : (letS y).size ≤ 2 := by unfold letS; rw [Dur.mk_size]; exact Dur.lets_len y
    obtain ⟨vp, hvp⟩ : ∃ v, p * Dur.size x = v := ⟨_, rfl⟩
    obtain ⟨vq, hvq⟩ : ∃ v, q * Dur.size y = v := ⟨_, rfl⟩
    have lvp : vp ≤ 8640000000000 := by
      have h1 : p * Dur.size x ≤ p * 86400000 := Nat.mul_le_mul_left _ (Dur.size_le x)
      omega
    have lvq : vq ≤ 8640000000000 := by
      have h1 : q * Dur.size y ≤ q * 86400000 := Nat.mul_le_mul_left _ (Dur.size_le y)
      omega
    have P1 := Lib.hid (Dur.one_unit p x vp hx5 A (letS x) hA (by unfold letS; rw [Dur.bl_mk]) hvp (by omega))
    have P2 := Lib.hid (Dur.one_unit q y vq hy5 B (letS y) hB (by unfold letS; rw [Dur.bl_mk]) hvq (by omega))
    have p3 := Dur.two_units p q x y hx5 hy5 A B hA hB (by rw [hvp, hvq]; omega)
    rw [hvp, hvq] at p3
    obtain ⟨R1, R2, hP3, hcase⟩ : ∃ R1 R2 : Int, Dur.parse (Dur.bl (A ++ letS x ++ B ++ letS y)) = (R1, R2) ∧ ((decide (y ≤ x) = true ∧ R1 = 0 ∧ R2 = 1) ∨ (decide (y ≤ x) = false ∧ R1 = (vp : Int) + (vq : Int) ∧ R2 = 0)) := by
      by_cases hc : y ≤ x
      · exact ⟨0, 1, by rw [p3, if_pos hc], .inl ⟨by simp [hc], rfl, rfl⟩⟩
      · exact ⟨(vp : Int) + (vq : Int), 0, by rw [p3, if_neg hc]; simp, .inr ⟨by simp [hc], rfl, rfl⟩⟩
    have P3 := Lib.hid hP3
    have Z1 := Lib.hid (show (A ++ letS x).size ≤ 4611686018427387904 by simp only [ByteArray.size_append]; omega)
    have Z2 := Lib.hid (show (B ++ letS y).size ≤ 4611686018427387904 by simp only [ByteArray.size_append]; omega)
    have Z3 := Lib.hid (show (A ++ letS x ++ B ++ letS y).size ≤ 4611686018427387904 by simp only [ByteArray.size_append]; omega)
    have HA := Lib.hid hA
    have HB := Lib.hid hB
    have c1 : ¬ 9223372036854775807 < A.size + (letS x).size := by omega
    have c2 : ¬ 9223372036854775807 < B.size + (letS y).size := by omega
    have c3 : ¬ 9223372036854775807 < A.size + (letS x).size + B.size := by omega
    have c4 : ¬ 9223372036854775807 < A.size + (letS x).size + B.size + (letS y).size := by omega
    have x0 : (0 : Int) ≤ (x : Int) := by omega
    have x1 : (x : Int) < 5 := by omega
    have y0 : (0 : Int) ≤ (y : Int) := by omega
    have y1 : (y : Int) < 5 := by omega
    clear hA hB hvp hvq p3 hP3 hr
    go_enter Tryd.func8, Tryd.ntmps8
    go_wp2_with fail
    refine (awake_any w HG.out).mono ?_
    rintro e w1 ⟨rfl, hb1⟩
    have hcx : (w1.alloc (.cells nameCells 9)).cell? ⟨w1.heap.size, x, none⟩ = some (.string (letS x)) := by rw [Lib.cell_of_heap (heap_alloc_new w1 _)]; exact names_at x hx5
    have hcy : (w1.alloc (.cells nameCells 9)).cell? ⟨w1.heap.size, y, none⟩ = some (.string (letS y)) := by rw [Lib.cell_of_heap (heap_alloc_new w1 _)]; exact names_at y hy5
    have hltX : w1.heap.size < (w1.alloc (.cells nameCells 9)).heap.size := by simp
    have hbX : Below w.heap.size w (w1.alloc (.cells nameCells 9)) := hb1.alloc hb1.size _
    unfold nameCells at hcx hcy hltX hbX
    go_wp2_with fail
    generalize (w1.alloc (.cells #[.string ⟨#[100]⟩, .string ⟨#[104]⟩, .string ⟨#[109]⟩, .string ⟨#[115]⟩, .string ⟨#[109, 115]⟩] 9)) = X at hcx hcy hltX hbX ⊢
    have hHeld := Below.refl X.heap.size X
    have hHeld0 := hHeld
    refine wp_region_held_drew (S := fun W' => Below X.heap.size X W') (by kernel_rfl) hHeld0.drew (fun hHeld => ?_)
    refine wpAnyH_take (i := 0) (v := ?_) (by simp only [List.getElem?_toArray, List.getElem?_cons_succ, List.getElem?_cons_zero]; exact rfl) (by kernel_rfl) (by kernel_rfl) (by kernel_rfl) (by exact fun _ _ _ h => h) (Or.inl ⟨by rfl, ?_⟩) hHeld ?_
    rotate_left
    · intro wq hSw; go_simp; all_goals (with_reducible rfl)
    try simp only [Act.put, List.setIfInBounds_toArray, List.set_cons_zero, List.set_cons_succ]
    refine wpAnyH_take (i := 2) (v := ?_) (by simp only [List.getElem?_toArray, List.getElem?_cons_succ, List.getElem?_cons_zero]; exact rfl) (by kernel_rfl) (by kernel_rfl) (by kernel_rfl) (by exact fun _ _ _ h => h) (Or.inl ⟨by rfl, ?_⟩) hHeld ?_
    rotate_left
    · intro wq hSw; go_simp; all_goals (with_reducible rfl)
    try simp only [Act.put, List.setIfInBounds_toArray, List.set_cons_zero, List.set_cons_succ]
    refine wpAnyH_take (i := 3) (v := ?_) (by simp only [List.getElem?_toArray, List.getElem?_cons_succ, List.getElem?_cons_zero]; exact rfl) (by kernel_rfl) (by kernel_rfl) (by kernel_rfl) (by exact fun _ _ _ h => h) (Or.inl ⟨by rfl, ?_⟩) hHeld ?_
    rotate_left
    · intro wq hSw; go_simp; all_goals (with_reducible rfl)
    try simp only [Act.put, List.setIfInBounds_toArray, List.set_cons_zero, List.set_cons_succ]
    refine wpAnyH_take (i := 4) (v := ?_) (by simp only [List.getElem?_toArray, List.getElem?_cons_succ, List.getElem?_cons_zero]; exact rfl) (by kernel_rfl) (by kernel_rfl) (by kernel_rfl) (by exact fun _ _ _ h => h) (Or.inl ⟨by rfl, ?_⟩) hHeld ?_
    rotate_left
    · intro wq hSw; go_simp; all_goals (with_reducible rfl)
    try simp only [Act.put, List.setIfInBounds_toArray, List.set_cons_zero, List.set_cons_succ]
    refine wpAnyH_take (i := 5) (v := ?_) (by simp only [List.getElem?_toArray, List.getElem?_cons_succ, List.getElem?_cons_zero]; exact rfl) (by kernel_rfl) (by kernel_rfl) (by kernel_rfl) (by exact fun _ _ _ h => h) (Or.inl ⟨by rfl, ?_⟩) hHeld ?_
    rotate_left
    · intro wq hSw; have k1 := (hSw.cell (p := ⟨w1.heap.size, x, none⟩) hltX).trans hcx; go_simp; all_goals (with_reducible rfl)
    try simp only [Act.put, List.setIfInBounds_toArray, List.set_cons_zero, List.set_cons_succ]
    refine wpAnyH_ready (rs := [1]) (by kernel_rfl) (by simp) ?_
    refine AllReadyH.cons (by simp only [List.getElem?_toArray, List.getElem?_cons_succ, List.getElem?_cons_zero]; exact rfl) (fun K hK => ?_) ?_
    · go_simp
      refine (digits_at _ p A _ rfl (by omega) HA.out).mono ?_
      rintro e w4 ⟨rfl, hB4⟩
      show K _ _
      refine hK.out _ _ (hHeld.trans (hB4.mono hHeld.size)) (fun hHeld => ?_)
      clear hK K hB4
      try simp only [Act.put, List.setIfInBounds_toArray, List.set_cons_zero, List.set_cons_succ]
      refine wpAnyH_take (i := 6) (v := ?_) (by simp only [List.getElem?_toArray, List.getElem?_cons_succ, List.getElem?_cons_zero]; exact rfl) (by kernel_rfl) (by kernel_rfl) (by kernel_rfl) (by exact fun _ _ _ h => h) (Or.inl ⟨by rfl, ?_⟩) hHeld ?_
      rotate_left
      · intro wq hSw; go_simp; all_goals (with_reducible rfl)
      try simp only [Act.put, List.setIfInBounds_toArray, List.set_cons_zero, List.set_cons_succ]
      refine wpAnyH_ready (rs := [7]) (by kernel_rfl) (by simp) ?_
      refine AllReadyH.cons (by simp only [List.getElem?_toArray, List.getElem?_cons_succ, List.getElem?_cons_zero]; exact rfl) (fun K hK => ?_) ?_
      · go_simp
        refine (parse_is (A ++ letS x) Z1.out _ (HG.out.below (hbX.trans (hHeld.mono hbX.size))) _ _ P1.out).mono ?_
        rintro e w4 ⟨rfl, hB4⟩
        show K _ _
        refine hK.out _ _ (hHeld.trans (hB4.mono hHeld.size)) (fun hHeld => ?_)
        clear hK K hB4
        try simp only [Act.put, List.setIfInBounds_toArray, List.set_cons_zero, List.set_cons_succ]
        refine wpAnyH_take (i := 8) (v := ?_) (by simp only [List.getElem?_toArray, List.getElem?_cons_succ, List.getElem?_cons_zero]; exact rfl) (by kernel_rfl) (by kernel_rfl) (by kernel_rfl) (by exact fun _ _ _ h => h) (Or.inl ⟨by rfl, ?_⟩) hHeld ?_
        rotate_left
        · intro wq hSw; go_simp; all_goals (with_reducible rfl)
        try simp only [Act.put, List.setIfInBounds_toArray, List.set_cons_zero, List.set_cons_succ]
        refine wpAnyH_take (i := 9) (v := ?_) (by simp only [List.getElem?_toArray, List.getElem?_cons_succ, List.getElem?_cons_zero]; exact rfl) (by kernel_rfl) (by kernel_rfl) (by kernel_rfl) (by exact fun _ _ _ h => h) (Or.inl ⟨by rfl, ?_⟩) hHeld ?_
        rotate_left
        · intro wq hSw; go_simp; all_goals (with_reducible rfl)
        try simp only [Act.put, List.setIfInBounds_toArray, List.set_cons_zero, List.set_cons_succ]
        refine wpAnyH_take (i := 10) (v := ?_) (by simp only [List.getElem?_toArray, List.getElem?_cons_succ, List.getElem?_cons_zero]; exact rfl) (by kernel_rfl) (by kernel_rfl) (by kernel_rfl) (by exact fun _ _ _ h => h) (Or.inl ⟨by rfl, ?_⟩) hHeld ?_
        rotate_left
        · intro wq hSw; go_simp; all_goals (with_reducible rfl)
        try simp only [Act.put, List.setIfInBounds_toArray, List.set_cons_zero, List.set_cons_succ]
        refine wpAnyH_take (i := 11) (v := ?_) (by simp only [List.getElem?_toArray, List.getElem?_cons_succ, List.getElem?_cons_zero]; exact rfl) (by kernel_rfl) (by kernel_rfl) (by kernel_rfl) (by exact fun _ _ _ h => h) (Or.inl ⟨by rfl, ?_⟩) hHeld ?_
        rotate_left
        · intro wq hSw; go_simp; all_goals (with_reducible rfl)
        try simp only [Act.put, List.setIfInBounds_toArray, List.set_cons_zero, List.set_cons_succ]
        refine wpAnyH_take (i := 12) (v := ?_) (by simp only [List.getElem?_toArray, List.getElem?_cons_succ, List.getElem?_cons_zero]; exact rfl) (by kernel_rfl) (by kernel_rfl) (by kernel_rfl) (by exact fun _ _ _ h => h) (Or.inl ⟨by rfl, ?_⟩) hHeld ?_
        rotate_left
        · intro wq hSw; go_simp; all_goals (with_reducible rfl)
        try simp only [Act.put, List.setIfInBounds_toArray, List.set_cons_zero, List.set_cons_succ]
        refine wpAnyH_done (by kernel_rfl) ?_ _
        clear hHeld0
        go_wp2_with fail
        have hHeld0 := hHeld
        refine wp_region_held_drew (S := fun W' => Below X.heap.size X W') (by kernel_rfl) hHeld0.drew (fun hHeld => ?_)
        refine wpAnyH_take (i := 0) (v := ?_) (by simp only [List.getElem?_toArray, List.getElem?_cons_succ, List.getElem?_cons_zero]; exact rfl) (by kernel_rfl) (by kernel_rfl) (by kernel_rfl) (by exact fun _ _ _ h => h) (Or.inl ⟨by rfl, ?_⟩) hHeld ?_
        rotate_left
        · intro wq hSw; go_simp; all_goals (with_reducible rfl)
        try simp only [Act.put, List.setIfInBounds_toArray, List.set_cons_zero, List.set_cons_succ]
        refine wpAnyH_take (i := 2) (v := ?_) (by simp only [List.getElem?_toArray, List.getElem?_cons_succ, List.getElem?_cons_zero]; exact rfl) (by kernel_rfl) (by kernel_rfl) (by kernel_rfl) (by exact fun _ _ _ h => h) (Or.inl ⟨by rfl, ?_⟩) hHeld ?_
        rotate_left
        · intro wq hSw; go_simp; all_goals (with_reducible rfl)
        try simp only [Act.put, List.setIfInBounds_toArray, List.set_cons_zero, List.set_cons_succ]
        refine wpAnyH_take (i := 3) (v := ?_) (by simp only [List.getElem?_toArray, List.getElem?_cons_succ, List.getElem?_cons_zero]; exact rfl) (by kernel_rfl) (by kernel_rfl) (by kernel_rfl) (by exact fun _ _ _ h => h) (Or.inl ⟨by rfl, ?_⟩) hHeld ?_
        rotate_left
        · intro wq hSw; go_simp; all_goals (with_reducible rfl)
        try simp only [Act.put, List.setIfInBounds_toArray, List.set_cons_zero, List.set_cons_succ]
        refine wpAnyH_take (i := 4) (v := ?_) (by simp only [List.getElem?_toArray, List.getElem?_cons_succ, List.getElem?_cons_zero]; exact rfl) (by kernel_rfl) (by kernel_rfl) (by kernel_rfl) (by exact fun _ _ _ h => h) (Or.inl ⟨by rfl, ?_⟩) hHeld ?_
        rotate_left
        · intro wq hSw; go_simp; all_goals (with_reducible rfl)
        try simp only [Act.put, List.setIfInBounds_toArray, List.set_cons_zero, List.set_cons_succ]
        refine wpAnyH_take (i := 5) (v := ?_) (by simp only [List.getElem?_toArray, List.getElem?_cons_succ, List.getElem?_cons_zero]; exact rfl) (by kernel_rfl) (by kernel_rfl) (by kernel_rfl) (by exact fun _ _ _ h => h) (Or.inl ⟨by rfl, ?_⟩) hHeld ?_
        rotate_left
        · intro wq hSw; have k1 := (hSw.cell (p := ⟨w1.heap.size, y, none⟩) hltX).trans hcy; go_simp; all_goals (with_reducible rfl)
        try simp only [Act.put, List.setIfInBounds_toArray, List.set_cons_zero, List.set_cons_succ]
        refine wpAnyH_ready (rs := [1]) (by kernel_rfl) (by simp) ?_
        refine AllReadyH.cons (by simp only [List.getElem?_toArray, List.getElem?_cons_succ, List.getElem?_cons_zero]; exact rfl) (fun K hK => ?_) ?_
        · go_simp
          refine (digits_at _ q B _ rfl (by omega) HB.out).mono ?_
          rintro e w4 ⟨rfl, hB4⟩
          show K _ _
          refine hK.out _ _ (hHeld.trans (hB4.mono hHeld.size)) (fun hHeld => ?_)
          clear hK K hB4
          try simp only [Act.put, List.setIfInBounds_toArray, List.set_cons_zero, List.set_cons_succ]
          refine wpAnyH_take (i := 6) (v := ?_) (by simp only [List.getElem?_toArray, List.getElem?_cons_succ, List.getElem?_cons_zero]; exact rfl) (by kernel_rfl) (by kernel_rfl) (by kernel_rfl) (by exact fun _ _ _ h => h) (Or.inl ⟨by rfl, ?_⟩) hHeld ?_
          rotate_left
          · intro wq hSw; go_simp; all_goals (with_reducible rfl)
          try simp only [Act.put, List.setIfInBounds_toArray, List.set_cons_zero, List.set_cons_succ]
          refine wpAnyH_ready (rs := [7]) (by kernel_rfl) (by simp) ?_
          refine AllReadyH.cons (by simp only [List.getElem?_toArray, List.getElem?_cons_succ, List.getElem?_cons_zero]; exact rfl) (fun K hK => ?_) ?_
          · go_simp
            refine (parse_is (B ++ letS y) Z2.out _ (HG.out.below (hbX.trans (hHeld.mono hbX.size))) _ _ P2.out).mono ?_
            rintro e w4 ⟨rfl, hB4⟩
            show K _ _
            refine hK.out _ _ (hHeld.trans (hB4.mono hHeld.size)) (fun hHeld => ?_)
            clear hK K hB4
            try simp only [Act.put, List.setIfInBounds_toArray, List.set_cons_zero, List.set_cons_succ]
            refine wpAnyH_take (i := 8) (v := ?_) (by simp only [List.getElem?_toArray, List.getElem?_cons_succ, List.getElem?_cons_zero]; exact rfl) (by kernel_rfl) (by kernel_rfl) (by kernel_rfl) (by exact fun _ _ _ h => h) (Or.inl ⟨by rfl, ?_⟩) hHeld ?_
            rotate_left
            · intro wq hSw; go_simp; all_goals (with_reducible rfl)
            try simp only [Act.put, List.setIfInBounds_toArray, List.set_cons_zero, List.set_cons_succ]
            refine wpAnyH_take (i := 9) (v := ?_) (by simp only [List.getElem?_toArray, List.getElem?_cons_succ, List.getElem?_cons_zero]; exact rfl) (by kernel_rfl) (by kernel_rfl) (by kernel_rfl) (by exact fun _ _ _ h => h) (Or.inl ⟨by rfl, ?_⟩) hHeld ?_
            rotate_left
            · intro wq hSw; go_simp; all_goals (with_reducible rfl)
            try simp only [Act.put, List.setIfInBounds_toArray, List.set_cons_zero, List.set_cons_succ]
            refine wpAnyH_take (i := 10) (v := ?_) (by simp only [List.getElem?_toArray, List.getElem?_cons_succ, List.getElem?_cons_zero]; exact rfl) (by kernel_rfl) (by kernel_rfl) (by kernel_rfl) (by exact fun _ _ _ h => h) (Or.inl ⟨by rfl, ?_⟩) hHeld ?_
            rotate_left
            · intro wq hSw; go_simp; all_goals (with_reducible rfl)
            try simp only [Act.put, List.setIfInBounds_toArray, List.set_cons_zero, List.set_cons_succ]
            refine wpAnyH_take (i := 11) (v := ?_) (by simp only [List.getElem?_toArray, List.getElem?_cons_succ, List.getElem?_cons_zero]; exact rfl) (by kernel_rfl) (by kernel_rfl) (by kernel_rfl) (by exact fun _ _ _ h => h) (Or.inl ⟨by rfl, ?_⟩) hHeld ?_
            rotate_left
            · intro wq hSw; go_simp; all_goals (with_reducible rfl)
            try simp only [Act.put, List.setIfInBounds_toArray, List.set_cons_zero, List.set_cons_succ]
            refine wpAnyH_take (i := 12) (v := ?_) (by simp only [List.getElem?_toArray, List.getElem?_cons_succ, List.getElem?_cons_zero]; exact rfl) (by kernel_rfl) (by kernel_rfl) (by kernel_rfl) (by exact fun _ _ _ h => h) (Or.inl ⟨by rfl, ?_⟩) hHeld ?_
            rotate_left
            · intro wq hSw; go_simp; all_goals (with_reducible rfl)
            try simp only [Act.put, List.setIfInBounds_toArray, List.set_cons_zero, List.set_cons_succ]
            refine wpAnyH_done (by kernel_rfl) ?_ _
            clear hHeld0
            go_wp2_with fail
            have hHeld0 := hHeld
            refine wp_region_held_drew (S := fun W' => Below X.heap.size X W') (by kernel_rfl) hHeld0.drew (fun hHeld => ?_)
            refine wpAnyH_take (i := 0) (v := ?_) (by simp only [List.getElem?_toArray, List.getElem?_cons_succ, List.getElem?_cons_zero]; exact rfl) (by kernel_rfl) (by kernel_rfl) (by kernel_rfl) (by exact fun _ _ _ h => h) (Or.inl ⟨by rfl, ?_⟩) hHeld ?_
            rotate_left
            · intro wq hSw; go_simp; all_goals (with_reducible rfl)
            try simp only [Act.put, List.setIfInBounds_toArray, List.set_cons_zero, List.set_cons_succ]
            refine wpAnyH_take (i := 2) (v := ?_) (by simp only [List.getElem?_toArray, List.getElem?_cons_succ, List.getElem?_cons_zero]; exact rfl) (by kernel_rfl) (by kernel_rfl) (by kernel_rfl) (by exact fun _ _ _ h => h) (Or.inl ⟨by rfl, ?_⟩) hHeld ?_
            rotate_left
            · intro wq hSw; go_simp; all_goals (with_reducible rfl)
            try simp only [Act.put, List.setIfInBounds_toArray, List.set_cons_zero, List.set_cons_succ]
            refine wpAnyH_take (i := 3) (v := ?_) (by simp only [List.getElem?_toArray, List.getElem?_cons_succ, List.getElem?_cons_zero]; exact rfl) (by kernel_rfl) (by kernel_rfl) (by kernel_rfl) (by exact fun _ _ _ h => h) (Or.inl ⟨by rfl, ?_⟩) hHeld ?_
            rotate_left
            · intro wq hSw; go_simp; all_goals (with_reducible rfl)
            try simp only [Act.put, List.setIfInBounds_toArray, List.set_cons_zero, List.set_cons_succ]
            refine wpAnyH_take (i := 4) (v := ?_) (by simp only [List.getElem?_toArray, List.getElem?_cons_succ, List.getElem?_cons_zero]; exact rfl) (by kernel_rfl) (by kernel_rfl) (by kernel_rfl) (by exact fun _ _ _ h => h) (Or.inl ⟨by rfl, ?_⟩) hHeld ?_
            rotate_left
            · intro wq hSw; go_simp; all_goals (with_reducible rfl)
            try simp only [Act.put, List.setIfInBounds_toArray, List.set_cons_zero, List.set_cons_succ]
            refine wpAnyH_take (i := 5) (v := ?_) (by simp only [List.getElem?_toArray, List.getElem?_cons_succ, List.getElem?_cons_zero]; exact rfl) (by kernel_rfl) (by kernel_rfl) (by kernel_rfl) (by exact fun _ _ _ h => h) (Or.inl ⟨by rfl, ?_⟩) hHeld ?_
            rotate_left
            · intro wq hSw; have k1 := (hSw.cell (p := ⟨w1.heap.size, x, none⟩) hltX).trans hcx; go_simp; all_goals (with_reducible rfl)
            try simp only [Act.put, List.setIfInBounds_toArray, List.set_cons_zero, List.set_cons_succ]
            refine wpAnyH_take (i := 7) (v := ?_) (by simp only [List.getElem?_toArray, List.getElem?_cons_succ, List.getElem?_cons_zero]; exact rfl) (by kernel_rfl) (by kernel_rfl) (by kernel_rfl) (by exact fun _ _ _ h => h) (Or.inl ⟨by rfl, ?_⟩) hHeld ?_
            rotate_left
            · intro wq hSw; go_simp; all_goals (with_reducible rfl)
            try simp only [Act.put, List.setIfInBounds_toArray, List.set_cons_zero, List.set_cons_succ]
            refine wpAnyH_take (i := 10) (v := ?_) (by simp only [List.getElem?_toArray, List.getElem?_cons_succ, List.getElem?_cons_zero]; exact rfl) (by kernel_rfl) (by kernel_rfl) (by kernel_rfl) (by exact fun _ _ _ h => h) (Or.inl ⟨by rfl, ?_⟩) hHeld ?_
            rotate_left
            · intro wq hSw; go_simp; all_goals (with_reducible rfl)
            try simp only [Act.put, List.setIfInBounds_toArray, List.set_cons_zero, List.set_cons_succ]
            refine wpAnyH_take (i := 11) (v := ?_) (by simp only [List.getElem?_toArray, List.getElem?_cons_succ, List.getElem?_cons_zero]; exact rfl) (by kernel_rfl) (by kernel_rfl) (by kernel_rfl) (by exact fun _ _ _ h => h) (Or.inl ⟨by rfl, ?_⟩) hHeld ?_
            rotate_left
            · intro wq hSw; go_simp; all_goals (with_reducible rfl)
            try simp only [Act.put, List.setIfInBounds_toArray, List.set_cons_zero, List.set_cons_succ]
            refine wpAnyH_take (i := 12) (v := ?_) (by simp only [List.getElem?_toArray, List.getElem?_cons_succ, List.getElem?_cons_zero]; exact rfl) (by kernel_rfl) (by kernel_rfl) (by kernel_rfl) (by exact fun _ _ _ h => h) (Or.inl ⟨by rfl, ?_⟩) hHeld ?_
            rotate_left
            · intro wq hSw; go_simp; all_goals (with_reducible rfl)
            try simp only [Act.put, List.setIfInBounds_toArray, List.set_cons_zero, List.set_cons_succ]
            refine wpAnyH_take (i := 13) (v := ?_) (by simp only [List.getElem?_toArray, List.getElem?_cons_succ, List.getElem?_cons_zero]; exact rfl) (by kernel_rfl) (by kernel_rfl) (by kernel_rfl) (by exact fun _ _ _ h => h) (Or.inl ⟨by rfl, ?_⟩) hHeld ?_
            rotate_left
            · intro wq hSw; have k1 := (hSw.cell (p := ⟨w1.heap.size, y, none⟩) hltX).trans hcy; go_simp; all_goals (with_reducible rfl)
            try simp only [Act.put, List.setIfInBounds_toArray, List.set_cons_zero, List.set_cons_succ]
            refine wpAnyH_ready (rs := [1]) (by kernel_rfl) (by simp) ?_
            refine AllReadyH.cons (by simp only [List.getElem?_toArray, List.getElem?_cons_succ, List.getElem?_cons_zero]; exact rfl) (fun K hK => ?_) ?_
            · go_simp
              refine (digits_at _ p A _ rfl (by omega) HA.out).mono ?_
              rintro e w4 ⟨rfl, hB4⟩
              show K _ _
              refine hK.out _ _ (hHeld.trans (hB4.mono hHeld.size)) (fun hHeld => ?_)
              clear hK K hB4
              try simp only [Act.put, List.setIfInBounds_toArray, List.set_cons_zero, List.set_cons_succ]
              refine wpAnyH_take (i := 6) (v := ?_) (by simp only [List.getElem?_toArray, List.getElem?_cons_succ, List.getElem?_cons_zero]; exact rfl) (by kernel_rfl) (by kernel_rfl) (by kernel_rfl) (by exact fun _ _ _ h => h) (Or.inl ⟨by rfl, ?_⟩) hHeld ?_
              rotate_left
              · intro wq hSw; go_simp; all_goals (with_reducible rfl)
              try simp only [Act.put, List.setIfInBounds_toArray, List.set_cons_zero, List.set_cons_succ]
              refine wpAnyH_ready (rs := [8]) (by kernel_rfl) (by simp) ?_
              refine AllReadyH.cons (by simp only [List.getElem?_toArray, List.getElem?_cons_succ, List.getElem?_cons_zero]; exact rfl) (fun K hK => ?_) ?_
              · go_simp
                refine (digits_at _ q B _ rfl (by omega) HB.out).mono ?_
                rintro e w4 ⟨rfl, hB4⟩
                show K _ _
                refine hK.out _ _ (hHeld.trans (hB4.mono hHeld.size)) (fun hHeld => ?_)
                clear hK K hB4
                try simp only [Act.put, List.setIfInBounds_toArray, List.set_cons_zero, List.set_cons_succ]
                refine wpAnyH_take (i := 9) (v := ?_) (by simp only [List.getElem?_toArray, List.getElem?_cons_succ, List.getElem?_cons_zero]; exact rfl) (by kernel_rfl) (by kernel_rfl) (by kernel_rfl) (by exact fun _ _ _ h => h) (Or.inl ⟨by rfl, ?_⟩) hHeld ?_
                rotate_left
                · intro wq hSw; go_simp; all_goals (with_reducible rfl)
                try simp only [Act.put, List.setIfInBounds_toArray, List.set_cons_zero, List.set_cons_succ]
                refine wpAnyH_take (i := 14) (v := ?_) (by simp only [List.getElem?_toArray, List.getElem?_cons_succ, List.getElem?_cons_zero]; exact rfl) (by kernel_rfl) (by kernel_rfl) (by kernel_rfl) (by exact fun _ _ _ h => h) (Or.inl ⟨by rfl, ?_⟩) hHeld ?_
                rotate_left
                · intro wq hSw; go_simp; all_goals (with_reducible rfl)
                try simp only [Act.put, List.setIfInBounds_toArray, List.set_cons_zero, List.set_cons_succ]
                refine wpAnyH_ready (rs := [15]) (by kernel_rfl) (by simp) ?_
                refine AllReadyH.cons (by simp only [List.getElem?_toArray, List.getElem?_cons_succ, List.getElem?_cons_zero]; exact rfl) (fun K hK => ?_) ?_
                · go_simp
                  refine (parse_is (A ++ letS x ++ B ++ letS y) Z3.out _ (HG.out.below (hbX.trans (hHeld.mono hbX.size))) _ _ P3.out).mono ?_
                  rintro e w4 ⟨rfl, hB4⟩
                  show K _ _
                  refine hK.out _ _ (hHeld.trans (hB4.mono hHeld.size)) (fun hHeld => ?_)
                  clear hK K hB4
                  try simp only [Act.put, List.setIfInBounds_toArray, List.set_cons_zero, List.set_cons_succ]
                  refine wpAnyH_take (i := 16) (v := ?_) (by simp only [List.getElem?_toArray, List.getElem?_cons_succ, List.getElem?_cons_zero]; exact rfl) (by kernel_rfl) (by kernel_rfl) (by kernel_rfl) (by exact fun _ _ _ h => h) (Or.inl ⟨by rfl, ?_⟩) hHeld ?_
                  rotate_left
                  · intro wq hSw; go_simp; all_goals (with_reducible rfl)
                  try simp only [Act.put, List.setIfInBounds_toArray, List.set_cons_zero, List.set_cons_succ]
                  refine wpAnyH_take (i := 17) (v := ?_) (by simp only [List.getElem?_toArray, List.getElem?_cons_succ, List.getElem?_cons_zero]; exact rfl) (by kernel_rfl) (by kernel_rfl) (by kernel_rfl) (by exact fun _ _ _ h => h) (Or.inl ⟨by rfl, ?_⟩) hHeld ?_
                  rotate_left
                  · intro wq hSw; go_simp; all_goals (with_reducible rfl)
                  try simp only [Act.put, List.setIfInBounds_toArray, List.set_cons_zero, List.set_cons_succ]
                  refine wpAnyH_take (i := 18) (v := ?_) (by simp only [List.getElem?_toArray, List.getElem?_cons_succ, List.getElem?_cons_zero]; exact rfl) (by kernel_rfl) (by kernel_rfl) (by kernel_rfl) (by exact fun _ _ _ h => h) (Or.inl ⟨by rfl, ?_⟩) hHeld ?_
                  rotate_left
                  · intro wq hSw; go_simp; all_goals (with_reducible rfl)
                  try simp only [Act.put, List.setIfInBounds_toArray, List.set_cons_zero, List.set_cons_succ]
                  refine wpAnyH_take (i := 19) (v := ?_) (by simp only [List.getElem?_toArray, List.getElem?_cons_succ, List.getElem?_cons_zero]; exact rfl) (by kernel_rfl) (by kernel_rfl) (by kernel_rfl) (by exact fun _ _ _ h => h) (Or.inl ⟨by rfl, ?_⟩) hHeld ?_
                  rotate_left
                  · intro wq hSw; go_simp; all_goals (with_reducible rfl)
                  try simp only [Act.put, List.setIfInBounds_toArray, List.set_cons_zero, List.set_cons_succ]
                  refine wpAnyH_take (i := 20) (v := ?_) (by simp only [List.getElem?_toArray, List.getElem?_cons_succ, List.getElem?_cons_zero]; exact rfl) (by kernel_rfl) (by kernel_rfl) (by kernel_rfl) (by exact fun _ _ _ h => h) (Or.inl ⟨by rfl, ?_⟩) hHeld ?_
                  rotate_left
                  · intro wq hSw; go_simp; all_goals (with_reducible rfl)
                  try simp only [Act.put, List.setIfInBounds_toArray, List.set_cons_zero, List.set_cons_succ]
                  refine wpAnyH_done (by kernel_rfl) ?_ _
                  clear hHeld0
                  rcases hcase with ⟨hc1, hR1⟩ | ⟨hc1, hR1⟩
                  · obtain ⟨rfl, rfl⟩ := hR1
                    have hcn : y ≤ x := of_decide_eq_true hc1
                    have hci : decide ((y : Int) ≤ (x : Int)) = true := by simp; omega
                    go_wp2
                    go_ret
                    exact ⟨rfl, hbX.trans (hHeld.mono hbX.size)⟩
                  · obtain ⟨rfl, rfl⟩ := hR1
                    have hcn : ¬ y ≤ x := of_decide_eq_false hc1
                    have hci : decide ((y : Int) ≤ (x : Int)) = false := by simp; omega
                    go_wp2
                    go_ret
                    exact ⟨rfl, hbX.trans (hHeld.mono hbX.size)⟩
                · exact AllReadyH.nil
              · exact AllReadyH.nil
            · exact AllReadyH.nil
          · exact AllReadyH.nil
        · exact AllReadyH.nil
      · exact AllReadyH.nil
    · exact AllReadyH.nil
  · go_enter Tryd.func8, Tryd.ntmps8
    go_wp2_with fail
    refine (awake_any w HG.out).mono ?_
    rintro e w1 ⟨rfl, hb1⟩
    have hbX := hb1.alloc hb1.size (.cells nameCells 9)
    unfold nameCells at hbX
    have HBX := Lib.hid hbX
    clear hbX
    rcases (show a < 0 ∨ (0 ≤ a ∧ b < 0) ∨ (0 ≤ a ∧ 0 ≤ b ∧ 100000 < a) ∨ (0 ≤ a ∧ 0 ≤ b ∧ a ≤ 100000 ∧ 100000 < b) by omega) with h | ⟨h1, h⟩ | ⟨h1, h2, h⟩ | ⟨h1, h2, h3, h⟩
    · have d1 : decide (a < 0) = true := by simp; omega
      clear hr h
      go_wp2_with fail
      go_ret
      exact ⟨rfl, HBX.out⟩
    · have d1 : decide (a < 0) = false := by simp; omega
      have d2 : decide (b < 0) = true := by simp; omega
      clear hr h h1
      go_wp2_with fail
      go_ret
      exact ⟨rfl, HBX.out⟩
    · have d1 : decide (a < 0) = false := by simp; omega
      have d2 : decide (b < 0) = false := by simp; omega
      have d3 : decide (100000 < a) = true := by simp; omega
      clear hr h h1 h2
      go_wp2_with fail
      go_ret
      exact ⟨rfl, HBX.out⟩
    · have d1 : decide (a < 0) = false := by simp; omega
      have d2 : decide (b < 0) = false := by simp; omega
      have d3 : decide (100000 < a) = false := by simp; omega
      have d4 : decide (100000 < b) = true := by simp; omega
      clear hr h h1 h2 h3
      go_wp2_with fail
      go_ret
      exact ⟨rfl, HBX.out⟩
end Go.Proofs.YtanacoollaajkaaDoor
