/- The walk of the law SeriesLast. -/
import Derived.Test.YtjoaafekhleocaaSerO
import Derived.Test.YtjoaafekhleocaaSerPlain7
import Derived.Deep.RegionWith
namespace Go.Proofs.Ytjoaafekhleocaa
open Go.RowKit

set_option linter.unusedSimpArgs false
set_option linter.unusedVariables false

theorem smp_eql_same (w : World) (a b : Int) : (binOp .eql 24 (.agg #[.int .i64 a, .int .i64 b]) (.agg #[.int .i64 a, .int .i64 b])).run Try.prog w = .ok (.bool true) w := by
  rw [smp_eql]; simp
attribute [local go_sem ↓] smp_eql_same smp_guard

/-- what the last statement reads -/
def LsI (w : World) (g8 g11 : Nat) (T V : Int) (W : World) : Prop := (Mem.Blk W g8 24 #[.int .i64 T, .int .i64 V] ∧ Mem.Blk W g11 24 #[.int .i64 T, .int .i64 V]) ∧ Below w.heap.size w W
theorem LsI.alloc {w W : World} {g8 g11 : Nat} {T V : Int} (h : LsI w g8 g11 T V W) (o : Obj) : LsI w g8 g11 T V (W.alloc o) := ⟨⟨h.1.1.alloc _, h.1.2.alloc _⟩, h.2.alloc h.2.size _⟩
theorem LsI.drew {w W : World} {g8 g11 : Nat} {T V : Int} (h : LsI w g8 g11 T V W) : LsI w g8 g11 T V W.drew := ⟨h.1, h.2.drew⟩
theorem LsI.later {w W W' : World} {g8 g11 : Nat} {T V : Int} (h : LsI w g8 g11 T V W) (hb : Below W.heap.size W W') : LsI w g8 g11 T V W' := ⟨⟨h.1.1.below hb h.1.1.lt, h.1.2.below hb h.1.2.lt⟩, h.2.trans (hb.mono h.2.size)⟩
theorem LsI.cells {w W : World} {g8 g11 : Nat} {T V : Int} (h : LsI w g8 g11 T V W) : W.cell? ⟨g8, 0, none⟩ = some (.int .i64 T) ∧ W.cell? ⟨g8, 1, none⟩ = some (.int .i64 V) ∧ W.cell? ⟨g11, 0, none⟩ = some (.int .i64 T) ∧ W.cell? ⟨g11, 1, none⟩ = some (.int .i64 V) :=
  ⟨by simpa using h.1.1.cell 0, by simpa using h.1.1.cell 1, by simpa using h.1.2.cell 0, by simpa using h.1.2.cell 1⟩

set_option maxRecDepth 100000 in
set_option maxHeartbeats 4000000 in
theorem seriesLast_any (A : Option Addr) (m c : Nat) (xs : List (Int × Int)) (t window : Int) (w : World) (ht : t ≤ 9223372036854775807) (h : Smp w w.heap.size A m c xs) :
    Calls Try.prog 6 #[.slice A m c, .int .i64 t, .int .i64 window] w (LawR w) := by
  have HH := Lib.hid h
  clear h
  go_enter Try.func6, Try.ntmps6
  go_wp2_with fail
  refine (awake_any _).mono ?_
  rintro e w1 ⟨rfl, hBw1⟩
  by_cases h200 : 200 < m
  · go_wp2
    go_ret
    exact ⟨rfl, hBw1⟩
  · have h200' : ¬ (200 : Int) < (m : Int) := by omega
    go_wp2_with fail
    refine (sane_any A m c xs _ (HH.out.later hBw1)).mono ?_
    rintro e w2 ⟨rfl, hB2⟩
    have hBw2 := hBw1.trans (hB2.mono hBw1.size)
    rcases hs : Ser.sane xs with _ | _
    · go_wp2
      go_ret
      exact ⟨rfl, hBw2⟩
    · by_cases ht0 : t < 0
      · go_wp2
        go_ret
        exact ⟨rfl, hBw2⟩
      · have HSA := Lib.hid hs
        clear hB2
        go_wp2_with fail
        clear hs
        refine (at_any A m c xs t window _ ht (HH.out.later hBw2)).mono ?_
        rintro e w3 ⟨rfl, hB3⟩
        have hBw3 := hBw2.trans (hB3.mono hBw2.size)
        go_wp2_with fail
        have b8 := Mem.Blk.new w3 24 #[.int .i64 (Ser.atP xs t window).1.1, .int .i64 (Ser.atP xs t window).1.2]
        have hBw3' := hBw3.alloc hBw3.size (.cells #[.int .i64 (Ser.atP xs t window).1.1, .int .i64 (Ser.atP xs t window).1.2] 24)
        refine (between_any A m c xs 0 t _ (HH.out.later hBw3')).mono ?_
        rintro e w4 ⟨v, rfl, hown4, hB4⟩
        have hBw4 := hBw3'.trans (hB4.mono hBw3'.size)
        obtain ⟨A4, c4, rfl, hS4⟩ := Smp.of_own hown4
        have b8 := b8.below hB4 b8.lt
        have HAB := Lib.hid (Ser.atP_between (xs := xs) t window)
        have hbl := Ser.between_length xs 0 t
        clear hown4 hB4 hB3
        rcases Nat.eq_zero_or_pos (Ser.between xs 0 t).length with hn | hn
        · have hnil : Ser.between xs 0 t = [] := List.eq_nil_of_length_eq_zero hn
          have q2 : Ser.atP xs t window = ((0, 0), false) := by rw [HAB.out, hnil]; rfl
          have d1 := b8.cell 0
          have d2 := b8.cell 1
          simp at d1 d2
          rw [q2] at d1 d2 ⊢
          have hn' : (((Ser.between xs 0 t).length : Int) == 0) = true := by simp; omega
          clear hnil q2 hn hS4
          go_wp2
          go_ret
          exact ⟨rfl, hBw4⟩
        · have hlast := Ser.last_of hn
          have hbt := Ser.between_last hn
          have hc4 := hS4.2.1
          have hc4' := hS4.2.2.1
          obtain ⟨b, off, hA, hbB, hcell⟩ := hS4.at_ (k := 0) hn
          subst hA
          obtain ⟨d1, d2⟩ := hcell ((Ser.between xs 0 t).length - 1) (by omega)
          have hb0 : 0 ≤ Ser.tAt (Ser.between xs 0 t) ((Ser.between xs 0 t).length - 1) ∧ Ser.tAt (Ser.between xs 0 t) ((Ser.between xs 0 t).length - 1) ≤ t := by
            have hm := (List.mem_filter.1 (Ser.tAt_mem (xs := Ser.between xs 0 t) (i := (Ser.between xs 0 t).length - 1) (by omega))).2
            unfold Ser.tAt
            simpa [Ser.inside] using hm
          have q2 : Ser.atP xs t window = if t - Ser.tAt (Ser.between xs 0 t) ((Ser.between xs 0 t).length - 1) < window then ((Ser.tAt (Ser.between xs 0 t) ((Ser.between xs 0 t).length - 1), Ser.vAt (Ser.between xs 0 t) ((Ser.between xs 0 t).length - 1)), true) else ((0, 0), false) := by rw [HAB.out, hlast]
          generalize hT : Ser.tAt (Ser.between xs 0 t) ((Ser.between xs 0 t).length - 1) = T at d1 d2 hb0 q2 hbt
          generalize hV : Ser.vAt (Ser.between xs 0 t) ((Ser.between xs 0 t).length - 1) = V at d1 d2 q2 hbt
          generalize hN : (Ser.between xs 0 t).length = N at *
          have hb1 := hb0.1
          have hb2 := hb0.2
          have HQ := Lib.hid q2
          have HBT := Lib.hid hbt
          have hn0 : ((N : Int) == 0) = false := by simp; omega
          have i0 : (0 : Int) ≤ (N : Int) - 1 := by omega
          have i1 : (N : Int) - 1 < (N : Int) := by omega
          have s1 : IntKind.i64.wrap ((N : Int) - 1) = (N : Int) - 1 := IntWalk.i64_in _ (by omega)
          have s2 : ((N : Int) - 1).toNat = N - 1 := by omega
          clear hT hV hN q2 hbt hb0 hlast hcell hS4
          by_cases hw : t - T < window
          · have q3 : Ser.atP xs t window = ((T, V), true) := by rw [HQ.out, if_pos hw]
            rw [q3] at b8 ⊢
            have hse : decide (Ser.between xs T t = [(T, V)]) = true := by rw [HBT.out]; simp
            have HSE := Lib.hid hse
            have hwd : decide (t - T < window) = true := by simp; omega
            have hI : LsI w w3.heap.size w4.heap.size T V (w4.alloc (.cells #[.int .i64 T, .int .i64 V] 24)) := ⟨⟨b8.alloc _, Mem.Blk.new w4 _ _⟩, hBw4.alloc hBw4.size _⟩
            clear q3 hse b8
            go_wp2
            obtain ⟨W, hW⟩ : ∃ W, w4.alloc (.cells #[.int .i64 T, .int .i64 V] 24) = W := ⟨_, rfl⟩
            rw [hW] at hI ⊢
            clear hW
            obtain ⟨k1, k2, k3, k4⟩ := hI.cells
            have HI := Lib.hid hI
            generalize hg8 : w3.heap.size = g8 at *
            generalize hg11 : w4.heap.size = g11 at *
            clear hI hg8 hg11 d1 d2
            refine wp_region_held_drew (S := LsI w g8 g11 T V) (by kernel_rfl) HI.out.drew (fun hHeld => ?_)
            refine wpAnyH_take (i := 0) (v := ?_) (by simp only [List.getElem?_toArray, List.getElem?_cons_succ, List.getElem?_cons_zero]; exact rfl) (by kernel_rfl) (by kernel_rfl) (by kernel_rfl) (by exact fun _ _ _ h => h) (Or.inl ⟨by rfl, ?_⟩) hHeld ?_
            rotate_left
            · intro wq hSw; obtain ⟨k1, k2, k3, k4⟩ := LsI.cells hSw; go_simp; all_goals (with_reducible rfl)
            try simp only [Act.put, List.setIfInBounds_toArray, List.set_cons_zero, List.set_cons_succ]
            refine wpAnyH_take (i := 1) (v := ?_) (by simp only [List.getElem?_toArray, List.getElem?_cons_succ, List.getElem?_cons_zero]; exact rfl) (by kernel_rfl) (by kernel_rfl) (by kernel_rfl) (by exact fun _ _ _ h => h) (Or.inl ⟨by rfl, ?_⟩) hHeld ?_
            rotate_left
            · intro wq hSw; obtain ⟨k1, k2, k3, k4⟩ := LsI.cells hSw; go_simp; all_goals (with_reducible rfl)
            try simp only [Act.put, List.setIfInBounds_toArray, List.set_cons_zero, List.set_cons_succ]
            refine wpAnyH_take (i := 2) (v := ?_) (by simp only [List.getElem?_toArray, List.getElem?_cons_succ, List.getElem?_cons_zero]; exact rfl) (by kernel_rfl) (by kernel_rfl) (by kernel_rfl) (by exact fun _ _ _ h => h) (Or.inl ⟨by rfl, ?_⟩) hHeld ?_
            rotate_left
            · intro wq hSw; obtain ⟨k1, k2, k3, k4⟩ := LsI.cells hSw; go_simp; all_goals (with_reducible rfl)
            try simp only [Act.put, List.setIfInBounds_toArray, List.set_cons_zero, List.set_cons_succ]
            refine wpAnyH_take (i := 3) (v := ?_) (by simp only [List.getElem?_toArray, List.getElem?_cons_succ, List.getElem?_cons_zero]; exact rfl) (by kernel_rfl) (by kernel_rfl) (by kernel_rfl) (by exact fun _ _ _ h => h) (Or.inl ⟨by rfl, ?_⟩) hHeld ?_
            rotate_left
            · intro wq hSw; obtain ⟨k1, k2, k3, k4⟩ := LsI.cells hSw; go_simp; all_goals (with_reducible rfl)
            try simp only [Act.put, List.setIfInBounds_toArray, List.set_cons_zero, List.set_cons_succ]
            refine wpAnyH_take (i := 4) (v := ?_) (by simp only [List.getElem?_toArray, List.getElem?_cons_succ, List.getElem?_cons_zero]; exact rfl) (by kernel_rfl) (by kernel_rfl) (by kernel_rfl) (by exact fun _ _ _ h => h) (Or.inl ⟨by rfl, ?_⟩) hHeld ?_
            rotate_left
            · intro wq hSw; obtain ⟨k1, k2, k3, k4⟩ := LsI.cells hSw; go_simp; all_goals (with_reducible rfl)
            try simp only [Act.put, List.setIfInBounds_toArray, List.set_cons_zero, List.set_cons_succ]
            refine wpAnyH_take (i := 5) (v := ?_) (by simp only [List.getElem?_toArray, List.getElem?_cons_succ, List.getElem?_cons_zero]; exact rfl) (by kernel_rfl) (by kernel_rfl) (by kernel_rfl) (by exact fun _ _ _ h => h) (Or.inl ⟨by rfl, ?_⟩) hHeld ?_
            rotate_left
            · intro wq hSw; obtain ⟨k1, k2, k3, k4⟩ := LsI.cells hSw; go_simp; all_goals (with_reducible rfl)
            try simp only [Act.put, List.setIfInBounds_toArray, List.set_cons_zero, List.set_cons_succ]
            refine wpAnyH_take (i := 6) (v := ?_) (by simp only [List.getElem?_toArray, List.getElem?_cons_succ, List.getElem?_cons_zero]; exact rfl) (by kernel_rfl) (by kernel_rfl) (by kernel_rfl) (by exact fun _ _ _ h => h) (Or.inl ⟨by rfl, ?_⟩) hHeld ?_
            rotate_left
            · intro wq hSw; obtain ⟨k1, k2, k3, k4⟩ := LsI.cells hSw; go_simp; all_goals (with_reducible rfl)
            try simp only [Act.put, List.setIfInBounds_toArray, List.set_cons_zero, List.set_cons_succ]
            refine wpAnyH_take (i := 7) (v := ?_) (by simp only [List.getElem?_toArray, List.getElem?_cons_succ, List.getElem?_cons_zero]; exact rfl) (by kernel_rfl) (by kernel_rfl) (by kernel_rfl) (by exact fun _ _ _ h => h) (Or.inl ⟨by rfl, ?_⟩) hHeld ?_
            rotate_left
            · intro wq hSw; obtain ⟨k1, k2, k3, k4⟩ := LsI.cells hSw; go_simp; all_goals (with_reducible rfl)
            try simp only [Act.put, List.setIfInBounds_toArray, List.set_cons_zero, List.set_cons_succ]
            refine wpAnyH_take (i := 8) (v := ?_) (by simp only [List.getElem?_toArray, List.getElem?_cons_succ, List.getElem?_cons_zero]; exact rfl) (by kernel_rfl) (by kernel_rfl) (by kernel_rfl) (by exact fun _ _ _ h => h) (Or.inl ⟨by rfl, ?_⟩) hHeld ?_
            rotate_left
            · intro wq hSw; obtain ⟨k1, k2, k3, k4⟩ := LsI.cells hSw; go_simp; all_goals (with_reducible rfl)
            try simp only [Act.put, List.setIfInBounds_toArray, List.set_cons_zero, List.set_cons_succ]
            refine wpAnyH_take (i := 9) (v := ?_) (by simp only [List.getElem?_toArray, List.getElem?_cons_succ, List.getElem?_cons_zero]; exact rfl) (by kernel_rfl) (by kernel_rfl) (by kernel_rfl) (by exact fun _ _ _ h => h) (Or.inl ⟨by rfl, ?_⟩) hHeld ?_
            rotate_left
            · intro wq hSw; obtain ⟨k1, k2, k3, k4⟩ := LsI.cells hSw; go_simp; all_goals (with_reducible rfl)
            try simp only [Act.put, List.setIfInBounds_toArray, List.set_cons_zero, List.set_cons_succ]
            refine wpAnyH_take (i := 10) (v := ?_) (by simp only [List.getElem?_toArray, List.getElem?_cons_succ, List.getElem?_cons_zero]; exact rfl) (by kernel_rfl) (by kernel_rfl) (by kernel_rfl) (by exact fun _ _ _ h => h) (Or.inl ⟨by rfl, ?_⟩) hHeld ?_
            rotate_left
            · intro wq hSw; obtain ⟨k1, k2, k3, k4⟩ := LsI.cells hSw; go_simp; all_goals (with_reducible rfl)
            try simp only [Act.put, List.setIfInBounds_toArray, List.set_cons_zero, List.set_cons_succ]
            refine wpAnyH_take (i := 11) (v := ?_) (by simp only [List.getElem?_toArray, List.getElem?_cons_succ, List.getElem?_cons_zero]; exact rfl) (by kernel_rfl) (by kernel_rfl) (by kernel_rfl) (by exact fun _ _ _ h => h) (Or.inl ⟨by rfl, ?_⟩) hHeld ?_
            rotate_left
            · intro wq hSw; obtain ⟨k1, k2, k3, k4⟩ := LsI.cells hSw; go_simp; all_goals (with_reducible rfl)
            try simp only [Act.put, List.setIfInBounds_toArray, List.set_cons_zero, List.set_cons_succ]
            refine wpAnyH_take (i := 12) (v := ?_) (by simp only [List.getElem?_toArray, List.getElem?_cons_succ, List.getElem?_cons_zero]; exact rfl) (by kernel_rfl) (by kernel_rfl) (by kernel_rfl) (by exact fun _ _ _ h => h) (Or.inl ⟨by rfl, ?_⟩) hHeld ?_
            rotate_left
            · intro wq hSw; obtain ⟨k1, k2, k3, k4⟩ := LsI.cells hSw; go_simp; all_goals (with_reducible rfl)
            try simp only [Act.put, List.setIfInBounds_toArray, List.set_cons_zero, List.set_cons_succ]
            refine wpAnyH_take (i := 13) (v := ?_) (by simp only [List.getElem?_toArray, List.getElem?_cons_succ, List.getElem?_cons_zero]; exact rfl) (by kernel_rfl) (by kernel_rfl) (by kernel_rfl) (by exact fun _ _ _ h => h) (Or.inl ⟨by rfl, ?_⟩) hHeld ?_
            rotate_left
            · intro wq hSw; obtain ⟨k1, k2, k3, k4⟩ := LsI.cells hSw; go_simp; all_goals (with_reducible rfl)
            try simp only [Act.put, List.setIfInBounds_toArray, List.set_cons_zero, List.set_cons_succ]
            refine wpAnyH_take (i := 14) (v := undef) (by simp only [List.getElem?_toArray, List.getElem?_cons_succ, List.getElem?_cons_zero]; exact rfl) (by kernel_rfl) (by kernel_rfl) (by kernel_rfl) (by exact fun _ _ _ h => h) (Or.inr ⟨by rfl, rfl⟩) hHeld ?_
            try simp only [Act.put, List.setIfInBounds_toArray, List.set_cons_zero, List.set_cons_succ]
            refine wpAnyH_take (i := 15) (v := undef) (by simp only [List.getElem?_toArray, List.getElem?_cons_succ, List.getElem?_cons_zero]; exact rfl) (by kernel_rfl) (by kernel_rfl) (by kernel_rfl) (by exact fun _ _ _ h => h) (Or.inr ⟨by rfl, rfl⟩) hHeld ?_
            try simp only [Act.put, List.setIfInBounds_toArray, List.set_cons_zero, List.set_cons_succ]
            refine wpAnyH_take (i := 16) (v := undef) (by simp only [List.getElem?_toArray, List.getElem?_cons_succ, List.getElem?_cons_zero]; exact rfl) (by kernel_rfl) (by kernel_rfl) (by kernel_rfl) (by exact fun _ _ _ h => h) (Or.inr ⟨by rfl, rfl⟩) hHeld ?_
            try simp only [Act.put, List.setIfInBounds_toArray, List.set_cons_zero, List.set_cons_succ]
            refine wpAnyH_take (i := 17) (v := undef) (by simp only [List.getElem?_toArray, List.getElem?_cons_succ, List.getElem?_cons_zero]; exact rfl) (by kernel_rfl) (by kernel_rfl) (by kernel_rfl) (by exact fun _ _ _ h => h) (Or.inr ⟨by rfl, rfl⟩) hHeld ?_
            try simp only [Act.put, List.setIfInBounds_toArray, List.set_cons_zero, List.set_cons_succ]
            refine wpAnyH_take (i := 18) (v := undef) (by simp only [List.getElem?_toArray, List.getElem?_cons_succ, List.getElem?_cons_zero]; exact rfl) (by kernel_rfl) (by kernel_rfl) (by kernel_rfl) (by exact fun _ _ _ h => h) (Or.inr ⟨by rfl, rfl⟩) hHeld ?_
            try simp only [Act.put, List.setIfInBounds_toArray, List.set_cons_zero, List.set_cons_succ]
            refine wpAnyH_take (i := 19) (v := undef) (by simp only [List.getElem?_toArray, List.getElem?_cons_succ, List.getElem?_cons_zero]; exact rfl) (by kernel_rfl) (by kernel_rfl) (by kernel_rfl) (by exact fun _ _ _ h => h) (Or.inr ⟨by rfl, rfl⟩) hHeld ?_
            try simp only [Act.put, List.setIfInBounds_toArray, List.set_cons_zero, List.set_cons_succ]
            refine wpAnyH_take (i := 20) (v := undef) (by simp only [List.getElem?_toArray, List.getElem?_cons_succ, List.getElem?_cons_zero]; exact rfl) (by kernel_rfl) (by kernel_rfl) (by kernel_rfl) (by exact fun _ _ _ h => h) (Or.inr ⟨by rfl, rfl⟩) hHeld ?_
            try simp only [Act.put, List.setIfInBounds_toArray, List.set_cons_zero, List.set_cons_succ]
            refine wpAnyH_take (i := 21) (v := ?_) (by simp only [List.getElem?_toArray, List.getElem?_cons_succ, List.getElem?_cons_zero]; exact rfl) (by kernel_rfl) (by kernel_rfl) (by kernel_rfl) (by exact fun _ _ _ h => h) (Or.inl ⟨by rfl, ?_⟩) hHeld ?_
            rotate_left
            · intro wq hSw; obtain ⟨k1, k2, k3, k4⟩ := LsI.cells hSw; go_simp; all_goals (with_reducible rfl)
            try simp only [Act.put, List.setIfInBounds_toArray, List.set_cons_zero, List.set_cons_succ]
            refine wpAnyH_take (i := 22) (v := ?_) (by simp only [List.getElem?_toArray, List.getElem?_cons_succ, List.getElem?_cons_zero]; exact rfl) (by kernel_rfl) (by kernel_rfl) (by kernel_rfl) (by exact fun _ _ _ h => h) (Or.inl ⟨by rfl, ?_⟩) hHeld ?_
            rotate_left
            · intro wq hSw; obtain ⟨k1, k2, k3, k4⟩ := LsI.cells hSw; go_simp; all_goals (with_reducible rfl)
            try simp only [Act.put, List.setIfInBounds_toArray, List.set_cons_zero, List.set_cons_succ]
            refine wpAnyH_take (i := 23) (v := ?_) (by simp only [List.getElem?_toArray, List.getElem?_cons_succ, List.getElem?_cons_zero]; exact rfl) (by kernel_rfl) (by kernel_rfl) (by kernel_rfl) (by exact fun _ _ _ h => h) (Or.inl ⟨by rfl, ?_⟩) hHeld ?_
            rotate_left
            · intro wq hSw; obtain ⟨k1, k2, k3, k4⟩ := LsI.cells hSw; go_simp; all_goals (with_reducible rfl)
            try simp only [Act.put, List.setIfInBounds_toArray, List.set_cons_zero, List.set_cons_succ]
            refine wpAnyH_take (i := 24) (v := ?_) (by simp only [List.getElem?_toArray, List.getElem?_cons_succ, List.getElem?_cons_zero]; exact rfl) (by kernel_rfl) (by kernel_rfl) (by kernel_rfl) (by exact fun _ _ _ h => h) (Or.inl ⟨by rfl, ?_⟩) hHeld ?_
            rotate_left
            · intro wq hSw; obtain ⟨k1, k2, k3, k4⟩ := LsI.cells hSw; go_simp; all_goals (with_reducible rfl)
            try simp only [Act.put, List.setIfInBounds_toArray, List.set_cons_zero, List.set_cons_succ]
            refine wpAnyH_take (i := 25) (v := ?_) (by simp only [List.getElem?_toArray, List.getElem?_cons_succ, List.getElem?_cons_zero]; exact rfl) (by kernel_rfl) (by kernel_rfl) (by kernel_rfl) (by exact fun _ _ _ h => h) (Or.inl ⟨by rfl, ?_⟩) hHeld ?_
            rotate_left
            · intro wq hSw; obtain ⟨k1, k2, k3, k4⟩ := LsI.cells hSw; go_simp; all_goals (with_reducible rfl)
            try simp only [Act.put, List.setIfInBounds_toArray, List.set_cons_zero, List.set_cons_succ]
            refine wpAnyH_take (i := 26) (v := ?_) (by simp only [List.getElem?_toArray, List.getElem?_cons_succ, List.getElem?_cons_zero]; exact rfl) (by kernel_rfl) (by kernel_rfl) (by kernel_rfl) (by exact fun _ _ _ h => h) (Or.inl ⟨by rfl, ?_⟩) hHeld ?_
            rotate_left
            · intro wq hSw; obtain ⟨k1, k2, k3, k4⟩ := LsI.cells hSw; go_simp; all_goals (with_reducible rfl)
            try simp only [Act.put, List.setIfInBounds_toArray, List.set_cons_zero, List.set_cons_succ]
            refine wpAnyH_take (i := 27) (v := ?_) (by simp only [List.getElem?_toArray, List.getElem?_cons_succ, List.getElem?_cons_zero]; exact rfl) (by kernel_rfl) (by kernel_rfl) (by kernel_rfl) (by exact fun _ _ _ h => h) (Or.inl ⟨by rfl, ?_⟩) hHeld ?_
            rotate_left
            · intro wq hSw; obtain ⟨k1, k2, k3, k4⟩ := LsI.cells hSw; go_simp; all_goals (with_reducible rfl)
            try simp only [Act.put, List.setIfInBounds_toArray, List.set_cons_zero, List.set_cons_succ]
            refine wpAnyH_take (i := 28) (v := ?_) (by simp only [List.getElem?_toArray, List.getElem?_cons_succ, List.getElem?_cons_zero]; exact rfl) (by kernel_rfl) (by kernel_rfl) (by kernel_rfl) (by exact fun _ _ _ h => h) (Or.inl ⟨by rfl, ?_⟩) hHeld ?_
            rotate_left
            · intro wq hSw; obtain ⟨k1, k2, k3, k4⟩ := LsI.cells hSw; go_simp; all_goals (with_reducible rfl)
            try simp only [Act.put, List.setIfInBounds_toArray, List.set_cons_zero, List.set_cons_succ]
            refine wpAnyH_take (i := 29) (v := ?_) (by simp only [List.getElem?_toArray, List.getElem?_cons_succ, List.getElem?_cons_zero]; exact rfl) (by kernel_rfl) (by kernel_rfl) (by kernel_rfl) (by exact fun _ _ _ h => h) (Or.inl ⟨by rfl, ?_⟩) hHeld ?_
            rotate_left
            · intro wq hSw; obtain ⟨k1, k2, k3, k4⟩ := LsI.cells hSw; go_simp; all_goals (with_reducible rfl)
            try simp only [Act.put, List.setIfInBounds_toArray, List.set_cons_zero, List.set_cons_succ]
            refine wpAnyH_take (i := 30) (v := ?_) (by simp only [List.getElem?_toArray, List.getElem?_cons_succ, List.getElem?_cons_zero]; exact rfl) (by kernel_rfl) (by kernel_rfl) (by kernel_rfl) (by exact fun _ _ _ h => h) (Or.inl ⟨by rfl, ?_⟩) hHeld ?_
            rotate_left
            · intro wq hSw; obtain ⟨k1, k2, k3, k4⟩ := LsI.cells hSw; go_simp; all_goals (with_reducible rfl)
            try simp only [Act.put, List.setIfInBounds_toArray, List.set_cons_zero, List.set_cons_succ]
            refine wpAnyH_take (i := 32) (v := ?_) (by simp only [List.getElem?_toArray, List.getElem?_cons_succ, List.getElem?_cons_zero]; exact rfl) (by kernel_rfl) (by kernel_rfl) (by kernel_rfl) (by exact fun _ _ _ h => h) (Or.inl ⟨by rfl, ?_⟩) hHeld ?_
            rotate_left
            · intro wq hSw; obtain ⟨k1, k2, k3, k4⟩ := LsI.cells hSw; go_simp; all_goals (with_reducible rfl)
            try simp only [Act.put, List.setIfInBounds_toArray, List.set_cons_zero, List.set_cons_succ]
            refine wpAnyH_ready (rs := [31, 33]) (by kernel_rfl) (by simp) ?_
            refine AllReadyH.cons (by simp only [List.getElem?_toArray, List.getElem?_cons_succ, List.getElem?_cons_zero]; exact rfl) (fun K hK => ?_) ?_
            · go_simp
              refine (between_any A m c xs T t _ (HH.out.later hHeld.2)).mono ?_
              rintro e w5 ⟨v5, rfl, hown5, hb5⟩
              obtain ⟨A5, c5, rfl, hS5⟩ := Smp.of_own hown5
              try go_wp2_with fail
              refine hK.out _ _ (hHeld.later hb5) (fun hHeld => ?_)
              clear hK K
              try simp only [Act.put, List.setIfInBounds_toArray, List.set_cons_zero, List.set_cons_succ]
              refine wpAnyH_ready (rs := [33]) (by kernel_rfl) (by simp) ?_
              refine AllReadyH.cons (by simp only [List.getElem?_toArray, List.getElem?_cons_succ, List.getElem?_cons_zero]; exact rfl) (fun K hK => ?_) ?_
              · go_simp
                refine hK.out _ _ (hHeld.alloc _) (fun hHeld => ?_)
                clear hK K
                try simp only [Act.put, List.setIfInBounds_toArray, List.set_cons_zero, List.set_cons_succ]
                refine wpAnyH_ready (rs := [34]) (by kernel_rfl) (by simp) ?_
                refine AllReadyH.cons (by simp only [List.getElem?_toArray, List.getElem?_cons_succ, List.getElem?_cons_zero]; exact rfl) (fun K hK => ?_) ?_
                · go_simp
                  refine (same_any A5 _ _ c5 1 1 _ [(T, V)] _ ((hS5.alloc (Nat.le_refl _) _).more (by simp)) (Smp.of_blk (Mem.Blk.new w5 _ _) (by simp))).mono ?_
                  rintro e w6 ⟨rfl, hb6⟩
                  rw [HSE.out]
                  try go_wp2_with fail
                  refine hK.out _ _ (hHeld.later hb6) (fun hHeld => ?_)
                  clear hK K
                  try simp only [Act.put, List.setIfInBounds_toArray, List.set_cons_zero, List.set_cons_succ]
                  refine wpAnyH_take (i := 35) (v := ?_) (by simp only [List.getElem?_toArray, List.getElem?_cons_succ, List.getElem?_cons_zero]; exact rfl) (by kernel_rfl) (by kernel_rfl) (by kernel_rfl) (by exact fun _ _ _ h => h) (Or.inl ⟨by rfl, ?_⟩) hHeld ?_
                  rotate_left
                  · intro wq hSw; obtain ⟨k1, k2, k3, k4⟩ := LsI.cells hSw; go_simp; all_goals (with_reducible rfl)
                  try simp only [Act.put, List.setIfInBounds_toArray, List.set_cons_zero, List.set_cons_succ]
                  refine wpAnyH_take (i := 36) (v := ?_) (by simp only [List.getElem?_toArray, List.getElem?_cons_succ, List.getElem?_cons_zero]; exact rfl) (by kernel_rfl) (by kernel_rfl) (by kernel_rfl) (by exact fun _ _ _ h => h) (Or.inl ⟨by rfl, ?_⟩) hHeld ?_
                  rotate_left
                  · intro wq hSw; obtain ⟨k1, k2, k3, k4⟩ := LsI.cells hSw; go_simp; all_goals (with_reducible rfl)
                  try simp only [Act.put, List.setIfInBounds_toArray, List.set_cons_zero, List.set_cons_succ]
                  refine wpAnyH_take (i := 37) (v := ?_) (by simp only [List.getElem?_toArray, List.getElem?_cons_succ, List.getElem?_cons_zero]; exact rfl) (by kernel_rfl) (by kernel_rfl) (by kernel_rfl) (by exact fun _ _ _ h => h) (Or.inl ⟨by rfl, ?_⟩) hHeld ?_
                  rotate_left
                  · intro wq hSw; obtain ⟨k1, k2, k3, k4⟩ := LsI.cells hSw; go_simp; all_goals (with_reducible rfl)
                  try simp only [Act.put, List.setIfInBounds_toArray, List.set_cons_zero, List.set_cons_succ]
                  refine wpAnyH_done (by kernel_rfl) ?_ _
                  have hI6 := hHeld
                  go_wp2
                  go_ret
                  exact ⟨rfl, hI6.2⟩
                · exact AllReadyH.nil
              · exact AllReadyH.nil
            refine AllReadyH.cons (by simp only [List.getElem?_toArray, List.getElem?_cons_succ, List.getElem?_cons_zero]; exact rfl) (fun K hK => ?_) ?_
            · go_simp
              refine hK.out _ _ (hHeld.alloc _) (fun hHeld => ?_)
              clear hK K
              try simp only [Act.put, List.setIfInBounds_toArray, List.set_cons_zero, List.set_cons_succ]
              refine wpAnyH_ready (rs := [31]) (by kernel_rfl) (by simp) ?_
              refine AllReadyH.cons (by simp only [List.getElem?_toArray, List.getElem?_cons_succ, List.getElem?_cons_zero]; exact rfl) (fun K hK => ?_) ?_
              · go_simp
                refine (between_any A m c xs T t _ (HH.out.later hHeld.2)).mono ?_
                rintro e w5 ⟨v5, rfl, hown5, hb5⟩
                obtain ⟨A5, c5, rfl, hS5⟩ := Smp.of_own hown5
                try go_wp2_with fail
                refine hK.out _ _ (hHeld.later hb5) (fun hHeld => ?_)
                clear hK K
                try simp only [Act.put, List.setIfInBounds_toArray, List.set_cons_zero, List.set_cons_succ]
                refine wpAnyH_ready (rs := [34]) (by kernel_rfl) (by simp) ?_
                refine AllReadyH.cons (by simp only [List.getElem?_toArray, List.getElem?_cons_succ, List.getElem?_cons_zero]; exact rfl) (fun K hK => ?_) ?_
                · go_simp
                  refine (same_any A5 _ _ c5 1 1 _ [(T, V)] _ hS5 (Smp.of_blk ((Mem.Blk.new W 24 #[.int .i64 T, .int .i64 V]).drew.below hb5 (by simp [drew_size])) (by simp))).mono ?_
                  rintro e w6 ⟨rfl, hb6⟩
                  rw [HSE.out]
                  try go_wp2_with fail
                  refine hK.out _ _ (hHeld.later hb6) (fun hHeld => ?_)
                  clear hK K
                  try simp only [Act.put, List.setIfInBounds_toArray, List.set_cons_zero, List.set_cons_succ]
                  refine wpAnyH_take (i := 35) (v := ?_) (by simp only [List.getElem?_toArray, List.getElem?_cons_succ, List.getElem?_cons_zero]; exact rfl) (by kernel_rfl) (by kernel_rfl) (by kernel_rfl) (by exact fun _ _ _ h => h) (Or.inl ⟨by rfl, ?_⟩) hHeld ?_
                  rotate_left
                  · intro wq hSw; obtain ⟨k1, k2, k3, k4⟩ := LsI.cells hSw; go_simp; all_goals (with_reducible rfl)
                  try simp only [Act.put, List.setIfInBounds_toArray, List.set_cons_zero, List.set_cons_succ]
                  refine wpAnyH_take (i := 36) (v := ?_) (by simp only [List.getElem?_toArray, List.getElem?_cons_succ, List.getElem?_cons_zero]; exact rfl) (by kernel_rfl) (by kernel_rfl) (by kernel_rfl) (by exact fun _ _ _ h => h) (Or.inl ⟨by rfl, ?_⟩) hHeld ?_
                  rotate_left
                  · intro wq hSw; obtain ⟨k1, k2, k3, k4⟩ := LsI.cells hSw; go_simp; all_goals (with_reducible rfl)
                  try simp only [Act.put, List.setIfInBounds_toArray, List.set_cons_zero, List.set_cons_succ]
                  refine wpAnyH_take (i := 37) (v := ?_) (by simp only [List.getElem?_toArray, List.getElem?_cons_succ, List.getElem?_cons_zero]; exact rfl) (by kernel_rfl) (by kernel_rfl) (by kernel_rfl) (by exact fun _ _ _ h => h) (Or.inl ⟨by rfl, ?_⟩) hHeld ?_
                  rotate_left
                  · intro wq hSw; obtain ⟨k1, k2, k3, k4⟩ := LsI.cells hSw; go_simp; all_goals (with_reducible rfl)
                  try simp only [Act.put, List.setIfInBounds_toArray, List.set_cons_zero, List.set_cons_succ]
                  refine wpAnyH_done (by kernel_rfl) ?_ _
                  have hI6 := hHeld
                  go_wp2
                  go_ret
                  exact ⟨rfl, hI6.2⟩
                · exact AllReadyH.nil
              · exact AllReadyH.nil
            exact AllReadyH.nil
          · have q3 : Ser.atP xs t window = ((0, 0), false) := by rw [HQ.out, if_neg hw]
            rw [q3] at b8 ⊢
            have k1 := b8.cell 0
            have k2 := b8.cell 1
            have k1' : (w4.alloc (.cells #[.int .i64 T, .int .i64 V] 24)).cell? ⟨w3.heap.size, 0, none⟩ = some (.int .i64 0) := by have := (b8.alloc (.cells #[.int .i64 T, .int .i64 V] 24)).cell 0; simpa using this
            have k2' : (w4.alloc (.cells #[.int .i64 T, .int .i64 V] 24)).cell? ⟨w3.heap.size, 1, none⟩ = some (.int .i64 0) := by have := (b8.alloc (.cells #[.int .i64 T, .int .i64 V] 24)).cell 1; simpa using this
            have hwd : decide (t - T < window) = false := by simp; omega
            clear q3 k1 k2
            go_wp2
            go_quiet (fail)
            go_wp2
            go_ret
            exact ⟨rfl, Mem.below_drewN (hBw4.alloc hBw4.size _) _⟩
end Go.Proofs.Ytjoaafekhleocaa
