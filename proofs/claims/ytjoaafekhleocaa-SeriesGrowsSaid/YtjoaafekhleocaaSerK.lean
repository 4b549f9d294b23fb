/- The walk of awake: the document's example is true. -/
import Derived.Test.YtjoaafekhleocaaSerJ
namespace Go.Proofs.Ytjoaafekhleocaa
open Go.RowKit

attribute [local go_sem ↓] smp_neq smp_eql smp_guard

theorem Smp.of_blk {W : World} {g : Nat} {xs : List (Int × Int)} (h : Mem.Blk W g 24 (mkArr xs [])) (hl : xs.length ≤ 9223372036854775807) : Smp W W.heap.size (some ⟨g, 0, none⟩) xs.length xs.length xs := by
  refine ⟨rfl, Nat.le_refl _, hl, fun _ => ⟨g, 0, rfl, h.lt, fun j hj => ?_⟩⟩
  obtain ⟨h1, h2⟩ := mkArr_get (zs := xs) (tail := []) hj
  have c1 := (h.cell (j * 2)).trans h1
  have c2 := (h.cell (j * 2 + 1)).trans h2
  exact ⟨by rw [Nat.zero_add]; exact c1, by rw [Nat.zero_add]; exact c2⟩

set_option maxRecDepth 100000 in
set_option maxHeartbeats 2000000 in
theorem awake_any (w : World) : Calls Try.prog 9 #[] w fun e w' => e = .returned (.bool true) ∧ Below w.heap.size w w' := by
  have p1 : Ser.append [(1, 3)] (5, 4) = ([(1, 3), (5, 4)], 0) := by decide +kernel
  have p2 : Ser.atP [(1, 3), (5, 4)] 7 3 = ((5, 4), true) := by decide +kernel
  have p3 : Ser.atP [(1, 3), (5, 4)] 7 2 = ((0, 0), false) := by decide +kernel
  have p4 : Ser.append [(1, 3), (5, 4)] (5, 0) = ([(1, 3), (5, 4)], 9) := by decide +kernel
  have p5 : Ser.sane [(1, 3), (5, 4)] = true := by decide +kernel
  have p6 : Ser.between [(1, 3), (5, 4)] 2 9 = [(5, 4)] := by decide +kernel
  have P1 := Lib.hid p1
  have P2 := Lib.hid p2
  have P3 := Lib.hid p3
  have P4 := Lib.hid p4
  have P5 := Lib.hid p5
  have P6 := Lib.hid p6
  clear p1 p2 p3 p4 p5 p6
  go_enter Try.func9, Try.ntmps9
  go_wp2_with fail
  refine (append_any (some ⟨w.heap.size, 0, none⟩) 1 1 [(1, 3)] (5, 4) _ (Smp.of_blk (Mem.Blk.new w _ _) (by simp))).mono ?_
  rintro e w1 ⟨A1, n1, c1, rfl, hS1, hB1⟩
  rw [P1.out] at hS1 ⊢
  have hBw1 : Below w.heap.size w w1 := ((Below.refl _ _).alloc (Nat.le_refl _) _).trans (hB1.mono (by simp))
  have HS1 := Lib.hid hS1
  clear hS1 hB1
  go_wp2_with fail
  refine (at_any A1 n1 c1 [(1, 3), (5, 4)] 7 3 _ (by omega) HS1.out).mono ?_
  rintro e w2 ⟨rfl, hB2⟩
  rw [P2.out]
  have hBw2 := hBw1.trans (hB2.mono hBw1.size)
  have HS2 := Lib.hid (HS1.out.later hB2)
  go_wp2_with fail
  have b3 := Mem.Blk.new w2 24 #[.int .i64 5, .int .i64 4]
  have HS2' := Lib.hid ((HS2.out.alloc (Nat.le_refl _) (.cells #[.int .i64 5, .int .i64 4] 24)).more (B' := (w2.alloc (.cells #[.int .i64 5, .int .i64 4] 24)).heap.size) (by simp))
  refine (at_any A1 n1 c1 [(1, 3), (5, 4)] 7 2 _ (by omega) HS2'.out).mono ?_
  rintro e w3 ⟨rfl, hB3⟩
  rw [P3.out]
  have hBw3 : Below w.heap.size w w3 := (hBw2.alloc hBw2.size _).trans (hB3.mono (by have := hBw2.size; simp; omega))
  have HS3 := Lib.hid (HS2'.out.later hB3)
  have b3' := b3.below hB3 b3.lt
  clear b3 hB3
  go_wp2_with fail
  have b4 := b3'.alloc (.cells #[.int .i64 0, .int .i64 0] 24)
  have HS3' := Lib.hid ((HS3.out.alloc (Nat.le_refl _) (.cells #[.int .i64 0, .int .i64 0] 24)).more (B' := (w3.alloc (.cells #[.int .i64 0, .int .i64 0] 24)).heap.size) (by simp))
  refine (append_any A1 n1 c1 [(1, 3), (5, 4)] (5, 0) _ HS3'.out).mono ?_
  rintro e w4 ⟨A4, n4, c4, rfl, hS4, hB4⟩
  rw [P4.out]
  have hBw4 : Below w.heap.size w w4 := (hBw3.alloc hBw3.size _).trans (hB4.mono (by have := hBw3.size; simp; omega))
  have HS4 := Lib.hid (HS3'.out.later hB4)
  have b5 := b4.below hB4 b4.lt
  have d0 := b5.cell 0
  have d1 := b5.cell 1
  simp at d0 d1
  clear hS4 hB4 b3' b4 b5
  go_wp2_with fail
  refine (sane_any A1 n1 c1 [(1, 3), (5, 4)] _ HS4.out).mono ?_
  rintro e w5 ⟨rfl, hB5⟩
  rw [P5.out]
  have hBw5 : Below w.heap.size w w5 := hBw4.trans (hB5.mono hBw4.size)
  have HS5 := Lib.hid (HS4.out.later hB5)
  clear d0 d1 hB5
  go_wp2_with fail
  refine (between_any A1 n1 c1 [(1, 3), (5, 4)] 2 9 _ HS5.out).mono ?_
  rintro e w6 ⟨v, rfl, hown6, hB6⟩
  have hBw6 : Below w.heap.size w w6 := hBw5.trans (hB6.mono hBw5.size)
  rw [P6.out] at hown6
  obtain ⟨A6, c6, rfl, hS6⟩ := Smp.of_own hown6
  clear hown6 hS6 hB6
  go_wp2
  go_ret
  exact ⟨rfl, hBw6⟩
end Go.Proofs.Ytjoaafekhleocaa
