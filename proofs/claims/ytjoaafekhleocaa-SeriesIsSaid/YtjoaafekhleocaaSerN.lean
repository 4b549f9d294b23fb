/- The walks of the laws SeriesIs and SeriesParts. -/
import Derived.Test.YtjoaafekhleocaaSerM
namespace Go.Proofs.Ytjoaafekhleocaa
open Go.RowKit

attribute [local go_sem ↓] smp_neq smp_eql smp_guard

set_option maxRecDepth 100000 in
set_option maxHeartbeats 4000000 in
theorem seriesIs_any (A : Option Addr) (m c : Nat) (xs : List (Int × Int)) (x : Int × Int) (t window : Int) (w : World) (ht : t ≤ 9223372036854775807) (h : Smp w w.heap.size A m c xs) :
    Calls Try.prog 3 #[.slice A m c, .agg #[.int .i64 x.1, .int .i64 x.2], .int .i64 t, .int .i64 window] w (LawR w) := by
  have HH := Lib.hid h
  clear h
  go_enter Try.func3, Try.ntmps3
  go_wp2_with fail
  have b5 := Mem.Blk.new w 24 #[.int .i64 x.1, .int .i64 x.2]
  have hB0 := (Below.refl w.heap.size w).alloc (Nat.le_refl _) (.cells #[.int .i64 x.1, .int .i64 x.2] 24)
  refine (awake_any _).mono ?_
  rintro e w1 ⟨rfl, hB1⟩
  have hBw1 := hB0.trans (hB1.mono hB0.size)
  have b5 := b5.below hB1 b5.lt
  clear hB1 hB0
  by_cases h200 : 200 < m
  · go_wp2
    go_ret
    exact ⟨rfl, hBw1⟩
  · have h200' : ¬ (200 : Int) < (m : Int) := by omega
    have c5 := b5.cell 0
    have c5' := b5.cell 1
    simp at c5 c5'
    go_wp2_with fail
    refine (append_any A m c xs x _ (HH.out.later hBw1)).mono ?_
    rintro e w2 ⟨A2, n2, c2, rfl, hS2, hB2⟩
    have hBw2 := hBw1.trans (hB2.mono hBw1.size)
    have b5 := b5.below hB2 b5.lt
    have HS2 := Lib.hid hS2
    clear hS2 c5 c5' hB2
    have c5 := b5.cell 0
    have c5' := b5.cell 1
    simp at c5 c5'
    go_wp2_with fail
    refine (rAppend_any A m c xs x _ (HH.out.later hBw2)).mono ?_
    rintro e w3 ⟨A3, n3, c3, rfl, hS3, hB3⟩
    have hBw3 := hBw2.trans (hB3.mono hBw2.size)
    have HS2 := Lib.hid (HS2.out.later hB3)
    have HS3 := Lib.hid hS3
    clear hS3 c5 c5' hB3 b5
    go_wp2_with fail
    refine (at_any A m c xs t window _ ht (HH.out.later hBw3)).mono ?_
    rintro e w4 ⟨rfl, hB4⟩
    have hBw4 := hBw3.trans (hB4.mono hBw3.size)
    have HS2 := Lib.hid (HS2.out.later hB4)
    have HS3 := Lib.hid (HS3.out.later hB4)
    clear hB4
    go_wp2_with fail
    have b14 := Mem.Blk.new w4 24 #[.int .i64 (Ser.atP xs t window).1.1, .int .i64 (Ser.atP xs t window).1.2]
    have hB5 := (Below.refl w4.heap.size w4).alloc (Nat.le_refl _) (.cells #[.int .i64 (Ser.atP xs t window).1.1, .int .i64 (Ser.atP xs t window).1.2] 24)
    have hBw5 := hBw4.trans (hB5.mono hBw4.size)
    have HS2 := Lib.hid (HS2.out.later hB5)
    have HS3 := Lib.hid (HS3.out.later hB5)
    clear hB5
    refine (rAt_any A m c xs t window _ ht (HH.out.later hBw5)).mono ?_
    rintro e w6 ⟨rfl, hB6⟩
    have hBw6 := hBw5.trans (hB6.mono hBw5.size)
    have HS2 := Lib.hid (HS2.out.later hB6)
    have HS3 := Lib.hid (HS3.out.later hB6)
    have b14 := b14.below hB6 b14.lt
    clear hB6
    go_wp2_with fail
    have b16 := Mem.Blk.new w6 24 #[.int .i64 (Ser.atP xs t window).1.1, .int .i64 (Ser.atP xs t window).1.2]
    have hB7 := (Below.refl w6.heap.size w6).alloc (Nat.le_refl _) (.cells #[.int .i64 (Ser.atP xs t window).1.1, .int .i64 (Ser.atP xs t window).1.2] 24)
    have hBw7 := hBw6.trans (hB7.mono hBw6.size)
    have HS2 := Lib.hid (HS2.out.later hB7)
    have HS3 := Lib.hid (HS3.out.later hB7)
    have b14 := b14.below hB7 b14.lt
    clear hB7
    refine (sane_any A m c xs _ (HH.out.later hBw7)).mono ?_
    rintro e w8 ⟨rfl, hB8⟩
    have hBw8 := hBw7.trans (hB8.mono hBw7.size)
    have HS2 := Lib.hid (HS2.out.later hB8)
    have HS3 := Lib.hid (HS3.out.later hB8)
    have b14 := b14.below hB8 b14.lt
    have b16 := b16.below hB8 b16.lt
    clear hB8
    go_wp2_with fail
    refine (rSane_any A m c xs _ (HH.out.later hBw8)).mono ?_
    rintro e w9 ⟨rfl, hB9⟩
    have hBw9 := hBw8.trans (hB9.mono hBw8.size)
    have HS2 := Lib.hid (HS2.out.later hB9)
    have HS3 := Lib.hid (HS3.out.later hB9)
    have b14 := b14.below hB9 b14.lt
    have b16 := b16.below hB9 b16.lt
    clear hB9
    have q0 : (Ser.sane xs == Ser.sane xs) = true := by simp
    go_wp2_with fail
    refine (same_any A2 A3 n2 c2 n3 c3 _ _ _ HS2.out HS3.out).mono ?_
    rintro e w10 ⟨rfl, hB10⟩
    have hBw10 := hBw9.trans (hB10.mono hBw9.size)
    have b14 := b14.below hB10 b14.lt
    have b16 := b16.below hB10 b16.lt
    clear hB10 HS2 HS3
    have c14 := b14.cell 0
    have c14' := b14.cell 1
    have c16 := b16.cell 0
    have c16' := b16.cell 1
    simp at c14 c14' c16 c16'
    rw [show decide ((Ser.append xs x).1 = (Ser.append xs x).1) = true from by simp]
    go_wp2_with fail
    refine (between_any A m c xs t window _ (HH.out.later hBw10)).mono ?_
    rintro e w11 ⟨v, rfl, hown, hB11⟩
    have hBw11 := hBw10.trans (hB11.mono hBw10.size)
    obtain ⟨A11, c11, rfl, hS11⟩ := Smp.of_own hown
    have HS11 := Lib.hid hS11
    clear hown hS11 hB11 c14 c14' c16 c16' b14 b16
    go_wp2_with fail
    refine (rBetween_any A m c xs t window _ (HH.out.later hBw11)).mono ?_
    rintro e w12 ⟨v, rfl, hown, hB12⟩
    have hBw12 := hBw11.trans (hB12.mono hBw11.size)
    obtain ⟨A12, c12, rfl, hS12⟩ := Smp.of_own hown
    have HS12 := Lib.hid hS12
    have HS11 := Lib.hid (HS11.out.later hB12)
    clear hown hS12 hB12
    go_wp2_with fail
    refine (same_any A11 A12 _ c11 _ c12 _ _ _ HS11.out HS12.out).mono ?_
    rintro e w13 ⟨rfl, hB13⟩
    have hBw13 := hBw12.trans (hB13.mono hBw12.size)
    rw [show decide (Ser.between xs t window = Ser.between xs t window) = true from by simp]
    go_wp2
    go_ret
    exact ⟨rfl, hBw13⟩
end Go.Proofs.Ytjoaafekhleocaa
