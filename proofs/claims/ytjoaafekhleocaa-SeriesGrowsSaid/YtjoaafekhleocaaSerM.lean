/- The walks of the laws SeriesStays, SeriesIs, SeriesParts. -/
import Derived.Test.YtjoaafekhleocaaSerL
import Derived.Test.YtjoaafekhleocaaSerPlain6
namespace Go.Proofs.Ytjoaafekhleocaa
open Go.RowKit

attribute [local go_sem ↓] smp_neq smp_eql smp_guard

set_option maxRecDepth 100000 in
set_option maxHeartbeats 2000000 in
theorem seriesStays_any (A : Option Addr) (m c : Nat) (xs : List (Int × Int)) (x : Int × Int) (t window : Int) (w : World) (ht : t ≤ 9223372036854775807) (h : Smp w w.heap.size A m c xs) :
    Calls Try.prog 5 #[.slice A m c, .agg #[.int .i64 x.1, .int .i64 x.2], .int .i64 t, .int .i64 window] w (LawR w) := by
  have hl := h.1
  have HL := Lib.hid hl
  have HH := Lib.hid h
  clear h hl
  go_enter Try.func5, Try.ntmps5
  go_wp2_with fail
  have b5 := Mem.Blk.new w 24 #[.int .i64 x.1, .int .i64 x.2]
  have hB0 := (Below.refl w.heap.size w).alloc (Nat.le_refl _) (.cells #[.int .i64 x.1, .int .i64 x.2] 24)
  refine (awake_any _).mono ?_
  rintro e w1 ⟨rfl, hB1⟩
  have hBw1 := hB0.trans (hB1.mono hB0.size)
  have b5 := b5.below hB1 b5.lt
  clear hB1 hB0
  by_cases h64 : 64 ≤ m
  · go_wp2
    go_ret
    exact ⟨rfl, hBw1⟩
  · have h64' : ¬ (64 : Int) ≤ (m : Int) := by omega
    rcases hs : Ser.sane xs with _ | _
    · go_wp2_with fail
      refine (sane_any A m c xs _ (HH.out.later hBw1)).mono ?_
      rintro e w2 ⟨rfl, hB2⟩
      rw [hs]
      have hBw2 := hBw1.trans (hB2.mono hBw1.size)
      go_wp2
      go_ret
      exact ⟨rfl, hBw2⟩
    · have HSA := Lib.hid hs
      go_wp2_with fail
      refine (sane_any A m c xs _ (HH.out.later hBw1)).mono ?_
      rintro e w2 ⟨rfl, hB2⟩
      rw [hs]
      have hBw2 := hBw1.trans (hB2.mono hBw1.size)
      have b5 := b5.below hB2 b5.lt
      have c5 := b5.cell 0
      have c5' := b5.cell 1
      simp at c5 c5'
      clear hs hB2
      by_cases htx : x.1 ≤ t
      · go_wp2
        go_ret
        exact ⟨rfl, hBw2⟩
      · go_wp2_with fail
        refine (append_any A m c xs x _ (HH.out.later hBw2)).mono ?_
        rintro e w3 ⟨A3, n3, c3, rfl, hS3, hB3⟩
        have hBw3 := hBw2.trans (hB3.mono hBw2.size)
        have HS3 := Lib.hid hS3
        clear hS3 c5 c5'
        go_wp2_with fail
        refine (at_any A m c xs t window _ ht (HH.out.later hBw3)).mono ?_
        rintro e w4 ⟨rfl, hB4⟩
        have hBw4 := hBw3.trans (hB4.mono hBw3.size)
        have HS4 := Lib.hid (HS3.out.later hB4)
        go_wp2_with fail
        have b12 := Mem.Blk.new w4 24 #[.int .i64 (Ser.atP xs t window).1.1, .int .i64 (Ser.atP xs t window).1.2]
        have hBw4' := hBw4.alloc hBw4.size (.cells #[.int .i64 (Ser.atP xs t window).1.1, .int .i64 (Ser.atP xs t window).1.2] 24)
        refine (at_any A3 n3 c3 (Ser.append xs x).1 t window _ ht ((HS4.out.alloc (Nat.le_refl _) _).more (by simp))).mono ?_
        rintro e w5 ⟨rfl, hB5⟩
        rw [Ser.stays HSA.out (by rw [HL.out]; omega) (by omega)]
        have hBw5 := hBw4'.trans (hB5.mono hBw4'.size)
        have b12 := b12.below hB5 b12.lt
        have c12 := b12.cell 0
        have c12' := b12.cell 1
        simp at c12 c12'
        have hl5 := b12.lt
        go_wp2
        go_ret
        exact ⟨rfl, hBw5.alloc hBw5.size _⟩
end Go.Proofs.Ytjoaafekhleocaa
