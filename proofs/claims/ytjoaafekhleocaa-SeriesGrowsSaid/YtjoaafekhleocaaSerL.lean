/- The walks of the laws SeriesIs and SeriesWindow. -/
import Derived.Test.YtjoaafekhleocaaSerK
import Derived.Test.YtjoaafekhleocaaSerPlain5
import Derived.Test.YtjoaafekhleocaaRow
namespace Go.Proofs.Ytjoaafekhleocaa
open Go.RowKit

attribute [local go_sem ↓] smp_neq smp_eql smp_guard

set_option maxRecDepth 100000 in
set_option maxHeartbeats 2000000 in
theorem seriesWindow_any (A : Option Addr) (m c : Nat) (xs : List (Int × Int)) (t a b : Int) (w : World) (ht : t ≤ 9223372036854775807) (h : Smp w w.heap.size A m c xs) :
    Calls Try.prog 8 #[.slice A m c, .int .i64 t, .int .i64 a, .int .i64 b] w (LawR w) := by
  have HH := Lib.hid h
  clear h
  by_cases hg : 200 < m ∨ a < 0 ∨ b < 0 ∨ 9007199254740992 < a ∨ 9007199254740992 < b
  · go_enter Try.func8, Try.ntmps8
    go_wp2_with fail
    refine (awake_any _).mono ?_
    rintro e w1 ⟨rfl, hB1⟩
    go_wp2_with fail
    all_goals first | (exfalso; omega) | (go_ret; exact ⟨rfl, hB1⟩)
  · have g1 : ¬ 200 < m := fun e => hg (.inl e)
    have g2 : ¬ a < 0 := fun e => hg (.inr (.inl e))
    have g3 : ¬ b < 0 := fun e => hg (.inr (.inr (.inl e)))
    have g4 : ¬ 9007199254740992 < a := fun e => hg (.inr (.inr (.inr (.inl e))))
    have g5 : ¬ 9007199254740992 < b := fun e => hg (.inr (.inr (.inr (.inr e))))
    have g1' : ¬ (200 : Int) < (m : Int) := by omega
    clear hg
    go_enter Try.func8, Try.ntmps8
    go_wp2_with fail
    refine (awake_any _).mono ?_
    rintro e w1 ⟨rfl, hB1⟩
    go_wp2_with fail
    refine (at_any A m c xs t a _ ht (HH.out.later hB1)).mono ?_
    rintro e w2 ⟨rfl, hB2⟩
    have hBw2 := hB1.trans (hB2.mono hB1.size)
    go_wp2_with fail
    have b10 := Mem.Blk.new w2 24 #[.int .i64 (Ser.atP xs t a).1.1, .int .i64 (Ser.atP xs t a).1.2]
    have hBw2' := hBw2.alloc hBw2.size (.cells #[.int .i64 (Ser.atP xs t a).1.1, .int .i64 (Ser.atP xs t a).1.2] 24)
    refine (at_any A m c xs t (a + b) _ ht (HH.out.later hBw2')).mono ?_
    rintro e w3 ⟨rfl, hB3⟩
    have hBw3 := hBw2'.trans (hB3.mono hBw2'.size)
    have b10' := b10.below hB3 b10.lt
    go_wp2_with fail
    have b10'' := b10'.alloc (.cells #[.int .i64 (Ser.atP xs t (a + b)).1.1, .int .i64 (Ser.atP xs t (a + b)).1.2] 24)
    have b12 := Mem.Blk.new w3 24 #[.int .i64 (Ser.atP xs t (a + b)).1.1, .int .i64 (Ser.atP xs t (a + b)).1.2]
    have hBw3' := hBw3.alloc hBw3.size (.cells #[.int .i64 (Ser.atP xs t (a + b)).1.1, .int .i64 (Ser.atP xs t (a + b)).1.2] 24)
    refine (at_any A m c xs t 0 _ ht (HH.out.later hBw3')).mono ?_
    rintro e w4 ⟨rfl, hB4⟩
    have hBw4 := hBw3'.trans (hB4.mono hBw3'.size)
    have b10 := b10''.below hB4 b10''.lt
    have b12 := b12.below hB4 b12.lt
    have c10 := b10.cell 0
    have c10' := b10.cell 1
    have c12 := b12.cell 0
    have c12' := b12.cell 1
    simp at c10 c10' c12 c12'
    have hl2 := b10.lt
    have hl3 := b12.lt
    have hz := Ser.atP_zero xs t
    rcases Ser.atP_more xs t a b (by omega) with e1 | ⟨e1, e2, e3⟩
    · go_wp2
      go_ret
      exact ⟨rfl, hBw4.alloc hBw4.size _⟩
    · have q1 : ((Ser.atP xs t a).1.1 == (Ser.atP xs t (a + b)).1.1) = true := by rw [e3]; simp
      have q2 : ((Ser.atP xs t a).1.2 == (Ser.atP xs t (a + b)).1.2) = true := by rw [e3]; simp
      clear e3
      go_wp2
      go_ret
      exact ⟨rfl, hBw4.alloc hBw4.size _⟩
end Go.Proofs.Ytjoaafekhleocaa
