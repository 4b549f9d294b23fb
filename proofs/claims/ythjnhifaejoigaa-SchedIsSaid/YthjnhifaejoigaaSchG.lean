/- The walk of sched's awake. -/
import Derived.Test.YthjnhifaejoigaaSchF
import Derived.Test.YthjnhifaejoigaaRow
namespace Go.Proofs.Ythjnhifaejoigaa
open Go.RowKit
set_option linter.unusedSimpArgs false
set_option linter.unusedVariables false

theorem times_any (g : Lab.Gr) (last now : Int) (w : World) (h : GrIn w w.heap.size g) :
    Calls Try.prog 18 #[.agg #[.string g.nm, .int .i64 g.iv, .int .i64 g.off, .slice g.RA g.Rn g.Rc], .int .i64 last, .int .i64 now] w (IntsR w (Sch.timesG g last now)) := by
  rcases hs : Lab.grSane g with _ | _
  · rw [show Sch.timesG g last now = [] by unfold Sch.timesG; rw [hs, if_neg (by decide)]]
    exact times_none g last now (-1) (by unfold Sch.nextG; rw [hs, if_neg (by decide)]) (.inl (by decide)) w h
  · obtain ⟨I, O, hI, hO, hg⟩ := good_of hs
    have ht : Sch.timesG g last now = Sch.times I O last now := by unfold Sch.timesG; rw [hs, if_pos rfl, hI, hO, Int.toNat_natCast, Int.toNat_natCast]
    have hn : Sch.nextG g last = Sch.next I O last := by unfold Sch.nextG; rw [hs, if_pos rfl, hI, hO, Int.toNat_natCast, Int.toNat_natCast]
    rw [ht]
    by_cases hbad : Sch.next I O last < 0 ∨ min now (Sch.most : Int) < Sch.next I O last
    · rw [Sch.times_nil (Sch.cnt_le_of_next hg hbad)]
      exact times_none g last now _ hn (by unfold Sch.most at hbad; exact hbad) w h
    · have hn0 : 0 ≤ Sch.next I O last := by omega
      obtain ⟨hf, hfm⟩ := Sch.next_form hg hn0
      obtain ⟨m, hm⟩ : ∃ m : Nat, min now (Sch.most : Int) = (m : Int) := ⟨(min now (Sch.most : Int)).toNat, by omega⟩
      have hFm : Sch.tm I O (Sch.cnt I O last) ≤ m := by omega
      have hc := Sch.cnt_from hg hm hFm
      have := times_some g I O (Sch.tm I O (Sch.cnt I O last)) m hI hO hg.pos last now (by rw [hn, hf]) (by unfold Sch.most at hm; exact hm) hFm w h
      have he : Sch.times I O last now = (List.range (min 200 ((m - Sch.tm I O (Sch.cnt I O last)) / I + 1))).map (fun j => ((Sch.tm I O (Sch.cnt I O last) + j * I : Nat) : Int)) := by
        unfold Sch.times
        rw [hc, Nat.add_sub_cancel_left]
        refine List.map_congr_left fun j _ => ?_
        unfold Sch.tm
        rw [Nat.add_mul, Nat.add_assoc]
      rw [he]
      exact this

theorem ints_blk {W : World} {b : Nat} {x y z : Int} (hblk : Mem.Blk W b 3 #[.int .i64 x, .int .i64 y, .int .i64 z]) : Recs intCells 1 W W.heap.size (some ⟨b, 0, none⟩) 3 3 [x, y, z] := by
  refine ⟨rfl, Nat.le_refl _, by decide, fun _ => ⟨b, 0, rfl, hblk.lt, fun j v hj i u hu => ?_⟩⟩
  rcases i with _ | i
  · rw [hblk.cell]
    rcases j with _ | _ | _ | j
    · obtain rfl : x = v := by simpa using hj
      exact hu
    · obtain rfl : y = v := by simpa using hj
      exact hu
    · obtain rfl : z = v := by simpa using hj
      exact hu
    · simp at hj
  · simp [intCells] at hu
/-- the example's group -/
def g0 : Lab.Gr := ⟨⟨#[103]⟩, 10, 3, none, 0, 0, []⟩
theorem g0_in (W : World) (B : Nat) : GrIn W B g0 := ⟨Recs.none_ _ _, (fun r hr => absurd hr (by simp [g0])), by decide⟩
theorem g0_sane : Lab.grSane g0 = true := by decide +kernel
theorem e1 : Sch.dueG g0 3 40 = some (33, 2) := by
  unfold Sch.dueG
  rw [g0_sane]
  rfl
theorem e2 : Sch.dueG g0 33 40 = none := by
  unfold Sch.dueG
  rw [g0_sane]
  rfl
theorem e3 : Sch.nextG g0 40 = 43 := by
  unfold Sch.nextG
  rw [g0_sane]
  rfl
theorem e4 : Sch.timesG g0 3 40 = [13, 23, 33] := by
  unfold Sch.timesG
  rw [g0_sane]
  rfl
theorem e6 : Sch.dueG g0 (-1) 3 = some (3, 0) := by
  unfold Sch.dueG
  rw [g0_sane]
  rfl
theorem e5 : Sch.order [g0] [] 3 = [0] := by
  unfold Sch.order
  rw [fiSane_one, g0_sane, if_pos rfl]
  show Sch.orderTo [g0] [] 3 1 = [0]
  rw [Sch.orderTo_yes (by rw [Sch.dueAt_is rfl]; rw [show Sch.lastAt [] 0 = -1 from rfl, e6]; rfl)]
  rfl

set_option maxRecDepth 100000 in
set_option maxHeartbeats 8000000 in
theorem awake_any (w : World) : Calls Try.prog 9 #[] w fun e w' => e = .returned (.bool true) ∧ Below w.heap.size w w' := by
  go_enter Try.func9, Try.ntmps9
  go_wp2_with fail
  have hB1 := (Below.refl w.heap.size w).alloc (Nat.le_refl _) (.cells #[.string ⟨#[103]⟩, .int .i64 10, .int .i64 3, .slice none 0 0] 24)
  have hblk := (Mem.Blk.new w 24 #[.string ⟨#[103]⟩, .int .i64 10, .int .i64 3, .slice none 0 0])
  have hlt1 : w.heap.size < (w.alloc (.cells #[.string ⟨#[103]⟩, .int .i64 10, .int .i64 3, .slice none 0 0] 24)).heap.size := by simp
  have hsz1 : w.heap.size ≤ (w.alloc (.cells #[.string ⟨#[103]⟩, .int .i64 10, .int .i64 3, .slice none 0 0] 24)).heap.size := by simp
  obtain ⟨W1, hW1⟩ : ∃ W1, W1 = w.alloc (.cells #[.string ⟨#[103]⟩, .int .i64 10, .int .i64 3, .slice none 0 0] 24) := ⟨_, rfl⟩
  rw [← hW1] at hB1 hblk hlt1 hsz1 ⊢
  clear hW1
  have HBLK := Lib.hid hblk
  clear hblk
  refine (due_is g0 3 40 _ e1 W1 (g0_in _ _)).mono ?_
  rintro e w2 ⟨rfl, hb2⟩
  have hB2 := hB1.trans (hb2.mono hB1.size)
  have v0 : w2.cell? ⟨w.heap.size, 0, none⟩ = some (.string ⟨#[103]⟩) := (hb2.cell (p := ⟨w.heap.size, 0, none⟩) hlt1).trans (HBLK.out.cell 0)
  have v1 : w2.cell? ⟨w.heap.size, 1, none⟩ = some (.int .i64 10) := (hb2.cell (p := ⟨w.heap.size, 1, none⟩) hlt1).trans (HBLK.out.cell 1)
  have v2 : w2.cell? ⟨w.heap.size, 2, none⟩ = some (.int .i64 3) := (hb2.cell (p := ⟨w.heap.size, 2, none⟩) hlt1).trans (HBLK.out.cell 2)
  have v3 : w2.cell? ⟨w.heap.size, 3, none⟩ = some (.slice none 0 0) := (hb2.cell (p := ⟨w.heap.size, 3, none⟩) hlt1).trans (HBLK.out.cell 3)
  have hlt2 := Nat.lt_of_lt_of_le hlt1 hb2.size
  go_wp2_with fail
  refine (due_is g0 33 40 _ e2 w2 (g0_in _ _)).mono ?_
  rintro e w3 ⟨rfl, hb3⟩
  have hB3 := hB2.trans (hb3.mono hB2.size)
  have q0 := (hb3.cell (p := ⟨w.heap.size, 0, none⟩) hlt2).trans v0
  have q1 := (hb3.cell (p := ⟨w.heap.size, 1, none⟩) hlt2).trans v1
  have q2 := (hb3.cell (p := ⟨w.heap.size, 2, none⟩) hlt2).trans v2
  have q3 := (hb3.cell (p := ⟨w.heap.size, 3, none⟩) hlt2).trans v3
  have hlt3 := Nat.lt_of_lt_of_le hlt2 hb3.size
  clear v0 v1 v2 v3
  go_wp2_with fail
  refine (next_is g0 40 _ e3 w3 (g0_in _ _)).mono ?_
  rintro e w4 ⟨rfl, hb4⟩
  have hB4 := hB3.trans (hb4.mono hB3.size)
  have v0 := (hb4.cell (p := ⟨w.heap.size, 0, none⟩) hlt3).trans q0
  have v1 := (hb4.cell (p := ⟨w.heap.size, 1, none⟩) hlt3).trans q1
  have v2 := (hb4.cell (p := ⟨w.heap.size, 2, none⟩) hlt3).trans q2
  have v3 := (hb4.cell (p := ⟨w.heap.size, 3, none⟩) hlt3).trans q3
  have hlt4 := Nat.lt_of_lt_of_le hlt3 hb4.size
  clear q0 q1 q2 q3
  go_wp2_with fail
  refine (times_any g0 3 40 w4 (g0_in _ _)).mono ?_
  rintro e w5 ⟨A5, n5, c5, rfl, hr5, hb5⟩
  rw [e4] at hr5
  have HR5 := Lib.hid hr5
  clear hr5
  have hB5 := hB4.trans (hb5.mono hB4.size)
  have q0 := (hb5.cell (p := ⟨w.heap.size, 0, none⟩) hlt4).trans v0
  have q1 := (hb5.cell (p := ⟨w.heap.size, 1, none⟩) hlt4).trans v1
  have q2 := (hb5.cell (p := ⟨w.heap.size, 2, none⟩) hlt4).trans v2
  have q3 := (hb5.cell (p := ⟨w.heap.size, 3, none⟩) hlt4).trans v3
  have hlt5 := Nat.lt_of_lt_of_le hlt4 hb5.size
  clear v0 v1 v2 v3
  go_wp2_with fail
  have hb6 := (Below.refl w5.heap.size w5).alloc (Nat.le_refl _) (.cells #[.int .i64 13, .int .i64 23, .int .i64 33] 3)
  have hbk := Mem.Blk.new w5 3 #[.int .i64 13, .int .i64 23, .int .i64 33]
  refine (ints_any A5 n5 c5 _ (some ⟨w5.heap.size, 0, none⟩) 3 3 [13, 23, 33] _ ((HR5.out.below hb6).more hb6.size) (ints_blk hbk)).mono ?_
  rintro e w6 ⟨rfl, hb6'⟩
  have hB6 := (hB5.trans (hb6.mono hB5.size)).trans (hb6'.mono ((hB5.trans (hb6.mono hB5.size))).size)
  have hlt6 := Nat.lt_of_lt_of_le hlt5 hb6.size
  have v0 := (hb6'.cell (p := ⟨w.heap.size, 0, none⟩) hlt6).trans ((hb6.cell (p := ⟨w.heap.size, 0, none⟩) hlt5).trans q0)
  have v1 := (hb6'.cell (p := ⟨w.heap.size, 1, none⟩) hlt6).trans ((hb6.cell (p := ⟨w.heap.size, 1, none⟩) hlt5).trans q1)
  have v2 := (hb6'.cell (p := ⟨w.heap.size, 2, none⟩) hlt6).trans ((hb6.cell (p := ⟨w.heap.size, 2, none⟩) hlt5).trans q2)
  have v3 := (hb6'.cell (p := ⟨w.heap.size, 3, none⟩) hlt6).trans ((hb6.cell (p := ⟨w.heap.size, 3, none⟩) hlt5).trans q3)
  clear q0 q1 q2 q3
  rw [show decide (([13, 23, 33] : List Int) = [13, 23, 33]) = true from rfl]
  go_wp2_with fail
  have hb7 := (Below.refl w6.heap.size w6).alloc (Nat.le_refl _) (.cells #[.string ⟨#[103]⟩, .int .i64 10, .int .i64 3, .slice none 0 0] 24)
  have hbk7 := Mem.Blk.new w6 24 #[.string ⟨#[103]⟩, .int .i64 10, .int .i64 3, .slice none 0 0]
  refine (order_any (some ⟨w6.heap.size, 0, none⟩) 1 1 [g0] none 0 0 [] 3 _ (fiIn_one (g0_in _ _) hb7 hbk7) (Recs.none_ _ _)).mono ?_
  rintro e w8 ⟨A8, n8, c8, rfl, hr8, hb8⟩
  rw [e5] at hr8
  have hn8 : n8 = 1 := hr8.1.symm
  subst hn8
  have hB7 := hB6.trans (hb7.mono hB6.size)
  have hB8 := hB7.trans (hb8.mono hB7.size)
  go_wp2
  go_ret
  exact ⟨rfl, hB8⟩
end Go.Proofs.Ythjnhifaejoigaa
