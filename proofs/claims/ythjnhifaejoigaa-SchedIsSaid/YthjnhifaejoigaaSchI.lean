/- The walk of the law SchedNext. -/
import Derived.Test.YthjnhifaejoigaaSchH
namespace Go.Proofs.Ythjnhifaejoigaa
open Go.RowKit
set_option linter.unusedSimpArgs false
set_option linter.unusedVariables false

set_option maxRecDepth 100000 in
set_option maxHeartbeats 8000000 in
theorem schedNext_any (g : Lab.Gr) (now : Int) (w : World) (h : GrIn w w.heap.size g) :
    Calls Try.prog 7 #[.agg #[.string g.nm, .int .i64 g.iv, .int .i64 g.off, .slice g.RA g.Rn g.Rc], .int .i64 now] w (LawR w) := by
  have HH := Lib.hid h
  clear h
  go_enter Try.func7, Try.ntmps7
  go_wp2_with fail
  have hB1 := (Below.refl w.heap.size w).alloc (Nat.le_refl _) (.cells #[.string g.nm, .int .i64 g.iv, .int .i64 g.off, .slice g.RA g.Rn g.Rc] 24)
  have hblk := (Mem.Blk.new w 24 #[.string g.nm, .int .i64 g.iv, .int .i64 g.off, .slice g.RA g.Rn g.Rc])
  have hlt1 : w.heap.size < (w.alloc (.cells #[.string g.nm, .int .i64 g.iv, .int .i64 g.off, .slice g.RA g.Rn g.Rc] 24)).heap.size := by simp
  have hsz1 : w.heap.size ≤ (w.alloc (.cells #[.string g.nm, .int .i64 g.iv, .int .i64 g.off, .slice g.RA g.Rn g.Rc] 24)).heap.size := by simp
  obtain ⟨W1, hW1⟩ : ∃ W1, W1 = w.alloc (.cells #[.string g.nm, .int .i64 g.iv, .int .i64 g.off, .slice g.RA g.Rn g.Rc] 24) := ⟨_, rfl⟩
  rw [← hW1] at hB1 hblk hlt1 hsz1 ⊢
  clear hW1
  have HBLK := Lib.hid hblk
  clear hblk
  have HG := Lib.hid (show GBox W1 w.heap.size g from ⟨HBLK.out.cell 0, HBLK.out.cell 1, HBLK.out.cell 2, HBLK.out.cell 3, hlt1⟩)
  obtain ⟨v0, v1, v2, v3, _⟩ := HG.out
  refine (awake_any W1).mono ?_
  rintro e w2 ⟨rfl, hb2⟩
  have hB2 := hB1.trans (hb2.mono hB1.size)
  clear v0 v1 v2 v3
  have HG := Lib.hid (HG.out.later hb2)
  obtain ⟨v0, v1, v2, v3, hlt2⟩ := HG.out
  go_wp2_with fail
  refine (few_one g w2 (HH.out.later hB2)).mono ?_
  rintro e w3 ⟨few, rfl, hb3⟩
  have hB3 := hB2.trans (hb3.mono hB2.size)
  clear v0 v1 v2 v3
  have HG := Lib.hid (HG.out.later hb3)
  obtain ⟨v0, v1, v2, v3, hlt3⟩ := HG.out
  rcases few with _ | _
  · go_wp2
    go_ret
    exact ⟨rfl, hB3⟩
  go_wp2_with fail
  rcases hs : Lab.grSane g with _ | _
  · refine (sane_one g false hs w3 (HH.out.later hB3)).mono ?_
    rintro e w4 ⟨rfl, hb4⟩
    have hB4 := hB3.trans (hb4.mono hB3.size)
    clear v0 v1 v2 v3
    have HG := Lib.hid (HG.out.later hb4)
    obtain ⟨v0, v1, v2, v3, hlt4⟩ := HG.out
    go_wp2
    go_ret
    exact ⟨rfl, hB4⟩
  refine (sane_one g true hs w3 (HH.out.later hB3)).mono ?_
  rintro e w4 ⟨rfl, hb4⟩
  have hB4 := hB3.trans (hb4.mono hB3.size)
  clear v0 v1 v2 v3
  have HG := Lib.hid (HG.out.later hb4)
  obtain ⟨v0, v1, v2, v3, hlt4⟩ := HG.out
  by_cases hn0 : now < 0
  · have hd0 : decide (now < 0) = true := decide_eq_true hn0
    go_wp2
    go_ret
    exact ⟨rfl, hB4⟩
  have hd0 : decide (now < 0) = false := decide_eq_false hn0
  go_wp2_with fail
  obtain ⟨n, hn⟩ : ∃ n, n = Sch.nextG g now := ⟨_, rfl⟩
  have hND := fun hh => Sch.nextG_due (g := g) hs (now := now) hh
  rw [← hn] at hND
  have HND := Lib.hid hND
  have HN := Lib.hid hn
  clear hND hn
  refine (next_is g now n HN.out.symm w4 (HH.out.later hB4)).mono ?_
  rintro e w5 ⟨rfl, hb5⟩
  have hB5 := hB4.trans (hb5.mono hB4.size)
  clear v0 v1 v2 v3
  have HG := Lib.hid (HG.out.later hb5)
  obtain ⟨v0, v1, v2, v3, hlt5⟩ := HG.out
  by_cases hnn : n < 0
  · have hd1 : decide (n < 0) = true := decide_eq_true hnn
    go_wp2
    go_ret
    exact ⟨rfl, hB5⟩
  have hd1 : decide (n < 0) = false := decide_eq_false hnn
  obtain ⟨hnm, m, hm, hd, hd'⟩ := HND.out (by omega)
  have HD := Lib.hid hd
  have HD' := Lib.hid hd'
  have HM := Lib.hid hm
  clear hd hd' hs hm
  have hw : IntKind.i64.wrap (n - 1) = n - 1 := IntWalk.i64_in _ (by omega)
  go_wp2_with fail
  refine (due_is g now n _ HD.out w5 (HH.out.later hB5)).mono ?_
  rintro e w6 ⟨rfl, hb6⟩
  have hB6 := hB5.trans (hb6.mono hB5.size)
  clear v0 v1 v2 v3
  have HG := Lib.hid (HG.out.later hb6)
  obtain ⟨v0, v1, v2, v3, hlt6⟩ := HG.out
  go_wp2_with fail
  refine (due_is g now (n - 1) _ HD'.out w6 (HH.out.later hB6)).mono ?_
  rintro e w7 ⟨rfl, hb7⟩
  have hB7 := hB6.trans (hb7.mono hB6.size)
  clear v0 v1 v2 v3
  have HG := Lib.hid (HG.out.later hb7)
  obtain ⟨v0, v1, v2, v3, hlt7⟩ := HG.out
  rw [show Sch.d1 (some (m, 0)) = n from HM.out.symm, show Sch.d2 (some (m, 0)) = 0 from rfl]
  go_wp2
  go_ret
  exact ⟨rfl, hB7⟩
end Go.Proofs.Ythjnhifaejoigaa
