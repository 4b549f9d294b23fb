/- The law SchedTimes, of any group. -/
import Derived.Test.YthjnhifaejoigaaSchN
namespace Go.Proofs.Ythjnhifaejoigaa
open Go.RowKit
set_option linter.unusedSimpArgs false
set_option linter.unusedVariables false

set_option maxRecDepth 100000 in
set_option maxHeartbeats 8000000 in
theorem schedTimes_none (g : Lab.Gr) (hs : Lab.grSane g = false) (last now : Int) (w : World) (h : GrIn w w.heap.size g) :
    Calls Try.prog 6 #[.agg #[.string g.nm, .int .i64 g.iv, .int .i64 g.off, .slice g.RA g.Rn g.Rc], .int .i64 last, .int .i64 now] w (LawR w) := by
  have HH := Lib.hid h
  have HS := Lib.hid hs
  clear h hs
  go_enter Try.func6, Try.ntmps6
  go_wp2_with fail
  have hB1 := (Below.refl w.heap.size w).alloc (Nat.le_refl _) (.cells #[.string g.nm, .int .i64 g.iv, .int .i64 g.off, .slice g.RA g.Rn g.Rc] 24)
  have hblk := (Mem.Blk.new w 24 #[.string g.nm, .int .i64 g.iv, .int .i64 g.off, .slice g.RA g.Rn g.Rc])
  have hlt1 : w.heap.size < (w.alloc (.cells #[.string g.nm, .int .i64 g.iv, .int .i64 g.off, .slice g.RA g.Rn g.Rc] 24)).heap.size := by simp
  have hsz1 : w.heap.size ≤ (w.alloc (.cells #[.string g.nm, .int .i64 g.iv, .int .i64 g.off, .slice g.RA g.Rn g.Rc] 24)).heap.size := by simp
  obtain ⟨W1, hW1⟩ : ∃ W1, W1 = w.alloc (.cells #[.string g.nm, .int .i64 g.iv, .int .i64 g.off, .slice g.RA g.Rn g.Rc] 24) := ⟨_, rfl⟩
  rw [← hW1] at hB1 hblk hlt1 hsz1 ⊢
  clear hW1
  have HBLK := Lib.hid hblk
  clear hblk
  have HG := Lib.hid (show GBox W1 w.heap.size g from ⟨HBLK.out.cell 0, HBLK.out.cell 1, HBLK.out.cell 2, HBLK.out.cell 3, hlt1⟩)
  obtain ⟨v0, v1, v2, v3, _⟩ := HG.out
  refine (awake_any W1).mono ?_
  rintro e w2 ⟨rfl, hb2⟩
  have hB2 := hB1.trans (hb2.mono hB1.size)
  clear v0 v1 v2 v3
  have HG := Lib.hid (HG.out.later hb2)
  obtain ⟨v0, v1, v2, v3, hlt2⟩ := HG.out
  go_wp2_with fail
  refine (few_one g w2 (HH.out.later hB2)).mono ?_
  rintro e w3 ⟨few, rfl, hb3⟩
  have hB3 := hB2.trans (hb3.mono hB2.size)
  clear v0 v1 v2 v3
  have HG := Lib.hid (HG.out.later hb3)
  obtain ⟨v0, v1, v2, v3, hlt3⟩ := HG.out
  rcases few with _ | _
  · go_wp2
    go_ret
    exact ⟨rfl, hB3⟩
  go_wp2_with fail
  refine (sane_one g false HS.out w3 (HH.out.later hB3)).mono ?_
  rintro e w4 ⟨rfl, hb4⟩
  have hB4 := hB3.trans (hb4.mono hB3.size)
  clear v0 v1 v2 v3
  have HG := Lib.hid (HG.out.later hb4)
  obtain ⟨v0, v1, v2, v3, hlt4⟩ := HG.out
  go_wp2
  go_ret
  exact ⟨rfl, hB4⟩
theorem schedTimes_any (g : Lab.Gr) (last now : Int) (w : World) (h : GrIn w w.heap.size g) :
    Calls Try.prog 6 #[.agg #[.string g.nm, .int .i64 g.iv, .int .i64 g.off, .slice g.RA g.Rn g.Rc], .int .i64 last, .int .i64 now] w (LawR w) := by
  rcases hs : Lab.grSane g with _ | _
  · exact schedTimes_none g hs last now w h
  · obtain ⟨I, O, hI, hO, hg⟩ := good_of hs
    exact schedTimes_some g I hI O hO hg hs last now w h
end Go.Proofs.Ythjnhifaejoigaa
