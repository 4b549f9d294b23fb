/- The walk of the reference's Times, of any group. -/
import Derived.Test.YthjnhifaejoigaaSchR
namespace Go.Proofs.Ythjnhifaejoigaa
open Go.RowKit
set_option linter.unusedSimpArgs false
set_option linter.unusedVariables false

set_option maxRecDepth 100000 in
set_option maxHeartbeats 8000000 in
theorem rTimes_none (g : Lab.Gr) (hs : Lab.grSane g = false) (last now : Int) (w : World) (h : GrIn w w.heap.size g) :
    Calls Try.prog 19 #[.agg #[.string g.nm, .int .i64 g.iv, .int .i64 g.off, .slice g.RA g.Rn g.Rc], .int .i64 last, .int .i64 now] w (IntsR w []) := by
  have HH := Lib.hid h
  have HS := Lib.hid hs
  clear h hs
  go_enter Try.func19, Try.ntmps19
  go_wp2_with fail
  have hB1 := (Below.refl w.heap.size w).alloc (Nat.le_refl _) (.cells #[.string g.nm, .int .i64 g.iv, .int .i64 g.off, .slice g.RA g.Rn g.Rc] 24)
  have hblk := (Mem.Blk.new w 24 #[.string g.nm, .int .i64 g.iv, .int .i64 g.off, .slice g.RA g.Rn g.Rc])
  have hlt1 : w.heap.size < (w.alloc (.cells #[.string g.nm, .int .i64 g.iv, .int .i64 g.off, .slice g.RA g.Rn g.Rc] 24)).heap.size := by simp
  have hsz1 : w.heap.size ≤ (w.alloc (.cells #[.string g.nm, .int .i64 g.iv, .int .i64 g.off, .slice g.RA g.Rn g.Rc] 24)).heap.size := by simp
  obtain ⟨W1, hW1⟩ : ∃ W1, W1 = w.alloc (.cells #[.string g.nm, .int .i64 g.iv, .int .i64 g.off, .slice g.RA g.Rn g.Rc] 24) := ⟨_, rfl⟩
  rw [← hW1] at hB1 hblk hlt1 hsz1 ⊢
  clear hW1
  have HBLK := Lib.hid hblk
  clear hblk
  refine (has_is g false HS.out W1 (HH.out.later hB1)).mono ?_
  rintro e w3 ⟨rfl, hb3⟩
  go_wp2
  go_ret
  exact ⟨none, 0, 0, rfl, Recs.none_ _ _, hB1.trans (hb3.mono hB1.size)⟩
theorem rTimes_any (g : Lab.Gr) (last now : Int) (w : World) (h : GrIn w w.heap.size g) :
    Calls Try.prog 19 #[.agg #[.string g.nm, .int .i64 g.iv, .int .i64 g.off, .slice g.RA g.Rn g.Rc], .int .i64 last, .int .i64 now] w (IntsR w (Sch.timesG g last now)) := by
  rcases hs : Lab.grSane g with _ | _
  · rw [show Sch.timesG g last now = [] by unfold Sch.timesG; rw [hs, if_neg (by decide)]]
    exact rTimes_none g hs last now w h
  · obtain ⟨I, O, hI, hO, hg⟩ := good_of hs
    rw [show Sch.timesG g last now = Sch.times I O last now by unfold Sch.timesG; rw [hs, if_pos rfl, hI, hO, Int.toNat_natCast, Int.toNat_natCast]]
    obtain ⟨nm, iv, off, RA, Rn, Rc, rs⟩ := g
    simp only at hI hO
    subst hI hO
    exact rTimes_some nm I O RA Rn Rc rs hs hg last now w h
end Go.Proofs.Ythjnhifaejoigaa
