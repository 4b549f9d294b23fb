/- A group in its box; what the law SchedNext asks. -/
import Derived.Test.YthjnhifaejoigaaSchG
namespace Go.Proofs.Ythjnhifaejoigaa
open Go.RowKit
set_option linter.unusedSimpArgs false
set_option linter.unusedVariables false

/-- a group's four cells -/
def GBox (W : World) (b : Nat) (g : Lab.Gr) : Prop :=
  W.cell? ⟨b, 0, none⟩ = some (.string g.nm) ∧ W.cell? ⟨b, 1, none⟩ = some (.int .i64 g.iv) ∧ W.cell? ⟨b, 2, none⟩ = some (.int .i64 g.off) ∧ W.cell? ⟨b, 3, none⟩ = some (.slice g.RA g.Rn g.Rc) ∧ b < W.heap.size
theorem GBox.later {W W' : World} {b : Nat} {g : Lab.Gr} (h : GBox W b g) (hb : Below W.heap.size W W') : GBox W' b g :=
  ⟨(hb.cell (p := ⟨b, 0, none⟩) h.2.2.2.2).trans h.1, (hb.cell (p := ⟨b, 1, none⟩) h.2.2.2.2).trans h.2.1, (hb.cell (p := ⟨b, 2, none⟩) h.2.2.2.2).trans h.2.2.1, (hb.cell (p := ⟨b, 3, none⟩) h.2.2.2.2).trans h.2.2.2.1, Nat.lt_of_lt_of_le h.2.2.2.2 hb.size⟩
theorem few_one (g : Lab.Gr) (W : World) (h : GrIn W W.heap.size g) :
    Calls Try.prog 10 #[.slice (some ⟨W.heap.size, 0, none⟩) 1 1] (W.alloc (.cells #[.string g.nm, .int .i64 g.iv, .int .i64 g.off, .slice g.RA g.Rn g.Rc] 24))
      fun e w' => ∃ b : Bool, e = .returned (.bool b) ∧ Below W.heap.size W w' := by
  have hb := (Below.refl W.heap.size W).alloc (Nat.le_refl _) (.cells #[.string g.nm, .int .i64 g.iv, .int .i64 g.off, .slice g.RA g.Rn g.Rc] 24)
  refine (few11_any _ 1 1 [g] _ (fiIn_one h hb (Mem.Blk.new W 24 #[.string g.nm, .int .i64 g.iv, .int .i64 g.off, .slice g.RA g.Rn g.Rc]))).mono ?_
  rintro e w' ⟨b, rfl, hb'⟩
  exact ⟨b, rfl, hb.trans (hb'.mono hb.size)⟩
theorem sane_one (g : Lab.Gr) (bb : Bool) (hbb : Lab.grSane g = bb) (W : World) (h : GrIn W W.heap.size g) :
    Calls Try.prog 20 #[.slice (some ⟨W.heap.size, 0, none⟩) 1 1] (W.alloc (.cells #[.string g.nm, .int .i64 g.iv, .int .i64 g.off, .slice g.RA g.Rn g.Rc] 24))
      fun e w' => e = .returned (.bool bb) ∧ Below W.heap.size W w' := by
  have hb := (Below.refl W.heap.size W).alloc (Nat.le_refl _) (.cells #[.string g.nm, .int .i64 g.iv, .int .i64 g.off, .slice g.RA g.Rn g.Rc] 24)
  refine (fiSane_is _ 1 1 [g] bb (by rw [fiSane_one, hbb]) _ (fiIn_one h hb (Mem.Blk.new W 24 #[.string g.nm, .int .i64 g.iv, .int .i64 g.off, .slice g.RA g.Rn g.Rc]))).mono ?_
  rintro e w' ⟨rfl, hb'⟩
  exact ⟨rfl, hb.trans (hb'.mono hb.size)⟩
namespace Sch
theorem next_due {I O : Nat} (h : Good I O) {now : Int} (hn : 0 ≤ next I O now) : next I O now ≤ 9007199254740992 ∧ ∃ m : Nat, next I O now = (m : Int) ∧ due I O now (next I O now) = some (m, 0) ∧ due I O now (next I O now - 1) = none := by
  obtain ⟨hf, hm⟩ := next_form h hn
  have hm' : tm I O (cnt I O now) ≤ 9007199254740992 := hm
  refine ⟨by omega, tm I O (cnt I O now), hf, ?_, ?_⟩
  · have h1 : cnt I O now < cnt I O (next I O now) := (lt_cnt h _ _).2 ⟨by omega, hm⟩
    have h2 : cnt I O (next I O now) ≤ cnt I O now + 1 := (cnt_le h).2 fun hh => by
      have := hh.1
      rw [tm_succ] at this
      have := h.pos
      omega
    unfold due
    rw [if_neg (by omega), show cnt I O (next I O now) = cnt I O now + 1 by omega, Nat.add_sub_cancel, Nat.sub_self]
  · have h2 : cnt I O (next I O now - 1) ≤ cnt I O now := (cnt_le h).2 fun hh => by
      have := hh.1
      omega
    unfold due
    rw [if_pos h2]
theorem dueG_is {g : Lab.Gr} (hs : Lab.grSane g = true) {I O : Nat} (hI : g.iv = (I : Int)) (hO : g.off = (O : Int)) (last now : Int) : dueG g last now = due I O last now := by
  unfold dueG
  rw [hs, if_pos rfl, hI, hO, Int.toNat_natCast, Int.toNat_natCast]
theorem nextG_is {g : Lab.Gr} (hs : Lab.grSane g = true) {I O : Nat} (hI : g.iv = (I : Int)) (hO : g.off = (O : Int)) (now : Int) : nextG g now = next I O now := by
  unfold nextG
  rw [hs, if_pos rfl, hI, hO, Int.toNat_natCast, Int.toNat_natCast]
theorem nextG_due {g : Lab.Gr} (hs : Lab.grSane g = true) {now : Int} (hn : 0 ≤ nextG g now) : nextG g now ≤ 9007199254740992 ∧ ∃ m : Nat, nextG g now = (m : Int) ∧ dueG g now (nextG g now) = some (m, 0) ∧ dueG g now (nextG g now - 1) = none := by
  obtain ⟨I, O, hI, hO, hg⟩ := good_of hs
  rw [nextG_is hs hI hO] at *
  rw [dueG_is hs hI hO, dueG_is hs hI hO]
  exact next_due hg hn
end Sch

end Go.Proofs.Ythjnhifaejoigaa
