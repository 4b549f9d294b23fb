/- The walks of sched's Next, and of the reference's Due and Next. -/
import Derived.Test.YthjnhifaejoigaaSchB
namespace Go.Proofs.Ythjnhifaejoigaa
open Go.RowKit
set_option linter.unusedSimpArgs false
set_option linter.unusedVariables false

namespace Sch
def nextG (g : Lab.Gr) (now : Int) : Int := if Lab.grSane g = true then next g.iv.toNat g.off.toNat now else -1
theorem cnt_mul {I O : Nat} (h : Good I O) (n : Int) : cnt I O n * I ≤ most + most := by
  have h3 := h.le
  rcases Nat.eq_zero_or_pos (cnt I O n) with h0 | h0
  · rw [h0, Nat.zero_mul]; exact Nat.zero_le _
  · have h1 := (cnt_last h h0).2
    have h2 := tm_succ I O (cnt I O n - 1)
    rw [show cnt I O n - 1 + 1 = cnt I O n by omega] at h2
    unfold tm at h1 h2
    omega
theorem next_big (I O : Nat) {now : Int} (h : (9007199254740992 : Int) ≤ now) : next I O now = -1 := by
  unfold next
  exact if_pos (show ((most : Nat) : Int) ≤ now from h)
theorem next_small (I O : Nat) {now : Int} (h : ¬ (9007199254740992 : Int) ≤ now) : next I O now = if tm I O (cnt I O now) ≤ most then ((tm I O (cnt I O now) : Nat) : Int) else -1 := by
  unfold next
  exact if_neg (show ¬ ((most : Nat) : Int) ≤ now from h)
end Sch

set_option maxRecDepth 100000 in
set_option maxHeartbeats 8000000 in
theorem next_none (g : Lab.Gr) (hs : Lab.grSane g = false) (now : Int) (w : World) (h : GrIn w w.heap.size g) :
    Calls Try.prog 13 #[.agg #[.string g.nm, .int .i64 g.iv, .int .i64 g.off, .slice g.RA g.Rn g.Rc], .int .i64 now] w fun e w' => e = .returned (.int .i64 (-1)) ∧ Below w.heap.size w w' := by
  have HH := Lib.hid h
  have HSN := Lib.hid hs
  clear h hs
  go_enter Try.func13, Try.ntmps13
  go_wp2_with fail
  have hB1 := (Below.refl w.heap.size w).alloc (Nat.le_refl _) (.cells #[.string g.nm, .int .i64 g.iv, .int .i64 g.off, .slice g.RA g.Rn g.Rc] 24)
  have hblk := (Mem.Blk.new w 24 #[.string g.nm, .int .i64 g.iv, .int .i64 g.off, .slice g.RA g.Rn g.Rc])
  have hlt1 : w.heap.size < (w.alloc (.cells #[.string g.nm, .int .i64 g.iv, .int .i64 g.off, .slice g.RA g.Rn g.Rc] 24)).heap.size := by simp
  have hsz1 : w.heap.size ≤ (w.alloc (.cells #[.string g.nm, .int .i64 g.iv, .int .i64 g.off, .slice g.RA g.Rn g.Rc] 24)).heap.size := by simp
  obtain ⟨W1, hW1⟩ : ∃ W1, W1 = w.alloc (.cells #[.string g.nm, .int .i64 g.iv, .int .i64 g.off, .slice g.RA g.Rn g.Rc] 24) := ⟨_, rfl⟩
  rw [← hW1] at hB1 hblk hlt1 hsz1 ⊢
  clear hW1
  have HBLK := Lib.hid hblk
  clear hblk
  refine (schSane_is g false HSN.out W1 ((HH.out.below hB1).more hsz1)).mono ?_
  rintro e w2 ⟨rfl, hb2⟩
  go_wp2
  go_ret
  exact ⟨rfl, hB1.trans (hb2.mono hB1.size)⟩
set_option maxRecDepth 100000 in
set_option maxHeartbeats 8000000 in
theorem rNext_none (g : Lab.Gr) (hs : Lab.grSane g = false) (now : Int) (w : World) (h : GrIn w w.heap.size g) :
    Calls Try.prog 14 #[.agg #[.string g.nm, .int .i64 g.iv, .int .i64 g.off, .slice g.RA g.Rn g.Rc], .int .i64 now] w fun e w' => e = .returned (.int .i64 (-1)) ∧ Below w.heap.size w w' := by
  have HH := Lib.hid h
  have HSN := Lib.hid hs
  clear h hs
  go_enter Try.func14, Try.ntmps14
  go_wp2_with fail
  have hB1 := (Below.refl w.heap.size w).alloc (Nat.le_refl _) (.cells #[.string g.nm, .int .i64 g.iv, .int .i64 g.off, .slice g.RA g.Rn g.Rc] 24)
  have hblk := (Mem.Blk.new w 24 #[.string g.nm, .int .i64 g.iv, .int .i64 g.off, .slice g.RA g.Rn g.Rc])
  have hlt1 : w.heap.size < (w.alloc (.cells #[.string g.nm, .int .i64 g.iv, .int .i64 g.off, .slice g.RA g.Rn g.Rc] 24)).heap.size := by simp
  have hsz1 : w.heap.size ≤ (w.alloc (.cells #[.string g.nm, .int .i64 g.iv, .int .i64 g.off, .slice g.RA g.Rn g.Rc] 24)).heap.size := by simp
  obtain ⟨W1, hW1⟩ : ∃ W1, W1 = w.alloc (.cells #[.string g.nm, .int .i64 g.iv, .int .i64 g.off, .slice g.RA g.Rn g.Rc] 24) := ⟨_, rfl⟩
  rw [← hW1] at hB1 hblk hlt1 hsz1 ⊢
  clear hW1
  have HBLK := Lib.hid hblk
  clear hblk
  refine (has_is g false HSN.out W1 ((HH.out.below hB1).more hsz1)).mono ?_
  rintro e w2 ⟨rfl, hb2⟩
  go_wp2
  go_ret
  exact ⟨rfl, hB1.trans (hb2.mono hB1.size)⟩
set_option maxRecDepth 100000 in
set_option maxHeartbeats 8000000 in
theorem rDue_none (g : Lab.Gr) (hs : Lab.grSane g = false) (last now : Int) (w : World) (h : GrIn w w.heap.size g) :
    Calls Try.prog 12 #[.agg #[.string g.nm, .int .i64 g.iv, .int .i64 g.off, .slice g.RA g.Rn g.Rc], .int .i64 last, .int .i64 now] w (DueR w none) := by
  have HH := Lib.hid h
  have HSN := Lib.hid hs
  clear h hs
  go_enter Try.func12, Try.ntmps12
  go_wp2_with fail
  have hB1 := (Below.refl w.heap.size w).alloc (Nat.le_refl _) (.cells #[.string g.nm, .int .i64 g.iv, .int .i64 g.off, .slice g.RA g.Rn g.Rc] 24)
  have hblk := (Mem.Blk.new w 24 #[.string g.nm, .int .i64 g.iv, .int .i64 g.off, .slice g.RA g.Rn g.Rc])
  have hlt1 : w.heap.size < (w.alloc (.cells #[.string g.nm, .int .i64 g.iv, .int .i64 g.off, .slice g.RA g.Rn g.Rc] 24)).heap.size := by simp
  have hsz1 : w.heap.size ≤ (w.alloc (.cells #[.string g.nm, .int .i64 g.iv, .int .i64 g.off, .slice g.RA g.Rn g.Rc] 24)).heap.size := by simp
  obtain ⟨W1, hW1⟩ : ∃ W1, W1 = w.alloc (.cells #[.string g.nm, .int .i64 g.iv, .int .i64 g.off, .slice g.RA g.Rn g.Rc] 24) := ⟨_, rfl⟩
  rw [← hW1] at hB1 hblk hlt1 hsz1 ⊢
  clear hW1
  have HBLK := Lib.hid hblk
  clear hblk
  refine (has_is g false HSN.out W1 ((HH.out.below hB1).more hsz1)).mono ?_
  rintro e w2 ⟨rfl, hb2⟩
  go_wp2
  go_ret3
  exact ⟨rfl, hB1.trans (hb2.mono hB1.size)⟩

set_option maxRecDepth 100000 in
set_option maxHeartbeats 16000000 in
theorem next_some (g : Lab.Gr) (hs : Lab.grSane g = true) (I O : Nat) (hI : g.iv = (I : Int)) (hO : g.off = (O : Int)) (hg : Sch.Good I O) (now res : Int) (hres : Sch.next I O now = res) (w : World) (h : GrIn w w.heap.size g) :
    Calls Try.prog 13 #[.agg #[.string g.nm, .int .i64 g.iv, .int .i64 g.off, .slice g.RA g.Rn g.Rc], .int .i64 now] w fun e w' => e = .returned (.int .i64 res) ∧ Below w.heap.size w w' := by
  obtain ⟨nm, iv, off, RA, Rn, Rc, rs⟩ := g
  simp only at hI hO
  subst hI hO
  have HH := Lib.hid h
  have HSN := Lib.hid hs
  have g1 := hg.pos
  have g2 := hg.lt
  have g3 := hg.le
  unfold Sch.most at g3
  clear h hs
  by_cases hbig : (9007199254740992 : Int) ≤ now
  · have hdb : decide ((9007199254740992 : Int) ≤ now) = true := decide_eq_true hbig
    have hr : res = -1 := by rw [← hres]; exact Sch.next_big I O hbig
    subst hr
    clear hres
    go_enter Try.func13, Try.ntmps13
    go_wp2_with fail
    have hB1 := (Below.refl w.heap.size w).alloc (Nat.le_refl _) (.cells #[.string nm, .int .i64 (I : Int), .int .i64 (O : Int), .slice RA Rn Rc] 24)
    have hblk := (Mem.Blk.new w 24 #[.string nm, .int .i64 (I : Int), .int .i64 (O : Int), .slice RA Rn Rc])
    have hlt1 : w.heap.size < (w.alloc (.cells #[.string nm, .int .i64 (I : Int), .int .i64 (O : Int), .slice RA Rn Rc] 24)).heap.size := by simp
    have hsz1 : w.heap.size ≤ (w.alloc (.cells #[.string nm, .int .i64 (I : Int), .int .i64 (O : Int), .slice RA Rn Rc] 24)).heap.size := by simp
    obtain ⟨W1, hW1⟩ : ∃ W1, W1 = w.alloc (.cells #[.string nm, .int .i64 (I : Int), .int .i64 (O : Int), .slice RA Rn Rc] 24) := ⟨_, rfl⟩
    rw [← hW1] at hB1 hblk hlt1 hsz1 ⊢
    clear hW1
    have HBLK := Lib.hid hblk
    clear hblk
    refine (schSane_is ⟨nm, (I : Int), (O : Int), RA, Rn, Rc, rs⟩ true HSN.out W1 ((HH.out.below hB1).more hsz1)).mono ?_
    rintro e w2 ⟨rfl, hb2⟩
    have v0 : w2.cell? ⟨w.heap.size, 0, none⟩ = some (.string nm) := (hb2.cell (p := ⟨w.heap.size, 0, none⟩) hlt1).trans (HBLK.out.cell 0)
    have v1 : w2.cell? ⟨w.heap.size, 1, none⟩ = some (.int .i64 (I : Int)) := (hb2.cell (p := ⟨w.heap.size, 1, none⟩) hlt1).trans (HBLK.out.cell 1)
    have v2 : w2.cell? ⟨w.heap.size, 2, none⟩ = some (.int .i64 (O : Int)) := (hb2.cell (p := ⟨w.heap.size, 2, none⟩) hlt1).trans (HBLK.out.cell 2)
    have v3 : w2.cell? ⟨w.heap.size, 3, none⟩ = some (.slice RA Rn Rc) := (hb2.cell (p := ⟨w.heap.size, 3, none⟩) hlt1).trans (HBLK.out.cell 3)
    go_wp2
    go_ret
    exact ⟨rfl, hB1.trans (hb2.mono hB1.size)⟩
  · have hdb : decide ((9007199254740992 : Int) ≤ now) = false := decide_eq_false hbig
    have hr0 : (if Sch.tm I O (Sch.cnt I O now) ≤ Sch.most then ((Sch.tm I O (Sch.cnt I O now) : Nat) : Int) else -1) = res := by
      rw [← hres]
      exact (Sch.next_small I O hbig).symm
    clear hres
    by_cases h0 : now < (O : Int)
    · have hd : decide (now < (O : Int)) = true := decide_eq_true h0
      have hr : res = (O : Int) := by
        rw [← hr0]
        have hc : Sch.cnt I O now = 0 := by unfold Sch.cnt; rw [if_pos h0]
        rw [hc]
        unfold Sch.tm Sch.most
        rw [if_pos (by omega), Nat.zero_mul, Nat.add_zero]
      subst hr
      clear hr0
      go_enter Try.func13, Try.ntmps13
      go_wp2_with fail
      have hB1 := (Below.refl w.heap.size w).alloc (Nat.le_refl _) (.cells #[.string nm, .int .i64 (I : Int), .int .i64 (O : Int), .slice RA Rn Rc] 24)
      have hblk := (Mem.Blk.new w 24 #[.string nm, .int .i64 (I : Int), .int .i64 (O : Int), .slice RA Rn Rc])
      have hlt1 : w.heap.size < (w.alloc (.cells #[.string nm, .int .i64 (I : Int), .int .i64 (O : Int), .slice RA Rn Rc] 24)).heap.size := by simp
      have hsz1 : w.heap.size ≤ (w.alloc (.cells #[.string nm, .int .i64 (I : Int), .int .i64 (O : Int), .slice RA Rn Rc] 24)).heap.size := by simp
      obtain ⟨W1, hW1⟩ : ∃ W1, W1 = w.alloc (.cells #[.string nm, .int .i64 (I : Int), .int .i64 (O : Int), .slice RA Rn Rc] 24) := ⟨_, rfl⟩
      rw [← hW1] at hB1 hblk hlt1 hsz1 ⊢
      clear hW1
      have HBLK := Lib.hid hblk
      clear hblk
      refine (schSane_is ⟨nm, (I : Int), (O : Int), RA, Rn, Rc, rs⟩ true HSN.out W1 ((HH.out.below hB1).more hsz1)).mono ?_
      rintro e w2 ⟨rfl, hb2⟩
      have v0 : w2.cell? ⟨w.heap.size, 0, none⟩ = some (.string nm) := (hb2.cell (p := ⟨w.heap.size, 0, none⟩) hlt1).trans (HBLK.out.cell 0)
      have v1 : w2.cell? ⟨w.heap.size, 1, none⟩ = some (.int .i64 (I : Int)) := (hb2.cell (p := ⟨w.heap.size, 1, none⟩) hlt1).trans (HBLK.out.cell 1)
      have v2 : w2.cell? ⟨w.heap.size, 2, none⟩ = some (.int .i64 (O : Int)) := (hb2.cell (p := ⟨w.heap.size, 2, none⟩) hlt1).trans (HBLK.out.cell 2)
      have v3 : w2.cell? ⟨w.heap.size, 3, none⟩ = some (.slice RA Rn Rc) := (hb2.cell (p := ⟨w.heap.size, 3, none⟩) hlt1).trans (HBLK.out.cell 3)
      go_wp2
      go_ret
      exact ⟨rfl, hB1.trans (hb2.mono hB1.size)⟩
    · have hd : decide (now < (O : Int)) = false := decide_eq_false h0
      obtain ⟨d, hd2⟩ : ∃ d : Nat, now - (O : Int) = (d : Int) := ⟨(now - (O : Int)).toNat, by omega⟩
      have hdb2 : d ≤ 9007199254740992 := by omega
      obtain ⟨q, hq⟩ : ∃ q, q = d / I := ⟨_, rfl⟩
      have hq1 : Int.tdiv (d : Int) (I : Int) = (q : Int) := by rw [hq]; rfl
      have hq2 : (d : Int) / (I : Int) = (q : Int) := by rw [hq]; rfl
      have hqb : q ≤ 9007199254740992 := by rw [hq]; exact Nat.le_trans (Nat.div_le_self _ _) hdb2
      have hI0 : ¬ I = 0 := by omega
      have hc : Sch.cnt I O now = q + 1 := by
        rw [show now = ((d + O : Nat) : Int) by omega, Sch.cnt_in (by unfold Sch.most; omega) (by omega), Nat.add_sub_cancel, hq]
      obtain ⟨p, hp⟩ : ∃ p, p = (q + 1) * I := ⟨_, rfl⟩
      have hpi : ((q : Int) + 1) * (I : Int) = (p : Int) := by rw [hp, Int.natCast_mul]; rfl
      have hpd : p ≤ d + I := by
        have := Nat.div_mul_le_self d I
        rw [hp, hq, Nat.add_mul]
        omega
      have htm : Sch.tm I O (q + 1) = O + p := by unfold Sch.tm; rw [hp]
      rw [hc, htm] at hr0
      by_cases hov : (9007199254740992 : Int) < (O : Int) + (p : Int)
      · have hdo : decide ((9007199254740992 : Int) < (O : Int) + (p : Int)) = true := decide_eq_true hov
        have hr : res = -1 := by rw [← hr0, if_neg (by unfold Sch.most; omega)]
        subst hr
        have s1 : IntKind.i64.wrap (now - (O : Int)) = (d : Int) := by rw [hd2]; exact IntWalk.i64_in _ (by omega)
        have s2 : IntKind.i64.wrap (q : Int) = (q : Int) := IntWalk.i64_in _ (by omega)
        have s3 : IntKind.i64.wrap ((q : Int) + 1) = (q : Int) + 1 := IntWalk.i64_in _ (by omega)
        have s4 : IntKind.i64.wrap (p : Int) = (p : Int) := IntWalk.i64_in _ (by omega)
        have s5 : IntKind.i64.wrap ((O : Int) + (p : Int)) = (O : Int) + (p : Int) := IntWalk.i64_in _ (by omega)
        clear hr0 hc hq hp htm
        go_enter Try.func13, Try.ntmps13
        go_wp2_with fail
        have hB1 := (Below.refl w.heap.size w).alloc (Nat.le_refl _) (.cells #[.string nm, .int .i64 (I : Int), .int .i64 (O : Int), .slice RA Rn Rc] 24)
        have hblk := (Mem.Blk.new w 24 #[.string nm, .int .i64 (I : Int), .int .i64 (O : Int), .slice RA Rn Rc])
        have hlt1 : w.heap.size < (w.alloc (.cells #[.string nm, .int .i64 (I : Int), .int .i64 (O : Int), .slice RA Rn Rc] 24)).heap.size := by simp
        have hsz1 : w.heap.size ≤ (w.alloc (.cells #[.string nm, .int .i64 (I : Int), .int .i64 (O : Int), .slice RA Rn Rc] 24)).heap.size := by simp
        obtain ⟨W1, hW1⟩ : ∃ W1, W1 = w.alloc (.cells #[.string nm, .int .i64 (I : Int), .int .i64 (O : Int), .slice RA Rn Rc] 24) := ⟨_, rfl⟩
        rw [← hW1] at hB1 hblk hlt1 hsz1 ⊢
        clear hW1
        have HBLK := Lib.hid hblk
        clear hblk
        refine (schSane_is ⟨nm, (I : Int), (O : Int), RA, Rn, Rc, rs⟩ true HSN.out W1 ((HH.out.below hB1).more hsz1)).mono ?_
        rintro e w2 ⟨rfl, hb2⟩
        have v0 : w2.cell? ⟨w.heap.size, 0, none⟩ = some (.string nm) := (hb2.cell (p := ⟨w.heap.size, 0, none⟩) hlt1).trans (HBLK.out.cell 0)
        have v1 : w2.cell? ⟨w.heap.size, 1, none⟩ = some (.int .i64 (I : Int)) := (hb2.cell (p := ⟨w.heap.size, 1, none⟩) hlt1).trans (HBLK.out.cell 1)
        have v2 : w2.cell? ⟨w.heap.size, 2, none⟩ = some (.int .i64 (O : Int)) := (hb2.cell (p := ⟨w.heap.size, 2, none⟩) hlt1).trans (HBLK.out.cell 2)
        have v3 : w2.cell? ⟨w.heap.size, 3, none⟩ = some (.slice RA Rn Rc) := (hb2.cell (p := ⟨w.heap.size, 3, none⟩) hlt1).trans (HBLK.out.cell 3)
        go_wp2
        go_quiet (fail)
        clear s1 s2 s3 s4 s5
        go_wp2
        go_ret
        exact ⟨rfl, Mem.below_drewN (hB1.trans (hb2.mono hB1.size)) _⟩
      · have hdo : decide ((9007199254740992 : Int) < (O : Int) + (p : Int)) = false := decide_eq_false hov
        have hr : res = (O : Int) + (p : Int) := by rw [← hr0, if_pos (by unfold Sch.most; omega)]; rfl
        subst hr
        have s1 : IntKind.i64.wrap (now - (O : Int)) = (d : Int) := by rw [hd2]; exact IntWalk.i64_in _ (by omega)
        have s2 : IntKind.i64.wrap (q : Int) = (q : Int) := IntWalk.i64_in _ (by omega)
        have s3 : IntKind.i64.wrap ((q : Int) + 1) = (q : Int) + 1 := IntWalk.i64_in _ (by omega)
        have s4 : IntKind.i64.wrap (p : Int) = (p : Int) := IntWalk.i64_in _ (by omega)
        have s5 : IntKind.i64.wrap ((O : Int) + (p : Int)) = (O : Int) + (p : Int) := IntWalk.i64_in _ (by omega)
        clear hr0 hc hq hp htm
        go_enter Try.func13, Try.ntmps13
        go_wp2_with fail
        have hB1 := (Below.refl w.heap.size w).alloc (Nat.le_refl _) (.cells #[.string nm, .int .i64 (I : Int), .int .i64 (O : Int), .slice RA Rn Rc] 24)
        have hblk := (Mem.Blk.new w 24 #[.string nm, .int .i64 (I : Int), .int .i64 (O : Int), .slice RA Rn Rc])
        have hlt1 : w.heap.size < (w.alloc (.cells #[.string nm, .int .i64 (I : Int), .int .i64 (O : Int), .slice RA Rn Rc] 24)).heap.size := by simp
        have hsz1 : w.heap.size ≤ (w.alloc (.cells #[.string nm, .int .i64 (I : Int), .int .i64 (O : Int), .slice RA Rn Rc] 24)).heap.size := by simp
        obtain ⟨W1, hW1⟩ : ∃ W1, W1 = w.alloc (.cells #[.string nm, .int .i64 (I : Int), .int .i64 (O : Int), .slice RA Rn Rc] 24) := ⟨_, rfl⟩
        rw [← hW1] at hB1 hblk hlt1 hsz1 ⊢
        clear hW1
        have HBLK := Lib.hid hblk
        clear hblk
        refine (schSane_is ⟨nm, (I : Int), (O : Int), RA, Rn, Rc, rs⟩ true HSN.out W1 ((HH.out.below hB1).more hsz1)).mono ?_
        rintro e w2 ⟨rfl, hb2⟩
        have v0 : w2.cell? ⟨w.heap.size, 0, none⟩ = some (.string nm) := (hb2.cell (p := ⟨w.heap.size, 0, none⟩) hlt1).trans (HBLK.out.cell 0)
        have v1 : w2.cell? ⟨w.heap.size, 1, none⟩ = some (.int .i64 (I : Int)) := (hb2.cell (p := ⟨w.heap.size, 1, none⟩) hlt1).trans (HBLK.out.cell 1)
        have v2 : w2.cell? ⟨w.heap.size, 2, none⟩ = some (.int .i64 (O : Int)) := (hb2.cell (p := ⟨w.heap.size, 2, none⟩) hlt1).trans (HBLK.out.cell 2)
        have v3 : w2.cell? ⟨w.heap.size, 3, none⟩ = some (.slice RA Rn Rc) := (hb2.cell (p := ⟨w.heap.size, 3, none⟩) hlt1).trans (HBLK.out.cell 3)
        go_wp2
        go_quiet (fail)
        clear s1 s2 s3 s4 s5
        go_wp2
        go_ret
        exact ⟨rfl, Mem.below_drewN (hB1.trans (hb2.mono hB1.size)) _⟩
set_option maxRecDepth 100000 in
set_option maxHeartbeats 16000000 in
theorem rNext_some (g : Lab.Gr) (hs : Lab.grSane g = true) (I O : Nat) (hI : g.iv = (I : Int)) (hO : g.off = (O : Int)) (hg : Sch.Good I O) (now res : Int) (hres : Sch.next I O now = res) (w : World) (h : GrIn w w.heap.size g) :
    Calls Try.prog 14 #[.agg #[.string g.nm, .int .i64 g.iv, .int .i64 g.off, .slice g.RA g.Rn g.Rc], .int .i64 now] w fun e w' => e = .returned (.int .i64 res) ∧ Below w.heap.size w w' := by
  obtain ⟨nm, iv, off, RA, Rn, Rc, rs⟩ := g
  simp only at hI hO
  subst hI hO
  have HH := Lib.hid h
  have HSN := Lib.hid hs
  have g1 := hg.pos
  have g2 := hg.lt
  have g3 := hg.le
  unfold Sch.most at g3
  clear h hs
  by_cases hbig : (9007199254740992 : Int) ≤ now
  · have hdb : decide ((9007199254740992 : Int) ≤ now) = true := decide_eq_true hbig
    have hr : res = -1 := by rw [← hres]; exact Sch.next_big I O hbig
    subst hr
    clear hres
    go_enter Try.func14, Try.ntmps14
    go_wp2_with fail
    have hB1 := (Below.refl w.heap.size w).alloc (Nat.le_refl _) (.cells #[.string nm, .int .i64 (I : Int), .int .i64 (O : Int), .slice RA Rn Rc] 24)
    have hblk := (Mem.Blk.new w 24 #[.string nm, .int .i64 (I : Int), .int .i64 (O : Int), .slice RA Rn Rc])
    have hlt1 : w.heap.size < (w.alloc (.cells #[.string nm, .int .i64 (I : Int), .int .i64 (O : Int), .slice RA Rn Rc] 24)).heap.size := by simp
    have hsz1 : w.heap.size ≤ (w.alloc (.cells #[.string nm, .int .i64 (I : Int), .int .i64 (O : Int), .slice RA Rn Rc] 24)).heap.size := by simp
    obtain ⟨W1, hW1⟩ : ∃ W1, W1 = w.alloc (.cells #[.string nm, .int .i64 (I : Int), .int .i64 (O : Int), .slice RA Rn Rc] 24) := ⟨_, rfl⟩
    rw [← hW1] at hB1 hblk hlt1 hsz1 ⊢
    clear hW1
    have HBLK := Lib.hid hblk
    clear hblk
    refine (has_is ⟨nm, (I : Int), (O : Int), RA, Rn, Rc, rs⟩ true HSN.out W1 ((HH.out.below hB1).more hsz1)).mono ?_
    rintro e w2 ⟨rfl, hb2⟩
    have v0 : w2.cell? ⟨w.heap.size, 0, none⟩ = some (.string nm) := (hb2.cell (p := ⟨w.heap.size, 0, none⟩) hlt1).trans (HBLK.out.cell 0)
    have v1 : w2.cell? ⟨w.heap.size, 1, none⟩ = some (.int .i64 (I : Int)) := (hb2.cell (p := ⟨w.heap.size, 1, none⟩) hlt1).trans (HBLK.out.cell 1)
    have v2 : w2.cell? ⟨w.heap.size, 2, none⟩ = some (.int .i64 (O : Int)) := (hb2.cell (p := ⟨w.heap.size, 2, none⟩) hlt1).trans (HBLK.out.cell 2)
    have v3 : w2.cell? ⟨w.heap.size, 3, none⟩ = some (.slice RA Rn Rc) := (hb2.cell (p := ⟨w.heap.size, 3, none⟩) hlt1).trans (HBLK.out.cell 3)
    go_wp2
    go_ret
    exact ⟨rfl, hB1.trans (hb2.mono hB1.size)⟩
  · have hdb : decide ((9007199254740992 : Int) ≤ now) = false := decide_eq_false hbig
    have hr0 : (if Sch.tm I O (Sch.cnt I O now) ≤ Sch.most then ((Sch.tm I O (Sch.cnt I O now) : Nat) : Int) else -1) = res := by
      rw [← hres]
      exact (Sch.next_small I O hbig).symm
    clear hres
    have hcb := Sch.cnt_bound hg now
    have hmul := Sch.cnt_mul hg now
    obtain ⟨k, hk⟩ : ∃ k, Sch.cnt I O now = k := ⟨_, rfl⟩
    rw [hk] at hr0 hcb hmul
    unfold Sch.most at hcb hmul
    obtain ⟨p, hp⟩ : ∃ p, p = k * I := ⟨_, rfl⟩
    have hpi : (k : Int) * (I : Int) = (p : Int) := by rw [hp, Int.natCast_mul]
    have htm : Sch.tm I O k = O + p := by unfold Sch.tm; rw [hp]
    rw [← hp] at hmul
    rw [htm] at hr0
    have HB := Lib.hid (fun w => below_is ⟨nm, (I : Int), (O : Int), RA, Rn, Rc, rs⟩ I O rfl rfl hg now k hk w)
    by_cases hov : (9007199254740992 : Int) - (p : Int) < (O : Int)
    · have hdo : decide ((9007199254740992 : Int) - (p : Int) < (O : Int)) = true := decide_eq_true hov
      have hr : res = -1 := by rw [← hr0, if_neg (by unfold Sch.most; omega)]
      subst hr
      clear hr0 hk hp htm
      go_enter Try.func14, Try.ntmps14
      go_wp2_with fail
      have hB1 := (Below.refl w.heap.size w).alloc (Nat.le_refl _) (.cells #[.string nm, .int .i64 (I : Int), .int .i64 (O : Int), .slice RA Rn Rc] 24)
      have hblk := (Mem.Blk.new w 24 #[.string nm, .int .i64 (I : Int), .int .i64 (O : Int), .slice RA Rn Rc])
      have hlt1 : w.heap.size < (w.alloc (.cells #[.string nm, .int .i64 (I : Int), .int .i64 (O : Int), .slice RA Rn Rc] 24)).heap.size := by simp
      have hsz1 : w.heap.size ≤ (w.alloc (.cells #[.string nm, .int .i64 (I : Int), .int .i64 (O : Int), .slice RA Rn Rc] 24)).heap.size := by simp
      obtain ⟨W1, hW1⟩ : ∃ W1, W1 = w.alloc (.cells #[.string nm, .int .i64 (I : Int), .int .i64 (O : Int), .slice RA Rn Rc] 24) := ⟨_, rfl⟩
      rw [← hW1] at hB1 hblk hlt1 hsz1 ⊢
      clear hW1
      have HBLK := Lib.hid hblk
      clear hblk
      refine (has_is ⟨nm, (I : Int), (O : Int), RA, Rn, Rc, rs⟩ true HSN.out W1 ((HH.out.below hB1).more hsz1)).mono ?_
      rintro e w2 ⟨rfl, hb2⟩
      have v0 : w2.cell? ⟨w.heap.size, 0, none⟩ = some (.string nm) := (hb2.cell (p := ⟨w.heap.size, 0, none⟩) hlt1).trans (HBLK.out.cell 0)
      have v1 : w2.cell? ⟨w.heap.size, 1, none⟩ = some (.int .i64 (I : Int)) := (hb2.cell (p := ⟨w.heap.size, 1, none⟩) hlt1).trans (HBLK.out.cell 1)
      have v2 : w2.cell? ⟨w.heap.size, 2, none⟩ = some (.int .i64 (O : Int)) := (hb2.cell (p := ⟨w.heap.size, 2, none⟩) hlt1).trans (HBLK.out.cell 2)
      have v3 : w2.cell? ⟨w.heap.size, 3, none⟩ = some (.slice RA Rn Rc) := (hb2.cell (p := ⟨w.heap.size, 3, none⟩) hlt1).trans (HBLK.out.cell 3)
      have hlt2 := Nat.lt_of_lt_of_le hlt1 hb2.size
      go_wp2_with fail
      refine (HB.out _).mono ?_
      rintro e w3 ⟨rfl, hb3⟩
      have z1 := (hb3.cell (p := ⟨w.heap.size, 1, none⟩) hlt2).trans v1
      have z2 := (hb3.cell (p := ⟨w.heap.size, 2, none⟩) hlt2).trans v2
      clear v0 v1 v2 v3
      go_wp2
      go_ret
      exact ⟨rfl, (hB1.trans (hb2.mono hB1.size)).trans (hb3.mono (hB1.trans (hb2.mono hB1.size)).size)⟩
    · have hdo : decide ((9007199254740992 : Int) - (p : Int) < (O : Int)) = false := decide_eq_false hov
      have hr : res = (O : Int) + (p : Int) := by rw [← hr0, if_pos (by unfold Sch.most; omega)]; rfl
      subst hr
      clear hr0 hk hp htm
      go_enter Try.func14, Try.ntmps14
      go_wp2_with fail
      have hB1 := (Below.refl w.heap.size w).alloc (Nat.le_refl _) (.cells #[.string nm, .int .i64 (I : Int), .int .i64 (O : Int), .slice RA Rn Rc] 24)
      have hblk := (Mem.Blk.new w 24 #[.string nm, .int .i64 (I : Int), .int .i64 (O : Int), .slice RA Rn Rc])
      have hlt1 : w.heap.size < (w.alloc (.cells #[.string nm, .int .i64 (I : Int), .int .i64 (O : Int), .slice RA Rn Rc] 24)).heap.size := by simp
      have hsz1 : w.heap.size ≤ (w.alloc (.cells #[.string nm, .int .i64 (I : Int), .int .i64 (O : Int), .slice RA Rn Rc] 24)).heap.size := by simp
      obtain ⟨W1, hW1⟩ : ∃ W1, W1 = w.alloc (.cells #[.string nm, .int .i64 (I : Int), .int .i64 (O : Int), .slice RA Rn Rc] 24) := ⟨_, rfl⟩
      rw [← hW1] at hB1 hblk hlt1 hsz1 ⊢
      clear hW1
      have HBLK := Lib.hid hblk
      clear hblk
      refine (has_is ⟨nm, (I : Int), (O : Int), RA, Rn, Rc, rs⟩ true HSN.out W1 ((HH.out.below hB1).more hsz1)).mono ?_
      rintro e w2 ⟨rfl, hb2⟩
      have v0 : w2.cell? ⟨w.heap.size, 0, none⟩ = some (.string nm) := (hb2.cell (p := ⟨w.heap.size, 0, none⟩) hlt1).trans (HBLK.out.cell 0)
      have v1 : w2.cell? ⟨w.heap.size, 1, none⟩ = some (.int .i64 (I : Int)) := (hb2.cell (p := ⟨w.heap.size, 1, none⟩) hlt1).trans (HBLK.out.cell 1)
      have v2 : w2.cell? ⟨w.heap.size, 2, none⟩ = some (.int .i64 (O : Int)) := (hb2.cell (p := ⟨w.heap.size, 2, none⟩) hlt1).trans (HBLK.out.cell 2)
      have v3 : w2.cell? ⟨w.heap.size, 3, none⟩ = some (.slice RA Rn Rc) := (hb2.cell (p := ⟨w.heap.size, 3, none⟩) hlt1).trans (HBLK.out.cell 3)
      have hlt2 := Nat.lt_of_lt_of_le hlt1 hb2.size
      go_wp2_with fail
      refine (HB.out _).mono ?_
      rintro e w3 ⟨rfl, hb3⟩
      have z1 := (hb3.cell (p := ⟨w.heap.size, 1, none⟩) hlt2).trans v1
      have z2 := (hb3.cell (p := ⟨w.heap.size, 2, none⟩) hlt2).trans v2
      clear v0 v1 v2 v3
      go_wp2
      go_ret
      exact ⟨rfl, (hB1.trans (hb2.mono hB1.size)).trans (hb3.mono (hB1.trans (hb2.mono hB1.size)).size)⟩
end Go.Proofs.Ythjnhifaejoigaa
