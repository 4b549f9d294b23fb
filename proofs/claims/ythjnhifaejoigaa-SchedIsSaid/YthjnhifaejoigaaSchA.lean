/- The walks of sched's sane, and of the reference's has and below. -/
import Derived.Test.YthjnhifaejoigaaLabJ
import Derived.Test.YthjnhifaejoigaaSchPlain
namespace Go.Proofs.Ythjnhifaejoigaa
open Go.RowKit
set_option linter.unusedSimpArgs false
set_option linter.unusedVariables false

theorem fiSane_one (g : Lab.Gr) : Lab.fiSane [g] = Lab.grSane g := by
  unfold Lab.fiSane
  rw [show ([g] : List Lab.Gr).length = 1 from rfl]
  unfold Lab.allTo Lab.allTo
  rw [Lab.fiAt_is (k := 0) rfl]
  simp [Lab.named, Lab.allTo]
theorem fiIn_one {W W' : World} {g : Lab.Gr} {b : Nat} (h : GrIn W W.heap.size g) (hb : Below W.heap.size W W') (hblk : Mem.Blk W' b 24 #[.string g.nm, .int .i64 g.iv, .int .i64 g.off, .slice g.RA g.Rn g.Rc]) :
    FiIn W' W'.heap.size (some ⟨b, 0, none⟩) 1 1 [g] := by
  refine ⟨⟨rfl, Nat.le_refl _, by decide, fun _ => ⟨b, 0, rfl, hblk.lt, fun j x hj i u hu => ?_⟩⟩, fun x hx => ?_⟩
  · rcases j with _ | j
    · obtain rfl : g = x := by simpa using hj
      rw [hblk.cell]
      rcases i with _ | _ | _ | _ | i
      · exact hu
      · exact hu
      · exact hu
      · exact hu
      · simp [grCells] at hu
    · simp at hj
  · obtain rfl : x = g := by simpa using hx
    exact h.later hb
set_option maxRecDepth 100000 in
set_option maxHeartbeats 4000000 in
theorem schSane_is (g : Lab.Gr) (bb : Bool) (hbb : Lab.grSane g = bb) (w : World) (h : GrIn w w.heap.size g) :
    Calls Try.prog 22 #[.agg #[.string g.nm, .int .i64 g.iv, .int .i64 g.off, .slice g.RA g.Rn g.Rc]] w fun e w' => e = .returned (.bool bb) ∧ Below w.heap.size w w' := by
  have HH := Lib.hid h
  have HBB := Lib.hid (show Lab.fiSane [g] = bb by rw [fiSane_one, hbb])
  clear h hbb
  go_enter Try.func22, Try.ntmps22
  go_wp2_with fail
  have hB1 := (Below.refl w.heap.size w).alloc (Nat.le_refl _) (.cells #[.string g.nm, .int .i64 g.iv, .int .i64 g.off, .slice g.RA g.Rn g.Rc] 24)
  have hB2 := hB1.alloc hB1.size (.cells #[.string g.nm, .int .i64 g.iv, .int .i64 g.off, .slice g.RA g.Rn g.Rc] 24)
  have hblk := Mem.Blk.new (w.alloc (.cells #[.string g.nm, .int .i64 g.iv, .int .i64 g.off, .slice g.RA g.Rn g.Rc] 24)) 24 #[.string g.nm, .int .i64 g.iv, .int .i64 g.off, .slice g.RA g.Rn g.Rc]
  rw [World.size_alloc] at hblk
  refine (fiSane_is _ 1 1 [g] _ HBB.out _ (fiIn_one HH.out hB2 hblk)).mono ?_
  rintro e w2 ⟨rfl, hb2⟩
  go_wp2
  go_ret
  exact ⟨rfl, hB2.trans (hb2.mono hB2.size)⟩
set_option maxRecDepth 100000 in
set_option maxHeartbeats 4000000 in
theorem has_is (g : Lab.Gr) (bb : Bool) (hbb : Lab.grSane g = bb) (w : World) (h : GrIn w w.heap.size g) :
    Calls Try.prog 23 #[.agg #[.string g.nm, .int .i64 g.iv, .int .i64 g.off, .slice g.RA g.Rn g.Rc]] w fun e w' => e = .returned (.bool bb) ∧ Below w.heap.size w w' := by
  have HH := Lib.hid h
  have HBB := Lib.hid (show Lab.fiSane [g] = bb by rw [fiSane_one, hbb])
  clear h hbb
  go_enter Try.func23, Try.ntmps23
  go_wp2_with fail
  have hB1 := (Below.refl w.heap.size w).alloc (Nat.le_refl _) (.cells #[.string g.nm, .int .i64 g.iv, .int .i64 g.off, .slice g.RA g.Rn g.Rc] 24)
  have hB2 := hB1.alloc hB1.size (.cells #[.string g.nm, .int .i64 g.iv, .int .i64 g.off, .slice g.RA g.Rn g.Rc] 24)
  have hblk := Mem.Blk.new (w.alloc (.cells #[.string g.nm, .int .i64 g.iv, .int .i64 g.off, .slice g.RA g.Rn g.Rc] 24)) 24 #[.string g.nm, .int .i64 g.iv, .int .i64 g.off, .slice g.RA g.Rn g.Rc]
  rw [World.size_alloc] at hblk
  refine (rFiSane_is _ 1 1 [g] _ HBB.out _ (fiIn_one HH.out hB2 hblk)).mono ?_
  rintro e w2 ⟨rfl, hb2⟩
  go_wp2
  go_ret
  exact ⟨rfl, hB2.trans (hb2.mono hB2.size)⟩
/-- a group that may be: its interval and its offset -/
theorem good_of {g : Lab.Gr} (h : Lab.grSane g = true) : ∃ I O : Nat, g.iv = (I : Int) ∧ g.off = (O : Int) ∧ Sch.Good I O := by
  unfold Lab.grSane Lab.grHead Lab.durSane at h
  simp only [Bool.and_eq_true, decide_eq_true_eq] at h
  obtain ⟨⟨⟨⟨⟨⟨h0, h1, h2⟩, h3⟩, h4⟩, h5⟩, h6⟩, h7⟩ := h
  exact ⟨g.iv.toNat, g.off.toNat, by omega, by omega, by omega, by omega, by unfold Sch.most; omega⟩

set_option maxRecDepth 100000 in
set_option maxHeartbeats 4000000 in
theorem below_any (g : Lab.Gr) (I O : Nat) (hI : g.iv = (I : Int)) (hO : g.off = (O : Int)) (hg : Sch.Good I O) (n : Int) (w : World) :
    Calls Try.prog 24 #[.agg #[.string g.nm, .int .i64 g.iv, .int .i64 g.off, .slice g.RA g.Rn g.Rc], .int .i64 n] w fun e w' => e = .returned (.int .i64 (Sch.cnt I O n : Nat)) ∧ Below w.heap.size w w' := by
  rw [hI, hO]
  have g1 := hg.pos
  have g2 := hg.lt
  have g3 := hg.le
  unfold Sch.most at g3
  have hO1 : O < Sch.most := by unfold Sch.most; omega
  by_cases hbig : (9007199254740992 : Int) < n
  · have hdb : decide ((9007199254740992 : Int) < n) = true := decide_eq_true hbig
    have h0 : ¬ (9007199254740992 : Int) < (O : Int) := by omega
    have hcm : Sch.cnt I O n = Sch.cnt I O ((9007199254740992 : Int)) := Sch.cnt_big n hO1 hbig
    have hd : decide (((9007199254740992 : Int) : Int) < (O : Int)) = false := decide_eq_false h0
    obtain ⟨d, hd2⟩ : ∃ d : Nat, ((9007199254740992 : Int) : Int) - (O : Int) = (d : Int) := ⟨(((9007199254740992 : Int) : Int) - (O : Int)).toNat, by omega⟩
    have hdb : d ≤ 9007199254740992 := by omega
    obtain ⟨q, hq⟩ : ∃ q, q = d / I := ⟨_, rfl⟩
    have hq1 : Int.tdiv (d : Int) (I : Int) = (q : Int) := by rw [hq]; rfl
    have hq2 : (d : Int) / (I : Int) = (q : Int) := by rw [hq]; rfl
    have hqb : q ≤ 9007199254740992 := by rw [hq]; exact Nat.le_trans (Nat.div_le_self _ _) hdb
    have hI0 : ¬ I = 0 := by omega
    have HC := Lib.hid (show Sch.cnt I O n = q + 1 by
      rw [hcm, show ((9007199254740992 : Int) : Int) = ((d + O : Nat) : Int) by omega, Sch.cnt_in (by unfold Sch.most; omega) (by omega), Nat.add_sub_cancel, hq])
    clear hcm hq
    go_enter Try.func24, Try.ntmps24
    go_wp2
    go_ret
    exact ⟨by rw [HC.out]; rfl, (by repeat (first | assumption | exact Below.refl _ _ | apply Mem.below_drewN | apply Below.drew | refine Below.alloc ?_ (by first | assumption | omega | (simp; done) | (simp; omega)) _ | refine Below.setCell ?_ (by first | assumption | omega | (simp; done) | (simp; omega)) _))⟩
  · have hdb : decide ((9007199254740992 : Int) < n) = false := decide_eq_false hbig
    have hnb : n ≤ 9007199254740992 := by omega
    by_cases h0 : n < (O : Int)
    · have hd : decide (n < (O : Int)) = true := decide_eq_true h0
      have HC := Lib.hid (show Sch.cnt I O n = 0 by unfold Sch.cnt; rw [if_pos h0])
      go_enter Try.func24, Try.ntmps24
      go_wp2
      go_ret
      exact ⟨by rw [HC.out]; rfl, (by repeat (first | assumption | exact Below.refl _ _ | apply Mem.below_drewN | apply Below.drew | refine Below.alloc ?_ (by first | assumption | omega | (simp; done) | (simp; omega)) _ | refine Below.setCell ?_ (by first | assumption | omega | (simp; done) | (simp; omega)) _))⟩
    · skip
      have hcm : Sch.cnt I O n = Sch.cnt I O (n) := rfl
      have hd : decide ((n : Int) < (O : Int)) = false := decide_eq_false h0
      obtain ⟨d, hd2⟩ : ∃ d : Nat, (n : Int) - (O : Int) = (d : Int) := ⟨((n : Int) - (O : Int)).toNat, by omega⟩
      have hdb : d ≤ 9007199254740992 := by omega
      obtain ⟨q, hq⟩ : ∃ q, q = d / I := ⟨_, rfl⟩
      have hq1 : Int.tdiv (d : Int) (I : Int) = (q : Int) := by rw [hq]; rfl
      have hq2 : (d : Int) / (I : Int) = (q : Int) := by rw [hq]; rfl
      have hqb : q ≤ 9007199254740992 := by rw [hq]; exact Nat.le_trans (Nat.div_le_self _ _) hdb
      have hI0 : ¬ I = 0 := by omega
      have HC := Lib.hid (show Sch.cnt I O n = q + 1 by
        rw [hcm, show (n : Int) = ((d + O : Nat) : Int) by omega, Sch.cnt_in (by unfold Sch.most; omega) (by omega), Nat.add_sub_cancel, hq])
      clear hcm hq
      go_enter Try.func24, Try.ntmps24
      go_wp2
      go_ret
      exact ⟨by rw [HC.out]; rfl, (by repeat (first | assumption | exact Below.refl _ _ | apply Mem.below_drewN | apply Below.drew | refine Below.alloc ?_ (by first | assumption | omega | (simp; done) | (simp; omega)) _ | refine Below.setCell ?_ (by first | assumption | omega | (simp; done) | (simp; omega)) _))⟩
theorem below_is (g : Lab.Gr) (I O : Nat) (hI : g.iv = (I : Int)) (hO : g.off = (O : Int)) (hg : Sch.Good I O) (n : Int) (k : Nat) (hk : Sch.cnt I O n = k) (w : World) :
    Calls Try.prog 24 #[.agg #[.string g.nm, .int .i64 g.iv, .int .i64 g.off, .slice g.RA g.Rn g.Rc], .int .i64 n] w fun e w' => e = .returned (.int .i64 (k : Int)) ∧ Below w.heap.size w w' := by
  subst hk
  exact below_any g I O hI hO hg n w
end Go.Proofs.Ythjnhifaejoigaa
