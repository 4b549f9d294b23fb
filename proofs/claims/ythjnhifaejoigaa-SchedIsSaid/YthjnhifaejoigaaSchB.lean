/- The walk of sched's Due. -/
import Derived.Test.YthjnhifaejoigaaSchA
namespace Go.Proofs.Ythjnhifaejoigaa
open Go.RowKit
set_option linter.unusedSimpArgs false
set_option linter.unusedVariables false

namespace Sch
def d1 : Option (Nat × Nat) → Int
  | none => 0
  | some p => (p.1 : Nat)
def d2 : Option (Nat × Nat) → Int
  | none => 0
  | some p => (p.2 : Nat)
/-- what is due of a group -/
def dueG (g : Lab.Gr) (last now : Int) : Option (Nat × Nat) := if Lab.grSane g = true then due g.iv.toNat g.off.toNat last now else none
end Sch
def DueR (w : World) (d : Option (Nat × Nat)) (e : Ending) (w' : World) : Prop := e = .returned (.tuple #[.int .i64 (Sch.d1 d), .int .i64 (Sch.d2 d), .bool d.isSome]) ∧ Below w.heap.size w w'

set_option maxRecDepth 100000 in
set_option maxHeartbeats 8000000 in
theorem due_none (g : Lab.Gr) (hs : Lab.grSane g = false) (last now : Int) (w : World) (h : GrIn w w.heap.size g) :
    Calls Try.prog 11 #[.agg #[.string g.nm, .int .i64 g.iv, .int .i64 g.off, .slice g.RA g.Rn g.Rc], .int .i64 last, .int .i64 now] w (DueR w none) := by
  have HH := Lib.hid h
  have HSN := Lib.hid hs
  clear h hs
  by_cases hbig : (9007199254740992 : Int) < now
  · go_enter Try.func11, Try.ntmps11
    go_wp2_with fail
    have hB1 := (Below.refl w.heap.size w).alloc (Nat.le_refl _) (.cells #[.string g.nm, .int .i64 g.iv, .int .i64 g.off, .slice g.RA g.Rn g.Rc] 24)
    have hblk := (Mem.Blk.new w 24 #[.string g.nm, .int .i64 g.iv, .int .i64 g.off, .slice g.RA g.Rn g.Rc])
    have hlt1 : w.heap.size < (w.alloc (.cells #[.string g.nm, .int .i64 g.iv, .int .i64 g.off, .slice g.RA g.Rn g.Rc] 24)).heap.size := by simp
    have hsz1 : w.heap.size ≤ (w.alloc (.cells #[.string g.nm, .int .i64 g.iv, .int .i64 g.off, .slice g.RA g.Rn g.Rc] 24)).heap.size := by simp
    obtain ⟨W1, hW1⟩ : ∃ W1, W1 = w.alloc (.cells #[.string g.nm, .int .i64 g.iv, .int .i64 g.off, .slice g.RA g.Rn g.Rc] 24) := ⟨_, rfl⟩
    rw [← hW1] at hB1 hblk hlt1 hsz1 ⊢
    clear hW1
    have HBLK := Lib.hid hblk
    clear hblk
    refine (schSane_is g false HSN.out W1 ((HH.out.below hB1).more hsz1)).mono ?_
    rintro e w2 ⟨rfl, hb2⟩
    go_wp2
    go_ret3
    exact ⟨rfl, hB1.trans (hb2.mono hB1.size)⟩
  · go_enter Try.func11, Try.ntmps11
    go_wp2_with fail
    have hB1 := (Below.refl w.heap.size w).alloc (Nat.le_refl _) (.cells #[.string g.nm, .int .i64 g.iv, .int .i64 g.off, .slice g.RA g.Rn g.Rc] 24)
    have hblk := (Mem.Blk.new w 24 #[.string g.nm, .int .i64 g.iv, .int .i64 g.off, .slice g.RA g.Rn g.Rc])
    have hlt1 : w.heap.size < (w.alloc (.cells #[.string g.nm, .int .i64 g.iv, .int .i64 g.off, .slice g.RA g.Rn g.Rc] 24)).heap.size := by simp
    have hsz1 : w.heap.size ≤ (w.alloc (.cells #[.string g.nm, .int .i64 g.iv, .int .i64 g.off, .slice g.RA g.Rn g.Rc] 24)).heap.size := by simp
    obtain ⟨W1, hW1⟩ : ∃ W1, W1 = w.alloc (.cells #[.string g.nm, .int .i64 g.iv, .int .i64 g.off, .slice g.RA g.Rn g.Rc] 24) := ⟨_, rfl⟩
    rw [← hW1] at hB1 hblk hlt1 hsz1 ⊢
    clear hW1
    have HBLK := Lib.hid hblk
    clear hblk
    refine (schSane_is g false HSN.out W1 ((HH.out.below hB1).more hsz1)).mono ?_
    rintro e w2 ⟨rfl, hb2⟩
    go_wp2
    go_ret3
    exact ⟨rfl, hB1.trans (hb2.mono hB1.size)⟩

set_option maxRecDepth 100000 in
set_option maxHeartbeats 16000000 in
theorem due_some (g : Lab.Gr) (hs : Lab.grSane g = true) (I O : Nat) (hI : g.iv = (I : Int)) (hO : g.off = (O : Int)) (hg : Sch.Good I O) (last now : Int) (res : Option (Nat × Nat)) (hres : Sch.due I O last now = res) (w : World) (h : GrIn w w.heap.size g) :
    Calls Try.prog 11 #[.agg #[.string g.nm, .int .i64 g.iv, .int .i64 g.off, .slice g.RA g.Rn g.Rc], .int .i64 last, .int .i64 now] w (DueR w res) := by
  obtain ⟨nm, iv, off, RA, Rn, Rc, rs⟩ := g
  simp only at hI hO
  subst hI hO
  have HH := Lib.hid h
  have HSN := Lib.hid hs
  have g1 := hg.pos
  have g2 := hg.lt
  have g3 := hg.le
  unfold Sch.most at g3
  have hO1 : O < Sch.most := by unfold Sch.most; omega
  clear h hs
  by_cases hbig : (9007199254740992 : Int) < now
  · have h0 : ¬ (9007199254740992 : Int) < (O : Int) := by omega
    have hcm : Sch.cnt I O now = Sch.cnt I O ((9007199254740992 : Int)) := Sch.cnt_big now hO1 hbig
    have hd : decide (((9007199254740992 : Int) : Int) < (O : Int)) = false := decide_eq_false h0
    obtain ⟨d, hd2⟩ : ∃ d : Nat, ((9007199254740992 : Int) : Int) - (O : Int) = (d : Int) := ⟨(((9007199254740992 : Int) : Int) - (O : Int)).toNat, by omega⟩
    have hdb : d ≤ 9007199254740992 := by omega
    obtain ⟨q, hq⟩ : ∃ q, q = d / I := ⟨_, rfl⟩
    have hq1 : Int.tdiv (d : Int) (I : Int) = (q : Int) := by rw [hq]; rfl
    have hq2 : (d : Int) / (I : Int) = (q : Int) := by rw [hq]; rfl
    have hqb : q ≤ 9007199254740992 := by rw [hq]; exact Nat.le_trans (Nat.div_le_self _ _) hdb
    have hI0 : ¬ I = 0 := by omega
    have hc : Sch.cnt I O now = q + 1 := by
      rw [hcm, show ((9007199254740992 : Int) : Int) = ((d + O : Nat) : Int) by omega, Sch.cnt_in (by unfold Sch.most; omega) (by omega), Nat.add_sub_cancel, hq]
    obtain ⟨p, hp⟩ : ∃ p, p = q * I := ⟨_, rfl⟩
    have hpi : (q : Int) * (I : Int) = (p : Int) := by rw [hp, Int.natCast_mul]
    have hpd : p ≤ d := by rw [hp, hq]; exact Nat.div_mul_le_self _ _
    have htm : Sch.tm I O q = O + p := by unfold Sch.tm; rw [hp]
    have hlc := Sch.lt_cnt hg q last
    rw [htm] at hlc
    by_cases hle : ((O : Int) + (p : Int)) ≤ last
    · have hdl : decide ((O : Int) + (p : Int) ≤ last) = true := decide_eq_true hle
      have HD := Lib.hid (show Sch.due I O last now = none by
        unfold Sch.due
        rw [if_pos]
        have := hlc.2 ⟨by omega, by unfold Sch.most; omega⟩
        omega)
      rw [HD.out] at hres
      subst hres
      clear hcm hq hc hp htm hlc
      go_enter Try.func11, Try.ntmps11
      go_wp2_with fail
      have hB1 := (Below.refl w.heap.size w).alloc (Nat.le_refl _) (.cells #[.string nm, .int .i64 (I : Int), .int .i64 (O : Int), .slice RA Rn Rc] 24)
      have hblk := (Mem.Blk.new w 24 #[.string nm, .int .i64 (I : Int), .int .i64 (O : Int), .slice RA Rn Rc])
      have hlt1 : w.heap.size < (w.alloc (.cells #[.string nm, .int .i64 (I : Int), .int .i64 (O : Int), .slice RA Rn Rc] 24)).heap.size := by simp
      have hsz1 : w.heap.size ≤ (w.alloc (.cells #[.string nm, .int .i64 (I : Int), .int .i64 (O : Int), .slice RA Rn Rc] 24)).heap.size := by simp
      obtain ⟨W1, hW1⟩ : ∃ W1, W1 = w.alloc (.cells #[.string nm, .int .i64 (I : Int), .int .i64 (O : Int), .slice RA Rn Rc] 24) := ⟨_, rfl⟩
      rw [← hW1] at hB1 hblk hlt1 hsz1 ⊢
      clear hW1
      have HBLK := Lib.hid hblk
      clear hblk
      refine (schSane_is ⟨nm, (I : Int), (O : Int), RA, Rn, Rc, rs⟩ true HSN.out W1 ((HH.out.below hB1).more hsz1)).mono ?_
      rintro e w2 ⟨rfl, hb2⟩
      have v0 : w2.cell? ⟨w.heap.size, 0, none⟩ = some (.string nm) := (hb2.cell (p := ⟨w.heap.size, 0, none⟩) hlt1).trans (HBLK.out.cell 0)
      have v1 : w2.cell? ⟨w.heap.size, 1, none⟩ = some (.int .i64 (I : Int)) := (hb2.cell (p := ⟨w.heap.size, 1, none⟩) hlt1).trans (HBLK.out.cell 1)
      have v2 : w2.cell? ⟨w.heap.size, 2, none⟩ = some (.int .i64 (O : Int)) := (hb2.cell (p := ⟨w.heap.size, 2, none⟩) hlt1).trans (HBLK.out.cell 2)
      have v3 : w2.cell? ⟨w.heap.size, 3, none⟩ = some (.slice RA Rn Rc) := (hb2.cell (p := ⟨w.heap.size, 3, none⟩) hlt1).trans (HBLK.out.cell 3)
      go_wp2
      go_ret3
      exact ⟨rfl, hB1.trans (hb2.mono hB1.size)⟩
    · have hdl : decide ((O : Int) + (p : Int) ≤ last) = false := decide_eq_false hle
      have hql : Sch.cnt I O last ≤ q := by
        rcases Nat.lt_or_ge q (Sch.cnt I O last) with h | h
        · have := (hlc.1 h).1
          omega
        · exact h
      have hdu : Sch.due I O last now = some (O + p, q - Sch.cnt I O last) := by
        unfold Sch.due
        rw [hc, if_neg (by omega), Nat.add_sub_cancel, htm]
      by_cases hlo : (O : Int) ≤ last
      · have hdo : decide ((O : Int) ≤ last) = true := decide_eq_true hlo
        obtain ⟨d2, hd3⟩ : ∃ d : Nat, last - (O : Int) = (d : Int) := ⟨(last - (O : Int)).toNat, by omega⟩
        have hd2b : d2 ≤ 9007199254740992 := by omega
        obtain ⟨q2, hqq⟩ : ∃ q, q = d2 / I := ⟨_, rfl⟩
        have hqq1 : Int.tdiv (d2 : Int) (I : Int) = (q2 : Int) := by rw [hqq]; rfl
        have hqq2 : (d2 : Int) / (I : Int) = (q2 : Int) := by rw [hqq]; rfl
        have hqq3 : q2 ≤ 9007199254740992 := by rw [hqq]; exact Nat.le_trans (Nat.div_le_self _ _) hd2b
        have hc2 : Sch.cnt I O last = q2 + 1 := by
          rw [show last = ((d2 + O : Nat) : Int) by omega, Sch.cnt_in (by unfold Sch.most; omega) (by omega), Nat.add_sub_cancel, hqq]
        rw [hc2] at hdu hql
        obtain ⟨k, hk⟩ : ∃ k : Nat, (q : Int) - ((q2 : Int) + 1) = (k : Int) := ⟨q - (q2 + 1), by omega⟩
        rw [show q - (q2 + 1) = k by omega] at hdu
        rw [hdu] at hres
        subst hres
        clear hcm hq hc hp htm hlc hqq hc2 hdu
        go_enter Try.func11, Try.ntmps11
        go_wp2_with fail
        have hB1 := (Below.refl w.heap.size w).alloc (Nat.le_refl _) (.cells #[.string nm, .int .i64 (I : Int), .int .i64 (O : Int), .slice RA Rn Rc] 24)
        have hblk := (Mem.Blk.new w 24 #[.string nm, .int .i64 (I : Int), .int .i64 (O : Int), .slice RA Rn Rc])
        have hlt1 : w.heap.size < (w.alloc (.cells #[.string nm, .int .i64 (I : Int), .int .i64 (O : Int), .slice RA Rn Rc] 24)).heap.size := by simp
        have hsz1 : w.heap.size ≤ (w.alloc (.cells #[.string nm, .int .i64 (I : Int), .int .i64 (O : Int), .slice RA Rn Rc] 24)).heap.size := by simp
        obtain ⟨W1, hW1⟩ : ∃ W1, W1 = w.alloc (.cells #[.string nm, .int .i64 (I : Int), .int .i64 (O : Int), .slice RA Rn Rc] 24) := ⟨_, rfl⟩
        rw [← hW1] at hB1 hblk hlt1 hsz1 ⊢
        clear hW1
        have HBLK := Lib.hid hblk
        clear hblk
        refine (schSane_is ⟨nm, (I : Int), (O : Int), RA, Rn, Rc, rs⟩ true HSN.out W1 ((HH.out.below hB1).more hsz1)).mono ?_
        rintro e w2 ⟨rfl, hb2⟩
        have v0 : w2.cell? ⟨w.heap.size, 0, none⟩ = some (.string nm) := (hb2.cell (p := ⟨w.heap.size, 0, none⟩) hlt1).trans (HBLK.out.cell 0)
        have v1 : w2.cell? ⟨w.heap.size, 1, none⟩ = some (.int .i64 (I : Int)) := (hb2.cell (p := ⟨w.heap.size, 1, none⟩) hlt1).trans (HBLK.out.cell 1)
        have v2 : w2.cell? ⟨w.heap.size, 2, none⟩ = some (.int .i64 (O : Int)) := (hb2.cell (p := ⟨w.heap.size, 2, none⟩) hlt1).trans (HBLK.out.cell 2)
        have v3 : w2.cell? ⟨w.heap.size, 3, none⟩ = some (.slice RA Rn Rc) := (hb2.cell (p := ⟨w.heap.size, 3, none⟩) hlt1).trans (HBLK.out.cell 3)
        go_wp2
        go_ret3
        exact ⟨rfl, hB1.trans (hb2.mono hB1.size)⟩
      · have hdo : decide ((O : Int) ≤ last) = false := decide_eq_false hlo
        have hc2 : Sch.cnt I O last = 0 := by unfold Sch.cnt; rw [if_pos (by omega)]
        rw [hc2, Nat.sub_zero] at hdu
        rw [hdu] at hres
        subst hres
        clear hcm hq hc hp htm hlc hc2 hdu
        go_enter Try.func11, Try.ntmps11
        go_wp2_with fail
        have hB1 := (Below.refl w.heap.size w).alloc (Nat.le_refl _) (.cells #[.string nm, .int .i64 (I : Int), .int .i64 (O : Int), .slice RA Rn Rc] 24)
        have hblk := (Mem.Blk.new w 24 #[.string nm, .int .i64 (I : Int), .int .i64 (O : Int), .slice RA Rn Rc])
        have hlt1 : w.heap.size < (w.alloc (.cells #[.string nm, .int .i64 (I : Int), .int .i64 (O : Int), .slice RA Rn Rc] 24)).heap.size := by simp
        have hsz1 : w.heap.size ≤ (w.alloc (.cells #[.string nm, .int .i64 (I : Int), .int .i64 (O : Int), .slice RA Rn Rc] 24)).heap.size := by simp
        obtain ⟨W1, hW1⟩ : ∃ W1, W1 = w.alloc (.cells #[.string nm, .int .i64 (I : Int), .int .i64 (O : Int), .slice RA Rn Rc] 24) := ⟨_, rfl⟩
        rw [← hW1] at hB1 hblk hlt1 hsz1 ⊢
        clear hW1
        have HBLK := Lib.hid hblk
        clear hblk
        refine (schSane_is ⟨nm, (I : Int), (O : Int), RA, Rn, Rc, rs⟩ true HSN.out W1 ((HH.out.below hB1).more hsz1)).mono ?_
        rintro e w2 ⟨rfl, hb2⟩
        have v0 : w2.cell? ⟨w.heap.size, 0, none⟩ = some (.string nm) := (hb2.cell (p := ⟨w.heap.size, 0, none⟩) hlt1).trans (HBLK.out.cell 0)
        have v1 : w2.cell? ⟨w.heap.size, 1, none⟩ = some (.int .i64 (I : Int)) := (hb2.cell (p := ⟨w.heap.size, 1, none⟩) hlt1).trans (HBLK.out.cell 1)
        have v2 : w2.cell? ⟨w.heap.size, 2, none⟩ = some (.int .i64 (O : Int)) := (hb2.cell (p := ⟨w.heap.size, 2, none⟩) hlt1).trans (HBLK.out.cell 2)
        have v3 : w2.cell? ⟨w.heap.size, 3, none⟩ = some (.slice RA Rn Rc) := (hb2.cell (p := ⟨w.heap.size, 3, none⟩) hlt1).trans (HBLK.out.cell 3)
        go_wp2
        go_ret3
        exact ⟨rfl, hB1.trans (hb2.mono hB1.size)⟩
  · have hnb : now ≤ 9007199254740992 := by omega
    by_cases h0 : now < (O : Int)
    · have hd : decide (now < (O : Int)) = true := decide_eq_true h0
      rw [show Sch.due I O last now = none by unfold Sch.due Sch.cnt; rw [if_pos h0, if_pos (Nat.zero_le _)]] at hres
      subst hres
      go_enter Try.func11, Try.ntmps11
      go_wp2_with fail
      have hB1 := (Below.refl w.heap.size w).alloc (Nat.le_refl _) (.cells #[.string nm, .int .i64 (I : Int), .int .i64 (O : Int), .slice RA Rn Rc] 24)
      have hblk := (Mem.Blk.new w 24 #[.string nm, .int .i64 (I : Int), .int .i64 (O : Int), .slice RA Rn Rc])
      have hlt1 : w.heap.size < (w.alloc (.cells #[.string nm, .int .i64 (I : Int), .int .i64 (O : Int), .slice RA Rn Rc] 24)).heap.size := by simp
      have hsz1 : w.heap.size ≤ (w.alloc (.cells #[.string nm, .int .i64 (I : Int), .int .i64 (O : Int), .slice RA Rn Rc] 24)).heap.size := by simp
      obtain ⟨W1, hW1⟩ : ∃ W1, W1 = w.alloc (.cells #[.string nm, .int .i64 (I : Int), .int .i64 (O : Int), .slice RA Rn Rc] 24) := ⟨_, rfl⟩
      rw [← hW1] at hB1 hblk hlt1 hsz1 ⊢
      clear hW1
      have HBLK := Lib.hid hblk
      clear hblk
      refine (schSane_is ⟨nm, (I : Int), (O : Int), RA, Rn, Rc, rs⟩ true HSN.out W1 ((HH.out.below hB1).more hsz1)).mono ?_
      rintro e w2 ⟨rfl, hb2⟩
      have v0 : w2.cell? ⟨w.heap.size, 0, none⟩ = some (.string nm) := (hb2.cell (p := ⟨w.heap.size, 0, none⟩) hlt1).trans (HBLK.out.cell 0)
      have v1 : w2.cell? ⟨w.heap.size, 1, none⟩ = some (.int .i64 (I : Int)) := (hb2.cell (p := ⟨w.heap.size, 1, none⟩) hlt1).trans (HBLK.out.cell 1)
      have v2 : w2.cell? ⟨w.heap.size, 2, none⟩ = some (.int .i64 (O : Int)) := (hb2.cell (p := ⟨w.heap.size, 2, none⟩) hlt1).trans (HBLK.out.cell 2)
      have v3 : w2.cell? ⟨w.heap.size, 3, none⟩ = some (.slice RA Rn Rc) := (hb2.cell (p := ⟨w.heap.size, 3, none⟩) hlt1).trans (HBLK.out.cell 3)
      go_wp2
      go_ret3
      exact ⟨rfl, hB1.trans (hb2.mono hB1.size)⟩
    · skip
      have hcm : Sch.cnt I O now = Sch.cnt I O (now) := rfl
      have hd : decide ((now : Int) < (O : Int)) = false := decide_eq_false h0
      obtain ⟨d, hd2⟩ : ∃ d : Nat, (now : Int) - (O : Int) = (d : Int) := ⟨((now : Int) - (O : Int)).toNat, by omega⟩
      have hdb : d ≤ 9007199254740992 := by omega
      obtain ⟨q, hq⟩ : ∃ q, q = d / I := ⟨_, rfl⟩
      have hq1 : Int.tdiv (d : Int) (I : Int) = (q : Int) := by rw [hq]; rfl
      have hq2 : (d : Int) / (I : Int) = (q : Int) := by rw [hq]; rfl
      have hqb : q ≤ 9007199254740992 := by rw [hq]; exact Nat.le_trans (Nat.div_le_self _ _) hdb
      have hI0 : ¬ I = 0 := by omega
      have hc : Sch.cnt I O now = q + 1 := by
        rw [hcm, show (now : Int) = ((d + O : Nat) : Int) by omega, Sch.cnt_in (by unfold Sch.most; omega) (by omega), Nat.add_sub_cancel, hq]
      obtain ⟨p, hp⟩ : ∃ p, p = q * I := ⟨_, rfl⟩
      have hpi : (q : Int) * (I : Int) = (p : Int) := by rw [hp, Int.natCast_mul]
      have hpd : p ≤ d := by rw [hp, hq]; exact Nat.div_mul_le_self _ _
      have htm : Sch.tm I O q = O + p := by unfold Sch.tm; rw [hp]
      have hlc := Sch.lt_cnt hg q last
      rw [htm] at hlc
      by_cases hle : ((O : Int) + (p : Int)) ≤ last
      · have hdl : decide ((O : Int) + (p : Int) ≤ last) = true := decide_eq_true hle
        have HD := Lib.hid (show Sch.due I O last now = none by
          unfold Sch.due
          rw [if_pos]
          have := hlc.2 ⟨by omega, by unfold Sch.most; omega⟩
          omega)
        rw [HD.out] at hres
        subst hres
        clear hcm hq hc hp htm hlc
        go_enter Try.func11, Try.ntmps11
        go_wp2_with fail
        have hB1 := (Below.refl w.heap.size w).alloc (Nat.le_refl _) (.cells #[.string nm, .int .i64 (I : Int), .int .i64 (O : Int), .slice RA Rn Rc] 24)
        have hblk := (Mem.Blk.new w 24 #[.string nm, .int .i64 (I : Int), .int .i64 (O : Int), .slice RA Rn Rc])
        have hlt1 : w.heap.size < (w.alloc (.cells #[.string nm, .int .i64 (I : Int), .int .i64 (O : Int), .slice RA Rn Rc] 24)).heap.size := by simp
        have hsz1 : w.heap.size ≤ (w.alloc (.cells #[.string nm, .int .i64 (I : Int), .int .i64 (O : Int), .slice RA Rn Rc] 24)).heap.size := by simp
        obtain ⟨W1, hW1⟩ : ∃ W1, W1 = w.alloc (.cells #[.string nm, .int .i64 (I : Int), .int .i64 (O : Int), .slice RA Rn Rc] 24) := ⟨_, rfl⟩
        rw [← hW1] at hB1 hblk hlt1 hsz1 ⊢
        clear hW1
        have HBLK := Lib.hid hblk
        clear hblk
        refine (schSane_is ⟨nm, (I : Int), (O : Int), RA, Rn, Rc, rs⟩ true HSN.out W1 ((HH.out.below hB1).more hsz1)).mono ?_
        rintro e w2 ⟨rfl, hb2⟩
        have v0 : w2.cell? ⟨w.heap.size, 0, none⟩ = some (.string nm) := (hb2.cell (p := ⟨w.heap.size, 0, none⟩) hlt1).trans (HBLK.out.cell 0)
        have v1 : w2.cell? ⟨w.heap.size, 1, none⟩ = some (.int .i64 (I : Int)) := (hb2.cell (p := ⟨w.heap.size, 1, none⟩) hlt1).trans (HBLK.out.cell 1)
        have v2 : w2.cell? ⟨w.heap.size, 2, none⟩ = some (.int .i64 (O : Int)) := (hb2.cell (p := ⟨w.heap.size, 2, none⟩) hlt1).trans (HBLK.out.cell 2)
        have v3 : w2.cell? ⟨w.heap.size, 3, none⟩ = some (.slice RA Rn Rc) := (hb2.cell (p := ⟨w.heap.size, 3, none⟩) hlt1).trans (HBLK.out.cell 3)
        go_wp2
        go_ret3
        exact ⟨rfl, hB1.trans (hb2.mono hB1.size)⟩
      · have hdl : decide ((O : Int) + (p : Int) ≤ last) = false := decide_eq_false hle
        have hql : Sch.cnt I O last ≤ q := by
          rcases Nat.lt_or_ge q (Sch.cnt I O last) with h | h
          · have := (hlc.1 h).1
            omega
          · exact h
        have hdu : Sch.due I O last now = some (O + p, q - Sch.cnt I O last) := by
          unfold Sch.due
          rw [hc, if_neg (by omega), Nat.add_sub_cancel, htm]
        by_cases hlo : (O : Int) ≤ last
        · have hdo : decide ((O : Int) ≤ last) = true := decide_eq_true hlo
          obtain ⟨d2, hd3⟩ : ∃ d : Nat, last - (O : Int) = (d : Int) := ⟨(last - (O : Int)).toNat, by omega⟩
          have hd2b : d2 ≤ 9007199254740992 := by omega
          obtain ⟨q2, hqq⟩ : ∃ q, q = d2 / I := ⟨_, rfl⟩
          have hqq1 : Int.tdiv (d2 : Int) (I : Int) = (q2 : Int) := by rw [hqq]; rfl
          have hqq2 : (d2 : Int) / (I : Int) = (q2 : Int) := by rw [hqq]; rfl
          have hqq3 : q2 ≤ 9007199254740992 := by rw [hqq]; exact Nat.le_trans (Nat.div_le_self _ _) hd2b
          have hc2 : Sch.cnt I O last = q2 + 1 := by
            rw [show last = ((d2 + O : Nat) : Int) by omega, Sch.cnt_in (by unfold Sch.most; omega) (by omega), Nat.add_sub_cancel, hqq]
          rw [hc2] at hdu hql
          obtain ⟨k, hk⟩ : ∃ k : Nat, (q : Int) - ((q2 : Int) + 1) = (k : Int) := ⟨q - (q2 + 1), by omega⟩
          rw [show q - (q2 + 1) = k by omega] at hdu
          rw [hdu] at hres
          subst hres
          clear hcm hq hc hp htm hlc hqq hc2 hdu
          go_enter Try.func11, Try.ntmps11
          go_wp2_with fail
          have hB1 := (Below.refl w.heap.size w).alloc (Nat.le_refl _) (.cells #[.string nm, .int .i64 (I : Int), .int .i64 (O : Int), .slice RA Rn Rc] 24)
          have hblk := (Mem.Blk.new w 24 #[.string nm, .int .i64 (I : Int), .int .i64 (O : Int), .slice RA Rn Rc])
          have hlt1 : w.heap.size < (w.alloc (.cells #[.string nm, .int .i64 (I : Int), .int .i64 (O : Int), .slice RA Rn Rc] 24)).heap.size := by simp
          have hsz1 : w.heap.size ≤ (w.alloc (.cells #[.string nm, .int .i64 (I : Int), .int .i64 (O : Int), .slice RA Rn Rc] 24)).heap.size := by simp
          obtain ⟨W1, hW1⟩ : ∃ W1, W1 = w.alloc (.cells #[.string nm, .int .i64 (I : Int), .int .i64 (O : Int), .slice RA Rn Rc] 24) := ⟨_, rfl⟩
          rw [← hW1] at hB1 hblk hlt1 hsz1 ⊢
          clear hW1
          have HBLK := Lib.hid hblk
          clear hblk
          refine (schSane_is ⟨nm, (I : Int), (O : Int), RA, Rn, Rc, rs⟩ true HSN.out W1 ((HH.out.below hB1).more hsz1)).mono ?_
          rintro e w2 ⟨rfl, hb2⟩
          have v0 : w2.cell? ⟨w.heap.size, 0, none⟩ = some (.string nm) := (hb2.cell (p := ⟨w.heap.size, 0, none⟩) hlt1).trans (HBLK.out.cell 0)
          have v1 : w2.cell? ⟨w.heap.size, 1, none⟩ = some (.int .i64 (I : Int)) := (hb2.cell (p := ⟨w.heap.size, 1, none⟩) hlt1).trans (HBLK.out.cell 1)
          have v2 : w2.cell? ⟨w.heap.size, 2, none⟩ = some (.int .i64 (O : Int)) := (hb2.cell (p := ⟨w.heap.size, 2, none⟩) hlt1).trans (HBLK.out.cell 2)
          have v3 : w2.cell? ⟨w.heap.size, 3, none⟩ = some (.slice RA Rn Rc) := (hb2.cell (p := ⟨w.heap.size, 3, none⟩) hlt1).trans (HBLK.out.cell 3)
          go_wp2
          go_ret3
          exact ⟨rfl, hB1.trans (hb2.mono hB1.size)⟩
        · have hdo : decide ((O : Int) ≤ last) = false := decide_eq_false hlo
          have hc2 : Sch.cnt I O last = 0 := by unfold Sch.cnt; rw [if_pos (by omega)]
          rw [hc2, Nat.sub_zero] at hdu
          rw [hdu] at hres
          subst hres
          clear hcm hq hc hp htm hlc hc2 hdu
          go_enter Try.func11, Try.ntmps11
          go_wp2_with fail
          have hB1 := (Below.refl w.heap.size w).alloc (Nat.le_refl _) (.cells #[.string nm, .int .i64 (I : Int), .int .i64 (O : Int), .slice RA Rn Rc] 24)
          have hblk := (Mem.Blk.new w 24 #[.string nm, .int .i64 (I : Int), .int .i64 (O : Int), .slice RA Rn Rc])
          have hlt1 : w.heap.size < (w.alloc (.cells #[.string nm, .int .i64 (I : Int), .int .i64 (O : Int), .slice RA Rn Rc] 24)).heap.size := by simp
          have hsz1 : w.heap.size ≤ (w.alloc (.cells #[.string nm, .int .i64 (I : Int), .int .i64 (O : Int), .slice RA Rn Rc] 24)).heap.size := by simp
          obtain ⟨W1, hW1⟩ : ∃ W1, W1 = w.alloc (.cells #[.string nm, .int .i64 (I : Int), .int .i64 (O : Int), .slice RA Rn Rc] 24) := ⟨_, rfl⟩
          rw [← hW1] at hB1 hblk hlt1 hsz1 ⊢
          clear hW1
          have HBLK := Lib.hid hblk
          clear hblk
          refine (schSane_is ⟨nm, (I : Int), (O : Int), RA, Rn, Rc, rs⟩ true HSN.out W1 ((HH.out.below hB1).more hsz1)).mono ?_
          rintro e w2 ⟨rfl, hb2⟩
          have v0 : w2.cell? ⟨w.heap.size, 0, none⟩ = some (.string nm) := (hb2.cell (p := ⟨w.heap.size, 0, none⟩) hlt1).trans (HBLK.out.cell 0)
          have v1 : w2.cell? ⟨w.heap.size, 1, none⟩ = some (.int .i64 (I : Int)) := (hb2.cell (p := ⟨w.heap.size, 1, none⟩) hlt1).trans (HBLK.out.cell 1)
          have v2 : w2.cell? ⟨w.heap.size, 2, none⟩ = some (.int .i64 (O : Int)) := (hb2.cell (p := ⟨w.heap.size, 2, none⟩) hlt1).trans (HBLK.out.cell 2)
          have v3 : w2.cell? ⟨w.heap.size, 3, none⟩ = some (.slice RA Rn Rc) := (hb2.cell (p := ⟨w.heap.size, 3, none⟩) hlt1).trans (HBLK.out.cell 3)
          go_wp2
          go_ret3
          exact ⟨rfl, hB1.trans (hb2.mono hB1.size)⟩
theorem due_is (g : Lab.Gr) (last now : Int) (res : Option (Nat × Nat)) (hres : Sch.dueG g last now = res) (w : World) (h : GrIn w w.heap.size g) :
    Calls Try.prog 11 #[.agg #[.string g.nm, .int .i64 g.iv, .int .i64 g.off, .slice g.RA g.Rn g.Rc], .int .i64 last, .int .i64 now] w (DueR w res) := by
  unfold Sch.dueG at hres
  rcases hs : Lab.grSane g with _ | _
  · rw [hs, if_neg (by decide)] at hres
    subst hres
    exact due_none g hs last now w h
  · rw [hs, if_pos rfl] at hres
    obtain ⟨I, O, hI, hO, hg⟩ := good_of hs
    rw [hI, hO, Int.toNat_natCast, Int.toNat_natCast] at hres
    exact due_some g hs I O hI hO hg last now res hres w h
end Go.Proofs.Ythjnhifaejoigaa
