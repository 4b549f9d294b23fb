/- The walk of the reference's Due; Due and Next as they are told of a group. -/
import Derived.Test.YthjnhifaejoigaaSchC
namespace Go.Proofs.Ythjnhifaejoigaa
open Go.RowKit
set_option linter.unusedSimpArgs false
set_option linter.unusedVariables false

set_option maxRecDepth 100000 in
set_option maxHeartbeats 16000000 in
theorem rDue_some (g : Lab.Gr) (hs : Lab.grSane g = true) (I O : Nat) (hI : g.iv = (I : Int)) (hO : g.off = (O : Int)) (hg : Sch.Good I O) (last now : Int) (res : Option (Nat × Nat)) (hres : Sch.due I O last now = res) (w : World) (h : GrIn w w.heap.size g) :
    Calls Try.prog 12 #[.agg #[.string g.nm, .int .i64 g.iv, .int .i64 g.off, .slice g.RA g.Rn g.Rc], .int .i64 last, .int .i64 now] w (DueR w res) := by
  obtain ⟨nm, iv, off, RA, Rn, Rc, rs⟩ := g
  simp only at hI hO
  subst hI hO
  have HH := Lib.hid h
  have HSN := Lib.hid hs
  have g1 := hg.pos
  have g2 := hg.lt
  have g3 := hg.le
  unfold Sch.most at g3
  clear h hs
  obtain ⟨k, hk⟩ : ∃ k, Sch.cnt I O now = k := ⟨_, rfl⟩
  have hkb := Sch.cnt_bound hg now
  have HK := Lib.hid (fun w => below_is ⟨nm, (I : Int), (O : Int), RA, Rn, Rc, rs⟩ I O rfl rfl hg now k hk w)
  obtain ⟨m, hm⟩ : ∃ k, Sch.cnt I O last = k := ⟨_, rfl⟩
  have hmb := Sch.cnt_bound hg last
  have HM := Lib.hid (fun w => below_is ⟨nm, (I : Int), (O : Int), RA, Rn, Rc, rs⟩ I O rfl rfl hg last m hm w)
  have hlast := Sch.cnt_last hg (n := now)
  unfold Sch.due at hres
  rw [hk, hm] at hres
  rw [hk] at hkb hlast
  rw [hm] at hmb
  unfold Sch.most at hkb hmb
  have hneg : last < 0 → m = 0 := fun hn => by rw [← hm]; exact Sch.cnt_neg last hn
  clear hk hm
  by_cases hl0 : 0 ≤ last
  · have hdl : decide (0 ≤ last) = true := decide_eq_true hl0
    clear hneg
    by_cases hkm : k ≤ m
    · have hd : decide (k ≤ m) = true := decide_eq_true hkm
      rw [if_pos hkm] at hres
      subst hres
      clear hlast
      go_enter Try.func12, Try.ntmps12
      go_wp2_with fail
      have hB1 := (Below.refl w.heap.size w).alloc (Nat.le_refl _) (.cells #[.string nm, .int .i64 (I : Int), .int .i64 (O : Int), .slice RA Rn Rc] 24)
      have hblk := (Mem.Blk.new w 24 #[.string nm, .int .i64 (I : Int), .int .i64 (O : Int), .slice RA Rn Rc])
      have hlt1 : w.heap.size < (w.alloc (.cells #[.string nm, .int .i64 (I : Int), .int .i64 (O : Int), .slice RA Rn Rc] 24)).heap.size := by simp
      have hsz1 : w.heap.size ≤ (w.alloc (.cells #[.string nm, .int .i64 (I : Int), .int .i64 (O : Int), .slice RA Rn Rc] 24)).heap.size := by simp
      obtain ⟨W1, hW1⟩ : ∃ W1, W1 = w.alloc (.cells #[.string nm, .int .i64 (I : Int), .int .i64 (O : Int), .slice RA Rn Rc] 24) := ⟨_, rfl⟩
      rw [← hW1] at hB1 hblk hlt1 hsz1 ⊢
      clear hW1
      have HBLK := Lib.hid hblk
      clear hblk
      refine (has_is ⟨nm, (I : Int), (O : Int), RA, Rn, Rc, rs⟩ true HSN.out W1 ((HH.out.below hB1).more hsz1)).mono ?_
      rintro e w2 ⟨rfl, hb2⟩
      have v0 : w2.cell? ⟨w.heap.size, 0, none⟩ = some (.string nm) := (hb2.cell (p := ⟨w.heap.size, 0, none⟩) hlt1).trans (HBLK.out.cell 0)
      have v1 : w2.cell? ⟨w.heap.size, 1, none⟩ = some (.int .i64 (I : Int)) := (hb2.cell (p := ⟨w.heap.size, 1, none⟩) hlt1).trans (HBLK.out.cell 1)
      have v2 : w2.cell? ⟨w.heap.size, 2, none⟩ = some (.int .i64 (O : Int)) := (hb2.cell (p := ⟨w.heap.size, 2, none⟩) hlt1).trans (HBLK.out.cell 2)
      have v3 : w2.cell? ⟨w.heap.size, 3, none⟩ = some (.slice RA Rn Rc) := (hb2.cell (p := ⟨w.heap.size, 3, none⟩) hlt1).trans (HBLK.out.cell 3)
      have hlt2 := Nat.lt_of_lt_of_le hlt1 hb2.size
      have hB2 := hB1.trans (hb2.mono hB1.size)
      go_wp2_with fail
      refine (HK.out _).mono ?_
      rintro e w3 ⟨rfl, hb3⟩
      have z0 := (hb3.cell (p := ⟨w.heap.size, 0, none⟩) hlt2).trans v0
      have z1 := (hb3.cell (p := ⟨w.heap.size, 1, none⟩) hlt2).trans v1
      have z2 := (hb3.cell (p := ⟨w.heap.size, 2, none⟩) hlt2).trans v2
      have z3 := (hb3.cell (p := ⟨w.heap.size, 3, none⟩) hlt2).trans v3
      have hlt3 := Nat.lt_of_lt_of_le hlt2 hb3.size
      have hB3 := hB2.trans (hb3.mono hB2.size)
      clear v0 v1 v2 v3
      go_wp2_with fail
      refine (HM.out _).mono ?_
      rintro e w4 ⟨rfl, hb4⟩
      have y1 := (hb4.cell (p := ⟨w.heap.size, 1, none⟩) hlt3).trans z1
      have y2 := (hb4.cell (p := ⟨w.heap.size, 2, none⟩) hlt3).trans z2
      have hB4 := hB3.trans (hb4.mono hB3.size)
      clear z0 z1 z2 z3
      go_wp2
      go_ret3
      exact ⟨rfl, hB4⟩
    · have hd : decide (k ≤ m) = false := decide_eq_false hkm
      obtain ⟨q, hq⟩ : ∃ q : Nat, (k : Int) - 1 = (q : Int) := ⟨k - 1, by omega⟩
      obtain ⟨u, hu⟩ : ∃ u : Nat, (q : Int) - (m : Int) = (u : Int) := ⟨q - m, by omega⟩
      have hl2 := (hlast (by omega)).2
      rw [show k - 1 = q by omega] at hl2
      unfold Sch.tm Sch.most at hl2
      obtain ⟨p, hp⟩ : ∃ p, p = q * I := ⟨_, rfl⟩
      have hpi : (q : Int) * (I : Int) = (p : Int) := by rw [hp, Int.natCast_mul]
      rw [← hp] at hl2
      rw [if_neg hkm, show k - 1 - m = u by omega, show k - 1 = q by omega] at hres
      unfold Sch.tm at hres
      rw [← hp] at hres
      subst hres
      clear hp hlast
      go_enter Try.func12, Try.ntmps12
      go_wp2_with fail
      have hB1 := (Below.refl w.heap.size w).alloc (Nat.le_refl _) (.cells #[.string nm, .int .i64 (I : Int), .int .i64 (O : Int), .slice RA Rn Rc] 24)
      have hblk := (Mem.Blk.new w 24 #[.string nm, .int .i64 (I : Int), .int .i64 (O : Int), .slice RA Rn Rc])
      have hlt1 : w.heap.size < (w.alloc (.cells #[.string nm, .int .i64 (I : Int), .int .i64 (O : Int), .slice RA Rn Rc] 24)).heap.size := by simp
      have hsz1 : w.heap.size ≤ (w.alloc (.cells #[.string nm, .int .i64 (I : Int), .int .i64 (O : Int), .slice RA Rn Rc] 24)).heap.size := by simp
      obtain ⟨W1, hW1⟩ : ∃ W1, W1 = w.alloc (.cells #[.string nm, .int .i64 (I : Int), .int .i64 (O : Int), .slice RA Rn Rc] 24) := ⟨_, rfl⟩
      rw [← hW1] at hB1 hblk hlt1 hsz1 ⊢
      clear hW1
      have HBLK := Lib.hid hblk
      clear hblk
      refine (has_is ⟨nm, (I : Int), (O : Int), RA, Rn, Rc, rs⟩ true HSN.out W1 ((HH.out.below hB1).more hsz1)).mono ?_
      rintro e w2 ⟨rfl, hb2⟩
      have v0 : w2.cell? ⟨w.heap.size, 0, none⟩ = some (.string nm) := (hb2.cell (p := ⟨w.heap.size, 0, none⟩) hlt1).trans (HBLK.out.cell 0)
      have v1 : w2.cell? ⟨w.heap.size, 1, none⟩ = some (.int .i64 (I : Int)) := (hb2.cell (p := ⟨w.heap.size, 1, none⟩) hlt1).trans (HBLK.out.cell 1)
      have v2 : w2.cell? ⟨w.heap.size, 2, none⟩ = some (.int .i64 (O : Int)) := (hb2.cell (p := ⟨w.heap.size, 2, none⟩) hlt1).trans (HBLK.out.cell 2)
      have v3 : w2.cell? ⟨w.heap.size, 3, none⟩ = some (.slice RA Rn Rc) := (hb2.cell (p := ⟨w.heap.size, 3, none⟩) hlt1).trans (HBLK.out.cell 3)
      have hlt2 := Nat.lt_of_lt_of_le hlt1 hb2.size
      have hB2 := hB1.trans (hb2.mono hB1.size)
      go_wp2_with fail
      refine (HK.out _).mono ?_
      rintro e w3 ⟨rfl, hb3⟩
      have z0 := (hb3.cell (p := ⟨w.heap.size, 0, none⟩) hlt2).trans v0
      have z1 := (hb3.cell (p := ⟨w.heap.size, 1, none⟩) hlt2).trans v1
      have z2 := (hb3.cell (p := ⟨w.heap.size, 2, none⟩) hlt2).trans v2
      have z3 := (hb3.cell (p := ⟨w.heap.size, 3, none⟩) hlt2).trans v3
      have hlt3 := Nat.lt_of_lt_of_le hlt2 hb3.size
      have hB3 := hB2.trans (hb3.mono hB2.size)
      clear v0 v1 v2 v3
      go_wp2_with fail
      refine (HM.out _).mono ?_
      rintro e w4 ⟨rfl, hb4⟩
      have y1 := (hb4.cell (p := ⟨w.heap.size, 1, none⟩) hlt3).trans z1
      have y2 := (hb4.cell (p := ⟨w.heap.size, 2, none⟩) hlt3).trans z2
      have hB4 := hB3.trans (hb4.mono hB3.size)
      clear z0 z1 z2 z3
      go_wp2
      go_ret3
      exact ⟨rfl, hB4⟩
  · have hdl : decide (0 ≤ last) = false := decide_eq_false hl0
    have hm0 := hneg (by omega)
    rw [hm0] at hres
    clear hneg HM hmb hm0
    by_cases hkm : k ≤ 0
    · have hd : decide ((k : Int) ≤ 0) = true := decide_eq_true (by omega)
      rw [if_pos hkm] at hres
      subst hres
      clear hlast
      go_enter Try.func12, Try.ntmps12
      go_wp2_with fail
      have hB1 := (Below.refl w.heap.size w).alloc (Nat.le_refl _) (.cells #[.string nm, .int .i64 (I : Int), .int .i64 (O : Int), .slice RA Rn Rc] 24)
      have hblk := (Mem.Blk.new w 24 #[.string nm, .int .i64 (I : Int), .int .i64 (O : Int), .slice RA Rn Rc])
      have hlt1 : w.heap.size < (w.alloc (.cells #[.string nm, .int .i64 (I : Int), .int .i64 (O : Int), .slice RA Rn Rc] 24)).heap.size := by simp
      have hsz1 : w.heap.size ≤ (w.alloc (.cells #[.string nm, .int .i64 (I : Int), .int .i64 (O : Int), .slice RA Rn Rc] 24)).heap.size := by simp
      obtain ⟨W1, hW1⟩ : ∃ W1, W1 = w.alloc (.cells #[.string nm, .int .i64 (I : Int), .int .i64 (O : Int), .slice RA Rn Rc] 24) := ⟨_, rfl⟩
      rw [← hW1] at hB1 hblk hlt1 hsz1 ⊢
      clear hW1
      have HBLK := Lib.hid hblk
      clear hblk
      refine (has_is ⟨nm, (I : Int), (O : Int), RA, Rn, Rc, rs⟩ true HSN.out W1 ((HH.out.below hB1).more hsz1)).mono ?_
      rintro e w2 ⟨rfl, hb2⟩
      have v0 : w2.cell? ⟨w.heap.size, 0, none⟩ = some (.string nm) := (hb2.cell (p := ⟨w.heap.size, 0, none⟩) hlt1).trans (HBLK.out.cell 0)
      have v1 : w2.cell? ⟨w.heap.size, 1, none⟩ = some (.int .i64 (I : Int)) := (hb2.cell (p := ⟨w.heap.size, 1, none⟩) hlt1).trans (HBLK.out.cell 1)
      have v2 : w2.cell? ⟨w.heap.size, 2, none⟩ = some (.int .i64 (O : Int)) := (hb2.cell (p := ⟨w.heap.size, 2, none⟩) hlt1).trans (HBLK.out.cell 2)
      have v3 : w2.cell? ⟨w.heap.size, 3, none⟩ = some (.slice RA Rn Rc) := (hb2.cell (p := ⟨w.heap.size, 3, none⟩) hlt1).trans (HBLK.out.cell 3)
      have hlt2 := Nat.lt_of_lt_of_le hlt1 hb2.size
      have hB2 := hB1.trans (hb2.mono hB1.size)
      go_wp2_with fail
      refine (HK.out _).mono ?_
      rintro e w3 ⟨rfl, hb3⟩
      have z0 := (hb3.cell (p := ⟨w.heap.size, 0, none⟩) hlt2).trans v0
      have z1 := (hb3.cell (p := ⟨w.heap.size, 1, none⟩) hlt2).trans v1
      have z2 := (hb3.cell (p := ⟨w.heap.size, 2, none⟩) hlt2).trans v2
      have z3 := (hb3.cell (p := ⟨w.heap.size, 3, none⟩) hlt2).trans v3
      have hlt3 := Nat.lt_of_lt_of_le hlt2 hb3.size
      have hB3 := hB2.trans (hb3.mono hB2.size)
      clear v0 v1 v2 v3
      go_wp2
      go_ret3
      exact ⟨rfl, hB3⟩
    · have hd : decide ((k : Int) ≤ 0) = false := decide_eq_false (by omega)
      obtain ⟨q, hq⟩ : ∃ q : Nat, (k : Int) - 1 = (q : Int) := ⟨k - 1, by omega⟩
      obtain ⟨u, hu⟩ : ∃ u : Nat, (q : Int) - (0 : Int) = (u : Int) := ⟨q - 0, by omega⟩
      have hl2 := (hlast (by omega)).2
      rw [show k - 1 = q by omega] at hl2
      unfold Sch.tm Sch.most at hl2
      obtain ⟨p, hp⟩ : ∃ p, p = q * I := ⟨_, rfl⟩
      have hpi : (q : Int) * (I : Int) = (p : Int) := by rw [hp, Int.natCast_mul]
      rw [← hp] at hl2
      rw [if_neg hkm, show k - 1 - 0 = u by omega, show k - 1 = q by omega] at hres
      unfold Sch.tm at hres
      rw [← hp] at hres
      subst hres
      clear hp hlast
      have hu0 : u = q := by omega
      subst hu0
      go_enter Try.func12, Try.ntmps12
      go_wp2_with fail
      have hB1 := (Below.refl w.heap.size w).alloc (Nat.le_refl _) (.cells #[.string nm, .int .i64 (I : Int), .int .i64 (O : Int), .slice RA Rn Rc] 24)
      have hblk := (Mem.Blk.new w 24 #[.string nm, .int .i64 (I : Int), .int .i64 (O : Int), .slice RA Rn Rc])
      have hlt1 : w.heap.size < (w.alloc (.cells #[.string nm, .int .i64 (I : Int), .int .i64 (O : Int), .slice RA Rn Rc] 24)).heap.size := by simp
      have hsz1 : w.heap.size ≤ (w.alloc (.cells #[.string nm, .int .i64 (I : Int), .int .i64 (O : Int), .slice RA Rn Rc] 24)).heap.size := by simp
      obtain ⟨W1, hW1⟩ : ∃ W1, W1 = w.alloc (.cells #[.string nm, .int .i64 (I : Int), .int .i64 (O : Int), .slice RA Rn Rc] 24) := ⟨_, rfl⟩
      rw [← hW1] at hB1 hblk hlt1 hsz1 ⊢
      clear hW1
      have HBLK := Lib.hid hblk
      clear hblk
      refine (has_is ⟨nm, (I : Int), (O : Int), RA, Rn, Rc, rs⟩ true HSN.out W1 ((HH.out.below hB1).more hsz1)).mono ?_
      rintro e w2 ⟨rfl, hb2⟩
      have v0 : w2.cell? ⟨w.heap.size, 0, none⟩ = some (.string nm) := (hb2.cell (p := ⟨w.heap.size, 0, none⟩) hlt1).trans (HBLK.out.cell 0)
      have v1 : w2.cell? ⟨w.heap.size, 1, none⟩ = some (.int .i64 (I : Int)) := (hb2.cell (p := ⟨w.heap.size, 1, none⟩) hlt1).trans (HBLK.out.cell 1)
      have v2 : w2.cell? ⟨w.heap.size, 2, none⟩ = some (.int .i64 (O : Int)) := (hb2.cell (p := ⟨w.heap.size, 2, none⟩) hlt1).trans (HBLK.out.cell 2)
      have v3 : w2.cell? ⟨w.heap.size, 3, none⟩ = some (.slice RA Rn Rc) := (hb2.cell (p := ⟨w.heap.size, 3, none⟩) hlt1).trans (HBLK.out.cell 3)
      have hlt2 := Nat.lt_of_lt_of_le hlt1 hb2.size
      have hB2 := hB1.trans (hb2.mono hB1.size)
      go_wp2_with fail
      refine (HK.out _).mono ?_
      rintro e w3 ⟨rfl, hb3⟩
      have z0 := (hb3.cell (p := ⟨w.heap.size, 0, none⟩) hlt2).trans v0
      have z1 := (hb3.cell (p := ⟨w.heap.size, 1, none⟩) hlt2).trans v1
      have z2 := (hb3.cell (p := ⟨w.heap.size, 2, none⟩) hlt2).trans v2
      have z3 := (hb3.cell (p := ⟨w.heap.size, 3, none⟩) hlt2).trans v3
      have hlt3 := Nat.lt_of_lt_of_le hlt2 hb3.size
      have hB3 := hB2.trans (hb3.mono hB2.size)
      clear v0 v1 v2 v3
      go_wp2
      go_ret3
      exact ⟨rfl, hB3⟩
theorem rDue_is (g : Lab.Gr) (last now : Int) (res : Option (Nat × Nat)) (hres : Sch.dueG g last now = res) (w : World) (h : GrIn w w.heap.size g) :
    Calls Try.prog 12 #[.agg #[.string g.nm, .int .i64 g.iv, .int .i64 g.off, .slice g.RA g.Rn g.Rc], .int .i64 last, .int .i64 now] w (DueR w res) := by
  unfold Sch.dueG at hres
  rcases hs : Lab.grSane g with _ | _
  · rw [hs, if_neg (by decide)] at hres
    subst hres
    exact rDue_none g hs last now w h
  · rw [hs, if_pos rfl] at hres
    obtain ⟨I, O, hI, hO, hg⟩ := good_of hs
    rw [hI, hO, Int.toNat_natCast, Int.toNat_natCast] at hres
    exact rDue_some g hs I O hI hO hg last now res hres w h
theorem next_is (g : Lab.Gr) (now res : Int) (hres : Sch.nextG g now = res) (w : World) (h : GrIn w w.heap.size g) :
    Calls Try.prog 13 #[.agg #[.string g.nm, .int .i64 g.iv, .int .i64 g.off, .slice g.RA g.Rn g.Rc], .int .i64 now] w fun e w' => e = .returned (.int .i64 res) ∧ Below w.heap.size w w' := by
  unfold Sch.nextG at hres
  rcases hs : Lab.grSane g with _ | _
  · rw [hs, if_neg (by decide)] at hres
    subst hres
    exact next_none g hs now w h
  · rw [hs, if_pos rfl] at hres
    obtain ⟨I, O, hI, hO, hg⟩ := good_of hs
    rw [hI, hO, Int.toNat_natCast, Int.toNat_natCast] at hres
    exact next_some g hs I O hI hO hg now res hres w h
theorem rNext_is (g : Lab.Gr) (now res : Int) (hres : Sch.nextG g now = res) (w : World) (h : GrIn w w.heap.size g) :
    Calls Try.prog 14 #[.agg #[.string g.nm, .int .i64 g.iv, .int .i64 g.off, .slice g.RA g.Rn g.Rc], .int .i64 now] w fun e w' => e = .returned (.int .i64 res) ∧ Below w.heap.size w w' := by
  unfold Sch.nextG at hres
  rcases hs : Lab.grSane g with _ | _
  · rw [hs, if_neg (by decide)] at hres
    subst hres
    exact rNext_none g hs now w h
  · rw [hs, if_pos rfl] at hres
    obtain ⟨I, O, hI, hO, hg⟩ := good_of hs
    rw [hI, hO, Int.toNat_natCast, Int.toNat_natCast] at hres
    exact rNext_some g hs I O hI hO hg now res hres w h
end Go.Proofs.Ythjnhifaejoigaa
