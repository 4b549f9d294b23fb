/- The walk of the law SchedAligned. -/
import Derived.Test.YthjnhifaejoigaaSchI
import Derived.Test.YthjnhifaejoigaaSchJ
namespace Go.Proofs.Ythjnhifaejoigaa
open Go.RowKit
set_option linter.unusedSimpArgs false
set_option linter.unusedVariables false

set_option maxRecDepth 100000 in
set_option maxHeartbeats 8000000 in
theorem aligned_bad (g : Lab.Gr) (last now : Int) (hs : Lab.grSane g = false) (w : World) (h : GrIn w w.heap.size g) :
    Calls Try.prog 4 #[.agg #[.string g.nm, .int .i64 g.iv, .int .i64 g.off, .slice g.RA g.Rn g.Rc], .int .i64 last, .int .i64 now] w (LawR w) := by
  have HH := Lib.hid h
  have HD := Lib.hid (show Sch.dueG g last now = none by unfold Sch.dueG; rw [hs, if_neg (by decide)])
  have HN := Lib.hid (show Sch.nextG g now = -1 by unfold Sch.nextG; rw [hs, if_neg (by decide)])
  clear h
  go_enter Try.func4, Try.ntmps4
  go_wp2_with fail
  have hB1 := (Below.refl w.heap.size w).alloc (Nat.le_refl _) (.cells #[.string g.nm, .int .i64 g.iv, .int .i64 g.off, .slice g.RA g.Rn g.Rc] 24)
  have hblk := (Mem.Blk.new w 24 #[.string g.nm, .int .i64 g.iv, .int .i64 g.off, .slice g.RA g.Rn g.Rc])
  have hlt1 : w.heap.size < (w.alloc (.cells #[.string g.nm, .int .i64 g.iv, .int .i64 g.off, .slice g.RA g.Rn g.Rc] 24)).heap.size := by simp
  have hsz1 : w.heap.size ≤ (w.alloc (.cells #[.string g.nm, .int .i64 g.iv, .int .i64 g.off, .slice g.RA g.Rn g.Rc] 24)).heap.size := by simp
  obtain ⟨W1, hW1⟩ : ∃ W1, W1 = w.alloc (.cells #[.string g.nm, .int .i64 g.iv, .int .i64 g.off, .slice g.RA g.Rn g.Rc] 24) := ⟨_, rfl⟩
  rw [← hW1] at hB1 hblk hlt1 hsz1 ⊢
  clear hW1
  have HBLK := Lib.hid hblk
  clear hblk
  have HG := Lib.hid (show GBox W1 w.heap.size g from ⟨HBLK.out.cell 0, HBLK.out.cell 1, HBLK.out.cell 2, HBLK.out.cell 3, hlt1⟩)
  obtain ⟨v0, v1, v2, v3, _⟩ := HG.out
  refine (awake_any W1).mono ?_
  rintro e w2 ⟨rfl, hb2⟩
  have hB2 := hB1.trans (hb2.mono hB1.size)
  clear v0 v1 v2 v3
  have HG := Lib.hid (HG.out.later hb2)
  obtain ⟨v0, v1, v2, v3, hlt2⟩ := HG.out
  go_wp2_with fail
  refine (few_one g w2 (HH.out.later hB2)).mono ?_
  rintro e w3 ⟨few, rfl, hb3⟩
  have hB3 := hB2.trans (hb3.mono hB2.size)
  clear v0 v1 v2 v3
  have HG := Lib.hid (HG.out.later hb3)
  obtain ⟨v0, v1, v2, v3, hlt3⟩ := HG.out
  rcases few with _ | _
  · go_wp2
    go_ret
    exact ⟨rfl, hB3⟩
  go_wp2_with fail
  refine (due_is g last now _ HD.out w3 (HH.out.later hB3)).mono ?_
  rintro e w4 ⟨rfl, hb4⟩
  rw [show Sch.d1 none = 0 from rfl, show Sch.d2 none = 0 from rfl]
  have hB4 := hB3.trans (hb4.mono hB3.size)
  clear v0 v1 v2 v3
  have HG := Lib.hid (HG.out.later hb4)
  obtain ⟨v0, v1, v2, v3, hlt4⟩ := HG.out
  go_wp2_with fail
  refine (next_is g now _ HN.out w4 (HH.out.later hB4)).mono ?_
  rintro e w5 ⟨rfl, hb5⟩
  have hB5 := hB4.trans (hb5.mono hB4.size)
  clear v0 v1 v2 v3
  have HG := Lib.hid (HG.out.later hb5)
  obtain ⟨v0, v1, v2, v3, hlt5⟩ := HG.out
  go_wp2_with fail
  refine (sane_one g false hs w5 (HH.out.later hB5)).mono ?_
  rintro e w6 ⟨rfl, hb6⟩
  have hB6 := hB5.trans (hb6.mono hB5.size)
  clear v0 v1 v2 v3
  have HG := Lib.hid (HG.out.later hb6)
  obtain ⟨v0, v1, v2, v3, hlt6⟩ := HG.out
  go_wp2
  go_ret
  exact ⟨rfl, hB6⟩

set_option maxRecDepth 100000 in
set_option maxHeartbeats 16000000 in
theorem al_n1 (nm : ByteArray) (I O : Nat) (RA : Option Addr) (Rn Rc : Nat) (rs : List Lab.Ru) (last now : Int) (hs : Lab.grSane ⟨nm, (I : Int), (O : Int), RA, Rn, Rc, rs⟩ = true) (hg : Sch.Good I O)
    (hD : Sch.dueG ⟨nm, (I : Int), (O : Int), RA, Rn, Rc, rs⟩ last now = none) (hN : Sch.nextG ⟨nm, (I : Int), (O : Int), RA, Rn, Rc, rs⟩ now = (-1)) (w : World) (h : GrIn w w.heap.size ⟨nm, (I : Int), (O : Int), RA, Rn, Rc, rs⟩) :
    Calls Try.prog 4 #[.agg #[.string nm, .int .i64 (I : Int), .int .i64 (O : Int), .slice RA Rn Rc], .int .i64 last, .int .i64 now] w (LawR w) := by
  have HH := Lib.hid h
  have HS := Lib.hid hs
  have HD := Lib.hid hD
  have HN := Lib.hid hN
  have hI0 : ¬ I = 0 := by have := hg.pos; omega
  have hIb : I ≤ 9007199254740992 := hg.le
  have hOI : O < I := hg.lt
  clear h hs hD hN hg hIb hOI
  go_enter Try.func4, Try.ntmps4
  go_wp2_with fail
  have hB1 := (Below.refl w.heap.size w).alloc (Nat.le_refl _) (.cells #[.string nm, .int .i64 (I : Int), .int .i64 (O : Int), .slice RA Rn Rc] 24)
  have hblk := (Mem.Blk.new w 24 #[.string nm, .int .i64 (I : Int), .int .i64 (O : Int), .slice RA Rn Rc])
  have hlt1 : w.heap.size < (w.alloc (.cells #[.string nm, .int .i64 (I : Int), .int .i64 (O : Int), .slice RA Rn Rc] 24)).heap.size := by simp
  have hsz1 : w.heap.size ≤ (w.alloc (.cells #[.string nm, .int .i64 (I : Int), .int .i64 (O : Int), .slice RA Rn Rc] 24)).heap.size := by simp
  obtain ⟨W1, hW1⟩ : ∃ W1, W1 = w.alloc (.cells #[.string nm, .int .i64 (I : Int), .int .i64 (O : Int), .slice RA Rn Rc] 24) := ⟨_, rfl⟩
  rw [← hW1] at hB1 hblk hlt1 hsz1 ⊢
  clear hW1
  have HBLK := Lib.hid hblk
  clear hblk
  have HG := Lib.hid (show GBox W1 w.heap.size ⟨nm, (I : Int), (O : Int), RA, Rn, Rc, rs⟩ from ⟨HBLK.out.cell 0, HBLK.out.cell 1, HBLK.out.cell 2, HBLK.out.cell 3, hlt1⟩)
  obtain ⟨v0, v1, v2, v3, _⟩ := HG.out
  refine (awake_any W1).mono ?_
  rintro e w2 ⟨rfl, hb2⟩
  have hB2 := hB1.trans (hb2.mono hB1.size)
  clear v0 v1 v2 v3
  have HG := Lib.hid (HG.out.later hb2)
  obtain ⟨v0, v1, v2, v3, hlt2⟩ := HG.out
  simp only at v0 v1 v2 v3
  go_wp2_with fail
  refine (few_one ⟨nm, (I : Int), (O : Int), RA, Rn, Rc, rs⟩ w2 (HH.out.later hB2)).mono ?_
  rintro e w3 ⟨few, rfl, hb3⟩
  have hB3 := hB2.trans (hb3.mono hB2.size)
  clear v0 v1 v2 v3
  have HG := Lib.hid (HG.out.later hb3)
  obtain ⟨v0, v1, v2, v3, hlt3⟩ := HG.out
  simp only at v0 v1 v2 v3
  rcases few with _ | _
  · go_wp2
    go_ret
    exact ⟨rfl, hB3⟩
  go_wp2_with fail
  refine (due_is ⟨nm, (I : Int), (O : Int), RA, Rn, Rc, rs⟩ last now _ HD.out w3 (HH.out.later hB3)).mono ?_
  rintro e w4 ⟨rfl, hb4⟩
  rw [show Sch.d1 none = 0 from rfl, show Sch.d2 none = 0 from rfl]
  have hB4 := hB3.trans (hb4.mono hB3.size)
  clear v0 v1 v2 v3
  have HG := Lib.hid (HG.out.later hb4)
  obtain ⟨v0, v1, v2, v3, hlt4⟩ := HG.out
  simp only at v0 v1 v2 v3
  go_wp2_with fail
  refine (next_is ⟨nm, (I : Int), (O : Int), RA, Rn, Rc, rs⟩ now _ HN.out w4 (HH.out.later hB4)).mono ?_
  rintro e w5 ⟨rfl, hb5⟩
  have hB5 := hB4.trans (hb5.mono hB4.size)
  clear v0 v1 v2 v3
  have HG := Lib.hid (HG.out.later hb5)
  obtain ⟨v0, v1, v2, v3, hlt5⟩ := HG.out
  simp only at v0 v1 v2 v3
  go_wp2_with fail
  refine (sane_one ⟨nm, (I : Int), (O : Int), RA, Rn, Rc, rs⟩ true HS.out w5 (HH.out.later hB5)).mono ?_
  rintro e w6 ⟨rfl, hb6⟩
  have hB6 := hB5.trans (hb6.mono hB5.size)
  clear v0 v1 v2 v3
  have HG := Lib.hid (HG.out.later hb6)
  obtain ⟨v0, v1, v2, v3, hlt6⟩ := HG.out
  simp only at v0 v1 v2 v3
  go_wp2
  go_ret
  exact ⟨rfl, hB6⟩

set_option maxRecDepth 100000 in
set_option maxHeartbeats 16000000 in
theorem al_nN (nm : ByteArray) (I O : Nat) (RA : Option Addr) (Rn Rc : Nat) (rs : List Lab.Ru) (last now : Int) (hs : Lab.grSane ⟨nm, (I : Int), (O : Int), RA, Rn, Rc, rs⟩ = true) (hg : Sch.Good I O) (N P : Nat) (hNn : now < (N : Int)) (hNm : N ≤ 9007199254740992) (hNP : N = O + P) (hP : P % I = 0)
    (hD : Sch.dueG ⟨nm, (I : Int), (O : Int), RA, Rn, Rc, rs⟩ last now = none) (hN : Sch.nextG ⟨nm, (I : Int), (O : Int), RA, Rn, Rc, rs⟩ now = (N : Int)) (w : World) (h : GrIn w w.heap.size ⟨nm, (I : Int), (O : Int), RA, Rn, Rc, rs⟩) :
    Calls Try.prog 4 #[.agg #[.string nm, .int .i64 (I : Int), .int .i64 (O : Int), .slice RA Rn Rc], .int .i64 last, .int .i64 now] w (LawR w) := by
  have HH := Lib.hid h
  have HS := Lib.hid hs
  have HD := Lib.hid hD
  have HN := Lib.hid hN
  have hI0 : ¬ I = 0 := by have := hg.pos; omega
  have hIb : I ≤ 9007199254740992 := hg.le
  have hOI : O < I := hg.lt
  obtain ⟨z, hz⟩ : ∃ z : Int, z = (N : Int) := ⟨_, rfl⟩
  rw [← hz] at hN
  have HN := Lib.hid hN
  have n1 : decide (z ≤ now) = false := decide_eq_false (by omega)
  have n2 : decide ((9007199254740992 : Int) < z) = false := decide_eq_false (by omega)
  have n3 : IntKind.i64.wrap (z - (O : Int)) = (P : Int) := by rw [show z - (O : Int) = (P : Int) by omega]; exact IntWalk.i64_in _ (by omega)
  have n4 : Int.tmod (P : Int) (I : Int) = 0 := by rw [← Int.ofNat_tmod, hP]; rfl
  have n5 : decide (z < (O : Int)) = false := decide_eq_false (by omega)
  have n6 : (z == -1) = false := by rw [beq_eq_false_iff_ne]; omega
  have n7 : (z != -1) = true := by rw [bne_iff_ne]; omega
  clear h hs hD hN hg hIb hOI hNn hNm hNP hP hz
  go_enter Try.func4, Try.ntmps4
  go_wp2_with fail
  have hB1 := (Below.refl w.heap.size w).alloc (Nat.le_refl _) (.cells #[.string nm, .int .i64 (I : Int), .int .i64 (O : Int), .slice RA Rn Rc] 24)
  have hblk := (Mem.Blk.new w 24 #[.string nm, .int .i64 (I : Int), .int .i64 (O : Int), .slice RA Rn Rc])
  have hlt1 : w.heap.size < (w.alloc (.cells #[.string nm, .int .i64 (I : Int), .int .i64 (O : Int), .slice RA Rn Rc] 24)).heap.size := by simp
  have hsz1 : w.heap.size ≤ (w.alloc (.cells #[.string nm, .int .i64 (I : Int), .int .i64 (O : Int), .slice RA Rn Rc] 24)).heap.size := by simp
  obtain ⟨W1, hW1⟩ : ∃ W1, W1 = w.alloc (.cells #[.string nm, .int .i64 (I : Int), .int .i64 (O : Int), .slice RA Rn Rc] 24) := ⟨_, rfl⟩
  rw [← hW1] at hB1 hblk hlt1 hsz1 ⊢
  clear hW1
  have HBLK := Lib.hid hblk
  clear hblk
  have HG := Lib.hid (show GBox W1 w.heap.size ⟨nm, (I : Int), (O : Int), RA, Rn, Rc, rs⟩ from ⟨HBLK.out.cell 0, HBLK.out.cell 1, HBLK.out.cell 2, HBLK.out.cell 3, hlt1⟩)
  obtain ⟨v0, v1, v2, v3, _⟩ := HG.out
  refine (awake_any W1).mono ?_
  rintro e w2 ⟨rfl, hb2⟩
  have hB2 := hB1.trans (hb2.mono hB1.size)
  clear v0 v1 v2 v3
  have HG := Lib.hid (HG.out.later hb2)
  obtain ⟨v0, v1, v2, v3, hlt2⟩ := HG.out
  simp only at v0 v1 v2 v3
  go_wp2_with fail
  refine (few_one ⟨nm, (I : Int), (O : Int), RA, Rn, Rc, rs⟩ w2 (HH.out.later hB2)).mono ?_
  rintro e w3 ⟨few, rfl, hb3⟩
  have hB3 := hB2.trans (hb3.mono hB2.size)
  clear v0 v1 v2 v3
  have HG := Lib.hid (HG.out.later hb3)
  obtain ⟨v0, v1, v2, v3, hlt3⟩ := HG.out
  simp only at v0 v1 v2 v3
  rcases few with _ | _
  · go_wp2
    go_ret
    exact ⟨rfl, hB3⟩
  go_wp2_with fail
  refine (due_is ⟨nm, (I : Int), (O : Int), RA, Rn, Rc, rs⟩ last now _ HD.out w3 (HH.out.later hB3)).mono ?_
  rintro e w4 ⟨rfl, hb4⟩
  rw [show Sch.d1 none = 0 from rfl, show Sch.d2 none = 0 from rfl]
  have hB4 := hB3.trans (hb4.mono hB3.size)
  clear v0 v1 v2 v3
  have HG := Lib.hid (HG.out.later hb4)
  obtain ⟨v0, v1, v2, v3, hlt4⟩ := HG.out
  simp only at v0 v1 v2 v3
  go_wp2_with fail
  refine (next_is ⟨nm, (I : Int), (O : Int), RA, Rn, Rc, rs⟩ now _ HN.out w4 (HH.out.later hB4)).mono ?_
  rintro e w5 ⟨rfl, hb5⟩
  have hB5 := hB4.trans (hb5.mono hB4.size)
  clear v0 v1 v2 v3
  have HG := Lib.hid (HG.out.later hb5)
  obtain ⟨v0, v1, v2, v3, hlt5⟩ := HG.out
  simp only at v0 v1 v2 v3
  go_wp2_with fail
  refine (sane_one ⟨nm, (I : Int), (O : Int), RA, Rn, Rc, rs⟩ true HS.out w5 (HH.out.later hB5)).mono ?_
  rintro e w6 ⟨rfl, hb6⟩
  have hB6 := hB5.trans (hb6.mono hB5.size)
  clear v0 v1 v2 v3
  have HG := Lib.hid (HG.out.later hb6)
  obtain ⟨v0, v1, v2, v3, hlt6⟩ := HG.out
  simp only at v0 v1 v2 v3
  go_wp2
  go_ret
  exact ⟨rfl, hB6⟩

set_option maxRecDepth 100000 in
set_option maxHeartbeats 16000000 in
theorem al_s1lt (nm : ByteArray) (I O : Nat) (RA : Option Addr) (Rn Rc : Nat) (rs : List Lab.Ru) (last now : Int) (hs : Lab.grSane ⟨nm, (I : Int), (O : Int), RA, Rn, Rc, rs⟩ = true) (hg : Sch.Good I O) (T n p : Nat) (h1 : last < (T : Int)) (h2 : (T : Int) ≤ now) (h3 : T ≤ 9007199254740992) (h4 : T = O + p) (h5 : p % I = 0) (h6 : n ≤ 9007199254740992) (hA : Sch.dueG ⟨nm, (I : Int), (O : Int), RA, Rn, Rc, rs⟩ (T : Int) now = none) (hlo : last < (O : Int)) (h8 : (p + I) / I = n + 1)
    (hD : Sch.dueG ⟨nm, (I : Int), (O : Int), RA, Rn, Rc, rs⟩ last now = some (T, n)) (hN : Sch.nextG ⟨nm, (I : Int), (O : Int), RA, Rn, Rc, rs⟩ now = (-1)) (w : World) (h : GrIn w w.heap.size ⟨nm, (I : Int), (O : Int), RA, Rn, Rc, rs⟩) :
    Calls Try.prog 4 #[.agg #[.string nm, .int .i64 (I : Int), .int .i64 (O : Int), .slice RA Rn Rc], .int .i64 last, .int .i64 now] w (LawR w) := by
  have HH := Lib.hid h
  have HS := Lib.hid hs
  have HD := Lib.hid hD
  have HN := Lib.hid hN
  have hI0 : ¬ I = 0 := by have := hg.pos; omega
  have hIb : I ≤ 9007199254740992 := hg.le
  have hOI : O < I := hg.lt
  obtain ⟨t, ht⟩ : ∃ t : Int, t = (T : Int) := ⟨_, rfl⟩
  obtain ⟨m, hm⟩ : ∃ m : Int, m = (n : Int) := ⟨_, rfl⟩
  have HT := Lib.hid ht
  have HM := Lib.hid hm
  rw [← ht] at hA
  have HA := Lib.hid hA
  have t1 : decide (last < t) = true := decide_eq_true (by omega)
  have t2 : decide (t ≤ now) = true := decide_eq_true (by omega)
  have t3 : decide (t ≤ 9007199254740992) = true := decide_eq_true (by omega)
  have t4 : decide ((O : Int) ≤ t) = true := decide_eq_true (by omega)
  have t5 : IntKind.i64.wrap (t - (O : Int)) = (p : Int) := by rw [show t - (O : Int) = (p : Int) by omega]; exact IntWalk.i64_in _ (by omega)
  have t6 : Int.tmod (p : Int) (I : Int) = 0 := by rw [← Int.ofNat_tmod, h5]; rfl
  obtain ⟨f0, hf0⟩ : ∃ f0 : Int, f0 = (O : Int) - (I : Int) := ⟨_, rfl⟩
  have t7 : IntKind.i64.wrap ((O : Int) - (I : Int)) = f0 := by rw [hf0]; exact IntWalk.i64_in _ (by omega)
  obtain ⟨m1, hm1⟩ : ∃ m1 : Int, m1 = m + 1 := ⟨_, rfl⟩
  have t9 : IntKind.i64.wrap (m1 - 1) = m := by rw [show m1 - 1 = m by omega]; exact IntWalk.i64_in _ (by omega)
  have r1 : decide ((O : Int) ≤ last) = false := decide_eq_false (by omega)
  obtain ⟨e, he⟩ : ∃ e, e = p + I := ⟨_, rfl⟩
  rw [← he] at h8
  have r2 : IntKind.i64.wrap (t - f0) = (e : Int) := by rw [show t - f0 = (e : Int) by omega]; exact IntWalk.i64_in _ (by omega)
  have r3 : Int.tdiv (e : Int) (I : Int) = m1 := by rw [← Int.ofNat_tdiv, h8]; omega
  have r4 : IntKind.i64.wrap m1 = m1 := IntWalk.i64_in _ (by omega)
  clear h hs hD hN hg hIb hOI h1 h2 h3 h4 h5 h6 hA ht hm hf0 hm1 hlo h8 he
  go_enter Try.func4, Try.ntmps4
  go_wp2_with fail
  have hB1 := (Below.refl w.heap.size w).alloc (Nat.le_refl _) (.cells #[.string nm, .int .i64 (I : Int), .int .i64 (O : Int), .slice RA Rn Rc] 24)
  have hblk := (Mem.Blk.new w 24 #[.string nm, .int .i64 (I : Int), .int .i64 (O : Int), .slice RA Rn Rc])
  have hlt1 : w.heap.size < (w.alloc (.cells #[.string nm, .int .i64 (I : Int), .int .i64 (O : Int), .slice RA Rn Rc] 24)).heap.size := by simp
  have hsz1 : w.heap.size ≤ (w.alloc (.cells #[.string nm, .int .i64 (I : Int), .int .i64 (O : Int), .slice RA Rn Rc] 24)).heap.size := by simp
  obtain ⟨W1, hW1⟩ : ∃ W1, W1 = w.alloc (.cells #[.string nm, .int .i64 (I : Int), .int .i64 (O : Int), .slice RA Rn Rc] 24) := ⟨_, rfl⟩
  rw [← hW1] at hB1 hblk hlt1 hsz1 ⊢
  clear hW1
  have HBLK := Lib.hid hblk
  clear hblk
  have HG := Lib.hid (show GBox W1 w.heap.size ⟨nm, (I : Int), (O : Int), RA, Rn, Rc, rs⟩ from ⟨HBLK.out.cell 0, HBLK.out.cell 1, HBLK.out.cell 2, HBLK.out.cell 3, hlt1⟩)
  obtain ⟨v0, v1, v2, v3, _⟩ := HG.out
  refine (awake_any W1).mono ?_
  rintro e w2 ⟨rfl, hb2⟩
  have hB2 := hB1.trans (hb2.mono hB1.size)
  clear v0 v1 v2 v3
  have HG := Lib.hid (HG.out.later hb2)
  obtain ⟨v0, v1, v2, v3, hlt2⟩ := HG.out
  simp only at v0 v1 v2 v3
  go_wp2_with fail
  refine (few_one ⟨nm, (I : Int), (O : Int), RA, Rn, Rc, rs⟩ w2 (HH.out.later hB2)).mono ?_
  rintro e w3 ⟨few, rfl, hb3⟩
  have hB3 := hB2.trans (hb3.mono hB2.size)
  clear v0 v1 v2 v3
  have HG := Lib.hid (HG.out.later hb3)
  obtain ⟨v0, v1, v2, v3, hlt3⟩ := HG.out
  simp only at v0 v1 v2 v3
  rcases few with _ | _
  · go_wp2
    go_ret
    exact ⟨rfl, hB3⟩
  go_wp2_with fail
  refine (due_is ⟨nm, (I : Int), (O : Int), RA, Rn, Rc, rs⟩ last now _ HD.out w3 (HH.out.later hB3)).mono ?_
  rintro e w4 ⟨rfl, hb4⟩
  rw [show Sch.d1 (some (T, n)) = t from HT.out.symm, show Sch.d2 (some (T, n)) = m from HM.out.symm]
  have hB4 := hB3.trans (hb4.mono hB3.size)
  clear v0 v1 v2 v3
  have HG := Lib.hid (HG.out.later hb4)
  obtain ⟨v0, v1, v2, v3, hlt4⟩ := HG.out
  simp only at v0 v1 v2 v3
  go_wp2_with fail
  refine (next_is ⟨nm, (I : Int), (O : Int), RA, Rn, Rc, rs⟩ now _ HN.out w4 (HH.out.later hB4)).mono ?_
  rintro e w5 ⟨rfl, hb5⟩
  have hB5 := hB4.trans (hb5.mono hB4.size)
  clear v0 v1 v2 v3
  have HG := Lib.hid (HG.out.later hb5)
  obtain ⟨v0, v1, v2, v3, hlt5⟩ := HG.out
  simp only at v0 v1 v2 v3
  go_wp2_with fail
  refine (sane_one ⟨nm, (I : Int), (O : Int), RA, Rn, Rc, rs⟩ true HS.out w5 (HH.out.later hB5)).mono ?_
  rintro e w6 ⟨rfl, hb6⟩
  have hB6 := hB5.trans (hb6.mono hB5.size)
  clear v0 v1 v2 v3
  have HG := Lib.hid (HG.out.later hb6)
  obtain ⟨v0, v1, v2, v3, hlt6⟩ := HG.out
  simp only at v0 v1 v2 v3
  go_wp2_with fail
  refine (due_is ⟨nm, (I : Int), (O : Int), RA, Rn, Rc, rs⟩ t now _ HA.out w6 (HH.out.later hB6)).mono ?_
  rintro e w7 ⟨rfl, hb7⟩
  have hB7 := hB6.trans (hb7.mono hB6.size)
  clear v0 v1 v2 v3
  have HG := Lib.hid (HG.out.later hb7)
  obtain ⟨v0, v1, v2, v3, hlt7⟩ := HG.out
  simp only at v0 v1 v2 v3
  go_wp2
  go_ret
  exact ⟨rfl, hB7⟩

set_option maxRecDepth 100000 in
set_option maxHeartbeats 16000000 in
theorem al_s1ge (nm : ByteArray) (I O : Nat) (RA : Option Addr) (Rn Rc : Nat) (rs : List Lab.Ru) (last now : Int) (hs : Lab.grSane ⟨nm, (I : Int), (O : Int), RA, Rn, Rc, rs⟩ = true) (hg : Sch.Good I O) (T n p : Nat) (h1 : last < (T : Int)) (h2 : (T : Int) ≤ now) (h3 : T ≤ 9007199254740992) (h4 : T = O + p) (h5 : p % I = 0) (h6 : n ≤ 9007199254740992) (hA : Sch.dueG ⟨nm, (I : Int), (O : Int), RA, Rn, Rc, rs⟩ (T : Int) now = none) (hlo : (O : Int) ≤ last) (d r e : Nat) (hd1 : last = (O : Int) + (d : Int)) (hd2 : d % I = r) (hd3 : d ≤ 9007199254740992) (hd4 : (T : Int) = last - (r : Int) + (e : Int)) (hd5 : e / I = n + 1) (hd6 : e ≤ 9007199254740992)
    (hD : Sch.dueG ⟨nm, (I : Int), (O : Int), RA, Rn, Rc, rs⟩ last now = some (T, n)) (hN : Sch.nextG ⟨nm, (I : Int), (O : Int), RA, Rn, Rc, rs⟩ now = (-1)) (w : World) (h : GrIn w w.heap.size ⟨nm, (I : Int), (O : Int), RA, Rn, Rc, rs⟩) :
    Calls Try.prog 4 #[.agg #[.string nm, .int .i64 (I : Int), .int .i64 (O : Int), .slice RA Rn Rc], .int .i64 last, .int .i64 now] w (LawR w) := by
  have HH := Lib.hid h
  have HS := Lib.hid hs
  have HD := Lib.hid hD
  have HN := Lib.hid hN
  have hI0 : ¬ I = 0 := by have := hg.pos; omega
  have hIb : I ≤ 9007199254740992 := hg.le
  have hOI : O < I := hg.lt
  obtain ⟨t, ht⟩ : ∃ t : Int, t = (T : Int) := ⟨_, rfl⟩
  obtain ⟨m, hm⟩ : ∃ m : Int, m = (n : Int) := ⟨_, rfl⟩
  have HT := Lib.hid ht
  have HM := Lib.hid hm
  rw [← ht] at hA
  have HA := Lib.hid hA
  have t1 : decide (last < t) = true := decide_eq_true (by omega)
  have t2 : decide (t ≤ now) = true := decide_eq_true (by omega)
  have t3 : decide (t ≤ 9007199254740992) = true := decide_eq_true (by omega)
  have t4 : decide ((O : Int) ≤ t) = true := decide_eq_true (by omega)
  have t5 : IntKind.i64.wrap (t - (O : Int)) = (p : Int) := by rw [show t - (O : Int) = (p : Int) by omega]; exact IntWalk.i64_in _ (by omega)
  have t6 : Int.tmod (p : Int) (I : Int) = 0 := by rw [← Int.ofNat_tmod, h5]; rfl
  obtain ⟨f0, hf0⟩ : ∃ f0 : Int, f0 = (O : Int) - (I : Int) := ⟨_, rfl⟩
  have t7 : IntKind.i64.wrap ((O : Int) - (I : Int)) = f0 := by rw [hf0]; exact IntWalk.i64_in _ (by omega)
  obtain ⟨m1, hm1⟩ : ∃ m1 : Int, m1 = m + 1 := ⟨_, rfl⟩
  have t9 : IntKind.i64.wrap (m1 - 1) = m := by rw [show m1 - 1 = m by omega]; exact IntWalk.i64_in _ (by omega)
  have r1 : decide ((O : Int) ≤ last) = true := decide_eq_true hlo
  have r2 : IntKind.i64.wrap (last - (O : Int)) = (d : Int) := by rw [show last - (O : Int) = (d : Int) by omega]; exact IntWalk.i64_in _ (by omega)
  have hrd : r ≤ d := by rw [← hd2]; exact Nat.mod_le _ _
  have r3 : Int.tmod (d : Int) (I : Int) = (r : Int) := by rw [← Int.ofNat_tmod, hd2]
  obtain ⟨f1, hf1⟩ : ∃ f1 : Int, f1 = last - (r : Int) := ⟨_, rfl⟩
  have r4 : IntKind.i64.wrap (last - (r : Int)) = f1 := by rw [hf1]; exact IntWalk.i64_in _ (by omega)
  have r5 : IntKind.i64.wrap (t - f1) = (e : Int) := by rw [show t - f1 = (e : Int) by omega]; exact IntWalk.i64_in _ (by omega)
  have r6 : Int.tdiv (e : Int) (I : Int) = m1 := by rw [← Int.ofNat_tdiv, hd5]; omega
  have r7 : IntKind.i64.wrap m1 = m1 := IntWalk.i64_in _ (by omega)
  have r8 : IntKind.i64.wrap (r : Int) = (r : Int) := IntWalk.i64_in _ (by omega)
  clear h hs hD hN hg hIb hOI h1 h2 h3 h4 h5 h6 hA ht hm hf0 hm1 hlo hrd hd1 hd2 hd3 hd4 hd5 hd6 hf1
  go_enter Try.func4, Try.ntmps4
  go_wp2_with fail
  have hB1 := (Below.refl w.heap.size w).alloc (Nat.le_refl _) (.cells #[.string nm, .int .i64 (I : Int), .int .i64 (O : Int), .slice RA Rn Rc] 24)
  have hblk := (Mem.Blk.new w 24 #[.string nm, .int .i64 (I : Int), .int .i64 (O : Int), .slice RA Rn Rc])
  have hlt1 : w.heap.size < (w.alloc (.cells #[.string nm, .int .i64 (I : Int), .int .i64 (O : Int), .slice RA Rn Rc] 24)).heap.size := by simp
  have hsz1 : w.heap.size ≤ (w.alloc (.cells #[.string nm, .int .i64 (I : Int), .int .i64 (O : Int), .slice RA Rn Rc] 24)).heap.size := by simp
  obtain ⟨W1, hW1⟩ : ∃ W1, W1 = w.alloc (.cells #[.string nm, .int .i64 (I : Int), .int .i64 (O : Int), .slice RA Rn Rc] 24) := ⟨_, rfl⟩
  rw [← hW1] at hB1 hblk hlt1 hsz1 ⊢
  clear hW1
  have HBLK := Lib.hid hblk
  clear hblk
  have HG := Lib.hid (show GBox W1 w.heap.size ⟨nm, (I : Int), (O : Int), RA, Rn, Rc, rs⟩ from ⟨HBLK.out.cell 0, HBLK.out.cell 1, HBLK.out.cell 2, HBLK.out.cell 3, hlt1⟩)
  obtain ⟨v0, v1, v2, v3, _⟩ := HG.out
  refine (awake_any W1).mono ?_
  rintro e w2 ⟨rfl, hb2⟩
  have hB2 := hB1.trans (hb2.mono hB1.size)
  clear v0 v1 v2 v3
  have HG := Lib.hid (HG.out.later hb2)
  obtain ⟨v0, v1, v2, v3, hlt2⟩ := HG.out
  simp only at v0 v1 v2 v3
  go_wp2_with fail
  refine (few_one ⟨nm, (I : Int), (O : Int), RA, Rn, Rc, rs⟩ w2 (HH.out.later hB2)).mono ?_
  rintro e w3 ⟨few, rfl, hb3⟩
  have hB3 := hB2.trans (hb3.mono hB2.size)
  clear v0 v1 v2 v3
  have HG := Lib.hid (HG.out.later hb3)
  obtain ⟨v0, v1, v2, v3, hlt3⟩ := HG.out
  simp only at v0 v1 v2 v3
  rcases few with _ | _
  · go_wp2
    go_ret
    exact ⟨rfl, hB3⟩
  go_wp2_with fail
  refine (due_is ⟨nm, (I : Int), (O : Int), RA, Rn, Rc, rs⟩ last now _ HD.out w3 (HH.out.later hB3)).mono ?_
  rintro e w4 ⟨rfl, hb4⟩
  rw [show Sch.d1 (some (T, n)) = t from HT.out.symm, show Sch.d2 (some (T, n)) = m from HM.out.symm]
  have hB4 := hB3.trans (hb4.mono hB3.size)
  clear v0 v1 v2 v3
  have HG := Lib.hid (HG.out.later hb4)
  obtain ⟨v0, v1, v2, v3, hlt4⟩ := HG.out
  simp only at v0 v1 v2 v3
  go_wp2_with fail
  refine (next_is ⟨nm, (I : Int), (O : Int), RA, Rn, Rc, rs⟩ now _ HN.out w4 (HH.out.later hB4)).mono ?_
  rintro e w5 ⟨rfl, hb5⟩
  have hB5 := hB4.trans (hb5.mono hB4.size)
  clear v0 v1 v2 v3
  have HG := Lib.hid (HG.out.later hb5)
  obtain ⟨v0, v1, v2, v3, hlt5⟩ := HG.out
  simp only at v0 v1 v2 v3
  go_wp2_with fail
  refine (sane_one ⟨nm, (I : Int), (O : Int), RA, Rn, Rc, rs⟩ true HS.out w5 (HH.out.later hB5)).mono ?_
  rintro e w6 ⟨rfl, hb6⟩
  have hB6 := hB5.trans (hb6.mono hB5.size)
  clear v0 v1 v2 v3
  have HG := Lib.hid (HG.out.later hb6)
  obtain ⟨v0, v1, v2, v3, hlt6⟩ := HG.out
  simp only at v0 v1 v2 v3
  go_wp2_with fail
  refine (due_is ⟨nm, (I : Int), (O : Int), RA, Rn, Rc, rs⟩ t now _ HA.out w6 (HH.out.later hB6)).mono ?_
  rintro e w7 ⟨rfl, hb7⟩
  have hB7 := hB6.trans (hb7.mono hB6.size)
  clear v0 v1 v2 v3
  have HG := Lib.hid (HG.out.later hb7)
  obtain ⟨v0, v1, v2, v3, hlt7⟩ := HG.out
  simp only at v0 v1 v2 v3
  go_wp2
  go_ret
  exact ⟨rfl, hB7⟩

set_option maxRecDepth 100000 in
set_option maxHeartbeats 16000000 in
theorem al_sNlt (nm : ByteArray) (I O : Nat) (RA : Option Addr) (Rn Rc : Nat) (rs : List Lab.Ru) (last now : Int) (hs : Lab.grSane ⟨nm, (I : Int), (O : Int), RA, Rn, Rc, rs⟩ = true) (hg : Sch.Good I O) (N P : Nat) (hNn : now < (N : Int)) (hNm : N ≤ 9007199254740992) (hNP : N = O + P) (hP : P % I = 0) (T n p : Nat) (h1 : last < (T : Int)) (h2 : (T : Int) ≤ now) (h3 : T ≤ 9007199254740992) (h4 : T = O + p) (h5 : p % I = 0) (h6 : n ≤ 9007199254740992) (hA : Sch.dueG ⟨nm, (I : Int), (O : Int), RA, Rn, Rc, rs⟩ (T : Int) now = none) (h7 : N = T + I) (hlo : last < (O : Int)) (h8 : (p + I) / I = n + 1)
    (hD : Sch.dueG ⟨nm, (I : Int), (O : Int), RA, Rn, Rc, rs⟩ last now = some (T, n)) (hN : Sch.nextG ⟨nm, (I : Int), (O : Int), RA, Rn, Rc, rs⟩ now = (N : Int)) (w : World) (h : GrIn w w.heap.size ⟨nm, (I : Int), (O : Int), RA, Rn, Rc, rs⟩) :
    Calls Try.prog 4 #[.agg #[.string nm, .int .i64 (I : Int), .int .i64 (O : Int), .slice RA Rn Rc], .int .i64 last, .int .i64 now] w (LawR w) := by
  have HH := Lib.hid h
  have HS := Lib.hid hs
  have HD := Lib.hid hD
  have HN := Lib.hid hN
  have hI0 : ¬ I = 0 := by have := hg.pos; omega
  have hIb : I ≤ 9007199254740992 := hg.le
  have hOI : O < I := hg.lt
  obtain ⟨z, hz⟩ : ∃ z : Int, z = (N : Int) := ⟨_, rfl⟩
  rw [← hz] at hN
  have HN := Lib.hid hN
  have n1 : decide (z ≤ now) = false := decide_eq_false (by omega)
  have n2 : decide ((9007199254740992 : Int) < z) = false := decide_eq_false (by omega)
  have n3 : IntKind.i64.wrap (z - (O : Int)) = (P : Int) := by rw [show z - (O : Int) = (P : Int) by omega]; exact IntWalk.i64_in _ (by omega)
  have n4 : Int.tmod (P : Int) (I : Int) = 0 := by rw [← Int.ofNat_tmod, hP]; rfl
  have n5 : decide (z < (O : Int)) = false := decide_eq_false (by omega)
  have n6 : (z == -1) = false := by rw [beq_eq_false_iff_ne]; omega
  have n7 : (z != -1) = true := by rw [bne_iff_ne]; omega
  obtain ⟨t, ht⟩ : ∃ t : Int, t = (T : Int) := ⟨_, rfl⟩
  obtain ⟨m, hm⟩ : ∃ m : Int, m = (n : Int) := ⟨_, rfl⟩
  have HT := Lib.hid ht
  have HM := Lib.hid hm
  rw [← ht] at hA
  have HA := Lib.hid hA
  have t1 : decide (last < t) = true := decide_eq_true (by omega)
  have t2 : decide (t ≤ now) = true := decide_eq_true (by omega)
  have t3 : decide (t ≤ 9007199254740992) = true := decide_eq_true (by omega)
  have t4 : decide ((O : Int) ≤ t) = true := decide_eq_true (by omega)
  have t5 : IntKind.i64.wrap (t - (O : Int)) = (p : Int) := by rw [show t - (O : Int) = (p : Int) by omega]; exact IntWalk.i64_in _ (by omega)
  have t6 : Int.tmod (p : Int) (I : Int) = 0 := by rw [← Int.ofNat_tmod, h5]; rfl
  obtain ⟨f0, hf0⟩ : ∃ f0 : Int, f0 = (O : Int) - (I : Int) := ⟨_, rfl⟩
  have t7 : IntKind.i64.wrap ((O : Int) - (I : Int)) = f0 := by rw [hf0]; exact IntWalk.i64_in _ (by omega)
  obtain ⟨m1, hm1⟩ : ∃ m1 : Int, m1 = m + 1 := ⟨_, rfl⟩
  have t9 : IntKind.i64.wrap (m1 - 1) = m := by rw [show m1 - 1 = m by omega]; exact IntWalk.i64_in _ (by omega)
  have u1 : IntKind.i64.wrap (t + (I : Int)) = z := by rw [show t + (I : Int) = z by omega]; exact IntWalk.i64_in _ (by omega)
  have r1 : decide ((O : Int) ≤ last) = false := decide_eq_false (by omega)
  obtain ⟨e, he⟩ : ∃ e, e = p + I := ⟨_, rfl⟩
  rw [← he] at h8
  have r2 : IntKind.i64.wrap (t - f0) = (e : Int) := by rw [show t - f0 = (e : Int) by omega]; exact IntWalk.i64_in _ (by omega)
  have r3 : Int.tdiv (e : Int) (I : Int) = m1 := by rw [← Int.ofNat_tdiv, h8]; omega
  have r4 : IntKind.i64.wrap m1 = m1 := IntWalk.i64_in _ (by omega)
  clear h hs hD hN hg hIb hOI hNn hNm hNP hP hz h1 h2 h3 h4 h5 h6 hA ht hm hf0 hm1 h7 hlo h8 he
  go_enter Try.func4, Try.ntmps4
  go_wp2_with fail
  have hB1 := (Below.refl w.heap.size w).alloc (Nat.le_refl _) (.cells #[.string nm, .int .i64 (I : Int), .int .i64 (O : Int), .slice RA Rn Rc] 24)
  have hblk := (Mem.Blk.new w 24 #[.string nm, .int .i64 (I : Int), .int .i64 (O : Int), .slice RA Rn Rc])
  have hlt1 : w.heap.size < (w.alloc (.cells #[.string nm, .int .i64 (I : Int), .int .i64 (O : Int), .slice RA Rn Rc] 24)).heap.size := by simp
  have hsz1 : w.heap.size ≤ (w.alloc (.cells #[.string nm, .int .i64 (I : Int), .int .i64 (O : Int), .slice RA Rn Rc] 24)).heap.size := by simp
  obtain ⟨W1, hW1⟩ : ∃ W1, W1 = w.alloc (.cells #[.string nm, .int .i64 (I : Int), .int .i64 (O : Int), .slice RA Rn Rc] 24) := ⟨_, rfl⟩
  rw [← hW1] at hB1 hblk hlt1 hsz1 ⊢
  clear hW1
  have HBLK := Lib.hid hblk
  clear hblk
  have HG := Lib.hid (show GBox W1 w.heap.size ⟨nm, (I : Int), (O : Int), RA, Rn, Rc, rs⟩ from ⟨HBLK.out.cell 0, HBLK.out.cell 1, HBLK.out.cell 2, HBLK.out.cell 3, hlt1⟩)
  obtain ⟨v0, v1, v2, v3, _⟩ := HG.out
  refine (awake_any W1).mono ?_
  rintro e w2 ⟨rfl, hb2⟩
  have hB2 := hB1.trans (hb2.mono hB1.size)
  clear v0 v1 v2 v3
  have HG := Lib.hid (HG.out.later hb2)
  obtain ⟨v0, v1, v2, v3, hlt2⟩ := HG.out
  simp only at v0 v1 v2 v3
  go_wp2_with fail
  refine (few_one ⟨nm, (I : Int), (O : Int), RA, Rn, Rc, rs⟩ w2 (HH.out.later hB2)).mono ?_
  rintro e w3 ⟨few, rfl, hb3⟩
  have hB3 := hB2.trans (hb3.mono hB2.size)
  clear v0 v1 v2 v3
  have HG := Lib.hid (HG.out.later hb3)
  obtain ⟨v0, v1, v2, v3, hlt3⟩ := HG.out
  simp only at v0 v1 v2 v3
  rcases few with _ | _
  · go_wp2
    go_ret
    exact ⟨rfl, hB3⟩
  go_wp2_with fail
  refine (due_is ⟨nm, (I : Int), (O : Int), RA, Rn, Rc, rs⟩ last now _ HD.out w3 (HH.out.later hB3)).mono ?_
  rintro e w4 ⟨rfl, hb4⟩
  rw [show Sch.d1 (some (T, n)) = t from HT.out.symm, show Sch.d2 (some (T, n)) = m from HM.out.symm]
  have hB4 := hB3.trans (hb4.mono hB3.size)
  clear v0 v1 v2 v3
  have HG := Lib.hid (HG.out.later hb4)
  obtain ⟨v0, v1, v2, v3, hlt4⟩ := HG.out
  simp only at v0 v1 v2 v3
  go_wp2_with fail
  refine (next_is ⟨nm, (I : Int), (O : Int), RA, Rn, Rc, rs⟩ now _ HN.out w4 (HH.out.later hB4)).mono ?_
  rintro e w5 ⟨rfl, hb5⟩
  have hB5 := hB4.trans (hb5.mono hB4.size)
  clear v0 v1 v2 v3
  have HG := Lib.hid (HG.out.later hb5)
  obtain ⟨v0, v1, v2, v3, hlt5⟩ := HG.out
  simp only at v0 v1 v2 v3
  go_wp2_with fail
  refine (sane_one ⟨nm, (I : Int), (O : Int), RA, Rn, Rc, rs⟩ true HS.out w5 (HH.out.later hB5)).mono ?_
  rintro e w6 ⟨rfl, hb6⟩
  have hB6 := hB5.trans (hb6.mono hB5.size)
  clear v0 v1 v2 v3
  have HG := Lib.hid (HG.out.later hb6)
  obtain ⟨v0, v1, v2, v3, hlt6⟩ := HG.out
  simp only at v0 v1 v2 v3
  go_wp2_with fail
  refine (due_is ⟨nm, (I : Int), (O : Int), RA, Rn, Rc, rs⟩ t now _ HA.out w6 (HH.out.later hB6)).mono ?_
  rintro e w7 ⟨rfl, hb7⟩
  have hB7 := hB6.trans (hb7.mono hB6.size)
  clear v0 v1 v2 v3
  have HG := Lib.hid (HG.out.later hb7)
  obtain ⟨v0, v1, v2, v3, hlt7⟩ := HG.out
  simp only at v0 v1 v2 v3
  go_wp2
  go_ret
  exact ⟨rfl, hB7⟩

set_option maxRecDepth 100000 in
set_option maxHeartbeats 16000000 in
theorem al_sNge (nm : ByteArray) (I O : Nat) (RA : Option Addr) (Rn Rc : Nat) (rs : List Lab.Ru) (last now : Int) (hs : Lab.grSane ⟨nm, (I : Int), (O : Int), RA, Rn, Rc, rs⟩ = true) (hg : Sch.Good I O) (N P : Nat) (hNn : now < (N : Int)) (hNm : N ≤ 9007199254740992) (hNP : N = O + P) (hP : P % I = 0) (T n p : Nat) (h1 : last < (T : Int)) (h2 : (T : Int) ≤ now) (h3 : T ≤ 9007199254740992) (h4 : T = O + p) (h5 : p % I = 0) (h6 : n ≤ 9007199254740992) (hA : Sch.dueG ⟨nm, (I : Int), (O : Int), RA, Rn, Rc, rs⟩ (T : Int) now = none) (h7 : N = T + I) (hlo : (O : Int) ≤ last) (d r e : Nat) (hd1 : last = (O : Int) + (d : Int)) (hd2 : d % I = r) (hd3 : d ≤ 9007199254740992) (hd4 : (T : Int) = last - (r : Int) + (e : Int)) (hd5 : e / I = n + 1) (hd6 : e ≤ 9007199254740992)
    (hD : Sch.dueG ⟨nm, (I : Int), (O : Int), RA, Rn, Rc, rs⟩ last now = some (T, n)) (hN : Sch.nextG ⟨nm, (I : Int), (O : Int), RA, Rn, Rc, rs⟩ now = (N : Int)) (w : World) (h : GrIn w w.heap.size ⟨nm, (I : Int), (O : Int), RA, Rn, Rc, rs⟩) :
    Calls Try.prog 4 #[.agg #[.string nm, .int .i64 (I : Int), .int .i64 (O : Int), .slice RA Rn Rc], .int .i64 last, .int .i64 now] w (LawR w) := by
  have HH := Lib.hid h
  have HS := Lib.hid hs
  have HD := Lib.hid hD
  have HN := Lib.hid hN
  have hI0 : ¬ I = 0 := by have := hg.pos; omega
  have hIb : I ≤ 9007199254740992 := hg.le
  have hOI : O < I := hg.lt
  obtain ⟨z, hz⟩ : ∃ z : Int, z = (N : Int) := ⟨_, rfl⟩
  rw [← hz] at hN
  have HN := Lib.hid hN
  have n1 : decide (z ≤ now) = false := decide_eq_false (by omega)
  have n2 : decide ((9007199254740992 : Int) < z) = false := decide_eq_false (by omega)
  have n3 : IntKind.i64.wrap (z - (O : Int)) = (P : Int) := by rw [show z - (O : Int) = (P : Int) by omega]; exact IntWalk.i64_in _ (by omega)
  have n4 : Int.tmod (P : Int) (I : Int) = 0 := by rw [← Int.ofNat_tmod, hP]; rfl
  have n5 : decide (z < (O : Int)) = false := decide_eq_false (by omega)
  have n6 : (z == -1) = false := by rw [beq_eq_false_iff_ne]; omega
  have n7 : (z != -1) = true := by rw [bne_iff_ne]; omega
  obtain ⟨t, ht⟩ : ∃ t : Int, t = (T : Int) := ⟨_, rfl⟩
  obtain ⟨m, hm⟩ : ∃ m : Int, m = (n : Int) := ⟨_, rfl⟩
  have HT := Lib.hid ht
  have HM := Lib.hid hm
  rw [← ht] at hA
  have HA := Lib.hid hA
  have t1 : decide (last < t) = true := decide_eq_true (by omega)
  have t2 : decide (t ≤ now) = true := decide_eq_true (by omega)
  have t3 : decide (t ≤ 9007199254740992) = true := decide_eq_true (by omega)
  have t4 : decide ((O : Int) ≤ t) = true := decide_eq_true (by omega)
  have t5 : IntKind.i64.wrap (t - (O : Int)) = (p : Int) := by rw [show t - (O : Int) = (p : Int) by omega]; exact IntWalk.i64_in _ (by omega)
  have t6 : Int.tmod (p : Int) (I : Int) = 0 := by rw [← Int.ofNat_tmod, h5]; rfl
  obtain ⟨f0, hf0⟩ : ∃ f0 : Int, f0 = (O : Int) - (I : Int) := ⟨_, rfl⟩
  have t7 : IntKind.i64.wrap ((O : Int) - (I : Int)) = f0 := by rw [hf0]; exact IntWalk.i64_in _ (by omega)
  obtain ⟨m1, hm1⟩ : ∃ m1 : Int, m1 = m + 1 := ⟨_, rfl⟩
  have t9 : IntKind.i64.wrap (m1 - 1) = m := by rw [show m1 - 1 = m by omega]; exact IntWalk.i64_in _ (by omega)
  have u1 : IntKind.i64.wrap (t + (I : Int)) = z := by rw [show t + (I : Int) = z by omega]; exact IntWalk.i64_in _ (by omega)
  have r1 : decide ((O : Int) ≤ last) = true := decide_eq_true hlo
  have r2 : IntKind.i64.wrap (last - (O : Int)) = (d : Int) := by rw [show last - (O : Int) = (d : Int) by omega]; exact IntWalk.i64_in _ (by omega)
  have hrd : r ≤ d := by rw [← hd2]; exact Nat.mod_le _ _
  have r3 : Int.tmod (d : Int) (I : Int) = (r : Int) := by rw [← Int.ofNat_tmod, hd2]
  obtain ⟨f1, hf1⟩ : ∃ f1 : Int, f1 = last - (r : Int) := ⟨_, rfl⟩
  have r4 : IntKind.i64.wrap (last - (r : Int)) = f1 := by rw [hf1]; exact IntWalk.i64_in _ (by omega)
  have r5 : IntKind.i64.wrap (t - f1) = (e : Int) := by rw [show t - f1 = (e : Int) by omega]; exact IntWalk.i64_in _ (by omega)
  have r6 : Int.tdiv (e : Int) (I : Int) = m1 := by rw [← Int.ofNat_tdiv, hd5]; omega
  have r7 : IntKind.i64.wrap m1 = m1 := IntWalk.i64_in _ (by omega)
  have r8 : IntKind.i64.wrap (r : Int) = (r : Int) := IntWalk.i64_in _ (by omega)
  clear h hs hD hN hg hIb hOI hNn hNm hNP hP hz h1 h2 h3 h4 h5 h6 hA ht hm hf0 hm1 h7 hlo hrd hd1 hd2 hd3 hd4 hd5 hd6 hf1
  go_enter Try.func4, Try.ntmps4
  go_wp2_with fail
  have hB1 := (Below.refl w.heap.size w).alloc (Nat.le_refl _) (.cells #[.string nm, .int .i64 (I : Int), .int .i64 (O : Int), .slice RA Rn Rc] 24)
  have hblk := (Mem.Blk.new w 24 #[.string nm, .int .i64 (I : Int), .int .i64 (O : Int), .slice RA Rn Rc])
  have hlt1 : w.heap.size < (w.alloc (.cells #[.string nm, .int .i64 (I : Int), .int .i64 (O : Int), .slice RA Rn Rc] 24)).heap.size := by simp
  have hsz1 : w.heap.size ≤ (w.alloc (.cells #[.string nm, .int .i64 (I : Int), .int .i64 (O : Int), .slice RA Rn Rc] 24)).heap.size := by simp
  obtain ⟨W1, hW1⟩ : ∃ W1, W1 = w.alloc (.cells #[.string nm, .int .i64 (I : Int), .int .i64 (O : Int), .slice RA Rn Rc] 24) := ⟨_, rfl⟩
  rw [← hW1] at hB1 hblk hlt1 hsz1 ⊢
  clear hW1
  have HBLK := Lib.hid hblk
  clear hblk
  have HG := Lib.hid (show GBox W1 w.heap.size ⟨nm, (I : Int), (O : Int), RA, Rn, Rc, rs⟩ from ⟨HBLK.out.cell 0, HBLK.out.cell 1, HBLK.out.cell 2, HBLK.out.cell 3, hlt1⟩)
  obtain ⟨v0, v1, v2, v3, _⟩ := HG.out
  refine (awake_any W1).mono ?_
  rintro e w2 ⟨rfl, hb2⟩
  have hB2 := hB1.trans (hb2.mono hB1.size)
  clear v0 v1 v2 v3
  have HG := Lib.hid (HG.out.later hb2)
  obtain ⟨v0, v1, v2, v3, hlt2⟩ := HG.out
  simp only at v0 v1 v2 v3
  go_wp2_with fail
  refine (few_one ⟨nm, (I : Int), (O : Int), RA, Rn, Rc, rs⟩ w2 (HH.out.later hB2)).mono ?_
  rintro e w3 ⟨few, rfl, hb3⟩
  have hB3 := hB2.trans (hb3.mono hB2.size)
  clear v0 v1 v2 v3
  have HG := Lib.hid (HG.out.later hb3)
  obtain ⟨v0, v1, v2, v3, hlt3⟩ := HG.out
  simp only at v0 v1 v2 v3
  rcases few with _ | _
  · go_wp2
    go_ret
    exact ⟨rfl, hB3⟩
  go_wp2_with fail
  refine (due_is ⟨nm, (I : Int), (O : Int), RA, Rn, Rc, rs⟩ last now _ HD.out w3 (HH.out.later hB3)).mono ?_
  rintro e w4 ⟨rfl, hb4⟩
  rw [show Sch.d1 (some (T, n)) = t from HT.out.symm, show Sch.d2 (some (T, n)) = m from HM.out.symm]
  have hB4 := hB3.trans (hb4.mono hB3.size)
  clear v0 v1 v2 v3
  have HG := Lib.hid (HG.out.later hb4)
  obtain ⟨v0, v1, v2, v3, hlt4⟩ := HG.out
  simp only at v0 v1 v2 v3
  go_wp2_with fail
  refine (next_is ⟨nm, (I : Int), (O : Int), RA, Rn, Rc, rs⟩ now _ HN.out w4 (HH.out.later hB4)).mono ?_
  rintro e w5 ⟨rfl, hb5⟩
  have hB5 := hB4.trans (hb5.mono hB4.size)
  clear v0 v1 v2 v3
  have HG := Lib.hid (HG.out.later hb5)
  obtain ⟨v0, v1, v2, v3, hlt5⟩ := HG.out
  simp only at v0 v1 v2 v3
  go_wp2_with fail
  refine (sane_one ⟨nm, (I : Int), (O : Int), RA, Rn, Rc, rs⟩ true HS.out w5 (HH.out.later hB5)).mono ?_
  rintro e w6 ⟨rfl, hb6⟩
  have hB6 := hB5.trans (hb6.mono hB5.size)
  clear v0 v1 v2 v3
  have HG := Lib.hid (HG.out.later hb6)
  obtain ⟨v0, v1, v2, v3, hlt6⟩ := HG.out
  simp only at v0 v1 v2 v3
  go_wp2_with fail
  refine (due_is ⟨nm, (I : Int), (O : Int), RA, Rn, Rc, rs⟩ t now _ HA.out w6 (HH.out.later hB6)).mono ?_
  rintro e w7 ⟨rfl, hb7⟩
  have hB7 := hB6.trans (hb7.mono hB6.size)
  clear v0 v1 v2 v3
  have HG := Lib.hid (HG.out.later hb7)
  obtain ⟨v0, v1, v2, v3, hlt7⟩ := HG.out
  simp only at v0 v1 v2 v3
  go_wp2
  go_ret
  exact ⟨rfl, hB7⟩

theorem schedAligned_any (g : Lab.Gr) (last now : Int) (w : World) (h : GrIn w w.heap.size g) :
    Calls Try.prog 4 #[.agg #[.string g.nm, .int .i64 g.iv, .int .i64 g.off, .slice g.RA g.Rn g.Rc], .int .i64 last, .int .i64 now] w (LawR w) := by
  rcases hs : Lab.grSane g with _ | _
  · exact aligned_bad g last now hs w h
  obtain ⟨I, O, hI, hO, hg⟩ := good_of hs
  have hn := Sch.nextG_is hs hI hO now
  have hdu := Sch.dueG_is hs hI hO last now
  have hau := fun x => Sch.dueG_is hs hI hO x now
  obtain ⟨nm, iv, off, RA, Rn, Rc, rs⟩ := g
  simp only at hI hO
  subst hI hO
  rcases hd : Sch.due I O last now with _ | ⟨T, n⟩
  · rcases Sch.next_or hg now with h1 | ⟨N, P, h1, h2, h3, h4, h5⟩
    · exact al_n1 nm I O RA Rn Rc rs last now hs hg (hdu.trans hd) (hn.trans h1) w h
    · exact al_nN nm I O RA Rn Rc rs last now hs hg N P h2 h3 h4 h5 (hdu.trans hd) (hn.trans h1) w h
  · obtain ⟨p, a1, a2, a3, a4, a5, a6, a7, a8, a9, a10⟩ := Sch.aligned hg hd
    rcases Sch.next_or hg now with h1 | ⟨N, P, h1, h2, h3, h4, h5⟩
    · by_cases hlo : last < (O : Int)
      · exact al_s1lt nm I O RA Rn Rc rs last now hs hg T n p a1 a2 a3 a4 a5 a8 ((hau T).trans a6) hlo (a9 hlo) (hdu.trans hd) (hn.trans h1) w h
      · obtain ⟨d, r, e, b1, b2, b3, b4, b5, b6⟩ := a10 (by omega)
        exact al_s1ge nm I O RA Rn Rc rs last now hs hg T n p a1 a2 a3 a4 a5 a8 ((hau T).trans a6) (by omega) d r e b1 b2 b3 b4 b5 b6 (hdu.trans hd) (hn.trans h1) w h
    · have h7 : N = T + I := by have := a7 (by omega); omega
      by_cases hlo : last < (O : Int)
      · exact al_sNlt nm I O RA Rn Rc rs last now hs hg N P h2 h3 h4 h5 T n p a1 a2 a3 a4 a5 a8 ((hau T).trans a6) h7 hlo (a9 hlo) (hdu.trans hd) (hn.trans h1) w h
      · obtain ⟨d, r, e, b1, b2, b3, b4, b5, b6⟩ := a10 (by omega)
        exact al_sNge nm I O RA Rn Rc rs last now hs hg N P h2 h3 h4 h5 T n p a1 a2 a3 a4 a5 a8 ((hau T).trans a6) h7 (by omega) d r e b1 b2 b3 b4 b5 b6 (hdu.trans hd) (hn.trans h1) w h
end Go.Proofs.Ythjnhifaejoigaa
