/- The walks of the reference's within, Parse, Same. -/
import Derived.Test.YtbdochcajpempaaDoorCondH
namespace Go.Proofs.YtbdochcajpempaaDoor
open Go.RowKit
set_option linter.unusedSimpArgs false
set_option linter.unusedVariables false

/-- the block of the result, all else as it was -/
abbrev One (w : World) (W : World) : Prop := Mem.Blk W w.heap.size 26 exZ ∧ Below w.heap.size w W
abbrev CPost (nm : ByteArray) (ms : List Sel.Mt) (op v : Int) (j : Nat) (e0 : Int) (w : World) (e : Ending) (w' : World) : Prop :=
  ∃ A' n' c', e = .returned (.tuple #[.agg #[.string nm, .slice A' n' c', .int .i64 op, .int .i64 v], .int .i64 (j : Nat), .int .i64 e0]) ∧ Mts w' w'.heap.size A' n' c' ms ∧ Below w.heap.size w w'

set_option maxRecDepth 100000 in
set_option maxHeartbeats 16000000 in
theorem rwithin_is (A : Option Addr) (n c : Nat) (ts : List Sel.Tk) (hsz : ∀ t ∈ ts, t.2.2.size ≤ 4611686018427387904) (f : Nat) : ∀ (i d : Nat) (nm : ByteArray) (ms : List Sel.Mt) (op v : Int) (j : Nat) (e0 : Int) (hd : d + f = 32) (hs : Cond.within ts f i = ((nm, ms, op, v), j, e0)) (w : World) (hT : Tks w w.heap.size A n c ts),
    Calls Tryd.prog 28 #[.slice A n c, .int .i64 (i : Nat), .int .i64 (d : Nat)] w (CPost nm ms op v j e0 w) := by
  induction f with
  | zero =>
    intro i d nm ms op v j e0 hd hs w hT
    have hl := hT.len
    rcases hb : Sel.isS ts i Cond.opB with _ | _
    · rw [Cond.within_plain hb] at hs
      obtain ⟨ew, hew⟩ : ∃ e, e = Sel.wrong ts i := ⟨_, rfl⟩
      have hne : ¬ ew = 0 := by rw [hew]; exact Sel.wrong_ne _ _
      have HE := Lib.hid (show ew = if Sel.isS ts i Cond.opB = true then 0 else Sel.wrong ts i by rw [hb, if_neg (by decide)]; exact hew)
      have HS := Lib.hid hs
      have HT := Lib.hid hT
      clear hs hT hl hb hew
      go_enter Tryd.func28, Tryd.ntmps28
      go_wp2_with fail
      have hB1 := (Below.refl w.heap.size w).alloc (Nat.le_refl _) (.cells exZ 26)
      have hblk := (Mem.Blk.new w 26 exZ)
      have hlt1 : w.heap.size < (w.alloc (.cells exZ 26)).heap.size := by simp
      have hsz1 : w.heap.size ≤ (w.alloc (.cells exZ 26)).heap.size := by simp
      obtain ⟨W1, hW1⟩ : ∃ W1, W1 = w.alloc (.cells exZ 26) := ⟨_, rfl⟩
      rw [← hW1] at hB1 hblk hlt1 hsz1 ⊢
      clear hW1
      have HBLK := Lib.hid hblk
      clear hblk
      have HT1 := Lib.hid ((HT.out.below hB1).more hsz1)
      refine (want_sign A n c i ts Cond.opB (by decide) ew HE.out W1 HT1.out).mono ?_
      rintro e w' ⟨rfl, rfl⟩
      go_wp2_with fail
      refine (rplain_is A n c i ts nm ms op v j e0 HS.out hsz W1 HT1.out).mono ?_
      rintro e w3 ⟨A2, n2, c2, rfl, hM3, hb3⟩
      have HM3 := Lib.hid hM3
      have HTW := Lib.hid (show One w w3 from ⟨HBLK.out.below hb3 hlt1, hB1.trans (hb3.mono hB1.size)⟩)
      clear hb3 hM3
      have f0 := HTW.out.1.frozen 0
      have f1 := HTW.out.1.frozen 1
      have f2 := HTW.out.1.frozen 2
      have f3 := HTW.out.1.frozen 3
      have g0 := HTW.out.1.cell 0
      have g1 := HTW.out.1.cell 1
      have g2 := HTW.out.1.cell 2
      have g3 := HTW.out.1.cell 3
      simp at g0 g1 g2 g3
      go_wp2
      have hz := (((HTW.out.1.set_ 0 (.string nm)).set_ 1 (.slice A2 n2 c2)).set_ 2 (.int .i64 op)).set_ 3 (.int .i64 v)
      have y0 := hz.cell 0
      have y1 := hz.cell 1
      have y2 := hz.cell 2
      have y3 := hz.cell 3
      simp at y0 y1 y2 y3
      have hmz := mts_far (W' := (((w3.setCell ⟨w.heap.size, 0, none⟩ (.string nm)).setCell ⟨w.heap.size, 1, none⟩ (.slice A2 n2 c2)).setCell ⟨w.heap.size, 2, none⟩ (.int .i64 op)).setCell ⟨w.heap.size, 3, none⟩ (.int .i64 v)) HM3.out HTW.out.1 (fun b o hb => by rw [World.cell?_setCell_other _ _ _ _ (by intro e; cases e; exact hb rfl), World.cell?_setCell_other _ _ _ _ (by intro e; cases e; exact hb rfl), World.cell?_setCell_other _ _ _ _ (by intro e; cases e; exact hb rfl), World.cell?_setCell_other _ _ _ _ (by intro e; cases e; exact hb rfl)])
      have hBw := HTW.out.2
      refine bodyPost_ret (v := .tuple #[.agg #[.string nm, .slice A2 n2 c2, .int .i64 op, .int .i64 v], .int .i64 (j : Nat), .int .i64 e0]) (by simp [results, Tryd.results28, go_sem, y0, y1, y2, y3]) rfl ⟨A2, n2, c2, rfl, hmz.more (by simp), (by repeat (first | assumption | exact Below.refl _ _ | apply Mem.below_drewN | apply Below.drew | refine Below.alloc ?_ (by first | assumption | omega | (simp; done) | (simp; omega)) _ | refine Below.setCell ?_ (by first | assumption | omega | (simp; done) | (simp; omega)) _))⟩
    · rw [Cond.within_deep hb] at hs
      have hq := hs
      injection hq with hs0 hs
      injection hs with hs5 hs6
      injection hs0 with hs1 hs0
      injection hs0 with hs2 hs0
      injection hs0 with hs3 hs4
      subst hs1 hs2 hs3 hs4 hs5 hs6
      have HE := Lib.hid (show (0 : Int) = if Sel.isS ts i Cond.opB = true then 0 else Sel.wrong ts i by rw [hb, if_pos rfl])
      obtain rfl : d = 32 := by omega
      have HT := Lib.hid hT
      clear hT hl hb
      go_enter Tryd.func28, Tryd.ntmps28
      go_wp2_with fail
      have hB1 := (Below.refl w.heap.size w).alloc (Nat.le_refl _) (.cells exZ 26)
      have hblk := (Mem.Blk.new w 26 exZ)
      have hlt1 : w.heap.size < (w.alloc (.cells exZ 26)).heap.size := by simp
      have hsz1 : w.heap.size ≤ (w.alloc (.cells exZ 26)).heap.size := by simp
      obtain ⟨W1, hW1⟩ : ∃ W1, W1 = w.alloc (.cells exZ 26) := ⟨_, rfl⟩
      rw [← hW1] at hB1 hblk hlt1 hsz1 ⊢
      clear hW1
      have HBLK := Lib.hid hblk
      clear hblk
      refine (want_sign A n c i ts Cond.opB (by decide) 0 HE.out W1 ((HT.out.below hB1).more hsz1)).mono ?_
      rintro e w' ⟨rfl, rfl⟩
      have HTW := Lib.hid (show One w W1 from ⟨HBLK.out, hB1⟩)
      have f0 := HTW.out.1.frozen 0
      have f1 := HTW.out.1.frozen 1
      have f2 := HTW.out.1.frozen 2
      have f3 := HTW.out.1.frozen 3
      have g0 := HTW.out.1.cell 0
      have g1 := HTW.out.1.cell 1
      have g2 := HTW.out.1.cell 2
      have g3 := HTW.out.1.cell 3
      simp at g0 g1 g2 g3
      go_wp2
      have hz := (((HTW.out.1.set_ 0 (.string ⟨#[]⟩)).set_ 1 (.slice none 0 0)).set_ 2 (.int .i64 0)).set_ 3 (.int .i64 0)
      have y0 := hz.cell 0
      have y1 := hz.cell 1
      have y2 := hz.cell 2
      have y3 := hz.cell 3
      simp at y0 y1 y2 y3
      have hBw := HTW.out.2
      refine bodyPost_ret (v := .tuple #[.agg #[.string ⟨#[]⟩, .slice none 0 0, .int .i64 0, .int .i64 0], .int .i64 ((i : Nat)), .int .i64 (8)]) (by simp [results, Tryd.results28, go_sem, y0, y1, y2, y3]) rfl ⟨none, 0, 0, rfl, mts_none _, (by repeat (first | assumption | exact Below.refl _ _ | apply Mem.below_drewN | apply Below.drew | refine Below.alloc ?_ (by first | assumption | omega | (simp; done) | (simp; omega)) _ | refine Below.setCell ?_ (by first | assumption | omega | (simp; done) | (simp; omega)) _))⟩
  | succ f ih =>
    intro i d nm ms op v j e0 hd hs w hT
    have hl := hT.len
    rcases hb : Sel.isS ts i Cond.opB with _ | _
    · rw [Cond.within_plain hb] at hs
      obtain ⟨ew, hew⟩ : ∃ e, e = Sel.wrong ts i := ⟨_, rfl⟩
      have hne : ¬ ew = 0 := by rw [hew]; exact Sel.wrong_ne _ _
      have HE := Lib.hid (show ew = if Sel.isS ts i Cond.opB = true then 0 else Sel.wrong ts i by rw [hb, if_neg (by decide)]; exact hew)
      have HS := Lib.hid hs
      have HT := Lib.hid hT
      clear hs hT hl hb hew
      go_enter Tryd.func28, Tryd.ntmps28
      go_wp2_with fail
      have hB1 := (Below.refl w.heap.size w).alloc (Nat.le_refl _) (.cells exZ 26)
      have hblk := (Mem.Blk.new w 26 exZ)
      have hlt1 : w.heap.size < (w.alloc (.cells exZ 26)).heap.size := by simp
      have hsz1 : w.heap.size ≤ (w.alloc (.cells exZ 26)).heap.size := by simp
      obtain ⟨W1, hW1⟩ : ∃ W1, W1 = w.alloc (.cells exZ 26) := ⟨_, rfl⟩
      rw [← hW1] at hB1 hblk hlt1 hsz1 ⊢
      clear hW1
      have HBLK := Lib.hid hblk
      clear hblk
      have HT1 := Lib.hid ((HT.out.below hB1).more hsz1)
      refine (want_sign A n c i ts Cond.opB (by decide) ew HE.out W1 HT1.out).mono ?_
      rintro e w' ⟨rfl, rfl⟩
      go_wp2_with fail
      refine (rplain_is A n c i ts nm ms op v j e0 HS.out hsz W1 HT1.out).mono ?_
      rintro e w3 ⟨A2, n2, c2, rfl, hM3, hb3⟩
      have HM3 := Lib.hid hM3
      have HTW := Lib.hid (show One w w3 from ⟨HBLK.out.below hb3 hlt1, hB1.trans (hb3.mono hB1.size)⟩)
      clear hb3 hM3
      have f0 := HTW.out.1.frozen 0
      have f1 := HTW.out.1.frozen 1
      have f2 := HTW.out.1.frozen 2
      have f3 := HTW.out.1.frozen 3
      have g0 := HTW.out.1.cell 0
      have g1 := HTW.out.1.cell 1
      have g2 := HTW.out.1.cell 2
      have g3 := HTW.out.1.cell 3
      simp at g0 g1 g2 g3
      go_wp2
      have hz := (((HTW.out.1.set_ 0 (.string nm)).set_ 1 (.slice A2 n2 c2)).set_ 2 (.int .i64 op)).set_ 3 (.int .i64 v)
      have y0 := hz.cell 0
      have y1 := hz.cell 1
      have y2 := hz.cell 2
      have y3 := hz.cell 3
      simp at y0 y1 y2 y3
      have hmz := mts_far (W' := (((w3.setCell ⟨w.heap.size, 0, none⟩ (.string nm)).setCell ⟨w.heap.size, 1, none⟩ (.slice A2 n2 c2)).setCell ⟨w.heap.size, 2, none⟩ (.int .i64 op)).setCell ⟨w.heap.size, 3, none⟩ (.int .i64 v)) HM3.out HTW.out.1 (fun b o hb => by rw [World.cell?_setCell_other _ _ _ _ (by intro e; cases e; exact hb rfl), World.cell?_setCell_other _ _ _ _ (by intro e; cases e; exact hb rfl), World.cell?_setCell_other _ _ _ _ (by intro e; cases e; exact hb rfl), World.cell?_setCell_other _ _ _ _ (by intro e; cases e; exact hb rfl)])
      have hBw := HTW.out.2
      refine bodyPost_ret (v := .tuple #[.agg #[.string nm, .slice A2 n2 c2, .int .i64 op, .int .i64 v], .int .i64 (j : Nat), .int .i64 e0]) (by simp [results, Tryd.results28, go_sem, y0, y1, y2, y3]) rfl ⟨A2, n2, c2, rfl, hmz.more (by simp), (by repeat (first | assumption | exact Below.refl _ _ | apply Mem.below_drewN | apply Below.drew | refine Below.alloc ?_ (by first | assumption | omega | (simp; done) | (simp; omega)) _ | refine Below.setCell ?_ (by first | assumption | omega | (simp; done) | (simp; omega)) _))⟩
    · rw [Cond.within_open hb] at hs
      have hin := Sel.isS_lt hb
      rw [hl] at hin
      have hcap := hT.cap
      have HE := Lib.hid (show (0 : Int) = if Sel.isS ts i Cond.opB = true then 0 else Sel.wrong ts i by rw [hb, if_pos rfl])
      obtain ⟨i2, hi2⟩ : ∃ q, q = i + 1 := ⟨_, rfl⟩
      obtain ⟨d2, hd2⟩ : ∃ q, q = d + 1 := ⟨_, rfl⟩
      have hwi : IntKind.i64.wrap ((i : Int) + 1) = ((i2 : Nat) : Int) := by rw [hi2, show (i : Int) + 1 = ((i + 1 : Nat) : Int) by omega]; exact IntWalk.i64_in _ (by omega)
      have hwd : IntKind.i64.wrap ((d : Int) + 1) = ((d2 : Nat) : Int) := by rw [hd2, show (d : Int) + 1 = ((d + 1 : Nat) : Int) by omega]; exact IntWalk.i64_in _ (by omega)
      have hdn : ((d : Int) == 32) = false := by rw [beq_eq_false_iff_ne]; omega
      rw [← hi2] at hs
      rcases hw : Cond.within ts f i2 with ⟨⟨nm1, ms1, op1, v1⟩, j1, e1⟩
      rw [hw] at hs
      have hrg := Cond.within_range f hw
      rw [hl] at hrg
      have IH := Lib.hid (ih i2 d2 nm1 ms1 op1 v1 j1 e1 (by omega) hw)
      have HT := Lib.hid hT
      have HL := Lib.hid hl
      clear hT hl hb hi2 hd2 hw ih
      by_cases he1 : e1 = 0
      · subst he1
        have hj1 : j1 ≤ n := (hrg.1 rfl).2.2
        clear hrg
        rcases hc : Sel.isS ts j1 Cond.clB with _ | _
        · obtain ⟨ew, hew⟩ : ∃ e, e = Sel.wrong ts j1 := ⟨_, rfl⟩
          have hne : ¬ ew = 0 := by rw [hew]; exact Sel.wrong_ne _ _
          rw [Cond.close_no hc, ← hew] at hs
          have hq := hs
          injection hq with hs0 hs
          injection hs with hs5 hs6
          injection hs0 with hs1 hs0
          injection hs0 with hs2 hs0
          injection hs0 with hs3 hs4
          subst hs1 hs2 hs3 hs4 hs5 hs6
          have HE4 := Lib.hid (show ew = if Sel.isS ts j1 Cond.clB = true then 0 else Sel.wrong ts j1 by rw [hc, if_neg (by decide)]; exact hew)
          clear hc hew
          go_enter Tryd.func28, Tryd.ntmps28
          go_wp2_with fail
          have hB1 := (Below.refl w.heap.size w).alloc (Nat.le_refl _) (.cells exZ 26)
          have hblk := (Mem.Blk.new w 26 exZ)
          have hlt1 : w.heap.size < (w.alloc (.cells exZ 26)).heap.size := by simp
          have hsz1 : w.heap.size ≤ (w.alloc (.cells exZ 26)).heap.size := by simp
          obtain ⟨W1, hW1⟩ : ∃ W1, W1 = w.alloc (.cells exZ 26) := ⟨_, rfl⟩
          rw [← hW1] at hB1 hblk hlt1 hsz1 ⊢
          clear hW1
          have HBLK := Lib.hid hblk
          clear hblk
          have HT1 := Lib.hid ((HT.out.below hB1).more hsz1)
          refine (want_sign A n c i ts Cond.opB (by decide) 0 HE.out W1 HT1.out).mono ?_
          rintro e w' ⟨rfl, rfl⟩
          go_wp2_with fail
          refine (IH.out W1 HT1.out).mono ?_
          rintro e w2 ⟨A2, n2, c2, rfl, hM2, hb2⟩
          have hB3 := hB1.trans (hb2.mono hB1.size)
          have HTW := Lib.hid (show One w (w2.alloc (.cells #[.string nm1, .slice A2 n2 c2, .int .i64 op1, .int .i64 v1] 26)) from ⟨(HBLK.out.below hb2 hlt1).alloc _, hB3.alloc hB3.size _⟩)
          have HX3 := Lib.hid (Mem.Blk.new w2 26 #[.string nm1, .slice A2 n2 c2, .int .i64 op1, .int .i64 v1])
          have HM3 := Lib.hid (hM2.later ((Below.refl w2.heap.size w2).alloc (Nat.le_refl _) (.cells #[.string nm1, .slice A2 n2 c2, .int .i64 op1, .int .i64 v1] 26)))
          obtain ⟨w3, hw3⟩ : ∃ w3, w3 = w2.alloc (.cells #[.string nm1, .slice A2 n2 c2, .int .i64 op1, .int .i64 v1] 26) := ⟨_, rfl⟩
          clear hb2 hM2 hB3
          rw [← hw3] at HTW HX3 HM3
          have HW3 := Lib.hid hw3
          clear hw3
          go_wp2_with fail
          rw [← HW3.out]
          refine (want_sign A n c j1 ts Cond.clB (by decide) ew HE4.out _ (HT.out.later HTW.out.2)).mono ?_
          rintro e w' ⟨rfl, rfl⟩
          go_wp2_with fail
          refine (place_at A n c j1 hj1 _).mono ?_
          rintro e w' ⟨rfl, rfl⟩
          have f0 := HTW.out.1.frozen 0
          have f1 := HTW.out.1.frozen 1
          have f2 := HTW.out.1.frozen 2
          have f3 := HTW.out.1.frozen 3
          have g0 := HTW.out.1.cell 0
          have g1 := HTW.out.1.cell 1
          have g2 := HTW.out.1.cell 2
          have g3 := HTW.out.1.cell 3
          simp at g0 g1 g2 g3
          go_wp2
          have hz := (((HTW.out.1.set_ 0 (.string ⟨#[]⟩)).set_ 1 (.slice none 0 0)).set_ 2 (.int .i64 0)).set_ 3 (.int .i64 0)
          have y0 := hz.cell 0
          have y1 := hz.cell 1
          have y2 := hz.cell 2
          have y3 := hz.cell 3
          simp at y0 y1 y2 y3
          have hBw := HTW.out.2
          refine bodyPost_ret (v := .tuple #[.agg #[.string ⟨#[]⟩, .slice none 0 0, .int .i64 0, .int .i64 0], .int .i64 ((j1 : Nat)), .int .i64 (ew)]) (by simp [results, Tryd.results28, go_sem, y0, y1, y2, y3]) rfl ⟨none, 0, 0, rfl, mts_none _, (by repeat (first | assumption | exact Below.refl _ _ | apply Mem.below_drewN | apply Below.drew | refine Below.alloc ?_ (by first | assumption | omega | (simp; done) | (simp; omega)) _ | refine Below.setCell ?_ (by first | assumption | omega | (simp; done) | (simp; omega)) _))⟩
        · rw [Cond.close_ok hc] at hs
          have hjn := Sel.isS_lt hc
          rw [HL.out] at hjn
          obtain ⟨j2, hj2⟩ : ∃ q, q = j1 + 1 := ⟨_, rfl⟩
          have hwj : IntKind.i64.wrap ((j1 : Int) + 1) = ((j2 : Nat) : Int) := by rw [hj2, show (j1 : Int) + 1 = ((j1 + 1 : Nat) : Int) by omega]; exact IntWalk.i64_in _ (by omega)
          rw [← hj2] at hs
          have hq := hs
          injection hq with hs0 hs
          injection hs with hs5 hs6
          injection hs0 with hs1 hs0
          injection hs0 with hs2 hs0
          injection hs0 with hs3 hs4
          subst hs1 hs2 hs3 hs4 hs5 hs6
          have HE4 := Lib.hid (show (0 : Int) = if Sel.isS ts j1 Cond.clB = true then 0 else Sel.wrong ts j1 by rw [hc, if_pos rfl])
          clear hc hj2
          go_enter Tryd.func28, Tryd.ntmps28
          go_wp2_with fail
          have hB1 := (Below.refl w.heap.size w).alloc (Nat.le_refl _) (.cells exZ 26)
          have hblk := (Mem.Blk.new w 26 exZ)
          have hlt1 : w.heap.size < (w.alloc (.cells exZ 26)).heap.size := by simp
          have hsz1 : w.heap.size ≤ (w.alloc (.cells exZ 26)).heap.size := by simp
          obtain ⟨W1, hW1⟩ : ∃ W1, W1 = w.alloc (.cells exZ 26) := ⟨_, rfl⟩
          rw [← hW1] at hB1 hblk hlt1 hsz1 ⊢
          clear hW1
          have HBLK := Lib.hid hblk
          clear hblk
          have HT1 := Lib.hid ((HT.out.below hB1).more hsz1)
          refine (want_sign A n c i ts Cond.opB (by decide) 0 HE.out W1 HT1.out).mono ?_
          rintro e w' ⟨rfl, rfl⟩
          go_wp2_with fail
          refine (IH.out W1 HT1.out).mono ?_
          rintro e w2 ⟨A2, n2, c2, rfl, hM2, hb2⟩
          have hB3 := hB1.trans (hb2.mono hB1.size)
          have HTW := Lib.hid (show One w (w2.alloc (.cells #[.string nm1, .slice A2 n2 c2, .int .i64 op1, .int .i64 v1] 26)) from ⟨(HBLK.out.below hb2 hlt1).alloc _, hB3.alloc hB3.size _⟩)
          have HX3 := Lib.hid (Mem.Blk.new w2 26 #[.string nm1, .slice A2 n2 c2, .int .i64 op1, .int .i64 v1])
          have HM3 := Lib.hid (hM2.later ((Below.refl w2.heap.size w2).alloc (Nat.le_refl _) (.cells #[.string nm1, .slice A2 n2 c2, .int .i64 op1, .int .i64 v1] 26)))
          obtain ⟨w3, hw3⟩ : ∃ w3, w3 = w2.alloc (.cells #[.string nm1, .slice A2 n2 c2, .int .i64 op1, .int .i64 v1] 26) := ⟨_, rfl⟩
          clear hb2 hM2 hB3
          rw [← hw3] at HTW HX3 HM3
          have HW3 := Lib.hid hw3
          clear hw3
          go_wp2_with fail
          rw [← HW3.out]
          refine (want_sign A n c j1 ts Cond.clB (by decide) 0 HE4.out _ (HT.out.later HTW.out.2)).mono ?_
          rintro e w' ⟨rfl, rfl⟩
          have f0 := HTW.out.1.frozen 0
          have f1 := HTW.out.1.frozen 1
          have f2 := HTW.out.1.frozen 2
          have f3 := HTW.out.1.frozen 3
          have g0 := HTW.out.1.cell 0
          have g1 := HTW.out.1.cell 1
          have g2 := HTW.out.1.cell 2
          have g3 := HTW.out.1.cell 3
          simp at g0 g1 g2 g3
          have x0 := HX3.out.cell 0
          have x1 := HX3.out.cell 1
          have x2 := HX3.out.cell 2
          have x3 := HX3.out.cell 3
          simp at x0 x1 x2 x3
          go_wp2
          have hz := (((HTW.out.1.set_ 0 (.string nm1)).set_ 1 (.slice A2 n2 c2)).set_ 2 (.int .i64 op1)).set_ 3 (.int .i64 v1)
          have y0 := hz.cell 0
          have y1 := hz.cell 1
          have y2 := hz.cell 2
          have y3 := hz.cell 3
          simp at y0 y1 y2 y3
          have hmz := mts_far (W' := (((w3.setCell ⟨w.heap.size, 0, none⟩ (.string nm1)).setCell ⟨w.heap.size, 1, none⟩ (.slice A2 n2 c2)).setCell ⟨w.heap.size, 2, none⟩ (.int .i64 op1)).setCell ⟨w.heap.size, 3, none⟩ (.int .i64 v1)) HM3.out HTW.out.1 (fun b o hb => by rw [World.cell?_setCell_other _ _ _ _ (by intro e; cases e; exact hb rfl), World.cell?_setCell_other _ _ _ _ (by intro e; cases e; exact hb rfl), World.cell?_setCell_other _ _ _ _ (by intro e; cases e; exact hb rfl), World.cell?_setCell_other _ _ _ _ (by intro e; cases e; exact hb rfl)])
          have hBw := HTW.out.2
          refine bodyPost_ret (v := .tuple #[.agg #[.string nm1, .slice A2 n2 c2, .int .i64 op1, .int .i64 v1], .int .i64 (j2 : Nat), .int .i64 0]) (by simp [results, Tryd.results28, go_sem, y0, y1, y2, y3]) rfl ⟨A2, n2, c2, rfl, hmz.more (by simp), (by repeat (first | assumption | exact Below.refl _ _ | apply Mem.below_drewN | apply Below.drew | refine Below.alloc ?_ (by first | assumption | omega | (simp; done) | (simp; omega)) _ | refine Below.setCell ?_ (by first | assumption | omega | (simp; done) | (simp; omega)) _))⟩
      · rw [Cond.close_err he1] at hs
        have hq := hs
        injection hq with hs0 hs
        injection hs with hs5 hs6
        injection hs0 with hs1 hs0
        injection hs0 with hs2 hs0
        injection hs0 with hs3 hs4
        subst hs1 hs2 hs3 hs4 hs5 hs6
        clear hrg
        go_enter Tryd.func28, Tryd.ntmps28
        go_wp2_with fail
        have hB1 := (Below.refl w.heap.size w).alloc (Nat.le_refl _) (.cells exZ 26)
        have hblk := (Mem.Blk.new w 26 exZ)
        have hlt1 : w.heap.size < (w.alloc (.cells exZ 26)).heap.size := by simp
        have hsz1 : w.heap.size ≤ (w.alloc (.cells exZ 26)).heap.size := by simp
        obtain ⟨W1, hW1⟩ : ∃ W1, W1 = w.alloc (.cells exZ 26) := ⟨_, rfl⟩
        rw [← hW1] at hB1 hblk hlt1 hsz1 ⊢
        clear hW1
        have HBLK := Lib.hid hblk
        clear hblk
        have HT1 := Lib.hid ((HT.out.below hB1).more hsz1)
        refine (want_sign A n c i ts Cond.opB (by decide) 0 HE.out W1 HT1.out).mono ?_
        rintro e w' ⟨rfl, rfl⟩
        go_wp2_with fail
        refine (IH.out W1 HT1.out).mono ?_
        rintro e w2 ⟨A2, n2, c2, rfl, hM2, hb2⟩
        have hB3 := hB1.trans (hb2.mono hB1.size)
        have HTW := Lib.hid (show One w (w2.alloc (.cells #[.string nm1, .slice A2 n2 c2, .int .i64 op1, .int .i64 v1] 26)) from ⟨(HBLK.out.below hb2 hlt1).alloc _, hB3.alloc hB3.size _⟩)
        have HX3 := Lib.hid (Mem.Blk.new w2 26 #[.string nm1, .slice A2 n2 c2, .int .i64 op1, .int .i64 v1])
        have HM3 := Lib.hid (hM2.later ((Below.refl w2.heap.size w2).alloc (Nat.le_refl _) (.cells #[.string nm1, .slice A2 n2 c2, .int .i64 op1, .int .i64 v1] 26)))
        obtain ⟨w3, hw3⟩ : ∃ w3, w3 = w2.alloc (.cells #[.string nm1, .slice A2 n2 c2, .int .i64 op1, .int .i64 v1] 26) := ⟨_, rfl⟩
        clear hb2 hM2 hB3
        rw [← hw3] at HTW HX3 HM3
        have HW3 := Lib.hid hw3
        clear hw3
        rw [HW3.out] at HTW
        have f0 := HTW.out.1.frozen 0
        have f1 := HTW.out.1.frozen 1
        have f2 := HTW.out.1.frozen 2
        have f3 := HTW.out.1.frozen 3
        have g0 := HTW.out.1.cell 0
        have g1 := HTW.out.1.cell 1
        have g2 := HTW.out.1.cell 2
        have g3 := HTW.out.1.cell 3
        simp at g0 g1 g2 g3
        go_wp2
        have hz := (((HTW.out.1.set_ 0 (.string ⟨#[]⟩)).set_ 1 (.slice none 0 0)).set_ 2 (.int .i64 0)).set_ 3 (.int .i64 0)
        have y0 := hz.cell 0
        have y1 := hz.cell 1
        have y2 := hz.cell 2
        have y3 := hz.cell 3
        simp at y0 y1 y2 y3
        have hBw := HTW.out.2
        refine bodyPost_ret (v := .tuple #[.agg #[.string ⟨#[]⟩, .slice none 0 0, .int .i64 0, .int .i64 0], .int .i64 ((j1 : Nat)), .int .i64 (e1)]) (by simp [results, Tryd.results28, go_sem, y0, y1, y2, y3]) rfl ⟨none, 0, 0, rfl, mts_none _, (by repeat (first | assumption | exact Below.refl _ _ | apply Mem.below_drewN | apply Below.drew | refine Below.alloc ?_ (by first | assumption | omega | (simp; done) | (simp; omega)) _ | refine Below.setCell ?_ (by first | assumption | omega | (simp; done) | (simp; omega)) _))⟩
set_option maxRecDepth 100000 in
set_option maxHeartbeats 16000000 in
theorem rwithin_neg (A : Option Addr) (n c : Nat) (x : Int) (hx : x < 0) (ts : List Sel.Tk) (w : World) (hT : Tks w w.heap.size A n c ts) :
    Calls Tryd.prog 28 #[.slice A n c, .int .i64 x, .int .i64 0] w (CPost ⟨#[]⟩ [] 0 0 0 3 w) := by
  have HT := Lib.hid hT
  clear hT
  go_enter Tryd.func28, Tryd.ntmps28
  go_wp2_with fail
  have hB1 := (Below.refl w.heap.size w).alloc (Nat.le_refl _) (.cells exZ 26)
  have hblk := (Mem.Blk.new w 26 exZ)
  have hlt1 : w.heap.size < (w.alloc (.cells exZ 26)).heap.size := by simp
  have hsz1 : w.heap.size ≤ (w.alloc (.cells exZ 26)).heap.size := by simp
  obtain ⟨W1, hW1⟩ : ∃ W1, W1 = w.alloc (.cells exZ 26) := ⟨_, rfl⟩
  rw [← hW1] at hB1 hblk hlt1 hsz1 ⊢
  clear hW1
  have HBLK := Lib.hid hblk
  clear hblk
  refine (want_neg A n c x 4 _ hx W1).mono ?_
  rintro e w' ⟨rfl, rfl⟩
  go_wp2_with fail
  refine (rplain_neg A n c x hx ts W1 ((HT.out.below hB1).more hsz1)).mono ?_
  rintro e w3 ⟨A2, n2, c2, rfl, hM3, hb3⟩
  have HM3 := Lib.hid hM3
  have HTW := Lib.hid (show One w w3 from ⟨HBLK.out.below hb3 hlt1, hB1.trans (hb3.mono hB1.size)⟩)
  clear hb3 hM3
  have f0 := HTW.out.1.frozen 0
  have f1 := HTW.out.1.frozen 1
  have f2 := HTW.out.1.frozen 2
  have f3 := HTW.out.1.frozen 3
  have g0 := HTW.out.1.cell 0
  have g1 := HTW.out.1.cell 1
  have g2 := HTW.out.1.cell 2
  have g3 := HTW.out.1.cell 3
  simp at g0 g1 g2 g3
  go_wp2
  have hz := (((HTW.out.1.set_ 0 (.string ⟨#[]⟩)).set_ 1 (.slice A2 n2 c2)).set_ 2 (.int .i64 0)).set_ 3 (.int .i64 0)
  have y0 := hz.cell 0
  have y1 := hz.cell 1
  have y2 := hz.cell 2
  have y3 := hz.cell 3
  simp at y0 y1 y2 y3
  have hmz := mts_far (W' := (((w3.setCell ⟨w.heap.size, 0, none⟩ (.string ⟨#[]⟩)).setCell ⟨w.heap.size, 1, none⟩ (.slice A2 n2 c2)).setCell ⟨w.heap.size, 2, none⟩ (.int .i64 0)).setCell ⟨w.heap.size, 3, none⟩ (.int .i64 0)) HM3.out HTW.out.1 (fun b o hb => by rw [World.cell?_setCell_other _ _ _ _ (by intro e; cases e; exact hb rfl), World.cell?_setCell_other _ _ _ _ (by intro e; cases e; exact hb rfl), World.cell?_setCell_other _ _ _ _ (by intro e; cases e; exact hb rfl), World.cell?_setCell_other _ _ _ _ (by intro e; cases e; exact hb rfl)])
  have hBw := HTW.out.2
  refine bodyPost_ret (v := .tuple #[.agg #[.string ⟨#[]⟩, .slice A2 n2 c2, .int .i64 0, .int .i64 0], .int .i64 0, .int .i64 3]) (by simp [results, Tryd.results28, go_sem, y0, y1, y2, y3]) rfl ⟨A2, n2, c2, rfl, hmz.more (by simp), (by repeat (first | assumption | exact Below.refl _ _ | apply Mem.below_drewN | apply Below.drew | refine Below.alloc ?_ (by first | assumption | omega | (simp; done) | (simp; omega)) _ | refine Below.setCell ?_ (by first | assumption | omega | (simp; done) | (simp; omega)) _))⟩

set_option maxRecDepth 100000 in
set_option maxHeartbeats 16000000 in
theorem rcparse_is (A : Option Addr) (n c : Nat) (x : Int) (ts : List Sel.Tk) (nm : ByteArray) (ms : List Sel.Mt) (op v : Int) (j : Nat) (e0 : Int) (hs : Cond.parse ts x = ((nm, ms, op, v), j, e0)) (hsz : ∀ t ∈ ts, t.2.2.size ≤ 4611686018427387904) (w : World) (hT : Tks w w.heap.size A n c ts) :
    Calls Tryd.prog 12 #[.slice A n c, .int .i64 x] w (CPost nm ms op v j e0 w) := by
  have HT := Lib.hid hT
  clear hT
  have hcall : ∀ W : World, Tks W W.heap.size A n c ts → Calls Tryd.prog 28 #[.slice A n c, .int .i64 x, .int .i64 0] W (CPost nm ms op v j e0 W) := by
    intro W hW
    unfold Cond.parse at hs
    by_cases hx : x < 0
    · rw [if_pos hx] at hs
      have hq := hs
      injection hq with hs0 hs
      injection hs with hs5 hs6
      injection hs0 with hs1 hs0
      injection hs0 with hs2 hs0
      injection hs0 with hs3 hs4
      subst hs1 hs2 hs3 hs4 hs5 hs6
      exact rwithin_neg A n c x hx ts W hW
    · rw [if_neg hx] at hs
      obtain ⟨X, rfl⟩ : ∃ X : Nat, x = X := ⟨x.toNat, by omega⟩
      exact rwithin_is A n c ts hsz 32 X 0 nm ms op v j e0 rfl hs W hW
  clear hs
  have HC := Lib.hid hcall
  clear hcall
  go_enter Tryd.func12, Tryd.ntmps12
  go_wp2_with fail
  have hB1 := (Below.refl w.heap.size w).alloc (Nat.le_refl _) (.cells exZ 26)
  have hblk := (Mem.Blk.new w 26 exZ)
  have hlt1 : w.heap.size < (w.alloc (.cells exZ 26)).heap.size := by simp
  have hsz1 : w.heap.size ≤ (w.alloc (.cells exZ 26)).heap.size := by simp
  obtain ⟨W1, hW1⟩ : ∃ W1, W1 = w.alloc (.cells exZ 26) := ⟨_, rfl⟩
  rw [← hW1] at hB1 hblk hlt1 hsz1 ⊢
  clear hW1
  have HBLK := Lib.hid hblk
  clear hblk
  refine (HC.out W1 ((HT.out.below hB1).more hsz1)).mono ?_
  rintro e w3 ⟨A2, n2, c2, rfl, hM3, hb3⟩
  have HM3 := Lib.hid hM3
  have HTW := Lib.hid (show One w w3 from ⟨HBLK.out.below hb3 hlt1, hB1.trans (hb3.mono hB1.size)⟩)
  clear hb3 hM3
  have f0 := HTW.out.1.frozen 0
  have f1 := HTW.out.1.frozen 1
  have f2 := HTW.out.1.frozen 2
  have f3 := HTW.out.1.frozen 3
  have g0 := HTW.out.1.cell 0
  have g1 := HTW.out.1.cell 1
  have g2 := HTW.out.1.cell 2
  have g3 := HTW.out.1.cell 3
  simp at g0 g1 g2 g3
  go_wp2
  have hz := (((HTW.out.1.set_ 0 (.string nm)).set_ 1 (.slice A2 n2 c2)).set_ 2 (.int .i64 op)).set_ 3 (.int .i64 v)
  have y0 := hz.cell 0
  have y1 := hz.cell 1
  have y2 := hz.cell 2
  have y3 := hz.cell 3
  simp at y0 y1 y2 y3
  have hmz := mts_far (W' := (((w3.setCell ⟨w.heap.size, 0, none⟩ (.string nm)).setCell ⟨w.heap.size, 1, none⟩ (.slice A2 n2 c2)).setCell ⟨w.heap.size, 2, none⟩ (.int .i64 op)).setCell ⟨w.heap.size, 3, none⟩ (.int .i64 v)) HM3.out HTW.out.1 (fun b o hb => by rw [World.cell?_setCell_other _ _ _ _ (by intro e; cases e; exact hb rfl), World.cell?_setCell_other _ _ _ _ (by intro e; cases e; exact hb rfl), World.cell?_setCell_other _ _ _ _ (by intro e; cases e; exact hb rfl), World.cell?_setCell_other _ _ _ _ (by intro e; cases e; exact hb rfl)])
  have hBw := HTW.out.2
  refine bodyPost_ret (v := .tuple #[.agg #[.string nm, .slice A2 n2 c2, .int .i64 op, .int .i64 v], .int .i64 (j : Nat), .int .i64 e0]) (by simp [results, Tryd.results12, go_sem, y0, y1, y2, y3]) rfl ⟨A2, n2, c2, rfl, hmz.more (by simp), (by repeat (first | assumption | exact Below.refl _ _ | apply Mem.below_drewN | apply Below.drew | refine Below.alloc ?_ (by first | assumption | omega | (simp; done) | (simp; omega)) _ | refine Below.setCell ?_ (by first | assumption | omega | (simp; done) | (simp; omega)) _))⟩

/-- are two the same -/
def Cond.same (nm nm2 : ByteArray) (ms ms2 : List Sel.Mt) (op op2 v v2 : Int) : Bool := Sel.same nm nm2 ms ms2 && (op == op2) && (v == v2)
set_option maxRecDepth 100000 in
set_option maxHeartbeats 8000000 in
theorem csame_is (nm nm2 : ByteArray) (A B : Option Addr) (n c m d : Nat) (ms ms2 : List Lab.Mt) (op op2 v v2 : Int) (b : Bool) (hb : Cond.same nm nm2 ms ms2 op op2 v v2 = b) (w : World) (h : Mts w w.heap.size A n c ms) (g : Mts w w.heap.size B m d ms2) :
    Calls Tryd.prog 21 #[.agg #[.string nm, .slice A n c, .int .i64 op, .int .i64 v], .agg #[.string nm2, .slice B m d, .int .i64 op2, .int .i64 v2]] w fun e w' => e = .returned (.bool b) ∧ Below w.heap.size w w' := by
  subst hb
  have HM := Lib.hid h
  have HN := Lib.hid g
  clear h g
  unfold Cond.same
  obtain ⟨b1, h1⟩ : ∃ b, Sel.same nm nm2 ms ms2 = b := ⟨_, rfl⟩
  obtain ⟨b2, h2⟩ : ∃ b, (op == op2) = b := ⟨_, rfl⟩
  obtain ⟨b3, h3⟩ : ∃ b, (v == v2) = b := ⟨_, rfl⟩
  rw [h1, h2, h3]
  have H1 := Lib.hid h1
  clear h1
  go_enter Tryd.func21, Tryd.ntmps21
  go_wp2_with fail
  have hB2 : Below w.heap.size w ((w.alloc (.cells #[.string nm, .slice A n c, .int .i64 op, .int .i64 v] 26)).alloc (.cells #[.string nm2, .slice B m d, .int .i64 op2, .int .i64 v2] 26)) := ((Below.refl _ w).alloc (Nat.le_refl _) _).alloc (by simp) _
  have b1 := (Mem.Blk.new w 26 #[.string nm, .slice A n c, .int .i64 op, .int .i64 v]).alloc (.cells #[.string nm2, .slice B m d, .int .i64 op2, .int .i64 v2] 26)
  have b2 : Mem.Blk ((w.alloc (.cells #[.string nm, .slice A n c, .int .i64 op, .int .i64 v] 26)).alloc (.cells #[.string nm2, .slice B m d, .int .i64 op2, .int .i64 v2] 26)) (w.heap.size + 1) 26 #[.string nm2, .slice B m d, .int .i64 op2, .int .i64 v2] := by
    simpa using Mem.Blk.new (w.alloc (.cells #[.string nm, .slice A n c, .int .i64 op, .int .i64 v] 26)) 26 #[.string nm2, .slice B m d, .int .i64 op2, .int .i64 v2]
  generalize (w.alloc (.cells #[.string nm, .slice A n c, .int .i64 op, .int .i64 v] 26)).alloc (.cells #[.string nm2, .slice B m d, .int .i64 op2, .int .i64 v2] 26) = W1 at hB2 b1 b2 ⊢
  have hlA := b1.lt
  have hlB := b2.lt
  have BA := Lib.hid b1
  have BB := Lib.hid b2
  clear b1 b2
  have hx := same_any nm nm2 A B n c m d ms ms2 W1 ((HM.out.below hB2).more hB2.size) ((HN.out.below hB2).more hB2.size)
  rw [H1.out] at hx
  refine hx.mono ?_
  rintro e w2 ⟨rfl, hb2⟩
  have a2 := (hb2.cell (p := ⟨w.heap.size, 2, none⟩) hlA).trans (BA.out.cell 2)
  have a3 := (hb2.cell (p := ⟨w.heap.size, 3, none⟩) hlA).trans (BA.out.cell 3)
  have c2 := (hb2.cell (p := ⟨w.heap.size + 1, 2, none⟩) hlB).trans (BB.out.cell 2)
  have c3 := (hb2.cell (p := ⟨w.heap.size + 1, 3, none⟩) hlB).trans (BB.out.cell 3)
  simp at a2 a3 c2 c3
  have hC2 := hB2.trans (hb2.mono hB2.size)
  clear hx
  rcases b1 with _ | _
  · go_wp2
    go_ret
    exact ⟨rfl, hC2⟩
  · rcases b2 with _ | _
    · go_wp2
      go_ret
      exact ⟨rfl, hC2⟩
    · go_wp2
      go_ret
      exact ⟨rfl, hC2⟩
end Go.Proofs.YtbdochcajpempaaDoor
