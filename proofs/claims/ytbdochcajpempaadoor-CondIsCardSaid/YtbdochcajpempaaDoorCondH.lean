/- The walk of the reference's plain. -/
import Derived.Test.YtbdochcajpempaaDoorCondG
namespace Go.Proofs.YtbdochcajpempaaDoor
open Go.RowKit
set_option linter.unusedSimpArgs false
set_option linter.unusedVariables false

theorem place_at (A : Option Addr) (n c i : Nat) (hi : i ≤ n) (w : World) : Calls Tryd.prog 48 #[.slice A n c, .int .i64 (i : Nat)] w fun e w' => e = .returned (.int .i64 (i : Nat)) ∧ w = w' :=
  place_is A n c i i (by omega) w
/-- both blocks that the function has made -/
abbrev Two (w : World) (W : World) : Prop := Mem.Blk W w.heap.size 26 exZ ∧ Mem.Blk W (w.heap.size + 1) 26 exZ ∧ Below w.heap.size w W

set_option maxRecDepth 100000 in
set_option maxHeartbeats 16000000 in
theorem rplain_is (A : Option Addr) (n c i : Nat) (ts : List Sel.Tk) (nm : ByteArray) (ms : List Sel.Mt) (op v : Int) (j : Nat) (e0 : Int) (hs : Cond.plain ts i = ((nm, ms, op, v), j, e0)) (hsz : ∀ t ∈ ts, t.2.2.size ≤ 4611686018427387904) (w : World) (hT : Tks w w.heap.size A n c ts) :
    Calls Tryd.prog 47 #[.slice A n c, .int .i64 (i : Nat)] w fun e w' => ∃ A' n' c', e = .returned (.tuple #[.agg #[.string nm, .slice A' n' c', .int .i64 op, .int .i64 v], .int .i64 (j : Nat), .int .i64 e0]) ∧ Mts w' w'.heap.size A' n' c' ms ∧ Below w.heap.size w w' := by
  have hl := hT.len
  have hcap := hT.cap
  have HT := Lib.hid hT
  have HL := Lib.hid hl
  rcases hps : Sel.parse ts (i : Int) with ⟨nm1, ms1, j1, e1⟩
  have HPS := Lib.hid hps
  clear hT hl
  go_enter Tryd.func47, Tryd.ntmps47
  go_wp2_with fail
  have hB2 : Below w.heap.size w ((w.alloc (.cells exZ 26)).alloc (.cells exZ 26)) := ((Below.refl _ w).alloc (Nat.le_refl _) _).alloc (by simp) _
  have b1 := (Mem.Blk.new w 26 exZ).alloc (.cells exZ 26)
  have b2 : Mem.Blk ((w.alloc (.cells exZ 26)).alloc (.cells exZ 26)) (w.heap.size + 1) 26 exZ := by
    simpa using Mem.Blk.new (w.alloc (.cells exZ 26)) 26 exZ
  generalize (w.alloc (.cells exZ 26)).alloc (.cells exZ 26) = W1 at hB2 b1 b2 ⊢
  have hlA := b1.lt
  have hlB := b2.lt
  have BA := Lib.hid b1
  have BB := Lib.hid b2
  clear b1 b2
  have HT1 := Lib.hid ((HT.out.below hB2).more hB2.size)
  refine (rParse_any A n c i ts nm1 ms1 j1 e1 HPS.out W1 HT1.out).mono ?_
  rintro e w2 ⟨A2, n2, c2, rfl, hM2, hb2⟩
  have hlg : w.heap.size + 1 < w2.heap.size := Nat.lt_of_lt_of_le hlB hb2.size
  have hB3 := hB2.trans (hb2.mono hB2.size)
  by_cases he1 : e1 = 0
  · subst he1
    rw [Cond.plain_good hps] at hs
    have HQ := Lib.hid hs
    have hj1 : j1 ≤ n := by
      have := parse_place HPS.out
      rw [HL.out] at this
      exact this
    clear hps hs
    have HTW := Lib.hid (show Two w (w2.alloc (.cells #[.string nm1, .slice A2 n2 c2] 24)) from ⟨(BA.out.below hb2 hlA).alloc _, (BB.out.below hb2 hlB).alloc _, hB3.alloc hB3.size _⟩)
    have hx3 := Mem.Blk.new w2 24 #[.string nm1, .slice A2 n2 c2]
    have hm3 := hM2.later ((Below.refl w2.heap.size w2).alloc (Nat.le_refl _) (.cells #[.string nm1, .slice A2 n2 c2] 24))
    have hs3 : w2.heap.size < (w2.alloc (.cells #[.string nm1, .slice A2 n2 c2] 24)).heap.size := by simp
    obtain ⟨ok, hok⟩ : ∃ ok, Cond.opAt ts j1 = ok := ⟨_, rfl⟩
    have HOK := Lib.hid hok
    have HX3 := Lib.hid hx3
    have HM3 := Lib.hid hm3
    clear hok hx3 hm3 hM2 hb2 hB3
    go_wp2_with fail
    obtain ⟨g, hg⟩ : ∃ g, w2.heap.size = g := ⟨_, rfl⟩
    generalize w2.alloc (.cells #[.string nm1, .slice A2 n2 c2] 24) = w3 at HTW HX3 HM3 hs3 ⊢
    rw [hg] at hlg HX3 hs3 ⊢
    clear hg
    refine (rop_is A n c j1 ts ok HOK.out w3 (HT.out.later HTW.out.2.2)).mono ?_
    rintro e w4 ⟨rfl, hb4⟩
    have HTW := Lib.hid (show Two w w4 from ⟨HTW.out.1.below hb4 (by omega), HTW.out.2.1.below hb4 (by omega), HTW.out.2.2.trans (hb4.mono HTW.out.2.2.size)⟩)
    have HX3 := Lib.hid (HX3.out.below hb4 hs3)
    have HM3 := Lib.hid (HM3.out.later hb4)
    have hs3 := Nat.lt_of_lt_of_le hs3 hb4.size
    have HT4 := Lib.hid (HT.out.later HTW.out.2.2)
    clear hb4
    by_cases ho0 : ok = 0
    · have hq := HQ.out
      obtain ⟨ew, hew⟩ : ∃ e, e = Sel.wrong ts j1 := ⟨_, rfl⟩
      unfold Cond.rest at hq
      rw [HOK.out, if_pos ho0, ← hew] at hq
      injection hq with hs0 hs
      injection hs with hs5 hs6
      injection hs0 with hs1 hs0
      injection hs0 with hs2 hs0
      injection hs0 with hs3 hs4
      subst hs1 hs2 hs3 hs4 hs5 hs6
      subst ho0
      obtain ⟨e4, he4⟩ : ∃ e, e = if Sel.isK ts j1 4 = true then 0 else Sel.wrong ts j1 := ⟨_, rfl⟩
      have HE4 := Lib.hid he4
      by_cases h4 : e4 = 0
      · have hew1 : ew = 1 := by
          rw [hew]
          rcases hk4 : Sel.isK ts j1 4 with _ | _
          · rw [hk4, if_neg (by decide)] at he4
            exact absurd (he4.symm.trans h4) (Sel.wrong_ne _ _)
          · have := Sel.isK_lt hk4
            unfold Sel.wrong
            rw [if_neg (by omega)]
        clear he4 hew
        subst hew1 h4
        go_wp2_with fail
        refine (want_kind A n c j1 ts 4 0 HE4.out w4 HT4.out).mono ?_
        rintro e w' ⟨rfl, rfl⟩
        go_wp2
        have f0 := HTW.out.1.frozen 0
        have f1 := HTW.out.1.frozen 1
        have f2 := HTW.out.1.frozen 2
        have f3 := HTW.out.1.frozen 3
        have g0 := HTW.out.1.cell 0
        have g1 := HTW.out.1.cell 1
        have g2 := HTW.out.1.cell 2
        have g3 := HTW.out.1.cell 3
        have z0 := HTW.out.2.1.cell 0
        have z1 := HTW.out.2.1.cell 1
        have z2 := HTW.out.2.1.cell 2
        have z3 := HTW.out.2.1.cell 3
        simp at g0 g1 g2 g3 z0 z1 z2 z3
        go_region_with (go_at_call 48; refine (place_at A n c j1 hj1 _).mono ?_; rintro e w' ⟨rfl, rfl⟩)
        all_goals
          go_wp2
          have hz := (((HTW.out.1.set_ 0 (.string ⟨#[]⟩)).set_ 1 (.slice none 0 0)).set_ 2 (.int .i64 0)).set_ 3 (.int .i64 0)
          have y0 := hz.cell 0
          have y1 := hz.cell 1
          have y2 := hz.cell 2
          have y3 := hz.cell 3
          simp at y0 y1 y2 y3
          have hBw := HTW.out.2.2
          refine bodyPost_ret (v := .tuple #[.agg #[.string ⟨#[]⟩, .slice none 0 0, .int .i64 0, .int .i64 0], .int .i64 ((j1 : Nat)), .int .i64 (1)]) (by simp [results, Tryd.results47, go_sem, Act.put, y0, y1, y2, y3]) (by first | rfl | simp [Act.put]) ⟨none, 0, 0, by rfl, mts_none _, (by repeat (first | assumption | exact Below.refl _ _ | apply Mem.below_drewN | apply Below.drew | refine Below.alloc ?_ (by first | assumption | omega | (simp; done) | (simp; omega)) _ | refine Below.setCell ?_ (by first | assumption | omega | (simp; done) | (simp; omega)) _))⟩
      · have hew4 : e4 = ew := by
          rcases hk4 : Sel.isK ts j1 4 with _ | _
          · rw [hk4, if_neg (by decide)] at he4
            rw [he4, hew]
          · rw [hk4, if_pos rfl] at he4
            exact absurd he4 h4
        have hnb : (ew == 0) = false := by rw [beq_eq_false_iff_ne, ← hew4]; exact h4
        have HE4 := Lib.hid (show ew = if Sel.isK ts j1 4 = true then 0 else Sel.wrong ts j1 by rw [← hew4]; exact he4)
        clear he4 hew hew4 h4
        go_wp2_with fail
        refine (want_kind A n c j1 ts 4 ew HE4.out w4 HT4.out).mono ?_
        rintro e w' ⟨rfl, rfl⟩
        go_wp2
        have f0 := HTW.out.1.frozen 0
        have f1 := HTW.out.1.frozen 1
        have f2 := HTW.out.1.frozen 2
        have f3 := HTW.out.1.frozen 3
        have g0 := HTW.out.1.cell 0
        have g1 := HTW.out.1.cell 1
        have g2 := HTW.out.1.cell 2
        have g3 := HTW.out.1.cell 3
        have z0 := HTW.out.2.1.cell 0
        have z1 := HTW.out.2.1.cell 1
        have z2 := HTW.out.2.1.cell 2
        have z3 := HTW.out.2.1.cell 3
        simp at g0 g1 g2 g3 z0 z1 z2 z3
        go_region_with (go_at_call 48; refine (place_at A n c j1 hj1 _).mono ?_; rintro e w' ⟨rfl, rfl⟩)
        all_goals
          go_wp2
          have hz := (((HTW.out.1.set_ 0 (.string ⟨#[]⟩)).set_ 1 (.slice none 0 0)).set_ 2 (.int .i64 0)).set_ 3 (.int .i64 0)
          have y0 := hz.cell 0
          have y1 := hz.cell 1
          have y2 := hz.cell 2
          have y3 := hz.cell 3
          simp at y0 y1 y2 y3
          have hBw := HTW.out.2.2
          refine bodyPost_ret (v := .tuple #[.agg #[.string ⟨#[]⟩, .slice none 0 0, .int .i64 0, .int .i64 0], .int .i64 ((j1 : Nat)), .int .i64 (ew)]) (by simp [results, Tryd.results47, go_sem, Act.put, y0, y1, y2, y3]) (by first | rfl | simp [Act.put]) ⟨none, 0, 0, by rfl, mts_none _, (by repeat (first | assumption | exact Below.refl _ _ | apply Mem.below_drewN | apply Below.drew | refine Below.alloc ?_ (by first | assumption | omega | (simp; done) | (simp; omega)) _ | refine Below.setCell ?_ (by first | assumption | omega | (simp; done) | (simp; omega)) _))⟩
    · have hjn : j1 < n := by
        have := Sel.isS_lt (Cond.opAt_is ts j1 (by rw [HOK.out]; exact ho0))
        rw [HL.out] at this
        exact this
      have hokb : ((ok : Int) == 0) = false := by rw [beq_eq_false_iff_ne]; omega
      obtain ⟨p1, hp1⟩ : ∃ q, q = j1 + 1 := ⟨_, rfl⟩
      obtain ⟨p2, hp2⟩ : ∃ q, q = j1 + 2 := ⟨_, rfl⟩
      have hw1 : IntKind.i64.wrap ((j1 : Int) + 1) = ((p1 : Nat) : Int) := by rw [hp1, show (j1 : Int) + 1 = ((j1 + 1 : Nat) : Int) by omega]; exact IntWalk.i64_in _ (by omega)
      have hp1n : p1 ≤ n := by omega
      have hq := HQ.out
      unfold Cond.rest at hq
      rw [HOK.out, if_neg ho0, ← hp1, ← hp2] at hq
      have HP1 := Lib.hid hp1
      have HP2 := Lib.hid hp2
      clear hp1 hp2 HQ
      rcases hk : Sel.isK ts p1 2 with _ | _
      · obtain ⟨ew, hew⟩ : ∃ e, e = Sel.wrong ts p1 := ⟨_, rfl⟩
        have hnb : (ew == 0) = false := by rw [beq_eq_false_iff_ne, hew]; exact Sel.wrong_ne _ _
        rw [hk, if_pos rfl, ← hew] at hq
        injection hq with hs0 hs
        injection hs with hs5 hs6
        injection hs0 with hs1 hs0
        injection hs0 with hs2 hs0
        injection hs0 with hs3 hs4
        subst hs1 hs2 hs3 hs4 hs5 hs6
        have HE4 := Lib.hid (show ew = if Sel.isK ts p1 2 = true then 0 else Sel.wrong ts p1 by rw [hk, if_neg (by decide)]; exact hew)
        clear hk hew
        go_wp2_with fail
        refine (want_kind A n c p1 ts 2 ew HE4.out w4 HT4.out).mono ?_
        rintro e w' ⟨rfl, rfl⟩
        go_wp2
        have f0 := HTW.out.1.frozen 0
        have f1 := HTW.out.1.frozen 1
        have f2 := HTW.out.1.frozen 2
        have f3 := HTW.out.1.frozen 3
        have g0 := HTW.out.1.cell 0
        have g1 := HTW.out.1.cell 1
        have g2 := HTW.out.1.cell 2
        have g3 := HTW.out.1.cell 3
        have z0 := HTW.out.2.1.cell 0
        have z1 := HTW.out.2.1.cell 1
        have z2 := HTW.out.2.1.cell 2
        have z3 := HTW.out.2.1.cell 3
        simp at g0 g1 g2 g3 z0 z1 z2 z3
        go_region_with (go_at_call 48; refine (place_at A n c p1 hp1n _).mono ?_; rintro e w' ⟨rfl, rfl⟩)
        all_goals
          go_wp2
          have hz := (((HTW.out.1.set_ 0 (.string ⟨#[]⟩)).set_ 1 (.slice none 0 0)).set_ 2 (.int .i64 0)).set_ 3 (.int .i64 0)
          have y0 := hz.cell 0
          have y1 := hz.cell 1
          have y2 := hz.cell 2
          have y3 := hz.cell 3
          simp at y0 y1 y2 y3
          have hBw := HTW.out.2.2
          refine bodyPost_ret (v := .tuple #[.agg #[.string ⟨#[]⟩, .slice none 0 0, .int .i64 0, .int .i64 0], .int .i64 ((p1 : Nat)), .int .i64 (ew)]) (by simp [results, Tryd.results47, go_sem, Act.put, y0, y1, y2, y3]) (by first | rfl | simp [Act.put]) ⟨none, 0, 0, by rfl, mts_none _, (by repeat (first | assumption | exact Below.refl _ _ | apply Mem.below_drewN | apply Below.drew | refine Below.alloc ?_ (by first | assumption | omega | (simp; done) | (simp; omega)) _ | refine Below.setCell ?_ (by first | assumption | omega | (simp; done) | (simp; omega)) _))⟩
      · have hpl := Sel.isK_lt hk
        rw [HL.out] at hpl
        have HE4 := Lib.hid (show (0 : Int) = if Sel.isK ts p1 2 = true then 0 else Sel.wrong ts p1 by rw [hk, if_pos rfl])
        rw [hk, if_neg (by decide)] at hq
        obtain ⟨b, off, t, hA, hbB, ht, -, h0, -, h2⟩ := HT4.out.at_ hpl
        rw [Sel.sOf_some ht] at hq
        have hszt := hsz t (List.mem_of_getElem? ht)
        obtain ⟨tx, htx⟩ : ∃ q, t.2.2 = q := ⟨_, rfl⟩
        rw [htx] at hq h2 hszt
        rcases hnp : Num.parse (Num.bl tx) with ⟨vv, ff⟩
        rw [hnp] at hq
        simp only at hq
        have HNP := Lib.hid hnp
        subst hA
        clear ht htx hk hnp h0
        by_cases hff : ff = 0
        · subst hff
          rw [if_neg (fun h => h rfl)] at hq
          have hw2 : IntKind.i64.wrap ((j1 : Int) + 2) = ((p2 : Nat) : Int) := by rw [HP2.out, show (j1 : Int) + 2 = ((j1 + 2 : Nat) : Int) by omega]; exact IntWalk.i64_in _ (by have := HP1.out; omega)
          injection hq with hs0 hs
          injection hs with hs5 hs6
          injection hs0 with hs1 hs0
          injection hs0 with hs2 hs0
          injection hs0 with hs3 hs4
          subst hs1 hs2 hs3 hs4 hs5 hs6
          go_wp2_with fail
          refine (want_kind _ n c p1 ts 2 0 HE4.out w4 HT4.out).mono ?_
          rintro e w' ⟨rfl, rfl⟩
          go_wp2_with fail
          refine (rNumParse_is tx hszt _ vv 0 HNP.out).mono ?_
          rintro e w5 ⟨rfl, hb5⟩
          have HTW := Lib.hid (show Two w w5 from ⟨HTW.out.1.below hb5 (by omega), HTW.out.2.1.below hb5 (by omega), HTW.out.2.2.trans (hb5.mono HTW.out.2.2.size)⟩)
          have HX3 := Lib.hid (HX3.out.below hb5 hs3)
          have HM3 := Lib.hid (HM3.out.later hb5)
          clear h2 hb5
          have f0 := HTW.out.1.frozen 0
          have f1 := HTW.out.1.frozen 1
          have f2 := HTW.out.1.frozen 2
          have f3 := HTW.out.1.frozen 3
          have g0 := HTW.out.1.cell 0
          have g1 := HTW.out.1.cell 1
          have g2 := HTW.out.1.cell 2
          have g3 := HTW.out.1.cell 3
          have z0 := HTW.out.2.1.cell 0
          have z1 := HTW.out.2.1.cell 1
          have z2 := HTW.out.2.1.cell 2
          have z3 := HTW.out.2.1.cell 3
          simp at g0 g1 g2 g3 z0 z1 z2 z3
          have x0 := HX3.out.cell 0
          have x1 := HX3.out.cell 1
          simp at x0 x1
          go_wp2
          have hz := (((HTW.out.1.set_ 0 (.string nm1)).set_ 1 (.slice A2 n2 c2)).set_ 2 (.int .i64 (ok : Int))).set_ 3 (.int .i64 vv)
          have y0 := hz.cell 0
          have y1 := hz.cell 1
          have y2 := hz.cell 2
          have y3 := hz.cell 3
          simp at y0 y1 y2 y3
          have hmz := mts_far (W' := (((w5.setCell ⟨w.heap.size, 0, none⟩ (.string nm1)).setCell ⟨w.heap.size, 1, none⟩ (.slice A2 n2 c2)).setCell ⟨w.heap.size, 2, none⟩ (.int .i64 (ok : Int))).setCell ⟨w.heap.size, 3, none⟩ (.int .i64 vv)) HM3.out HTW.out.1 (fun b o hb => by rw [World.cell?_setCell_other _ _ _ _ (by intro e; cases e; exact hb rfl), World.cell?_setCell_other _ _ _ _ (by intro e; cases e; exact hb rfl), World.cell?_setCell_other _ _ _ _ (by intro e; cases e; exact hb rfl), World.cell?_setCell_other _ _ _ _ (by intro e; cases e; exact hb rfl)])
          have hBw := HTW.out.2.2
          refine bodyPost_ret (v := .tuple #[.agg #[.string nm1, .slice A2 n2 c2, .int .i64 (ok : Int), .int .i64 vv], .int .i64 (p2 : Nat), .int .i64 0]) (by simp [results, Tryd.results47, go_sem, y0, y1, y2, y3]) rfl ⟨A2, n2, c2, rfl, hmz.more (by simp), (by repeat (first | assumption | exact Below.refl _ _ | apply Mem.below_drewN | apply Below.drew | refine Below.alloc ?_ (by first | assumption | omega | (simp; done) | (simp; omega)) _ | refine Below.setCell ?_ (by first | assumption | omega | (simp; done) | (simp; omega)) _))⟩
        · rw [if_pos hff] at hq
          injection hq with hs0 hs
          injection hs with hs5 hs6
          injection hs0 with hs1 hs0
          injection hs0 with hs2 hs0
          injection hs0 with hs3 hs4
          subst hs1 hs2 hs3 hs4 hs5 hs6
          go_wp2_with fail
          refine (want_kind _ n c p1 ts 2 0 HE4.out w4 HT4.out).mono ?_
          rintro e w' ⟨rfl, rfl⟩
          go_wp2_with fail
          refine (rNumParse_is tx hszt _ vv ff HNP.out).mono ?_
          rintro e w5 ⟨rfl, hb5⟩
          have HTW := Lib.hid (show Two w w5 from ⟨HTW.out.1.below hb5 (by omega), HTW.out.2.1.below hb5 (by omega), HTW.out.2.2.trans (hb5.mono HTW.out.2.2.size)⟩)
          have HX3 := Lib.hid (HX3.out.below hb5 hs3)
          have HM3 := Lib.hid (HM3.out.later hb5)
          clear h2 hb5
          have f0 := HTW.out.1.frozen 0
          have f1 := HTW.out.1.frozen 1
          have f2 := HTW.out.1.frozen 2
          have f3 := HTW.out.1.frozen 3
          have g0 := HTW.out.1.cell 0
          have g1 := HTW.out.1.cell 1
          have g2 := HTW.out.1.cell 2
          have g3 := HTW.out.1.cell 3
          have z0 := HTW.out.2.1.cell 0
          have z1 := HTW.out.2.1.cell 1
          have z2 := HTW.out.2.1.cell 2
          have z3 := HTW.out.2.1.cell 3
          simp at g0 g1 g2 g3 z0 z1 z2 z3
          go_wp2
          have hz := (((HTW.out.1.set_ 0 (.string ⟨#[]⟩)).set_ 1 (.slice none 0 0)).set_ 2 (.int .i64 0)).set_ 3 (.int .i64 0)
          have y0 := hz.cell 0
          have y1 := hz.cell 1
          have y2 := hz.cell 2
          have y3 := hz.cell 3
          simp at y0 y1 y2 y3
          have hBw := HTW.out.2.2
          refine bodyPost_ret (v := .tuple #[.agg #[.string ⟨#[]⟩, .slice none 0 0, .int .i64 0, .int .i64 0], .int .i64 ((p1 : Nat)), .int .i64 (ff)]) (by simp [results, Tryd.results47, go_sem, Act.put, y0, y1, y2, y3]) (by first | rfl | simp [Act.put]) ⟨none, 0, 0, by rfl, mts_none _, (by repeat (first | assumption | exact Below.refl _ _ | apply Mem.below_drewN | apply Below.drew | refine Below.alloc ?_ (by first | assumption | omega | (simp; done) | (simp; omega)) _ | refine Below.setCell ?_ (by first | assumption | omega | (simp; done) | (simp; omega)) _))⟩
  · rw [Cond.plain_bad hps he1] at hs
    have hq := hs
    injection hq with hs0 hs
    injection hs with hs5 hs6
    injection hs0 with hs1 hs0
    injection hs0 with hs2 hs0
    injection hs0 with hs3 hs4
    subst hs1 hs2 hs3 hs4 hs5 hs6
    clear hps
    have HTW := Lib.hid (show Two w (w2.alloc (.cells #[.string nm1, .slice A2 n2 c2] 24)) from ⟨(BA.out.below hb2 hlA).alloc _, (BB.out.below hb2 hlB).alloc _, hB3.alloc hB3.size _⟩)
    have f0 := HTW.out.1.frozen 0
    have f1 := HTW.out.1.frozen 1
    have f2 := HTW.out.1.frozen 2
    have f3 := HTW.out.1.frozen 3
    have g0 := HTW.out.1.cell 0
    have g1 := HTW.out.1.cell 1
    have g2 := HTW.out.1.cell 2
    have g3 := HTW.out.1.cell 3
    have z0 := HTW.out.2.1.cell 0
    have z1 := HTW.out.2.1.cell 1
    have z2 := HTW.out.2.1.cell 2
    have z3 := HTW.out.2.1.cell 3
    simp at g0 g1 g2 g3 z0 z1 z2 z3
    go_wp2
    have hz := (((HTW.out.1.set_ 0 (.string ⟨#[]⟩)).set_ 1 (.slice none 0 0)).set_ 2 (.int .i64 0)).set_ 3 (.int .i64 0)
    have y0 := hz.cell 0
    have y1 := hz.cell 1
    have y2 := hz.cell 2
    have y3 := hz.cell 3
    simp at y0 y1 y2 y3
    have hBw := HTW.out.2.2
    refine bodyPost_ret (v := .tuple #[.agg #[.string ⟨#[]⟩, .slice none 0 0, .int .i64 0, .int .i64 0], .int .i64 ((j1 : Nat)), .int .i64 (e1)]) (by simp [results, Tryd.results47, go_sem, Act.put, y0, y1, y2, y3]) (by first | rfl | simp [Act.put]) ⟨none, 0, 0, by rfl, mts_none _, (by repeat (first | assumption | exact Below.refl _ _ | apply Mem.below_drewN | apply Below.drew | refine Below.alloc ?_ (by first | assumption | omega | (simp; done) | (simp; omega)) _ | refine Below.setCell ?_ (by first | assumption | omega | (simp; done) | (simp; omega)) _))⟩

set_option maxRecDepth 100000 in
set_option maxHeartbeats 16000000 in
theorem rplain_neg (A : Option Addr) (n c : Nat) (x : Int) (hx : x < 0) (ts : List Sel.Tk) (w : World) (hT : Tks w w.heap.size A n c ts) :
    Calls Tryd.prog 47 #[.slice A n c, .int .i64 x] w fun e w' => ∃ A' n' c', e = .returned (.tuple #[.agg #[.string ⟨#[]⟩, .slice A' n' c', .int .i64 0, .int .i64 0], .int .i64 ((0 : Nat) : Int), .int .i64 3]) ∧ Mts w' w'.heap.size A' n' c' [] ∧ Below w.heap.size w w' := by
  have HT := Lib.hid hT
  clear hT
  go_enter Tryd.func47, Tryd.ntmps47
  go_wp2_with fail
  have hB2 : Below w.heap.size w ((w.alloc (.cells exZ 26)).alloc (.cells exZ 26)) := ((Below.refl _ w).alloc (Nat.le_refl _) _).alloc (by simp) _
  have b1 := (Mem.Blk.new w 26 exZ).alloc (.cells exZ 26)
  have b2 : Mem.Blk ((w.alloc (.cells exZ 26)).alloc (.cells exZ 26)) (w.heap.size + 1) 26 exZ := by
    simpa using Mem.Blk.new (w.alloc (.cells exZ 26)) 26 exZ
  generalize (w.alloc (.cells exZ 26)).alloc (.cells exZ 26) = W1 at hB2 b1 b2 ⊢
  have hlA := b1.lt
  have hlB := b2.lt
  have BA := Lib.hid b1
  have BB := Lib.hid b2
  clear b1 b2
  have HT1 := Lib.hid ((HT.out.below hB2).more hB2.size)
  refine (rParse_any A n c x ts ⟨#[]⟩ [] 0 3 (by unfold Sel.parse; rw [if_pos hx]) W1 HT1.out).mono ?_
  rintro e w2 ⟨A2, n2, c2, rfl, hM2, hb2⟩
  have hlg : w.heap.size + 1 < w2.heap.size := Nat.lt_of_lt_of_le hlB hb2.size
  have hB3 := hB2.trans (hb2.mono hB2.size)
  have HTW := Lib.hid (show Two w (w2.alloc (.cells #[.string ⟨#[]⟩, .slice A2 n2 c2] 24)) from ⟨(BA.out.below hb2 hlA).alloc _, (BB.out.below hb2 hlB).alloc _, hB3.alloc hB3.size _⟩)
  have f0 := HTW.out.1.frozen 0
  have f1 := HTW.out.1.frozen 1
  have f2 := HTW.out.1.frozen 2
  have f3 := HTW.out.1.frozen 3
  have g0 := HTW.out.1.cell 0
  have g1 := HTW.out.1.cell 1
  have g2 := HTW.out.1.cell 2
  have g3 := HTW.out.1.cell 3
  have z0 := HTW.out.2.1.cell 0
  have z1 := HTW.out.2.1.cell 1
  have z2 := HTW.out.2.1.cell 2
  have z3 := HTW.out.2.1.cell 3
  simp at g0 g1 g2 g3 z0 z1 z2 z3
  go_wp2
  have hz := (((HTW.out.1.set_ 0 (.string ⟨#[]⟩)).set_ 1 (.slice none 0 0)).set_ 2 (.int .i64 0)).set_ 3 (.int .i64 0)
  have y0 := hz.cell 0
  have y1 := hz.cell 1
  have y2 := hz.cell 2
  have y3 := hz.cell 3
  simp at y0 y1 y2 y3
  have hBw := HTW.out.2.2
  refine bodyPost_ret (v := .tuple #[.agg #[.string ⟨#[]⟩, .slice none 0 0, .int .i64 0, .int .i64 0], .int .i64 (((0 : Nat) : Int)), .int .i64 (3)]) (by simp [results, Tryd.results47, go_sem, Act.put, y0, y1, y2, y3]) (by first | rfl | simp [Act.put]) ⟨none, 0, 0, by rfl, mts_none _, (by repeat (first | assumption | exact Below.refl _ _ | apply Mem.below_drewN | apply Below.drew | refine Below.alloc ?_ (by first | assumption | omega | (simp; done) | (simp; omega)) _ | refine Below.setCell ?_ (by first | assumption | omega | (simp; done) | (simp; omega)) _))⟩
end Go.Proofs.YtbdochcajpempaaDoor
