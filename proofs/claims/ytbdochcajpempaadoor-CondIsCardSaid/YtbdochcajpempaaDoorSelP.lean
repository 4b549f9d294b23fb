/- The walk of the reference's Parse behind a name. -/
import Derived.Test.YtbdochcajpempaaDoorSelO
namespace Go.Proofs.YtbdochcajpempaaDoor
open Go.RowKit
set_option linter.unusedSimpArgs false
set_option linter.unusedVariables false

set_option maxRecDepth 100000 in
set_option maxHeartbeats 8000000 in
theorem rParse_good (A : Option Addr) (n c i : Nat) (ts : List Sel.Tk) (he : Sel.nameE ts i = 0) (nm : ByteArray) (ms : List Sel.Mt) (j : Nat) (e0 : Int) (hs : Sel.parse ts (i : Int) = (nm, ms, j, e0)) (w : World) (hT : Tks w w.heap.size A n c ts) :
    Calls Tryd.prog 65 #[.slice A n c, .int .i64 (i : Nat)] w fun e w' => ∃ A' n' c', e = .returned (.tuple #[.agg #[.string nm, .slice A' n' c'], .int .i64 (j : Nat), .int .i64 e0]) ∧ Mts w' w'.heap.size A' n' c' ms ∧ Below w.heap.size w w' := by
  rw [parse_good he] at hs
  have hl := hT.len
  have hcap := hT.cap
  have HT := Lib.hid hT
  have HE0 := Lib.hid he
  have hin := Sel.nameE_lt he
  have hilt : i < n := by omega
  have hdi : decide (i < n) = true := decide_eq_true hilt
  obtain ⟨sb, so, st, hA, hsB, hst, hsz, -, -, hs2⟩ := HT.out.at_ hilt
  have hso0 := Sel.sOf_some hst
  obtain ⟨s0, hs0⟩ : ∃ s, st.2.2 = s := ⟨_, rfl⟩
  rw [hs0] at hso0 hs2
  rw [hso0] at hs
  obtain ⟨p1, hp1⟩ : ∃ p, i + 1 = p := ⟨_, rfl⟩
  obtain ⟨p2, hp2⟩ : ∃ p, i + 2 = p := ⟨_, rfl⟩
  obtain ⟨p3, hp3⟩ : ∃ p, i + 3 = p := ⟨_, rfl⟩
  rw [hp1, hp2, hp3] at hs
  have hw1 : IntKind.i64.wrap ((i : Int) + 1) = ((p1 : Nat) : Int) := by rw [← hp1, show (i : Int) + 1 = ((i + 1 : Nat) : Int) by omega]; exact IntWalk.i64_in _ (by omega)
  have HP1 := Lib.hid hp1
  have HP2 := Lib.hid hp2
  have HP3 := Lib.hid hp3
  have hp1n : p1 ≤ n := by omega
  subst hA
  clear hT he hso0 hs0 hst hsz hp1 hp2 hp3 hin
  rcases hb1 : Sel.isS ts p1 Sel.opS with _ | _
  · rw [if_pos hb1] at hs
    injection hs with hs1 hs
    injection hs with hs2' hs
    injection hs with hs3 hs4
    subst hs1 hs2' hs3 hs4
    obtain ⟨e1, he1⟩ : ∃ e, e = Sel.wrong ts p1 := ⟨_, rfl⟩
    have hne1 : e1 ≠ 0 := by rw [he1]; exact Sel.wrong_ne ts p1
    have hnb1 : (e1 == 0) = false := by rw [beq_eq_false_iff_ne]; exact hne1
    have HE1 := Lib.hid he1
    have HB1 := Lib.hid hb1
    clear hb1 he1
    go_enter Tryd.func65, Tryd.ntmps65
    go_wp2_with fail
    have HT2 := Lib.hid (((HT.out.alloc (Nat.le_refl _) (.cells #[.string ⟨#[]⟩, .slice none 0 0] 24)).alloc (by simp) (.cells #[.string ⟨#[]⟩, .slice none 0 0] 24)).more (show w.heap.size ≤ ((w.alloc (.cells #[.string ⟨#[]⟩, .slice none 0 0] 24)).alloc (.cells #[.string ⟨#[]⟩, .slice none 0 0] 24)).heap.size by simp; omega))
    refine (rNameAt_is _ n c i ts 0 HE0.out _ HT2.out).mono ?_
    rintro e w' ⟨rfl, rfl⟩
    go_wp2_with fail
    have hs3 : RS w s0 (.slice none 0 0) [] (((w.alloc (.cells #[.string ⟨#[]⟩, .slice none 0 0] 24)).alloc (.cells #[.string ⟨#[]⟩, .slice none 0 0] 24)).alloc (.cells #[.string s0, .slice none 0 0] 24)) :=
      ⟨((Mem.Blk.new w _ _).alloc _).alloc _, by simpa using (Mem.Blk.new (w.alloc (.cells #[.string ⟨#[]⟩, .slice none 0 0] 24)) 24 #[.string ⟨#[]⟩, .slice none 0 0]).alloc (.cells #[.string s0, .slice none 0 0] 24), by simpa using Mem.Blk.new ((w.alloc (.cells #[.string ⟨#[]⟩, .slice none 0 0] 24)).alloc (.cells #[.string ⟨#[]⟩, .slice none 0 0] 24)) 24 #[.string s0, .slice none 0 0], ⟨rfl, .inl ⟨rfl, rfl⟩⟩, (((Below.refl _ w).alloc (Nat.le_refl _) _).alloc (by simp) _).alloc (by simp; omega) _, fun p hp => absurd hp (by simp)⟩
    generalize ((w.alloc (.cells #[.string ⟨#[]⟩, .slice none 0 0] 24)).alloc (.cells #[.string ⟨#[]⟩, .slice none 0 0] 24)).alloc (.cells #[.string s0, .slice none 0 0] 24) = w3 at hs3 ⊢
    have HS := Lib.hid hs3
    clear hs3
    refine (want_sign _ n c p1 ts Sel.opS (by intro hh; cases hh) e1 (by rw [HB1.out]; first | rfl | exact HE1.out) _ ((HT.out.below HS.out.low).more HS.out.low.size)).mono ?_
    rintro e w' ⟨rfl, rfl⟩
    clear hs2
    have f0 := HS.out.res.frozen 0
    have f1 := HS.out.res.frozen 1
    have g0 := HS.out.res.cell 0
    have g1 := HS.out.res.cell 1
    have c0 := HS.out.cur.cell 0
    have c1 := HS.out.cur.cell 1
    have d0 := HS.out.non.cell 0
    have d1 := HS.out.non.cell 1
    simp at g0 g1 c0 c1 d0 d1
    go_wp2
    obtain ⟨h2, h3⟩ := HS.out.far s0 (.slice none 0 0)
    obtain ⟨A1, n1, c1', hv1, hmt⟩ := HS.out.mts s0 (.slice none 0 0)
    cases hv1
    have z0 := h2.cell 0
    have z1 := h2.cell 1
    simp at z0 z1
    refine bodyPost_ret (v := .tuple #[.agg #[.string s0, (.slice none 0 0)], .int .i64 ((p1 : Nat) : Int), .int .i64 0]) (by simp [results, Tryd.results65, go_sem, z0, z1]) rfl ⟨_, _, _, rfl, hmt, h3⟩
  · rw [if_neg (by rw [hb1]; simp)] at hs
    have hp1l := Sel.isS_lt hb1
    have hw2 : IntKind.i64.wrap ((p1 : Int) + 1) = ((p2 : Nat) : Int) := by rw [← HP2.out, show (p1 : Int) + 1 = ((i + 2 : Nat) : Int) by have := HP1.out; omega]; exact IntWalk.i64_in _ (by have := HP1.out; omega)
    have hp2n : p2 ≤ n := by have := HP1.out; have := HP2.out; omega
    have HB1 := Lib.hid hb1
    clear hb1 hp1l
    rcases hb2 : Sel.isS ts p2 Sel.clS with _ | _
    · rw [if_neg (by rw [hb2]; simp)] at hs
      have HQ := Lib.hid hs
      have HB2 := Lib.hid hb2
      obtain ⟨e1, he1⟩ : ∃ e, e = Sel.wrong ts p2 := ⟨_, rfl⟩
      have hne1 : e1 ≠ 0 := by rw [he1]; exact Sel.wrong_ne ts p2
      have hnb1 : (e1 == 0) = false := by rw [beq_eq_false_iff_ne]; exact hne1
      have HE1 := Lib.hid he1
      clear hb2 he1 hs
      go_enter Tryd.func65, Tryd.ntmps65
      go_wp2_with fail
      have HT2 := Lib.hid (((HT.out.alloc (Nat.le_refl _) (.cells #[.string ⟨#[]⟩, .slice none 0 0] 24)).alloc (by simp) (.cells #[.string ⟨#[]⟩, .slice none 0 0] 24)).more (show w.heap.size ≤ ((w.alloc (.cells #[.string ⟨#[]⟩, .slice none 0 0] 24)).alloc (.cells #[.string ⟨#[]⟩, .slice none 0 0] 24)).heap.size by simp; omega))
      refine (rNameAt_is _ n c i ts 0 HE0.out _ HT2.out).mono ?_
      rintro e w' ⟨rfl, rfl⟩
      go_wp2_with fail
      have hs3 : RS w s0 (.slice none 0 0) [] (((w.alloc (.cells #[.string ⟨#[]⟩, .slice none 0 0] 24)).alloc (.cells #[.string ⟨#[]⟩, .slice none 0 0] 24)).alloc (.cells #[.string s0, .slice none 0 0] 24)) :=
        ⟨((Mem.Blk.new w _ _).alloc _).alloc _, by simpa using (Mem.Blk.new (w.alloc (.cells #[.string ⟨#[]⟩, .slice none 0 0] 24)) 24 #[.string ⟨#[]⟩, .slice none 0 0]).alloc (.cells #[.string s0, .slice none 0 0] 24), by simpa using Mem.Blk.new ((w.alloc (.cells #[.string ⟨#[]⟩, .slice none 0 0] 24)).alloc (.cells #[.string ⟨#[]⟩, .slice none 0 0] 24)) 24 #[.string s0, .slice none 0 0], ⟨rfl, .inl ⟨rfl, rfl⟩⟩, (((Below.refl _ w).alloc (Nat.le_refl _) _).alloc (by simp) _).alloc (by simp; omega) _, fun p hp => absurd hp (by simp)⟩
      generalize ((w.alloc (.cells #[.string ⟨#[]⟩, .slice none 0 0] 24)).alloc (.cells #[.string ⟨#[]⟩, .slice none 0 0] 24)).alloc (.cells #[.string s0, .slice none 0 0] 24) = w3 at hs3 ⊢
      have HS := Lib.hid hs3
      clear hs3
      refine (want_sign _ n c p1 ts Sel.opS (by intro hh; cases hh) 0 (by rw [HB1.out]; first | rfl | exact rfl) _ ((HT.out.below HS.out.low).more HS.out.low.size)).mono ?_
      rintro e w' ⟨rfl, rfl⟩
      clear hs2
      go_wp2_with fail
      refine (want_sign _ n c p2 ts Sel.clS (by intro hh; cases hh) e1 (by rw [HB2.out]; first | rfl | exact HE1.out) _ ((HT.out.below HS.out.low).more HS.out.low.size)).mono ?_
      rintro e w' ⟨rfl, rfl⟩
      obtain ⟨i0, hi, hz0, hz1, hz2⟩ := info_parts infoMt
      go_wp2
      go_loopw [10] (fun s10 wr => ∃ (j2 f : Nat) (ms2 : List Sel.Mt) (v2 : Value), s10 = .int .i64 (j2 : Nat) ∧ j2 ≤ n ∧ RS w s0 v2 ms2 wr ∧ f + ms2.length = 10 ∧ ms2.length ≤ 8 ∧ selEnd s0 (Sel.matches_ ts f j2 ms2) = (nm, ms, j, e0)) (fun _ wr => 10 - lenOf (wr.cell? ⟨w.heap.size + 2, 1, none⟩))
      case atStart => exact ⟨p2, 10, [], _, rfl, hp2n, HS.out, rfl, by simp, HQ.out⟩
      case round =>
        obtain ⟨j2, f, ms2, v2, rfl, hjn, hs2, hf, h8, hq⟩ := hrel
        obtain ⟨f, rfl⟩ : ∃ f', f = f' + 1 := ⟨f - 1, by omega⟩
        obtain ⟨A2, c2, rfl, -⟩ := Recs.of_own mtCells_len (by decide) hs2.own
        rcases hma : Sel.matchAt ts j2 ms2.length with ⟨m, j3, e3⟩
        rw [matches_up hma] at hq
        have HS := Lib.hid hs2
        have HMA := Lib.hid hma
        have cM := hs2.cur.cell 1
        simp at cM
        have HCM := Lib.hid cM
        clear hs2 hma
        by_cases he3 : e3 ≠ 0
        · rw [if_pos he3] at hq
          unfold selEnd at hq
          rw [if_pos he3] at hq
          injection hq with hs1 hq
          injection hq with hs2 hq
          injection hq with hs3 hs4
          subst hs1 hs2 hs3 hs4
          go_wp2_with fail
          refine (rmatch_is _ n c j2 ms2.length ts m j3 e3 HMA.out hjn _ ((HT.out.below HS.out.low).more HS.out.low.size)).mono ?_
          rintro e w4 ⟨rfl, hb4⟩
          have HS := Lib.hid (HS.out.keep (hb4.alloc hb4.size (.cells #[.string m.1, .string m.2.1, .bool m.2.2] 45)))
          clear cM
          have f0 := HS.out.res.frozen 0
          have f1 := HS.out.res.frozen 1
          have g0 := HS.out.res.cell 0
          have g1 := HS.out.res.cell 1
          have c0 := HS.out.cur.cell 0
          have c1 := HS.out.cur.cell 1
          have d0 := HS.out.non.cell 0
          have d1 := HS.out.non.cell 1
          simp at g0 g1 c0 c1 d0 d1
          go_wp2
          obtain ⟨h2, h3⟩ := HS.out.far ⟨#[]⟩ (.slice none 0 0)
          have z0 := h2.cell 0
          have z1 := h2.cell 1
          simp at z0 z1
          refine bodyPost_ret (v := .tuple #[.agg #[.string ⟨#[]⟩, .slice none 0 0], .int .i64 ((j3 : Nat) : Int), .int .i64 (e3)]) (by simp [results, Tryd.results65, go_sem, z0, z1]) rfl ⟨none, 0, 0, rfl, mts_none _, h3⟩
        · obtain rfl : e3 = 0 := by omega
          rw [if_neg he3] at hq
          have HQ := Lib.hid hq
          clear hq he3
          obtain ⟨hm1, hm2, hm3, hm4⟩ := matchAt_ok HMA.out
          have hm1s := name_size hm1
          have hj3n : j3 ≤ n := by
            have h := HMA.out
            unfold Sel.matchAt at h
            split at h
            · injection h with _ h; injection h with h1 _; omega
            · split at h
              · injection h with _ h; injection h with _ h2; exact absurd h2 (Sel.wrong_ne _ _)
              · split at h
                · rename_i hv; injection h with _ h; injection h with _ h2; exact absurd h2 hv
                · rename_i hv
                  have := Sel.valE_lt (ts := ts) (i := j2 + 2) (n := ms2.length) (by omega)
                  omega
          clear hm4
          go_wp2_with fail
          refine (rmatch_is _ n c j2 ms2.length ts m j3 0 HMA.out hjn _ ((HT.out.below HS.out.low).more HS.out.low.size)).mono ?_
          rintro e w4 ⟨rfl, hb4⟩
          have HSA := Lib.hid (HS.out.keep (hb4.alloc hb4.size (.cells #[.string m.1, .string m.2.1, .bool m.2.2] 45)))
          have HSB := Lib.hid (HSA.out.keep ((Below.refl _ _).alloc (Nat.le_refl _) (.cells #[.string m.1, .string m.2.1, .bool m.2.2] 45)))
          have cM := HSA.out.cur.cell 1
          simp at cM
          go_wp2_with (at_builtin; refine wpList_append_own _ rfl _ _ 22 rfl (w.heap.size + 3) 45 i0 _ 3 40 Tryd.underlying22 hi hz0 hz1 hz2 rfl (by decide) _ _ _ rfl HSB.out.own ⟨w4.heap.size + 1, 0, none⟩ 1 1 [.string m.1, .string m.2.1, .bool m.2.2] rfl rfl ?c1 ?c2 ?c3 ?c4 ?c5 ?_)
          case c1 =>
            intro j u hj
            match j, hj with
            | 0, hj => simp at hj; subst hj; simp [Addr.add]
            | 1, hj => simp at hj; subst hj; simp [Addr.add]
            | 2, hj => simp at hj; subst hj; simp [Addr.add]
          case c2 => intro u hu; simp at hu; rcases hu with rfl | rfl | rfl <;> rfl
          case c3 => unfold maxLen; omega
          case c4 => omega
          case c5 => have := HSB.out.cur.lt; simp at this ⊢; omega
          intro v' w6 hown' hgrow _
          have hown2 : w6.ownsRow (w.heap.size + 3) 45 3 v' (ms2 ++ [m]).length ((ms2 ++ [m]).flatMap mtCells) := by
            rw [List.length_append, List.flatMap_append]
            exact hown'
          obtain ⟨A6, c6, rfl, -⟩ := Recs.of_own mtCells_len (by decide) hown2
          have hgood : ∀ p ∈ ms2 ++ [m], p.1.size ≤ 64 ∧ p.2.1.size ≤ 64 := by
            intro p hp
            rw [List.mem_append, List.mem_singleton] at hp
            rcases hp with hp | rfl
            · exact HS.out.good p hp
            · exact ⟨hm1s.2, hm2⟩
          have hcur6 := (hgrow.block (w.heap.size + 2) HSB.out.cur.lt (fun e => by have := (HSB.out.own.lt _ e.symm).1; omega)).trans HSB.out.cur
          have cM6 := Mem.Blk.cell (w := w6) hcur6 1
          have fM6 := Mem.Blk.frozen (w := w6) hcur6 1
          simp at cM6
          have hs7 := HSB.out.grown hgrow hown2 hgood
          have HS := Lib.hid hs7
          clear hs7 hown' hown2 hgrow hcur6
          rw [show (ms2 ++ [m]).length = ms2.length + 1 by simp] at HS
          go_wp2_with fail
          generalize w6.setCell ⟨w.heap.size + 2, 1, none⟩ (.slice A6 (ms2.length + 1) c6) = w7 at HS ⊢
          clear fM6 cM6 cM
          rcases hb3 : Sel.isS ts j3 Sel.clS with _ | _
          · have hq := HQ.out
            rw [if_neg (by rw [hb3]; simp)] at hq
            have HB3 := Lib.hid hb3
            obtain ⟨e5, he5⟩ : ∃ e, e = Sel.wrong ts j3 := ⟨_, rfl⟩
            have hne5 : e5 ≠ 0 := by rw [he5]; exact Sel.wrong_ne ts j3
            have hnb5 : (e5 == 0) = false := by rw [beq_eq_false_iff_ne]; exact hne5
            have HE5 := Lib.hid he5
            clear hb3
            refine (want_sign _ n c j3 ts Sel.clS (by intro hh; cases hh) e5 (by rw [HB3.out]; first | rfl | exact HE5.out) _ ((HT.out.below HS.out.low).more HS.out.low.size)).mono ?_
            rintro e w' ⟨rfl, rfl⟩
            rcases hb4 : Sel.isS ts j3 Sel.coS with _ | _
            · rw [if_neg (by rw [hb4]; simp)] at hq
              unfold selEnd at hq
              rw [if_pos (Sel.wrong_ne ts j3), ← he5] at hq
              injection hq with hs1 hq
              injection hq with hs2 hq
              injection hq with hs3 hs4
              subst hs1 hs2 hs3 hs4
              have HB4 := Lib.hid hb4
              clear hb4 he5
              go_wp2_with fail
              refine (want_sign _ n c j3 ts Sel.coS (by intro hh; cases hh) e5 (by rw [HB4.out]; first | rfl | exact HE5.out) _ ((HT.out.below HS.out.low).more HS.out.low.size)).mono ?_
              rintro e w' ⟨rfl, rfl⟩
              have f0 := HS.out.res.frozen 0
              have f1 := HS.out.res.frozen 1
              have g0 := HS.out.res.cell 0
              have g1 := HS.out.res.cell 1
              have c0 := HS.out.cur.cell 0
              have c1 := HS.out.cur.cell 1
              have d0 := HS.out.non.cell 0
              have d1 := HS.out.non.cell 1
              simp at g0 g1 c0 c1 d0 d1
              go_wp2
              go_region_with (go_at_call 48; refine (place_is _ n c j3 j3 (by omega) _).mono ?_; rintro e w' ⟨rfl, rfl⟩)
              all_goals
                go_wp2
                obtain ⟨h2, h3⟩ := HS.out.far ⟨#[]⟩ (.slice none 0 0)
                have z0 := h2.cell 0
                have z1 := h2.cell 1
                simp at z0 z1
                refine bodyPost_ret (v := .tuple #[.agg #[.string ⟨#[]⟩, .slice none 0 0], .int .i64 ((j3 : Nat) : Int), .int .i64 e5]) (by simp [results, Tryd.results65, go_sem, z0, z1, Act.put]) (by first | rfl | simp [Act.put]) ⟨none, 0, 0, by rfl, mts_none _, by first | exact h3 | exact h3.drew⟩
            · rw [if_pos hb4] at hq
              have hj3l := Sel.isS_lt hb4
              have hw5 : IntKind.i64.wrap ((j3 : Int) + 1) = ((j3 + 1 : Nat) : Int) := by rw [show (j3 : Int) + 1 = ((j3 + 1 : Nat) : Int) by omega]; exact IntWalk.i64_in _ (by omega)
              have HQ2 := Lib.hid hq
              have HB4 := Lib.hid hb4
              clear hb4 hq he5
              go_wp2_with fail
              refine (want_sign _ n c j3 ts Sel.coS (by intro hh; cases hh) 0 (by rw [HB4.out]; first | rfl | exact rfl) _ ((HT.out.below HS.out.low).more HS.out.low.size)).mono ?_
              rintro e w' ⟨rfl, rfl⟩
              go_wp2
              go_roundw
              case rel => exact ⟨j3 + 1, f, ms2 ++ [m], _, by go_num, by omega, HS.out, by simp; omega, by simp; omega, HQ2.out⟩
              case measure =>
                have e1 := HS.out.cur.cell 1
                simp at e1
                rw [e1, HCM.out]
                simp [lenOf]
                omega
          · have hq := HQ.out
            rw [if_pos hb3] at hq
            have hj3l := Sel.isS_lt hb3
            have hw5 : IntKind.i64.wrap ((j3 : Int) + 1) = ((j3 + 1 : Nat) : Int) := by rw [show (j3 : Int) + 1 = ((j3 + 1 : Nat) : Int) by omega]; exact IntWalk.i64_in _ (by omega)
            unfold selEnd at hq
            rw [if_neg (by simp)] at hq
            injection hq with hs1 hq
            injection hq with hs2 hq
            injection hq with hs3 hs4
            subst hs1 hs2 hs3 hs4
            have HB3 := Lib.hid hb3
            clear hb3
            refine (want_sign _ n c j3 ts Sel.clS (by intro hh; cases hh) 0 (by rw [HB3.out]; first | rfl | exact rfl) _ ((HT.out.below HS.out.low).more HS.out.low.size)).mono ?_
            rintro e w' ⟨rfl, rfl⟩
            have f0 := HS.out.res.frozen 0
            have f1 := HS.out.res.frozen 1
            have g0 := HS.out.res.cell 0
            have g1 := HS.out.res.cell 1
            have c0 := HS.out.cur.cell 0
            have c1 := HS.out.cur.cell 1
            have d0 := HS.out.non.cell 0
            have d1 := HS.out.non.cell 1
            simp at g0 g1 c0 c1 d0 d1
            go_wp2
            obtain ⟨h2, h3⟩ := HS.out.far s0 (.slice A6 (ms2.length + 1) c6)
            obtain ⟨A1, n1, c1', hv1, hmt⟩ := HS.out.mts s0 (.slice A6 (ms2.length + 1) c6)
            cases hv1
            have z0 := h2.cell 0
            have z1 := h2.cell 1
            simp at z0 z1
            refine bodyPost_ret (v := .tuple #[.agg #[.string s0, (.slice A6 (ms2.length + 1) c6)], .int .i64 ((j3 + 1 : Nat) : Int), .int .i64 0]) (by simp [results, Tryd.results65, go_sem, z0, z1]) rfl ⟨_, _, _, rfl, hmt, h3⟩
    · rw [if_pos hb2] at hs
      have hp2l := Sel.isS_lt hb2
      have hw3 : IntKind.i64.wrap ((p2 : Int) + 1) = ((p3 : Nat) : Int) := by rw [← HP3.out, show (p2 : Int) + 1 = ((i + 3 : Nat) : Int) by have := HP2.out; omega]; exact IntWalk.i64_in _ (by have := HP2.out; omega)
      injection hs with hs1 hs
      injection hs with hs2' hs
      injection hs with hs3 hs4
      subst hs1 hs2' hs3 hs4
      have HB2 := Lib.hid hb2
      clear hb2 hp2l
      go_enter Tryd.func65, Tryd.ntmps65
      go_wp2_with fail
      have HT2 := Lib.hid (((HT.out.alloc (Nat.le_refl _) (.cells #[.string ⟨#[]⟩, .slice none 0 0] 24)).alloc (by simp) (.cells #[.string ⟨#[]⟩, .slice none 0 0] 24)).more (show w.heap.size ≤ ((w.alloc (.cells #[.string ⟨#[]⟩, .slice none 0 0] 24)).alloc (.cells #[.string ⟨#[]⟩, .slice none 0 0] 24)).heap.size by simp; omega))
      refine (rNameAt_is _ n c i ts 0 HE0.out _ HT2.out).mono ?_
      rintro e w' ⟨rfl, rfl⟩
      go_wp2_with fail
      have hs3 : RS w s0 (.slice none 0 0) [] (((w.alloc (.cells #[.string ⟨#[]⟩, .slice none 0 0] 24)).alloc (.cells #[.string ⟨#[]⟩, .slice none 0 0] 24)).alloc (.cells #[.string s0, .slice none 0 0] 24)) :=
        ⟨((Mem.Blk.new w _ _).alloc _).alloc _, by simpa using (Mem.Blk.new (w.alloc (.cells #[.string ⟨#[]⟩, .slice none 0 0] 24)) 24 #[.string ⟨#[]⟩, .slice none 0 0]).alloc (.cells #[.string s0, .slice none 0 0] 24), by simpa using Mem.Blk.new ((w.alloc (.cells #[.string ⟨#[]⟩, .slice none 0 0] 24)).alloc (.cells #[.string ⟨#[]⟩, .slice none 0 0] 24)) 24 #[.string s0, .slice none 0 0], ⟨rfl, .inl ⟨rfl, rfl⟩⟩, (((Below.refl _ w).alloc (Nat.le_refl _) _).alloc (by simp) _).alloc (by simp; omega) _, fun p hp => absurd hp (by simp)⟩
      generalize ((w.alloc (.cells #[.string ⟨#[]⟩, .slice none 0 0] 24)).alloc (.cells #[.string ⟨#[]⟩, .slice none 0 0] 24)).alloc (.cells #[.string s0, .slice none 0 0] 24) = w3 at hs3 ⊢
      have HS := Lib.hid hs3
      clear hs3
      refine (want_sign _ n c p1 ts Sel.opS (by intro hh; cases hh) 0 (by rw [HB1.out]; first | rfl | exact rfl) _ ((HT.out.below HS.out.low).more HS.out.low.size)).mono ?_
      rintro e w' ⟨rfl, rfl⟩
      clear hs2
      go_wp2_with fail
      refine (want_sign _ n c p2 ts Sel.clS (by intro hh; cases hh) 0 (by rw [HB2.out]; first | rfl | exact rfl) _ ((HT.out.below HS.out.low).more HS.out.low.size)).mono ?_
      rintro e w' ⟨rfl, rfl⟩
      have f0 := HS.out.res.frozen 0
      have f1 := HS.out.res.frozen 1
      have g0 := HS.out.res.cell 0
      have g1 := HS.out.res.cell 1
      have c0 := HS.out.cur.cell 0
      have c1 := HS.out.cur.cell 1
      have d0 := HS.out.non.cell 0
      have d1 := HS.out.non.cell 1
      simp at g0 g1 c0 c1 d0 d1
      go_wp2
      obtain ⟨h2, h3⟩ := HS.out.far s0 (.slice none 0 0)
      obtain ⟨A1, n1, c1', hv1, hmt⟩ := HS.out.mts s0 (.slice none 0 0)
      cases hv1
      have z0 := h2.cell 0
      have z1 := h2.cell 1
      simp at z0 z1
      refine bodyPost_ret (v := .tuple #[.agg #[.string s0, (.slice none 0 0)], .int .i64 ((p3 : Nat) : Int), .int .i64 0]) (by simp [results, Tryd.results65, go_sem, z0, z1]) rfl ⟨_, _, _, rfl, hmt, h3⟩
end Go.Proofs.YtbdochcajpempaaDoor
