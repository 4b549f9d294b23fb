/- The walk of the reader's sel. -/
import Derived.Test.YtbdochcajpempaaDoorSelD
namespace Go.Proofs.YtbdochcajpempaaDoor
open Go.RowKit
set_option linter.unusedSimpArgs false
set_option linter.unusedVariables false

set_option maxRecDepth 100000 in
set_option maxHeartbeats 8000000 in
theorem sel_is (r : Nat) (A : Option Addr) (n c i : Nat) (ts : List Sel.Tk) (nm : ByteArray) (ms : List Sel.Mt) (j : Nat) (e0 : Int) (hs : Sel.selAt ts i = (nm, ms, j, e0)) (w : World) (hT : Tks w r A n c ts) (hR : Rd w r A n c i) :
    Calls Tryd.prog 43 #[.pointer (some ⟨r, 0, none⟩)] w fun e w' => ∃ A' n' c', e = .returned (.tuple #[.agg #[.string nm, .slice A' n' c'], .int .i64 e0]) ∧ MtsOwn w' w.heap.size A' n' c' ms ∧ Rd w' r A n c j ∧ But r w w' := by
  have hlt := hR.lt
  have hl := hT.len
  have hmf : ∀ (fn : Fn) (first cap : Array Value) (w : World), (Instr.makeFunc fn first cap).run Tryd.prog w = .ok (.func fn first cap) w := fun _ _ _ _ => rfl
  have HR := Lib.hid hR
  have HT := Lib.hid hT
  clear hR hT
  unfold Sel.selAt at hs
  by_cases h1 : Sel.nameE ts i ≠ 0
  · rw [if_pos h1] at hs
    injection hs with hs1 hs
    injection hs with hs2 hs
    injection hs with hs3 hs4
    subst hs1 hs2 hs3 hs4
    obtain ⟨e0, he0⟩ : ∃ e, Sel.nameE ts i = e := ⟨_, rfl⟩
    rw [he0] at h1 ⊢
    have HE0 := Lib.hid he0
    clear he0
    go_enter Tryd.func43, Tryd.ntmps43
    go_wp2_with fail
    have hs1 : MS 24 #[.string ⟨#[]⟩, .slice none 0 0] w r A n c ts (w.alloc (.cells #[.string ⟨#[]⟩, .slice none 0 0] 24)) i := ⟨Mem.Blk.alloc HR.out _, Mem.Blk.new w 24 #[.string ⟨#[]⟩, .slice none 0 0], (But.refl r w).alloc _, HT.out.alloc (Nat.le_of_lt hlt) _⟩
    obtain ⟨W1, hW1⟩ : ∃ W1, W1 = w.alloc (.cells #[.string ⟨#[]⟩, .slice none 0 0] 24) := ⟨_, rfl⟩
    rw [← hW1] at hs1 ⊢
    clear hW1
    have HS := Lib.hid hs1
    clear hs1
    refine (name_of r A n c i ts e0 HE0.out ⟨#[]⟩ (if_neg h1).symm i (if_neg h1).symm W1 HS.out.tks HS.out.rd).mono ?_
    rintro e w2 ⟨rfl, hR2, hb2⟩
    have HS := Lib.hid (HS.out.step hlt hR2 hb2)
    clear hR2 hb2
    have f0 := HS.out.blk.frozen 0
    have f1 := HS.out.blk.frozen 1
    have g0 := HS.out.blk.cell 0
    have g1 := HS.out.blk.cell 1
    simp at g0 g1
    go_wp2
    have HZ := Lib.hid ((HS.out.far hlt 0 (.string ⟨#[]⟩)).far hlt 1 (.slice none 0 0))
    have z0 := HZ.out.blk.cell 0
    have z1 := HZ.out.blk.cell 1
    simp at z0 z1
    refine bodyPost_ret (v := .tuple #[.agg #[.string ⟨#[]⟩, .slice none 0 0], .int .i64 e0]) (by simp [results, Tryd.results43, go_sem, z0, z1]) rfl ⟨none, 0, 0, rfl, MtsOwn.none_ _ _, HZ.out.rd, HZ.out.but⟩
  · rw [if_neg h1] at hs
    have HE0 := Lib.hid (show Sel.nameE ts i = 0 by omega)
    obtain ⟨s0, hs0⟩ : ∃ s, Sel.sOf ts i = s := ⟨_, rfl⟩
    rw [hs0] at hs
    have HSO := Lib.hid hs0
    clear hs0 h1
    rcases hb1 : Sel.isS ts (i + 1) Sel.opS with _ | _
    · rw [if_pos hb1] at hs
      injection hs with hs1 hs
      injection hs with hs2 hs
      injection hs with hs3 hs4
      subst hs1 hs2 hs3 hs4
      have HB1 := Lib.hid hb1
      clear hb1
      go_enter Tryd.func43, Tryd.ntmps43
      go_wp2_with fail
      have hs1 : MS 24 #[.string ⟨#[]⟩, .slice none 0 0] w r A n c ts (w.alloc (.cells #[.string ⟨#[]⟩, .slice none 0 0] 24)) i := ⟨Mem.Blk.alloc HR.out _, Mem.Blk.new w 24 #[.string ⟨#[]⟩, .slice none 0 0], (But.refl r w).alloc _, HT.out.alloc (Nat.le_of_lt hlt) _⟩
      obtain ⟨W1, hW1⟩ : ∃ W1, W1 = w.alloc (.cells #[.string ⟨#[]⟩, .slice none 0 0] 24) := ⟨_, rfl⟩
      rw [← hW1] at hs1 ⊢
      clear hW1
      have HS := Lib.hid hs1
      clear hs1
      refine (name_of r A n c i ts 0 HE0.out s0 HSO.out.symm (i + 1) rfl W1 HS.out.tks HS.out.rd).mono ?_
      rintro e w2 ⟨rfl, hR2, hb2⟩
      have HS := Lib.hid (HS.out.step hlt hR2 hb2)
      clear hR2 hb2
      go_wp2_with fail
      have hg : w.heap.size < w2.heap.size := HS.out.blk.lt
      have hs3 : SS w r A n c ts w2.heap.size s0 (.slice none 0 0) [] (w2.alloc (.cells #[.string s0, .slice none 0 0] 24)) (i + 1) := ⟨HS.out.rd.alloc _, HS.out.blk.alloc _, Mem.Blk.new w2 _ _, ⟨rfl, .inl ⟨rfl, rfl⟩⟩, HS.out.but.alloc _, HS.out.tks.alloc (Nat.le_of_lt HS.out.rd.lt) _, fun p hp => absurd hp (by simp)⟩
      obtain ⟨gs, hgs⟩ : ∃ gs, gs = w2.heap.size := ⟨_, rfl⟩
      rw [← hgs] at hg hs3 ⊢
      generalize w2.alloc (.cells #[.string s0, .slice none 0 0] 24) = w3 at hs3 ⊢
      have HS := Lib.hid hs3
      clear hs3 hgs
      go_wp2_with fail
      refine (sign_is r A n c _ ts Sel.opS false HB1.out _ rfl _ HS.out.tks HS.out.rd).mono ?_
      rintro e w4 ⟨rfl, hR2, hb2⟩
      have HS := Lib.hid (HS.out.step hlt hg hR2 hb2)
      clear hR2 hb2
      simp only [if_true, if_false, Bool.false_eq_true] at HS
      have f0 := HS.out.res.frozen 0
      have f1 := HS.out.res.frozen 1
      have g0 := HS.out.res.cell 0
      have g1 := HS.out.res.cell 1
      have c0 := HS.out.cur.cell 0
      have c1 := HS.out.cur.cell 1
      simp at g0 g1 c0 c1
      go_wp2
      obtain ⟨h1, h2, h3⟩ := HS.out.far hlt hg s0 (.slice none 0 0)
      obtain ⟨A1, n1, c1', hv1, hmt⟩ := HS.out.mts hlt hg s0 (.slice none 0 0)
      cases hv1
      have z0 := h2.cell 0
      have z1 := h2.cell 1
      simp at z0 z1
      refine bodyPost_ret (v := .tuple #[.agg #[.string s0, (.slice none 0 0)], .int .i64 0]) (by simp [results, Tryd.results43, go_sem, z0, z1]) rfl ⟨_, _, _, rfl, hmt, h1, h3⟩
    · rw [if_neg (by rw [hb1]; simp)] at hs
      have HB1 := Lib.hid hb1
      clear hb1
      rcases hb2 : Sel.isS ts (i + 2) Sel.clS with _ | _
      · rw [if_neg (by rw [hb2]; simp)] at hs
        have HB2 := Lib.hid hb2
        clear hb2
        have HQ := Lib.hid hs
        clear hs
        go_enter Tryd.func43, Tryd.ntmps43
        go_wp2_with fail
        have hs1 : MS 24 #[.string ⟨#[]⟩, .slice none 0 0] w r A n c ts (w.alloc (.cells #[.string ⟨#[]⟩, .slice none 0 0] 24)) i := ⟨Mem.Blk.alloc HR.out _, Mem.Blk.new w 24 #[.string ⟨#[]⟩, .slice none 0 0], (But.refl r w).alloc _, HT.out.alloc (Nat.le_of_lt hlt) _⟩
        obtain ⟨W1, hW1⟩ : ∃ W1, W1 = w.alloc (.cells #[.string ⟨#[]⟩, .slice none 0 0] 24) := ⟨_, rfl⟩
        rw [← hW1] at hs1 ⊢
        clear hW1
        have HS := Lib.hid hs1
        clear hs1
        refine (name_of r A n c i ts 0 HE0.out s0 HSO.out.symm (i + 1) rfl W1 HS.out.tks HS.out.rd).mono ?_
        rintro e w2 ⟨rfl, hR2, hb2⟩
        have HS := Lib.hid (HS.out.step hlt hR2 hb2)
        clear hR2 hb2
        go_wp2_with fail
        have hg : w.heap.size < w2.heap.size := HS.out.blk.lt
        have hs3 : SS w r A n c ts w2.heap.size s0 (.slice none 0 0) [] (w2.alloc (.cells #[.string s0, .slice none 0 0] 24)) (i + 1) := ⟨HS.out.rd.alloc _, HS.out.blk.alloc _, Mem.Blk.new w2 _ _, ⟨rfl, .inl ⟨rfl, rfl⟩⟩, HS.out.but.alloc _, HS.out.tks.alloc (Nat.le_of_lt HS.out.rd.lt) _, fun p hp => absurd hp (by simp)⟩
        obtain ⟨gs, hgs⟩ : ∃ gs, gs = w2.heap.size := ⟨_, rfl⟩
        rw [← hgs] at hg hs3 ⊢
        generalize w2.alloc (.cells #[.string s0, .slice none 0 0] 24) = w3 at hs3 ⊢
        have HS := Lib.hid hs3
        clear hs3 hgs
        go_wp2_with fail
        refine (sign_is r A n c _ ts Sel.opS true HB1.out _ rfl _ HS.out.tks HS.out.rd).mono ?_
        rintro e w4 ⟨rfl, hR2, hb2⟩
        have HS := Lib.hid (HS.out.step hlt hg hR2 hb2)
        clear hR2 hb2
        simp only [if_true, if_false, Bool.false_eq_true] at HS
        go_wp2_with fail
        refine (sign_is r A n c _ ts Sel.clS false HB2.out _ rfl _ HS.out.tks HS.out.rd).mono ?_
        rintro e w5 ⟨rfl, hR2, hb2⟩
        have HS := Lib.hid (HS.out.step hlt hg hR2 hb2)
        clear hR2 hb2
        simp only [if_true, if_false, Bool.false_eq_true] at HS
        obtain ⟨i0, hi, hz0, hz1, hz2⟩ := info_parts infoMt
        have HQ := Lib.hid (show selEnd s0 (Sel.matches_ ts 10 (i + 2) []) = (nm, ms, j, e0) from HQ.out)
        go_wp2
        go_loopw [8] (fun s8 wr => ∃ (j2 f : Nat) (ms2 : List Sel.Mt) (v2 : Value), SS w r A n c ts gs s0 v2 ms2 wr j2 ∧ f + ms2.length = 10 ∧ ms2.length ≤ 8 ∧ selEnd s0 (Sel.matches_ ts f j2 ms2) = (nm, ms, j, e0)) (fun _ wr => 10 - lenOf (wr.cell? ⟨gs, 1, none⟩))
        case atStart => exact ⟨i + 2, 10, [], _, HS.out, rfl, by simp, HQ.out⟩
        case round =>
          obtain ⟨j2, f, ms2, v2, hs2, hf, h8, hq⟩ := hrel
          obtain ⟨f, rfl⟩ : ∃ f', f = f' + 1 := ⟨f - 1, by omega⟩
          obtain ⟨A2, c2, rfl, -⟩ := Recs.of_own mtCells_len (by decide) hs2.own
          rcases hma : Sel.matchAt ts j2 ms2.length with ⟨m, j3, e3⟩
          rw [matches_up hma] at hq
          have HS := Lib.hid hs2
          have HMA := Lib.hid hma
          have cM := hs2.cur.cell 1
          simp at cM
          have HCM := Lib.hid cM
          clear hs2 hma
          by_cases he3 : e3 ≠ 0
          · rw [if_pos he3] at hq
            unfold selEnd at hq
            rw [if_pos he3] at hq
            injection hq with hs1 hq
            injection hq with hs2 hq
            injection hq with hs3 hs4
            subst hs1 hs2 hs3 hs4
            go_wp2_with fail
            refine (match_is r A n c j2 ms2.length ts m j3 e3 HMA.out _ HS.out.tks HS.out.rd).mono ?_
            rintro e w4 ⟨rfl, hR2, hb2⟩
            have HS := Lib.hid (HS.out.step hlt hg hR2 hb2)
            clear hR2 hb2
            have HS := Lib.hid (HS.out.keep hlt hg ((Below.refl _ w4).alloc (Nat.le_refl _) (.cells #[.string m.1, .string m.2.1, .bool m.2.2] 45)))
            clear cM
            have f0 := HS.out.res.frozen 0
            have f1 := HS.out.res.frozen 1
            have g0 := HS.out.res.cell 0
            have g1 := HS.out.res.cell 1
            have c0 := HS.out.cur.cell 0
            have c1 := HS.out.cur.cell 1
            simp at g0 g1 c0 c1
            go_wp2
            obtain ⟨h1, h2, h3⟩ := HS.out.far hlt hg ⟨#[]⟩ (.slice none 0 0)
            have z0 := h2.cell 0
            have z1 := h2.cell 1
            simp at z0 z1
            refine bodyPost_ret (v := .tuple #[.agg #[.string ⟨#[]⟩, .slice none 0 0], .int .i64 (e3)]) (by simp [results, Tryd.results43, go_sem, z0, z1]) rfl ⟨none, 0, 0, rfl, MtsOwn.none_ _ _, h1, h3⟩
          · obtain rfl : e3 = 0 := by omega
            rw [if_neg he3] at hq
            have HQ := Lib.hid hq
            clear hq he3
            obtain ⟨hm1, hm2, hm3, -⟩ := matchAt_ok HMA.out
            have hm1s := name_size hm1
            go_wp2_with fail
            refine (match_is r A n c j2 ms2.length ts m j3 0 HMA.out _ HS.out.tks HS.out.rd).mono ?_
            rintro e w4 ⟨rfl, hR2, hb2⟩
            have HS := Lib.hid (HS.out.step hlt hg hR2 hb2)
            clear hR2 hb2
            have HSA := Lib.hid (HS.out.keep hlt hg ((Below.refl _ w4).alloc (Nat.le_refl _) (.cells #[.string m.1, .string m.2.1, .bool m.2.2] 45)))
            have HSB := Lib.hid (HSA.out.keep hlt hg ((Below.refl _ _).alloc (Nat.le_refl _) (.cells #[.string m.1, .string m.2.1, .bool m.2.2] 45)))
            have cM := HSA.out.cur.cell 1
            simp at cM
            go_wp2_with (at_builtin; refine wpList_append_own _ rfl _ _ 22 rfl (gs + 1) 45 i0 _ 3 40 Tryd.underlying22 hi hz0 hz1 hz2 rfl (by decide) _ _ _ rfl HSB.out.own ⟨w4.heap.size + 1, 0, none⟩ 1 1 [.string m.1, .string m.2.1, .bool m.2.2] rfl rfl ?c1 ?c2 ?c3 ?c4 ?c5 ?_)
            case c1 =>
              intro j u hj
              match j, hj with
              | 0, hj => simp at hj; subst hj; simp [Addr.add]
              | 1, hj => simp at hj; subst hj; simp [Addr.add]
              | 2, hj => simp at hj; subst hj; simp [Addr.add]
            case c2 => intro u hu; simp at hu; rcases hu with rfl | rfl | rfl <;> rfl
            case c3 => unfold maxLen; omega
            case c4 => omega
            case c5 => have := HS.out.cur.lt; simp; omega
            intro v' w6 hown' hgrow _
            have hown2 : w6.ownsRow (gs + 1) 45 3 v' (ms2 ++ [m]).length ((ms2 ++ [m]).flatMap mtCells) := by
              rw [List.length_append, List.flatMap_append]
              exact hown'
            obtain ⟨A6, c6, rfl, -⟩ := Recs.of_own mtCells_len (by decide) hown2
            have hgood : ∀ p ∈ ms2 ++ [m], p.1.size ≤ 64 ∧ p.2.1.size ≤ 64 := by
              intro p hp
              rw [List.mem_append, List.mem_singleton] at hp
              rcases hp with hp | rfl
              · exact HS.out.good p hp
              · exact ⟨hm1s.2, hm2⟩
            have hcur6 := (hgrow.block gs HSB.out.cur.lt (fun e => by have := (HSB.out.own.lt gs e.symm).1; omega)).trans HSB.out.cur
            have cM6 := Mem.Blk.cell (w := w6) hcur6 1
            have fM6 := Mem.Blk.frozen (w := w6) hcur6 1
            simp at cM6
            have hs7 := HSB.out.grown hlt hg hgrow hown2 hgood
            have HS := Lib.hid hs7
            clear hs7 hown' hown2 hgrow hcur6
            rw [show (ms2 ++ [m]).length = ms2.length + 1 by simp] at HS
            go_wp2_with fail
            generalize w6.setCell ⟨gs, 1, none⟩ (.slice A6 (ms2.length + 1) c6) = w7 at HS ⊢
            clear fM6 cM6 cM
            rcases hb3 : Sel.isS ts j3 Sel.clS with _ | _
            · have hq := HQ.out
              rw [if_neg (by rw [hb3]; simp)] at hq
              have HB3 := Lib.hid hb3
              clear hb3
              refine (sign_is r A n c j3 ts Sel.clS false HB3.out j3 rfl _ HS.out.tks HS.out.rd).mono ?_
              rintro e w8 ⟨rfl, hR2, hb2⟩
              have HS := Lib.hid (HS.out.step hlt hg hR2 hb2)
              clear hR2 hb2
              rcases hb4 : Sel.isS ts j3 Sel.coS with _ | _
              · rw [if_neg (by rw [hb4]; simp)] at hq
                unfold selEnd at hq
                rw [if_pos (Sel.wrong_ne ts j3)] at hq
                injection hq with hs1 hq
                injection hq with hs2 hq
                injection hq with hs3 hs4
                subst hs1 hs2 hs3 hs4
                have HB4 := Lib.hid hb4
                clear hb4
                go_wp2_with fail
                refine (sign_is r A n c j3 ts Sel.coS false HB4.out j3 rfl _ HS.out.tks HS.out.rd).mono ?_
                rintro e w9 ⟨rfl, hR2, hb2⟩
                have HS := Lib.hid (HS.out.step hlt hg hR2 hb2)
                clear hR2 hb2
                go_wp2_with fail
                refine (wrong_any r A n c _ ts _ hl HS.out.rd).mono ?_
                rintro e wz ⟨rfl, hB4⟩
                have HS := Lib.hid (HS.out.keep hlt hg hB4)
                clear hB4
                have f0 := HS.out.res.frozen 0
                have f1 := HS.out.res.frozen 1
                have g0 := HS.out.res.cell 0
                have g1 := HS.out.res.cell 1
                have c0 := HS.out.cur.cell 0
                have c1 := HS.out.cur.cell 1
                simp at g0 g1 c0 c1
                go_wp2
                obtain ⟨h1, h2, h3⟩ := HS.out.far hlt hg ⟨#[]⟩ (.slice none 0 0)
                have z0 := h2.cell 0
                have z1 := h2.cell 1
                simp at z0 z1
                refine bodyPost_ret (v := .tuple #[.agg #[.string ⟨#[]⟩, .slice none 0 0], .int .i64 (Sel.wrong ts (j3))]) (by simp [results, Tryd.results43, go_sem, z0, z1]) rfl ⟨none, 0, 0, rfl, MtsOwn.none_ _ _, h1, h3⟩
              · rw [if_pos hb4] at hq
                have HQ2 := Lib.hid hq
                have HB4 := Lib.hid hb4
                clear hb4 hq
                go_wp2_with fail
                refine (sign_is r A n c j3 ts Sel.coS true HB4.out (j3 + 1) rfl _ HS.out.tks HS.out.rd).mono ?_
                rintro e w9 ⟨rfl, hR2, hb2⟩
                have HS := Lib.hid (HS.out.step hlt hg hR2 hb2)
                clear hR2 hb2
                go_wp2
                go_roundw
                case rel => exact ⟨j3 + 1, f, ms2 ++ [m], _, HS.out, by simp; omega, by simp; omega, HQ2.out⟩
                case measure =>
                  have e1 := HS.out.cur.cell 1
                  simp at e1
                  rw [e1, HCM.out]
                  simp [lenOf]
                  omega
            · have hq := HQ.out
              rw [if_pos hb3] at hq
              unfold selEnd at hq
              rw [if_neg (by simp)] at hq
              injection hq with hs1 hq
              injection hq with hs2 hq
              injection hq with hs3 hs4
              subst hs1 hs2 hs3 hs4
              have HB3 := Lib.hid hb3
              clear hb3
              refine (sign_is r A n c j3 ts Sel.clS true HB3.out (j3 + 1) rfl _ HS.out.tks HS.out.rd).mono ?_
              rintro e w8 ⟨rfl, hR2, hb2⟩
              have HS := Lib.hid (HS.out.step hlt hg hR2 hb2)
              clear hR2 hb2
              have f0 := HS.out.res.frozen 0
              have f1 := HS.out.res.frozen 1
              have g0 := HS.out.res.cell 0
              have g1 := HS.out.res.cell 1
              have c0 := HS.out.cur.cell 0
              have c1 := HS.out.cur.cell 1
              simp at g0 g1 c0 c1
              go_wp2
              obtain ⟨h1, h2, h3⟩ := HS.out.far hlt hg s0 (.slice A6 (ms2.length + 1) c6)
              obtain ⟨A1, n1, c1', hv1, hmt⟩ := HS.out.mts hlt hg s0 (.slice A6 (ms2.length + 1) c6)
              cases hv1
              have z0 := h2.cell 0
              have z1 := h2.cell 1
              simp at z0 z1
              refine bodyPost_ret (v := .tuple #[.agg #[.string s0, (.slice A6 (ms2.length + 1) c6)], .int .i64 0]) (by simp [results, Tryd.results43, go_sem, z0, z1]) rfl ⟨_, _, _, rfl, hmt, h1, h3⟩
      · rw [if_pos hb2] at hs
        injection hs with hs1 hs
        injection hs with hs2 hs
        injection hs with hs3 hs4
        subst hs1 hs2 hs3 hs4
        have HB2 := Lib.hid hb2
        clear hb2
        go_enter Tryd.func43, Tryd.ntmps43
        go_wp2_with fail
        have hs1 : MS 24 #[.string ⟨#[]⟩, .slice none 0 0] w r A n c ts (w.alloc (.cells #[.string ⟨#[]⟩, .slice none 0 0] 24)) i := ⟨Mem.Blk.alloc HR.out _, Mem.Blk.new w 24 #[.string ⟨#[]⟩, .slice none 0 0], (But.refl r w).alloc _, HT.out.alloc (Nat.le_of_lt hlt) _⟩
        obtain ⟨W1, hW1⟩ : ∃ W1, W1 = w.alloc (.cells #[.string ⟨#[]⟩, .slice none 0 0] 24) := ⟨_, rfl⟩
        rw [← hW1] at hs1 ⊢
        clear hW1
        have HS := Lib.hid hs1
        clear hs1
        refine (name_of r A n c i ts 0 HE0.out s0 HSO.out.symm (i + 1) rfl W1 HS.out.tks HS.out.rd).mono ?_
        rintro e w2 ⟨rfl, hR2, hb2⟩
        have HS := Lib.hid (HS.out.step hlt hR2 hb2)
        clear hR2 hb2
        go_wp2_with fail
        have hg : w.heap.size < w2.heap.size := HS.out.blk.lt
        have hs3 : SS w r A n c ts w2.heap.size s0 (.slice none 0 0) [] (w2.alloc (.cells #[.string s0, .slice none 0 0] 24)) (i + 1) := ⟨HS.out.rd.alloc _, HS.out.blk.alloc _, Mem.Blk.new w2 _ _, ⟨rfl, .inl ⟨rfl, rfl⟩⟩, HS.out.but.alloc _, HS.out.tks.alloc (Nat.le_of_lt HS.out.rd.lt) _, fun p hp => absurd hp (by simp)⟩
        obtain ⟨gs, hgs⟩ : ∃ gs, gs = w2.heap.size := ⟨_, rfl⟩
        rw [← hgs] at hg hs3 ⊢
        generalize w2.alloc (.cells #[.string s0, .slice none 0 0] 24) = w3 at hs3 ⊢
        have HS := Lib.hid hs3
        clear hs3 hgs
        go_wp2_with fail
        refine (sign_is r A n c _ ts Sel.opS true HB1.out _ rfl _ HS.out.tks HS.out.rd).mono ?_
        rintro e w4 ⟨rfl, hR2, hb2⟩
        have HS := Lib.hid (HS.out.step hlt hg hR2 hb2)
        clear hR2 hb2
        simp only [if_true, if_false, Bool.false_eq_true] at HS
        go_wp2_with fail
        refine (sign_is r A n c _ ts Sel.clS true HB2.out _ rfl _ HS.out.tks HS.out.rd).mono ?_
        rintro e w5 ⟨rfl, hR2, hb2⟩
        have HS := Lib.hid (HS.out.step hlt hg hR2 hb2)
        clear hR2 hb2
        simp only [if_true, if_false, Bool.false_eq_true] at HS
        have f0 := HS.out.res.frozen 0
        have f1 := HS.out.res.frozen 1
        have g0 := HS.out.res.cell 0
        have g1 := HS.out.res.cell 1
        have c0 := HS.out.cur.cell 0
        have c1 := HS.out.cur.cell 1
        simp at g0 g1 c0 c1
        go_wp2
        obtain ⟨h1, h2, h3⟩ := HS.out.far hlt hg s0 (.slice none 0 0)
        obtain ⟨A1, n1, c1', hv1, hmt⟩ := HS.out.mts hlt hg s0 (.slice none 0 0)
        cases hv1
        have z0 := h2.cell 0
        have z1 := h2.cell 1
        simp at z0 z1
        refine bodyPost_ret (v := .tuple #[.agg #[.string s0, (.slice none 0 0)], .int .i64 0]) (by simp [results, Tryd.results43, go_sem, z0, z1]) rfl ⟨_, _, _, rfl, hmt, h1, h3⟩
end Go.Proofs.YtbdochcajpempaaDoor
