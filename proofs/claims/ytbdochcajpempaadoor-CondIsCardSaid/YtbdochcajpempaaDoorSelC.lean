/- The walk of the reader's match. -/
import Derived.Test.YtbdochcajpempaaDoorSelB
namespace Go.Proofs.YtbdochcajpempaaDoor
open Go.RowKit
set_option linter.unusedSimpArgs false
set_option linter.unusedVariables false

theorem value_is (r : Nat) (A : Option Addr) (n c i : Nat) (ts : List Sel.Tk) (w : World) (hT : Tks w r A n c ts) (hR : Rd w r A n c i) (h : i < n) :
    ∃ b off t, A = some ⟨b, off, none⟩ ∧ b < r ∧ ts[i]? = some t ∧ n ≤ c ∧ c ≤ 9223372036854775807 ∧ t.2.2.size ≤ 9223372036854775807 ∧ w.cell? ⟨b, off + i * 3 + 2, none⟩ = some (.string t.2.2) := by
  obtain ⟨b, off, t, e, hb, ht, hz, -, -, h2⟩ := hT.at_ h
  exact ⟨b, off, t, e, hb, ht, hT.cap.1, hT.cap.2, hz, h2⟩

set_option maxRecDepth 100000 in
set_option maxHeartbeats 8000000 in
theorem match_is (r : Nat) (A : Option Addr) (n c i k : Nat) (ts : List Sel.Tk) (m : Sel.Mt) (j : Nat) (e0 : Int) (hm : Sel.matchAt ts i k = (m, j, e0)) (w : World) (hT : Tks w r A n c ts) (hR : Rd w r A n c i) :
    Calls Tryd.prog 62 #[.pointer (some ⟨r, 0, none⟩), .int .i64 (k : Nat)] w fun e w' => e = .returned (.tuple #[.agg #[.string m.1, .string m.2.1, .bool m.2.2], .int .i64 e0]) ∧ Rd w' r A n c j ∧ But r w w' := by
  have hlt := hR.lt
  have hl := hT.len
  have hmf : ∀ (fn : Fn) (first cap : Array Value) (w : World), (Instr.makeFunc fn first cap).run Tryd.prog w = .ok (.func fn first cap) w := fun _ _ _ _ => rfl
  have HR := Lib.hid hR
  have HT := Lib.hid hT
  clear hR hT
  unfold Sel.matchAt at hm
  by_cases h1 : Sel.nameE ts i ≠ 0
  · rw [if_pos h1] at hm
    injection hm with hm1 hm2
    injection hm2 with hm2 hm3
    subst hm1 hm2 hm3
    have H1 := Lib.hid h1
    obtain ⟨e0, he0⟩ : ∃ e, Sel.nameE ts i = e := ⟨_, rfl⟩
    rw [he0] at h1 ⊢
    have HE0 := Lib.hid he0
    clear he0
    go_enter Tryd.func62, Tryd.ntmps62
    go_wp2_with fail
    have hs1 : MS 45 #[.string ⟨#[]⟩, .string ⟨#[]⟩, .bool false] w r A n c ts (w.alloc (.cells #[.string ⟨#[]⟩, .string ⟨#[]⟩, .bool false] 45)) i := ⟨Mem.Blk.alloc HR.out _, Mem.Blk.new w 45 #[.string ⟨#[]⟩, .string ⟨#[]⟩, .bool false], (But.refl r w).alloc _, HT.out.alloc (Nat.le_of_lt hlt) _⟩
    obtain ⟨W1, hW1⟩ : ∃ W1, W1 = w.alloc (.cells #[.string ⟨#[]⟩, .string ⟨#[]⟩, .bool false] 45) := ⟨_, rfl⟩
    rw [← hW1] at hs1 ⊢
    clear hW1
    have HS := Lib.hid hs1
    clear hs1
    refine (name_of r A n c i ts e0 HE0.out ⟨#[]⟩ (if_neg h1).symm i (if_neg h1).symm W1 HS.out.tks HS.out.rd).mono ?_
    rintro e w2 ⟨rfl, hR2, hb2⟩
    have HS := Lib.hid (HS.out.step hlt hR2 hb2)
    clear hR2 hb2
    have f0 := HS.out.blk.frozen 0
    have f1 := HS.out.blk.frozen 1
    have f2 := HS.out.blk.frozen 2
    have g0 := HS.out.blk.cell 0
    have g1 := HS.out.blk.cell 1
    have g2 := HS.out.blk.cell 2
    simp at g0 g1 g2
    go_wp2
    have HZ := Lib.hid (((HS.out.far hlt 0 (.string (⟨#[]⟩))).far hlt 1 (.string (⟨#[]⟩))).far hlt 2 (.bool false))
    have z0 := HZ.out.blk.cell 0
    have z1 := HZ.out.blk.cell 1
    have z2 := HZ.out.blk.cell 2
    simp at z0 z1 z2
    refine bodyPost_ret (v := .tuple #[.agg #[.string (⟨#[]⟩), .string (⟨#[]⟩), .bool false], .int .i64 (e0)]) (by simp [results, Tryd.results62, go_sem, z0, z1, z2]) rfl ⟨rfl, HZ.out.rd, HZ.out.but⟩
  · rw [if_neg h1] at hm
    have HE0 := Lib.hid (show Sel.nameE ts i = 0 by omega)
    obtain ⟨s0, hs0⟩ : ∃ s, Sel.sOf ts i = s := ⟨_, rfl⟩
    rw [hs0] at hm
    have HSO := Lib.hid hs0
    clear hs0 h1
    have hin := Sel.nameE_lt HE0.out
    rcases hb1 : Sel.isS ts (i + 1) Sel.neS with _ | _
    · rcases hb2 : Sel.isS ts (i + 1) Sel.eqS with _ | _
      · rw [if_pos ⟨hb1, hb2⟩] at hm
        injection hm with hm1 hm2
        injection hm2 with hm2 hm3
        subst hm1 hm2 hm3
        have HB1 := Lib.hid hb1
        have HB2 := Lib.hid hb2
        clear hb1 hb2
        go_enter Tryd.func62, Tryd.ntmps62
        go_wp2_with fail
        have hs1 : MS 45 #[.string ⟨#[]⟩, .string ⟨#[]⟩, .bool false] w r A n c ts (w.alloc (.cells #[.string ⟨#[]⟩, .string ⟨#[]⟩, .bool false] 45)) i := ⟨Mem.Blk.alloc HR.out _, Mem.Blk.new w 45 #[.string ⟨#[]⟩, .string ⟨#[]⟩, .bool false], (But.refl r w).alloc _, HT.out.alloc (Nat.le_of_lt hlt) _⟩
        obtain ⟨W1, hW1⟩ : ∃ W1, W1 = w.alloc (.cells #[.string ⟨#[]⟩, .string ⟨#[]⟩, .bool false] 45) := ⟨_, rfl⟩
        rw [← hW1] at hs1 ⊢
        clear hW1
        have HS := Lib.hid hs1
        clear hs1
        refine (name_of r A n c i ts 0 HE0.out s0 HSO.out.symm (i + 1) rfl W1 HS.out.tks HS.out.rd).mono ?_
        rintro e w2 ⟨rfl, hR2, hb2⟩
        have HS := Lib.hid (HS.out.step hlt hR2 hb2)
        clear hR2 hb2
        go_wp2_with fail
        refine (sign_is r A n c (i + 1) ts Sel.neS false HB1.out (i + 1) rfl w2 HS.out.tks HS.out.rd).mono ?_
        rintro e w3 ⟨rfl, hR2, hb2⟩
        have HS := Lib.hid (HS.out.step hlt hR2 hb2)
        clear hR2 hb2
        go_wp2_with fail
        refine (sign_is r A n c (i + 1) ts Sel.eqS false HB2.out (i + 1) rfl w3 HS.out.tks HS.out.rd).mono ?_
        rintro e w3b ⟨rfl, hR2, hb2⟩
        have HS := Lib.hid (HS.out.step hlt hR2 hb2)
        clear hR2 hb2
        go_wp2_with fail
        refine (wrong_any r A n c _ ts _ hl HS.out.rd).mono ?_
        rintro e wz ⟨rfl, hB4⟩
        have HS := Lib.hid (HS.out.keep hB4)
        clear hB4
        have f0 := HS.out.blk.frozen 0
        have f1 := HS.out.blk.frozen 1
        have f2 := HS.out.blk.frozen 2
        have g0 := HS.out.blk.cell 0
        have g1 := HS.out.blk.cell 1
        have g2 := HS.out.blk.cell 2
        simp at g0 g1 g2
        go_wp2
        have HZ := Lib.hid (((HS.out.far hlt 0 (.string (⟨#[]⟩))).far hlt 1 (.string (⟨#[]⟩))).far hlt 2 (.bool false))
        have z0 := HZ.out.blk.cell 0
        have z1 := HZ.out.blk.cell 1
        have z2 := HZ.out.blk.cell 2
        simp at z0 z1 z2
        refine bodyPost_ret (v := .tuple #[.agg #[.string (⟨#[]⟩), .string (⟨#[]⟩), .bool false], .int .i64 (Sel.wrong ts (i + 1))]) (by simp [results, Tryd.results62, go_sem, z0, z1, z2]) rfl ⟨rfl, HZ.out.rd, HZ.out.but⟩
      · rw [if_neg (by rw [hb2]; simp), hb1] at hm
        have HB1 := Lib.hid hb1
        have HB2 := Lib.hid hb2
        clear hb1 hb2
        go_enter Tryd.func62, Tryd.ntmps62
        go_wp2_with fail
        have hs1 : MS 45 #[.string ⟨#[]⟩, .string ⟨#[]⟩, .bool false] w r A n c ts (w.alloc (.cells #[.string ⟨#[]⟩, .string ⟨#[]⟩, .bool false] 45)) i := ⟨Mem.Blk.alloc HR.out _, Mem.Blk.new w 45 #[.string ⟨#[]⟩, .string ⟨#[]⟩, .bool false], (But.refl r w).alloc _, HT.out.alloc (Nat.le_of_lt hlt) _⟩
        obtain ⟨W1, hW1⟩ : ∃ W1, W1 = w.alloc (.cells #[.string ⟨#[]⟩, .string ⟨#[]⟩, .bool false] 45) := ⟨_, rfl⟩
        rw [← hW1] at hs1 ⊢
        clear hW1
        have HS := Lib.hid hs1
        clear hs1
        refine (name_of r A n c i ts 0 HE0.out s0 HSO.out.symm (i + 1) rfl W1 HS.out.tks HS.out.rd).mono ?_
        rintro e w2 ⟨rfl, hR2, hb2⟩
        have HS := Lib.hid (HS.out.step hlt hR2 hb2)
        clear hR2 hb2
        go_wp2_with fail
        refine (sign_is r A n c (i + 1) ts Sel.neS false HB1.out (i + 1) rfl w2 HS.out.tks HS.out.rd).mono ?_
        rintro e w3 ⟨rfl, hR2, hb2⟩
        have HS := Lib.hid (HS.out.step hlt hR2 hb2)
        clear hR2 hb2
        go_wp2_with fail
        refine (sign_is r A n c (i + 1) ts Sel.eqS true HB2.out (i + 2) rfl w3 HS.out.tks HS.out.rd).mono ?_
        rintro e w3b ⟨rfl, hR2, hb2⟩
        have HS := Lib.hid (HS.out.step hlt hR2 hb2)
        clear hR2 hb2
        obtain ⟨p, hp⟩ : ∃ p, i + 2 = p := ⟨_, rfl⟩
        rw [show i + 3 = p + 1 by omega, hp] at hm
        rw [hp] at HS
        clear hp hin
        rcases hk : Sel.isK ts p 3 with _ | _
        · have hv := Sel.valE_text (n := k) hk
          rw [hv, if_pos (Sel.wrong_ne ts p)] at hm
          injection hm with hm1 hm2
          injection hm2 with hm2 hm3
          subst hm1 hm2 hm3
          have HK := Lib.hid hk
          clear hk hv
          go_wp2_with fail
          have hx := is_any r A n c p ts 3 _ (HS.out.tks.more (Nat.le_of_lt HS.out.rd.lt)) HS.out.rd
          rw [HK.out] at hx
          refine hx.mono ?_
          rintro e w4 ⟨rfl, hB4⟩
          have HS := Lib.hid (HS.out.keep hB4)
          clear hB4
          go_wp2_with fail
          refine (wrong_any r A n c _ ts _ hl HS.out.rd).mono ?_
          rintro e wz ⟨rfl, hB4⟩
          have HS := Lib.hid (HS.out.keep hB4)
          clear hB4
          have f0 := HS.out.blk.frozen 0
          have f1 := HS.out.blk.frozen 1
          have f2 := HS.out.blk.frozen 2
          have g0 := HS.out.blk.cell 0
          have g1 := HS.out.blk.cell 1
          have g2 := HS.out.blk.cell 2
          simp at g0 g1 g2
          go_wp2
          have HZ := Lib.hid (((HS.out.far hlt 0 (.string (⟨#[]⟩))).far hlt 1 (.string (⟨#[]⟩))).far hlt 2 (.bool false))
          have z0 := HZ.out.blk.cell 0
          have z1 := HZ.out.blk.cell 1
          have z2 := HZ.out.blk.cell 2
          simp at z0 z1 z2
          refine bodyPost_ret (v := .tuple #[.agg #[.string (⟨#[]⟩), .string (⟨#[]⟩), .bool false], .int .i64 (Sel.wrong ts (p))]) (by simp [results, Tryd.results62, go_sem, z0, z1, z2]) rfl ⟨rfl, HZ.out.rd, HZ.out.but⟩
        · have hin := Sel.isK_lt hk
          have hin2 : p < n := by omega
          have HK := Lib.hid hk
          go_wp2_with fail
          have hx := is_any r A n c p ts 3 _ (HS.out.tks.more (Nat.le_of_lt HS.out.rd.lt)) HS.out.rd
          rw [HK.out] at hx
          refine hx.mono ?_
          rintro e w4 ⟨rfl, hB4⟩
          have HS := Lib.hid (HS.out.keep hB4)
          clear hB4
          obtain ⟨bb, off, t, rfl, hbB, ht, hc1, hc2, hz, hx2⟩ := value_is r A n c p ts w4 HS.out.tks HS.out.rd hin2
          have hbw : bb < w4.heap.size := Nat.lt_trans hbB HS.out.rd.lt
          have hv := Sel.valE_is (n := k) hk ht
          have hso := Sel.sOf_some ht
          obtain ⟨u, hu⟩ : ∃ u, t.2.2 = u := ⟨_, rfl⟩
          rw [hu] at hv hso hx2 hz
          rw [hv, hso] at hm
          have HX2 := Lib.hid hx2
          have hd2 : decide (p < n) = true := decide_eq_true hin2
          clear hx2 hv hso hu ht hk hin
          by_cases h64 : 64 < u.size
          · have hd64 : decide ((64 : Int) < (u.size : Int)) = true := decide_eq_true (by omega)
            rw [if_pos (Or.inl h64), if_pos (by decide)] at hm
            injection hm with hm1 hm2
            injection hm2 with hm2 hm3
            subst hm1 hm2 hm3
            clear h64
            go_wp2
            refine wp_region_held_drew (S := fun W' => Below w4.heap.size w4 W') (by kernel_rfl) (Below.refl _ _).drew (fun hHeld => ?_)
            have hlr := HS.out.rd.lt
            refine wpAnyH_take (i := 0) (v := ?_) (by simp only [List.getElem?_toArray, List.getElem?_cons_succ, List.getElem?_cons_zero]; exact rfl) (by kernel_rfl) (by kernel_rfl) (by kernel_rfl) (by exact fun _ _ _ h => h) (Or.inl ⟨by rfl, ?_⟩) hHeld ?_
            rotate_left
            · intro wq hSw; go_simp; all_goals (with_reducible rfl)
            try simp only [Act.put, List.setIfInBounds_toArray, List.set_cons_zero, List.set_cons_succ]
            refine wpAnyH_take (i := 1) (v := ?_) (by simp only [List.getElem?_toArray, List.getElem?_cons_succ, List.getElem?_cons_zero]; exact rfl) (by kernel_rfl) (by kernel_rfl) (by kernel_rfl) (by exact fun _ _ _ h => h) (Or.inl ⟨by rfl, ?_⟩) hHeld ?_
            rotate_left
            · intro wq hSw; go_simp; all_goals (with_reducible rfl)
            try simp only [Act.put, List.setIfInBounds_toArray, List.set_cons_zero, List.set_cons_succ]
            refine wpAnyH_take (i := 2) (v := ?_) (by simp only [List.getElem?_toArray, List.getElem?_cons_succ, List.getElem?_cons_zero]; exact rfl) (by kernel_rfl) (by kernel_rfl) (by kernel_rfl) (by exact fun _ _ _ h => h) (Or.inl ⟨by rfl, ?_⟩) hHeld ?_
            rotate_left
            · intro wq hSw; go_simp; all_goals (with_reducible rfl)
            try simp only [Act.put, List.setIfInBounds_toArray, List.set_cons_zero, List.set_cons_succ]
            refine wpAnyH_take (i := 3) (v := ?_) (by simp only [List.getElem?_toArray, List.getElem?_cons_succ, List.getElem?_cons_zero]; exact rfl) (by kernel_rfl) (by kernel_rfl) (by kernel_rfl) (by exact fun _ _ _ h => h) (Or.inl ⟨by rfl, ?_⟩) hHeld ?_
            rotate_left
            · intro wq hSw; have m0 := (hSw.cell (p := ⟨r, 0, none⟩) hlr).trans (HS.out.rd.cell 0); simp at m0; go_simp; all_goals (with_reducible rfl)
            try simp only [Act.put, List.setIfInBounds_toArray, List.set_cons_zero, List.set_cons_succ]
            refine wpAnyH_take (i := 4) (v := ?_) (by simp only [List.getElem?_toArray, List.getElem?_cons_succ, List.getElem?_cons_zero]; exact rfl) (by kernel_rfl) (by kernel_rfl) (by kernel_rfl) (by exact fun _ _ _ h => h) (Or.inl ⟨by rfl, ?_⟩) hHeld ?_
            rotate_left
            · intro wq hSw; go_simp; all_goals (with_reducible rfl)
            try simp only [Act.put, List.setIfInBounds_toArray, List.set_cons_zero, List.set_cons_succ]
            refine wpAnyH_take (i := 5) (v := ?_) (by simp only [List.getElem?_toArray, List.getElem?_cons_succ, List.getElem?_cons_zero]; exact rfl) (by kernel_rfl) (by kernel_rfl) (by kernel_rfl) (by exact fun _ _ _ h => h) (Or.inl ⟨by rfl, ?_⟩) hHeld ?_
            rotate_left
            · intro wq hSw; go_simp; all_goals (with_reducible rfl)
            try simp only [Act.put, List.setIfInBounds_toArray, List.set_cons_zero, List.set_cons_succ]
            refine wpAnyH_take (i := 6) (v := ?_) (by simp only [List.getElem?_toArray, List.getElem?_cons_succ, List.getElem?_cons_zero]; exact rfl) (by kernel_rfl) (by kernel_rfl) (by kernel_rfl) (by exact fun _ _ _ h => h) (Or.inl ⟨by rfl, ?_⟩) hHeld ?_
            rotate_left
            · intro wq hSw; go_simp; all_goals (with_reducible rfl)
            try simp only [Act.put, List.setIfInBounds_toArray, List.set_cons_zero, List.set_cons_succ]
            refine wpAnyH_take (i := 7) (v := ?_) (by simp only [List.getElem?_toArray, List.getElem?_cons_succ, List.getElem?_cons_zero]; exact rfl) (by kernel_rfl) (by kernel_rfl) (by kernel_rfl) (by exact fun _ _ _ h => h) (Or.inl ⟨by rfl, ?_⟩) hHeld ?_
            rotate_left
            · intro wq hSw; have m1 := (hSw.cell (p := ⟨r, 1, none⟩) hlr).trans (HS.out.rd.cell 1); simp at m1; go_simp; all_goals (with_reducible rfl)
            try simp only [Act.put, List.setIfInBounds_toArray, List.set_cons_zero, List.set_cons_succ]
            refine wpAnyH_take (i := 8) (v := ?_) (by simp only [List.getElem?_toArray, List.getElem?_cons_succ, List.getElem?_cons_zero]; exact rfl) (by kernel_rfl) (by kernel_rfl) (by kernel_rfl) (by exact fun _ _ _ h => h) (Or.inl ⟨by rfl, ?_⟩) hHeld ?_
            rotate_left
            · intro wq hSw; go_simp; all_goals (with_reducible rfl)
            try simp only [Act.put, List.setIfInBounds_toArray, List.set_cons_zero, List.set_cons_succ]
            refine wpAnyH_take (i := 9) (v := ?_) (by simp only [List.getElem?_toArray, List.getElem?_cons_succ, List.getElem?_cons_zero]; exact rfl) (by kernel_rfl) (by kernel_rfl) (by kernel_rfl) (by exact fun _ _ _ h => h) (Or.inl ⟨by rfl, ?_⟩) hHeld ?_
            rotate_left
            · intro wq hSw; go_simp; all_goals (with_reducible rfl)
            try simp only [Act.put, List.setIfInBounds_toArray, List.set_cons_zero, List.set_cons_succ]
            refine wpAnyH_take (i := 10) (v := ?_) (by simp only [List.getElem?_toArray, List.getElem?_cons_succ, List.getElem?_cons_zero]; exact rfl) (by kernel_rfl) (by kernel_rfl) (by kernel_rfl) (by exact fun _ _ _ h => h) (Or.inl ⟨by rfl, ?_⟩) hHeld ?_
            rotate_left
            · intro wq hSw; have x2 := (hSw.cell (p := ⟨bb, off + p * 3 + 2, none⟩) hbw).trans HX2.out; go_simp; all_goals (with_reducible rfl)
            try simp only [Act.put, List.setIfInBounds_toArray, List.set_cons_zero, List.set_cons_succ]
            refine wpAnyH_take (i := 11) (v := ?_) (by simp only [List.getElem?_toArray, List.getElem?_cons_succ, List.getElem?_cons_zero]; exact rfl) (by kernel_rfl) (by kernel_rfl) (by kernel_rfl) (by exact fun _ _ _ h => h) (Or.inl ⟨by rfl, ?_⟩) hHeld ?_
            rotate_left
            · intro wq hSw; go_simp; all_goals (with_reducible rfl)
            try simp only [Act.put, List.setIfInBounds_toArray, List.set_cons_zero, List.set_cons_succ]
            refine wpAnyH_done (by kernel_rfl) ?_ _
            have HS := Lib.hid (HS.out.keep hHeld)
            clear hHeld
            generalize w4.drew = w6 at HS ⊢
            have f0 := HS.out.blk.frozen 0
            have f1 := HS.out.blk.frozen 1
            have f2 := HS.out.blk.frozen 2
            have g0 := HS.out.blk.cell 0
            have g1 := HS.out.blk.cell 1
            have g2 := HS.out.blk.cell 2
            simp at g0 g1 g2
            go_wp2
            have HZ := Lib.hid (((HS.out.far hlt 0 (.string (⟨#[]⟩))).far hlt 1 (.string (⟨#[]⟩))).far hlt 2 (.bool false))
            have z0 := HZ.out.blk.cell 0
            have z1 := HZ.out.blk.cell 1
            have z2 := HZ.out.blk.cell 2
            simp at z0 z1 z2
            refine bodyPost_ret (v := .tuple #[.agg #[.string (⟨#[]⟩), .string (⟨#[]⟩), .bool false], .int .i64 (4)]) (by simp [results, Tryd.results62, go_sem, z0, z1, z2]) rfl ⟨rfl, HZ.out.rd, HZ.out.but⟩
          · have hd64 : decide ((64 : Int) < (u.size : Int)) = false := decide_eq_false (by omega)
            by_cases h8 : 8 ≤ k
            · have hd8 : decide ((8 : Int) ≤ (k : Int)) = true := decide_eq_true (by omega)
              rw [if_pos (Or.inr h8), if_pos (by decide)] at hm
              injection hm with hm1 hm2
              injection hm2 with hm2 hm3
              subst hm1 hm2 hm3
              clear h64 h8
              go_wp2
              refine wp_region_held_drew (S := fun W' => Below w4.heap.size w4 W') (by kernel_rfl) (Below.refl _ _).drew (fun hHeld => ?_)
              have hlr := HS.out.rd.lt
              refine wpAnyH_take (i := 0) (v := ?_) (by simp only [List.getElem?_toArray, List.getElem?_cons_succ, List.getElem?_cons_zero]; exact rfl) (by kernel_rfl) (by kernel_rfl) (by kernel_rfl) (by exact fun _ _ _ h => h) (Or.inl ⟨by rfl, ?_⟩) hHeld ?_
              rotate_left
              · intro wq hSw; go_simp; all_goals (with_reducible rfl)
              try simp only [Act.put, List.setIfInBounds_toArray, List.set_cons_zero, List.set_cons_succ]
              refine wpAnyH_take (i := 1) (v := ?_) (by simp only [List.getElem?_toArray, List.getElem?_cons_succ, List.getElem?_cons_zero]; exact rfl) (by kernel_rfl) (by kernel_rfl) (by kernel_rfl) (by exact fun _ _ _ h => h) (Or.inl ⟨by rfl, ?_⟩) hHeld ?_
              rotate_left
              · intro wq hSw; go_simp; all_goals (with_reducible rfl)
              try simp only [Act.put, List.setIfInBounds_toArray, List.set_cons_zero, List.set_cons_succ]
              refine wpAnyH_take (i := 2) (v := ?_) (by simp only [List.getElem?_toArray, List.getElem?_cons_succ, List.getElem?_cons_zero]; exact rfl) (by kernel_rfl) (by kernel_rfl) (by kernel_rfl) (by exact fun _ _ _ h => h) (Or.inl ⟨by rfl, ?_⟩) hHeld ?_
              rotate_left
              · intro wq hSw; go_simp; all_goals (with_reducible rfl)
              try simp only [Act.put, List.setIfInBounds_toArray, List.set_cons_zero, List.set_cons_succ]
              refine wpAnyH_take (i := 3) (v := ?_) (by simp only [List.getElem?_toArray, List.getElem?_cons_succ, List.getElem?_cons_zero]; exact rfl) (by kernel_rfl) (by kernel_rfl) (by kernel_rfl) (by exact fun _ _ _ h => h) (Or.inl ⟨by rfl, ?_⟩) hHeld ?_
              rotate_left
              · intro wq hSw; have m0 := (hSw.cell (p := ⟨r, 0, none⟩) hlr).trans (HS.out.rd.cell 0); simp at m0; go_simp; all_goals (with_reducible rfl)
              try simp only [Act.put, List.setIfInBounds_toArray, List.set_cons_zero, List.set_cons_succ]
              refine wpAnyH_take (i := 4) (v := ?_) (by simp only [List.getElem?_toArray, List.getElem?_cons_succ, List.getElem?_cons_zero]; exact rfl) (by kernel_rfl) (by kernel_rfl) (by kernel_rfl) (by exact fun _ _ _ h => h) (Or.inl ⟨by rfl, ?_⟩) hHeld ?_
              rotate_left
              · intro wq hSw; go_simp; all_goals (with_reducible rfl)
              try simp only [Act.put, List.setIfInBounds_toArray, List.set_cons_zero, List.set_cons_succ]
              refine wpAnyH_take (i := 5) (v := ?_) (by simp only [List.getElem?_toArray, List.getElem?_cons_succ, List.getElem?_cons_zero]; exact rfl) (by kernel_rfl) (by kernel_rfl) (by kernel_rfl) (by exact fun _ _ _ h => h) (Or.inl ⟨by rfl, ?_⟩) hHeld ?_
              rotate_left
              · intro wq hSw; go_simp; all_goals (with_reducible rfl)
              try simp only [Act.put, List.setIfInBounds_toArray, List.set_cons_zero, List.set_cons_succ]
              refine wpAnyH_take (i := 6) (v := ?_) (by simp only [List.getElem?_toArray, List.getElem?_cons_succ, List.getElem?_cons_zero]; exact rfl) (by kernel_rfl) (by kernel_rfl) (by kernel_rfl) (by exact fun _ _ _ h => h) (Or.inl ⟨by rfl, ?_⟩) hHeld ?_
              rotate_left
              · intro wq hSw; go_simp; all_goals (with_reducible rfl)
              try simp only [Act.put, List.setIfInBounds_toArray, List.set_cons_zero, List.set_cons_succ]
              refine wpAnyH_take (i := 7) (v := ?_) (by simp only [List.getElem?_toArray, List.getElem?_cons_succ, List.getElem?_cons_zero]; exact rfl) (by kernel_rfl) (by kernel_rfl) (by kernel_rfl) (by exact fun _ _ _ h => h) (Or.inl ⟨by rfl, ?_⟩) hHeld ?_
              rotate_left
              · intro wq hSw; have m1 := (hSw.cell (p := ⟨r, 1, none⟩) hlr).trans (HS.out.rd.cell 1); simp at m1; go_simp; all_goals (with_reducible rfl)
              try simp only [Act.put, List.setIfInBounds_toArray, List.set_cons_zero, List.set_cons_succ]
              refine wpAnyH_take (i := 8) (v := ?_) (by simp only [List.getElem?_toArray, List.getElem?_cons_succ, List.getElem?_cons_zero]; exact rfl) (by kernel_rfl) (by kernel_rfl) (by kernel_rfl) (by exact fun _ _ _ h => h) (Or.inl ⟨by rfl, ?_⟩) hHeld ?_
              rotate_left
              · intro wq hSw; go_simp; all_goals (with_reducible rfl)
              try simp only [Act.put, List.setIfInBounds_toArray, List.set_cons_zero, List.set_cons_succ]
              refine wpAnyH_take (i := 9) (v := ?_) (by simp only [List.getElem?_toArray, List.getElem?_cons_succ, List.getElem?_cons_zero]; exact rfl) (by kernel_rfl) (by kernel_rfl) (by kernel_rfl) (by exact fun _ _ _ h => h) (Or.inl ⟨by rfl, ?_⟩) hHeld ?_
              rotate_left
              · intro wq hSw; go_simp; all_goals (with_reducible rfl)
              try simp only [Act.put, List.setIfInBounds_toArray, List.set_cons_zero, List.set_cons_succ]
              refine wpAnyH_take (i := 10) (v := ?_) (by simp only [List.getElem?_toArray, List.getElem?_cons_succ, List.getElem?_cons_zero]; exact rfl) (by kernel_rfl) (by kernel_rfl) (by kernel_rfl) (by exact fun _ _ _ h => h) (Or.inl ⟨by rfl, ?_⟩) hHeld ?_
              rotate_left
              · intro wq hSw; have x2 := (hSw.cell (p := ⟨bb, off + p * 3 + 2, none⟩) hbw).trans HX2.out; go_simp; all_goals (with_reducible rfl)
              try simp only [Act.put, List.setIfInBounds_toArray, List.set_cons_zero, List.set_cons_succ]
              refine wpAnyH_take (i := 11) (v := ?_) (by simp only [List.getElem?_toArray, List.getElem?_cons_succ, List.getElem?_cons_zero]; exact rfl) (by kernel_rfl) (by kernel_rfl) (by kernel_rfl) (by exact fun _ _ _ h => h) (Or.inl ⟨by rfl, ?_⟩) hHeld ?_
              rotate_left
              · intro wq hSw; go_simp; all_goals (with_reducible rfl)
              try simp only [Act.put, List.setIfInBounds_toArray, List.set_cons_zero, List.set_cons_succ]
              refine wpAnyH_done (by kernel_rfl) ?_ _
              have HS := Lib.hid (HS.out.keep hHeld)
              clear hHeld
              generalize w4.drew = w6 at HS ⊢
              have f0 := HS.out.blk.frozen 0
              have f1 := HS.out.blk.frozen 1
              have f2 := HS.out.blk.frozen 2
              have g0 := HS.out.blk.cell 0
              have g1 := HS.out.blk.cell 1
              have g2 := HS.out.blk.cell 2
              simp at g0 g1 g2
              go_wp2
              have HZ := Lib.hid (((HS.out.far hlt 0 (.string (⟨#[]⟩))).far hlt 1 (.string (⟨#[]⟩))).far hlt 2 (.bool false))
              have z0 := HZ.out.blk.cell 0
              have z1 := HZ.out.blk.cell 1
              have z2 := HZ.out.blk.cell 2
              simp at z0 z1 z2
              refine bodyPost_ret (v := .tuple #[.agg #[.string (⟨#[]⟩), .string (⟨#[]⟩), .bool false], .int .i64 (4)]) (by simp [results, Tryd.results62, go_sem, z0, z1, z2]) rfl ⟨rfl, HZ.out.rd, HZ.out.but⟩
            · have hd8 : decide ((8 : Int) ≤ (k : Int)) = false := decide_eq_false (by omega)
              rw [if_neg (by omega)] at hm
              injection hm with hm1 hm2
              injection hm2 with hm2 hm3
              subst hm1 hm2 hm3
              have hw1 : IntKind.i64.wrap ((p : Int) + 1) = ((p + 1 : Nat) : Int) := by rw [show (p : Int) + 1 = ((p + 1 : Nat) : Int) by omega]; exact IntWalk.i64_in _ (by omega)
              clear h64 h8
              go_wp2
              refine wp_region_held_drew (S := fun W' => Below w4.heap.size w4 W') (by kernel_rfl) (Below.refl _ _).drew (fun hHeld => ?_)
              have hlr := HS.out.rd.lt
              refine wpAnyH_take (i := 0) (v := ?_) (by simp only [List.getElem?_toArray, List.getElem?_cons_succ, List.getElem?_cons_zero]; exact rfl) (by kernel_rfl) (by kernel_rfl) (by kernel_rfl) (by exact fun _ _ _ h => h) (Or.inl ⟨by rfl, ?_⟩) hHeld ?_
              rotate_left
              · intro wq hSw; go_simp; all_goals (with_reducible rfl)
              try simp only [Act.put, List.setIfInBounds_toArray, List.set_cons_zero, List.set_cons_succ]
              refine wpAnyH_take (i := 1) (v := ?_) (by simp only [List.getElem?_toArray, List.getElem?_cons_succ, List.getElem?_cons_zero]; exact rfl) (by kernel_rfl) (by kernel_rfl) (by kernel_rfl) (by exact fun _ _ _ h => h) (Or.inl ⟨by rfl, ?_⟩) hHeld ?_
              rotate_left
              · intro wq hSw; go_simp; all_goals (with_reducible rfl)
              try simp only [Act.put, List.setIfInBounds_toArray, List.set_cons_zero, List.set_cons_succ]
              refine wpAnyH_take (i := 2) (v := ?_) (by simp only [List.getElem?_toArray, List.getElem?_cons_succ, List.getElem?_cons_zero]; exact rfl) (by kernel_rfl) (by kernel_rfl) (by kernel_rfl) (by exact fun _ _ _ h => h) (Or.inl ⟨by rfl, ?_⟩) hHeld ?_
              rotate_left
              · intro wq hSw; go_simp; all_goals (with_reducible rfl)
              try simp only [Act.put, List.setIfInBounds_toArray, List.set_cons_zero, List.set_cons_succ]
              refine wpAnyH_take (i := 3) (v := ?_) (by simp only [List.getElem?_toArray, List.getElem?_cons_succ, List.getElem?_cons_zero]; exact rfl) (by kernel_rfl) (by kernel_rfl) (by kernel_rfl) (by exact fun _ _ _ h => h) (Or.inl ⟨by rfl, ?_⟩) hHeld ?_
              rotate_left
              · intro wq hSw; have m0 := (hSw.cell (p := ⟨r, 0, none⟩) hlr).trans (HS.out.rd.cell 0); simp at m0; go_simp; all_goals (with_reducible rfl)
              try simp only [Act.put, List.setIfInBounds_toArray, List.set_cons_zero, List.set_cons_succ]
              refine wpAnyH_take (i := 4) (v := ?_) (by simp only [List.getElem?_toArray, List.getElem?_cons_succ, List.getElem?_cons_zero]; exact rfl) (by kernel_rfl) (by kernel_rfl) (by kernel_rfl) (by exact fun _ _ _ h => h) (Or.inl ⟨by rfl, ?_⟩) hHeld ?_
              rotate_left
              · intro wq hSw; go_simp; all_goals (with_reducible rfl)
              try simp only [Act.put, List.setIfInBounds_toArray, List.set_cons_zero, List.set_cons_succ]
              refine wpAnyH_take (i := 5) (v := ?_) (by simp only [List.getElem?_toArray, List.getElem?_cons_succ, List.getElem?_cons_zero]; exact rfl) (by kernel_rfl) (by kernel_rfl) (by kernel_rfl) (by exact fun _ _ _ h => h) (Or.inl ⟨by rfl, ?_⟩) hHeld ?_
              rotate_left
              · intro wq hSw; go_simp; all_goals (with_reducible rfl)
              try simp only [Act.put, List.setIfInBounds_toArray, List.set_cons_zero, List.set_cons_succ]
              refine wpAnyH_take (i := 6) (v := ?_) (by simp only [List.getElem?_toArray, List.getElem?_cons_succ, List.getElem?_cons_zero]; exact rfl) (by kernel_rfl) (by kernel_rfl) (by kernel_rfl) (by exact fun _ _ _ h => h) (Or.inl ⟨by rfl, ?_⟩) hHeld ?_
              rotate_left
              · intro wq hSw; go_simp; all_goals (with_reducible rfl)
              try simp only [Act.put, List.setIfInBounds_toArray, List.set_cons_zero, List.set_cons_succ]
              refine wpAnyH_take (i := 7) (v := ?_) (by simp only [List.getElem?_toArray, List.getElem?_cons_succ, List.getElem?_cons_zero]; exact rfl) (by kernel_rfl) (by kernel_rfl) (by kernel_rfl) (by exact fun _ _ _ h => h) (Or.inl ⟨by rfl, ?_⟩) hHeld ?_
              rotate_left
              · intro wq hSw; have m1 := (hSw.cell (p := ⟨r, 1, none⟩) hlr).trans (HS.out.rd.cell 1); simp at m1; go_simp; all_goals (with_reducible rfl)
              try simp only [Act.put, List.setIfInBounds_toArray, List.set_cons_zero, List.set_cons_succ]
              refine wpAnyH_take (i := 8) (v := ?_) (by simp only [List.getElem?_toArray, List.getElem?_cons_succ, List.getElem?_cons_zero]; exact rfl) (by kernel_rfl) (by kernel_rfl) (by kernel_rfl) (by exact fun _ _ _ h => h) (Or.inl ⟨by rfl, ?_⟩) hHeld ?_
              rotate_left
              · intro wq hSw; go_simp; all_goals (with_reducible rfl)
              try simp only [Act.put, List.setIfInBounds_toArray, List.set_cons_zero, List.set_cons_succ]
              refine wpAnyH_take (i := 9) (v := ?_) (by simp only [List.getElem?_toArray, List.getElem?_cons_succ, List.getElem?_cons_zero]; exact rfl) (by kernel_rfl) (by kernel_rfl) (by kernel_rfl) (by exact fun _ _ _ h => h) (Or.inl ⟨by rfl, ?_⟩) hHeld ?_
              rotate_left
              · intro wq hSw; go_simp; all_goals (with_reducible rfl)
              try simp only [Act.put, List.setIfInBounds_toArray, List.set_cons_zero, List.set_cons_succ]
              refine wpAnyH_take (i := 10) (v := ?_) (by simp only [List.getElem?_toArray, List.getElem?_cons_succ, List.getElem?_cons_zero]; exact rfl) (by kernel_rfl) (by kernel_rfl) (by kernel_rfl) (by exact fun _ _ _ h => h) (Or.inl ⟨by rfl, ?_⟩) hHeld ?_
              rotate_left
              · intro wq hSw; have x2 := (hSw.cell (p := ⟨bb, off + p * 3 + 2, none⟩) hbw).trans HX2.out; go_simp; all_goals (with_reducible rfl)
              try simp only [Act.put, List.setIfInBounds_toArray, List.set_cons_zero, List.set_cons_succ]
              refine wpAnyH_take (i := 11) (v := ?_) (by simp only [List.getElem?_toArray, List.getElem?_cons_succ, List.getElem?_cons_zero]; exact rfl) (by kernel_rfl) (by kernel_rfl) (by kernel_rfl) (by exact fun _ _ _ h => h) (Or.inl ⟨by rfl, ?_⟩) hHeld ?_
              rotate_left
              · intro wq hSw; go_simp; all_goals (with_reducible rfl)
              try simp only [Act.put, List.setIfInBounds_toArray, List.set_cons_zero, List.set_cons_succ]
              refine wpAnyH_done (by kernel_rfl) ?_ _
              have HS := Lib.hid (HS.out.keep hHeld)
              clear hHeld
              generalize w4.drew = w6 at HS ⊢
              have m0 := HS.out.rd.cell 0
              have m1 := HS.out.rd.cell 1
              have fr := HS.out.rd.frozen 1
              have hpi : (.int .i64 ((p + 1 : Nat) : Int) : Value) = .int .i64 ((p : Int) + 1) := rfl
              have hs7 := HS.out.step hlt (Rd.set_ (j := p + 1) HS.out.rd) ((But.refl r w6).setCell 1 _)
              rw [hpi] at hs7
              have HS := Lib.hid hs7
              clear hs7 hpi
              simp at m0 m1
              have f0 := HS.out.blk.frozen 0
              have f1 := HS.out.blk.frozen 1
              have f2 := HS.out.blk.frozen 2
              have g0 := HS.out.blk.cell 0
              have g1 := HS.out.blk.cell 1
              have g2 := HS.out.blk.cell 2
              simp at g0 g1 g2
              go_wp2
              have HZ := Lib.hid (((HS.out.far hlt 0 (.string (s0))).far hlt 1 (.string (u))).far hlt 2 (.bool false))
              have z0 := HZ.out.blk.cell 0
              have z1 := HZ.out.blk.cell 1
              have z2 := HZ.out.blk.cell 2
              simp at z0 z1 z2
              refine bodyPost_ret (v := .tuple #[.agg #[.string (s0), .string (u), .bool false], .int .i64 (0)]) (by simp [results, Tryd.results62, go_sem, z0, z1, z2]) rfl ⟨rfl, HZ.out.rd, HZ.out.but⟩
    · rw [if_neg (by rw [hb1]; simp), hb1] at hm
      have HB1 := Lib.hid hb1
      clear hb1
      go_enter Tryd.func62, Tryd.ntmps62
      go_wp2_with fail
      have hs1 : MS 45 #[.string ⟨#[]⟩, .string ⟨#[]⟩, .bool false] w r A n c ts (w.alloc (.cells #[.string ⟨#[]⟩, .string ⟨#[]⟩, .bool false] 45)) i := ⟨Mem.Blk.alloc HR.out _, Mem.Blk.new w 45 #[.string ⟨#[]⟩, .string ⟨#[]⟩, .bool false], (But.refl r w).alloc _, HT.out.alloc (Nat.le_of_lt hlt) _⟩
      obtain ⟨W1, hW1⟩ : ∃ W1, W1 = w.alloc (.cells #[.string ⟨#[]⟩, .string ⟨#[]⟩, .bool false] 45) := ⟨_, rfl⟩
      rw [← hW1] at hs1 ⊢
      clear hW1
      have HS := Lib.hid hs1
      clear hs1
      refine (name_of r A n c i ts 0 HE0.out s0 HSO.out.symm (i + 1) rfl W1 HS.out.tks HS.out.rd).mono ?_
      rintro e w2 ⟨rfl, hR2, hb2⟩
      have HS := Lib.hid (HS.out.step hlt hR2 hb2)
      clear hR2 hb2
      go_wp2_with fail
      refine (sign_is r A n c (i + 1) ts Sel.neS true HB1.out (i + 2) rfl w2 HS.out.tks HS.out.rd).mono ?_
      rintro e w3 ⟨rfl, hR2, hb2⟩
      have HS := Lib.hid (HS.out.step hlt hR2 hb2)
      clear hR2 hb2
      obtain ⟨p, hp⟩ : ∃ p, i + 2 = p := ⟨_, rfl⟩
      rw [show i + 3 = p + 1 by omega, hp] at hm
      rw [hp] at HS
      clear hp hin
      rcases hk : Sel.isK ts p 3 with _ | _
      · have hv := Sel.valE_text (n := k) hk
        rw [hv, if_pos (Sel.wrong_ne ts p)] at hm
        injection hm with hm1 hm2
        injection hm2 with hm2 hm3
        subst hm1 hm2 hm3
        have HK := Lib.hid hk
        clear hk hv
        go_wp2_with fail
        have hx := is_any r A n c p ts 3 _ (HS.out.tks.more (Nat.le_of_lt HS.out.rd.lt)) HS.out.rd
        rw [HK.out] at hx
        refine hx.mono ?_
        rintro e w4 ⟨rfl, hB4⟩
        have HS := Lib.hid (HS.out.keep hB4)
        clear hB4
        go_wp2_with fail
        refine (wrong_any r A n c _ ts _ hl HS.out.rd).mono ?_
        rintro e wz ⟨rfl, hB4⟩
        have HS := Lib.hid (HS.out.keep hB4)
        clear hB4
        have f0 := HS.out.blk.frozen 0
        have f1 := HS.out.blk.frozen 1
        have f2 := HS.out.blk.frozen 2
        have g0 := HS.out.blk.cell 0
        have g1 := HS.out.blk.cell 1
        have g2 := HS.out.blk.cell 2
        simp at g0 g1 g2
        go_wp2
        have HZ := Lib.hid (((HS.out.far hlt 0 (.string (⟨#[]⟩))).far hlt 1 (.string (⟨#[]⟩))).far hlt 2 (.bool false))
        have z0 := HZ.out.blk.cell 0
        have z1 := HZ.out.blk.cell 1
        have z2 := HZ.out.blk.cell 2
        simp at z0 z1 z2
        refine bodyPost_ret (v := .tuple #[.agg #[.string (⟨#[]⟩), .string (⟨#[]⟩), .bool false], .int .i64 (Sel.wrong ts (p))]) (by simp [results, Tryd.results62, go_sem, z0, z1, z2]) rfl ⟨rfl, HZ.out.rd, HZ.out.but⟩
      · have hin := Sel.isK_lt hk
        have hin2 : p < n := by omega
        have HK := Lib.hid hk
        go_wp2_with fail
        have hx := is_any r A n c p ts 3 _ (HS.out.tks.more (Nat.le_of_lt HS.out.rd.lt)) HS.out.rd
        rw [HK.out] at hx
        refine hx.mono ?_
        rintro e w4 ⟨rfl, hB4⟩
        have HS := Lib.hid (HS.out.keep hB4)
        clear hB4
        obtain ⟨bb, off, t, rfl, hbB, ht, hc1, hc2, hz, hx2⟩ := value_is r A n c p ts w4 HS.out.tks HS.out.rd hin2
        have hbw : bb < w4.heap.size := Nat.lt_trans hbB HS.out.rd.lt
        have hv := Sel.valE_is (n := k) hk ht
        have hso := Sel.sOf_some ht
        obtain ⟨u, hu⟩ : ∃ u, t.2.2 = u := ⟨_, rfl⟩
        rw [hu] at hv hso hx2 hz
        rw [hv, hso] at hm
        have HX2 := Lib.hid hx2
        have hd2 : decide (p < n) = true := decide_eq_true hin2
        clear hx2 hv hso hu ht hk hin
        by_cases h64 : 64 < u.size
        · have hd64 : decide ((64 : Int) < (u.size : Int)) = true := decide_eq_true (by omega)
          rw [if_pos (Or.inl h64), if_pos (by decide)] at hm
          injection hm with hm1 hm2
          injection hm2 with hm2 hm3
          subst hm1 hm2 hm3
          clear h64
          go_wp2
          refine wp_region_held_drew (S := fun W' => Below w4.heap.size w4 W') (by kernel_rfl) (Below.refl _ _).drew (fun hHeld => ?_)
          have hlr := HS.out.rd.lt
          refine wpAnyH_take (i := 0) (v := ?_) (by simp only [List.getElem?_toArray, List.getElem?_cons_succ, List.getElem?_cons_zero]; exact rfl) (by kernel_rfl) (by kernel_rfl) (by kernel_rfl) (by exact fun _ _ _ h => h) (Or.inl ⟨by rfl, ?_⟩) hHeld ?_
          rotate_left
          · intro wq hSw; go_simp; all_goals (with_reducible rfl)
          try simp only [Act.put, List.setIfInBounds_toArray, List.set_cons_zero, List.set_cons_succ]
          refine wpAnyH_take (i := 1) (v := ?_) (by simp only [List.getElem?_toArray, List.getElem?_cons_succ, List.getElem?_cons_zero]; exact rfl) (by kernel_rfl) (by kernel_rfl) (by kernel_rfl) (by exact fun _ _ _ h => h) (Or.inl ⟨by rfl, ?_⟩) hHeld ?_
          rotate_left
          · intro wq hSw; go_simp; all_goals (with_reducible rfl)
          try simp only [Act.put, List.setIfInBounds_toArray, List.set_cons_zero, List.set_cons_succ]
          refine wpAnyH_take (i := 2) (v := ?_) (by simp only [List.getElem?_toArray, List.getElem?_cons_succ, List.getElem?_cons_zero]; exact rfl) (by kernel_rfl) (by kernel_rfl) (by kernel_rfl) (by exact fun _ _ _ h => h) (Or.inl ⟨by rfl, ?_⟩) hHeld ?_
          rotate_left
          · intro wq hSw; go_simp; all_goals (with_reducible rfl)
          try simp only [Act.put, List.setIfInBounds_toArray, List.set_cons_zero, List.set_cons_succ]
          refine wpAnyH_take (i := 3) (v := ?_) (by simp only [List.getElem?_toArray, List.getElem?_cons_succ, List.getElem?_cons_zero]; exact rfl) (by kernel_rfl) (by kernel_rfl) (by kernel_rfl) (by exact fun _ _ _ h => h) (Or.inl ⟨by rfl, ?_⟩) hHeld ?_
          rotate_left
          · intro wq hSw; have m0 := (hSw.cell (p := ⟨r, 0, none⟩) hlr).trans (HS.out.rd.cell 0); simp at m0; go_simp; all_goals (with_reducible rfl)
          try simp only [Act.put, List.setIfInBounds_toArray, List.set_cons_zero, List.set_cons_succ]
          refine wpAnyH_take (i := 4) (v := ?_) (by simp only [List.getElem?_toArray, List.getElem?_cons_succ, List.getElem?_cons_zero]; exact rfl) (by kernel_rfl) (by kernel_rfl) (by kernel_rfl) (by exact fun _ _ _ h => h) (Or.inl ⟨by rfl, ?_⟩) hHeld ?_
          rotate_left
          · intro wq hSw; go_simp; all_goals (with_reducible rfl)
          try simp only [Act.put, List.setIfInBounds_toArray, List.set_cons_zero, List.set_cons_succ]
          refine wpAnyH_take (i := 5) (v := ?_) (by simp only [List.getElem?_toArray, List.getElem?_cons_succ, List.getElem?_cons_zero]; exact rfl) (by kernel_rfl) (by kernel_rfl) (by kernel_rfl) (by exact fun _ _ _ h => h) (Or.inl ⟨by rfl, ?_⟩) hHeld ?_
          rotate_left
          · intro wq hSw; go_simp; all_goals (with_reducible rfl)
          try simp only [Act.put, List.setIfInBounds_toArray, List.set_cons_zero, List.set_cons_succ]
          refine wpAnyH_take (i := 6) (v := ?_) (by simp only [List.getElem?_toArray, List.getElem?_cons_succ, List.getElem?_cons_zero]; exact rfl) (by kernel_rfl) (by kernel_rfl) (by kernel_rfl) (by exact fun _ _ _ h => h) (Or.inl ⟨by rfl, ?_⟩) hHeld ?_
          rotate_left
          · intro wq hSw; go_simp; all_goals (with_reducible rfl)
          try simp only [Act.put, List.setIfInBounds_toArray, List.set_cons_zero, List.set_cons_succ]
          refine wpAnyH_take (i := 7) (v := ?_) (by simp only [List.getElem?_toArray, List.getElem?_cons_succ, List.getElem?_cons_zero]; exact rfl) (by kernel_rfl) (by kernel_rfl) (by kernel_rfl) (by exact fun _ _ _ h => h) (Or.inl ⟨by rfl, ?_⟩) hHeld ?_
          rotate_left
          · intro wq hSw; have m1 := (hSw.cell (p := ⟨r, 1, none⟩) hlr).trans (HS.out.rd.cell 1); simp at m1; go_simp; all_goals (with_reducible rfl)
          try simp only [Act.put, List.setIfInBounds_toArray, List.set_cons_zero, List.set_cons_succ]
          refine wpAnyH_take (i := 8) (v := ?_) (by simp only [List.getElem?_toArray, List.getElem?_cons_succ, List.getElem?_cons_zero]; exact rfl) (by kernel_rfl) (by kernel_rfl) (by kernel_rfl) (by exact fun _ _ _ h => h) (Or.inl ⟨by rfl, ?_⟩) hHeld ?_
          rotate_left
          · intro wq hSw; go_simp; all_goals (with_reducible rfl)
          try simp only [Act.put, List.setIfInBounds_toArray, List.set_cons_zero, List.set_cons_succ]
          refine wpAnyH_take (i := 9) (v := ?_) (by simp only [List.getElem?_toArray, List.getElem?_cons_succ, List.getElem?_cons_zero]; exact rfl) (by kernel_rfl) (by kernel_rfl) (by kernel_rfl) (by exact fun _ _ _ h => h) (Or.inl ⟨by rfl, ?_⟩) hHeld ?_
          rotate_left
          · intro wq hSw; go_simp; all_goals (with_reducible rfl)
          try simp only [Act.put, List.setIfInBounds_toArray, List.set_cons_zero, List.set_cons_succ]
          refine wpAnyH_take (i := 10) (v := ?_) (by simp only [List.getElem?_toArray, List.getElem?_cons_succ, List.getElem?_cons_zero]; exact rfl) (by kernel_rfl) (by kernel_rfl) (by kernel_rfl) (by exact fun _ _ _ h => h) (Or.inl ⟨by rfl, ?_⟩) hHeld ?_
          rotate_left
          · intro wq hSw; have x2 := (hSw.cell (p := ⟨bb, off + p * 3 + 2, none⟩) hbw).trans HX2.out; go_simp; all_goals (with_reducible rfl)
          try simp only [Act.put, List.setIfInBounds_toArray, List.set_cons_zero, List.set_cons_succ]
          refine wpAnyH_take (i := 11) (v := ?_) (by simp only [List.getElem?_toArray, List.getElem?_cons_succ, List.getElem?_cons_zero]; exact rfl) (by kernel_rfl) (by kernel_rfl) (by kernel_rfl) (by exact fun _ _ _ h => h) (Or.inl ⟨by rfl, ?_⟩) hHeld ?_
          rotate_left
          · intro wq hSw; go_simp; all_goals (with_reducible rfl)
          try simp only [Act.put, List.setIfInBounds_toArray, List.set_cons_zero, List.set_cons_succ]
          refine wpAnyH_done (by kernel_rfl) ?_ _
          have HS := Lib.hid (HS.out.keep hHeld)
          clear hHeld
          generalize w4.drew = w6 at HS ⊢
          have f0 := HS.out.blk.frozen 0
          have f1 := HS.out.blk.frozen 1
          have f2 := HS.out.blk.frozen 2
          have g0 := HS.out.blk.cell 0
          have g1 := HS.out.blk.cell 1
          have g2 := HS.out.blk.cell 2
          simp at g0 g1 g2
          go_wp2
          have HZ := Lib.hid (((HS.out.far hlt 0 (.string (⟨#[]⟩))).far hlt 1 (.string (⟨#[]⟩))).far hlt 2 (.bool false))
          have z0 := HZ.out.blk.cell 0
          have z1 := HZ.out.blk.cell 1
          have z2 := HZ.out.blk.cell 2
          simp at z0 z1 z2
          refine bodyPost_ret (v := .tuple #[.agg #[.string (⟨#[]⟩), .string (⟨#[]⟩), .bool false], .int .i64 (4)]) (by simp [results, Tryd.results62, go_sem, z0, z1, z2]) rfl ⟨rfl, HZ.out.rd, HZ.out.but⟩
        · have hd64 : decide ((64 : Int) < (u.size : Int)) = false := decide_eq_false (by omega)
          by_cases h8 : 8 ≤ k
          · have hd8 : decide ((8 : Int) ≤ (k : Int)) = true := decide_eq_true (by omega)
            rw [if_pos (Or.inr h8), if_pos (by decide)] at hm
            injection hm with hm1 hm2
            injection hm2 with hm2 hm3
            subst hm1 hm2 hm3
            clear h64 h8
            go_wp2
            refine wp_region_held_drew (S := fun W' => Below w4.heap.size w4 W') (by kernel_rfl) (Below.refl _ _).drew (fun hHeld => ?_)
            have hlr := HS.out.rd.lt
            refine wpAnyH_take (i := 0) (v := ?_) (by simp only [List.getElem?_toArray, List.getElem?_cons_succ, List.getElem?_cons_zero]; exact rfl) (by kernel_rfl) (by kernel_rfl) (by kernel_rfl) (by exact fun _ _ _ h => h) (Or.inl ⟨by rfl, ?_⟩) hHeld ?_
            rotate_left
            · intro wq hSw; go_simp; all_goals (with_reducible rfl)
            try simp only [Act.put, List.setIfInBounds_toArray, List.set_cons_zero, List.set_cons_succ]
            refine wpAnyH_take (i := 1) (v := ?_) (by simp only [List.getElem?_toArray, List.getElem?_cons_succ, List.getElem?_cons_zero]; exact rfl) (by kernel_rfl) (by kernel_rfl) (by kernel_rfl) (by exact fun _ _ _ h => h) (Or.inl ⟨by rfl, ?_⟩) hHeld ?_
            rotate_left
            · intro wq hSw; go_simp; all_goals (with_reducible rfl)
            try simp only [Act.put, List.setIfInBounds_toArray, List.set_cons_zero, List.set_cons_succ]
            refine wpAnyH_take (i := 2) (v := ?_) (by simp only [List.getElem?_toArray, List.getElem?_cons_succ, List.getElem?_cons_zero]; exact rfl) (by kernel_rfl) (by kernel_rfl) (by kernel_rfl) (by exact fun _ _ _ h => h) (Or.inl ⟨by rfl, ?_⟩) hHeld ?_
            rotate_left
            · intro wq hSw; go_simp; all_goals (with_reducible rfl)
            try simp only [Act.put, List.setIfInBounds_toArray, List.set_cons_zero, List.set_cons_succ]
            refine wpAnyH_take (i := 3) (v := ?_) (by simp only [List.getElem?_toArray, List.getElem?_cons_succ, List.getElem?_cons_zero]; exact rfl) (by kernel_rfl) (by kernel_rfl) (by kernel_rfl) (by exact fun _ _ _ h => h) (Or.inl ⟨by rfl, ?_⟩) hHeld ?_
            rotate_left
            · intro wq hSw; have m0 := (hSw.cell (p := ⟨r, 0, none⟩) hlr).trans (HS.out.rd.cell 0); simp at m0; go_simp; all_goals (with_reducible rfl)
            try simp only [Act.put, List.setIfInBounds_toArray, List.set_cons_zero, List.set_cons_succ]
            refine wpAnyH_take (i := 4) (v := ?_) (by simp only [List.getElem?_toArray, List.getElem?_cons_succ, List.getElem?_cons_zero]; exact rfl) (by kernel_rfl) (by kernel_rfl) (by kernel_rfl) (by exact fun _ _ _ h => h) (Or.inl ⟨by rfl, ?_⟩) hHeld ?_
            rotate_left
            · intro wq hSw; go_simp; all_goals (with_reducible rfl)
            try simp only [Act.put, List.setIfInBounds_toArray, List.set_cons_zero, List.set_cons_succ]
            refine wpAnyH_take (i := 5) (v := ?_) (by simp only [List.getElem?_toArray, List.getElem?_cons_succ, List.getElem?_cons_zero]; exact rfl) (by kernel_rfl) (by kernel_rfl) (by kernel_rfl) (by exact fun _ _ _ h => h) (Or.inl ⟨by rfl, ?_⟩) hHeld ?_
            rotate_left
            · intro wq hSw; go_simp; all_goals (with_reducible rfl)
            try simp only [Act.put, List.setIfInBounds_toArray, List.set_cons_zero, List.set_cons_succ]
            refine wpAnyH_take (i := 6) (v := ?_) (by simp only [List.getElem?_toArray, List.getElem?_cons_succ, List.getElem?_cons_zero]; exact rfl) (by kernel_rfl) (by kernel_rfl) (by kernel_rfl) (by exact fun _ _ _ h => h) (Or.inl ⟨by rfl, ?_⟩) hHeld ?_
            rotate_left
            · intro wq hSw; go_simp; all_goals (with_reducible rfl)
            try simp only [Act.put, List.setIfInBounds_toArray, List.set_cons_zero, List.set_cons_succ]
            refine wpAnyH_take (i := 7) (v := ?_) (by simp only [List.getElem?_toArray, List.getElem?_cons_succ, List.getElem?_cons_zero]; exact rfl) (by kernel_rfl) (by kernel_rfl) (by kernel_rfl) (by exact fun _ _ _ h => h) (Or.inl ⟨by rfl, ?_⟩) hHeld ?_
            rotate_left
            · intro wq hSw; have m1 := (hSw.cell (p := ⟨r, 1, none⟩) hlr).trans (HS.out.rd.cell 1); simp at m1; go_simp; all_goals (with_reducible rfl)
            try simp only [Act.put, List.setIfInBounds_toArray, List.set_cons_zero, List.set_cons_succ]
            refine wpAnyH_take (i := 8) (v := ?_) (by simp only [List.getElem?_toArray, List.getElem?_cons_succ, List.getElem?_cons_zero]; exact rfl) (by kernel_rfl) (by kernel_rfl) (by kernel_rfl) (by exact fun _ _ _ h => h) (Or.inl ⟨by rfl, ?_⟩) hHeld ?_
            rotate_left
            · intro wq hSw; go_simp; all_goals (with_reducible rfl)
            try simp only [Act.put, List.setIfInBounds_toArray, List.set_cons_zero, List.set_cons_succ]
            refine wpAnyH_take (i := 9) (v := ?_) (by simp only [List.getElem?_toArray, List.getElem?_cons_succ, List.getElem?_cons_zero]; exact rfl) (by kernel_rfl) (by kernel_rfl) (by kernel_rfl) (by exact fun _ _ _ h => h) (Or.inl ⟨by rfl, ?_⟩) hHeld ?_
            rotate_left
            · intro wq hSw; go_simp; all_goals (with_reducible rfl)
            try simp only [Act.put, List.setIfInBounds_toArray, List.set_cons_zero, List.set_cons_succ]
            refine wpAnyH_take (i := 10) (v := ?_) (by simp only [List.getElem?_toArray, List.getElem?_cons_succ, List.getElem?_cons_zero]; exact rfl) (by kernel_rfl) (by kernel_rfl) (by kernel_rfl) (by exact fun _ _ _ h => h) (Or.inl ⟨by rfl, ?_⟩) hHeld ?_
            rotate_left
            · intro wq hSw; have x2 := (hSw.cell (p := ⟨bb, off + p * 3 + 2, none⟩) hbw).trans HX2.out; go_simp; all_goals (with_reducible rfl)
            try simp only [Act.put, List.setIfInBounds_toArray, List.set_cons_zero, List.set_cons_succ]
            refine wpAnyH_take (i := 11) (v := ?_) (by simp only [List.getElem?_toArray, List.getElem?_cons_succ, List.getElem?_cons_zero]; exact rfl) (by kernel_rfl) (by kernel_rfl) (by kernel_rfl) (by exact fun _ _ _ h => h) (Or.inl ⟨by rfl, ?_⟩) hHeld ?_
            rotate_left
            · intro wq hSw; go_simp; all_goals (with_reducible rfl)
            try simp only [Act.put, List.setIfInBounds_toArray, List.set_cons_zero, List.set_cons_succ]
            refine wpAnyH_done (by kernel_rfl) ?_ _
            have HS := Lib.hid (HS.out.keep hHeld)
            clear hHeld
            generalize w4.drew = w6 at HS ⊢
            have f0 := HS.out.blk.frozen 0
            have f1 := HS.out.blk.frozen 1
            have f2 := HS.out.blk.frozen 2
            have g0 := HS.out.blk.cell 0
            have g1 := HS.out.blk.cell 1
            have g2 := HS.out.blk.cell 2
            simp at g0 g1 g2
            go_wp2
            have HZ := Lib.hid (((HS.out.far hlt 0 (.string (⟨#[]⟩))).far hlt 1 (.string (⟨#[]⟩))).far hlt 2 (.bool false))
            have z0 := HZ.out.blk.cell 0
            have z1 := HZ.out.blk.cell 1
            have z2 := HZ.out.blk.cell 2
            simp at z0 z1 z2
            refine bodyPost_ret (v := .tuple #[.agg #[.string (⟨#[]⟩), .string (⟨#[]⟩), .bool false], .int .i64 (4)]) (by simp [results, Tryd.results62, go_sem, z0, z1, z2]) rfl ⟨rfl, HZ.out.rd, HZ.out.but⟩
          · have hd8 : decide ((8 : Int) ≤ (k : Int)) = false := decide_eq_false (by omega)
            rw [if_neg (by omega)] at hm
            injection hm with hm1 hm2
            injection hm2 with hm2 hm3
            subst hm1 hm2 hm3
            have hw1 : IntKind.i64.wrap ((p : Int) + 1) = ((p + 1 : Nat) : Int) := by rw [show (p : Int) + 1 = ((p + 1 : Nat) : Int) by omega]; exact IntWalk.i64_in _ (by omega)
            clear h64 h8
            go_wp2
            refine wp_region_held_drew (S := fun W' => Below w4.heap.size w4 W') (by kernel_rfl) (Below.refl _ _).drew (fun hHeld => ?_)
            have hlr := HS.out.rd.lt
            refine wpAnyH_take (i := 0) (v := ?_) (by simp only [List.getElem?_toArray, List.getElem?_cons_succ, List.getElem?_cons_zero]; exact rfl) (by kernel_rfl) (by kernel_rfl) (by kernel_rfl) (by exact fun _ _ _ h => h) (Or.inl ⟨by rfl, ?_⟩) hHeld ?_
            rotate_left
            · intro wq hSw; go_simp; all_goals (with_reducible rfl)
            try simp only [Act.put, List.setIfInBounds_toArray, List.set_cons_zero, List.set_cons_succ]
            refine wpAnyH_take (i := 1) (v := ?_) (by simp only [List.getElem?_toArray, List.getElem?_cons_succ, List.getElem?_cons_zero]; exact rfl) (by kernel_rfl) (by kernel_rfl) (by kernel_rfl) (by exact fun _ _ _ h => h) (Or.inl ⟨by rfl, ?_⟩) hHeld ?_
            rotate_left
            · intro wq hSw; go_simp; all_goals (with_reducible rfl)
            try simp only [Act.put, List.setIfInBounds_toArray, List.set_cons_zero, List.set_cons_succ]
            refine wpAnyH_take (i := 2) (v := ?_) (by simp only [List.getElem?_toArray, List.getElem?_cons_succ, List.getElem?_cons_zero]; exact rfl) (by kernel_rfl) (by kernel_rfl) (by kernel_rfl) (by exact fun _ _ _ h => h) (Or.inl ⟨by rfl, ?_⟩) hHeld ?_
            rotate_left
            · intro wq hSw; go_simp; all_goals (with_reducible rfl)
            try simp only [Act.put, List.setIfInBounds_toArray, List.set_cons_zero, List.set_cons_succ]
            refine wpAnyH_take (i := 3) (v := ?_) (by simp only [List.getElem?_toArray, List.getElem?_cons_succ, List.getElem?_cons_zero]; exact rfl) (by kernel_rfl) (by kernel_rfl) (by kernel_rfl) (by exact fun _ _ _ h => h) (Or.inl ⟨by rfl, ?_⟩) hHeld ?_
            rotate_left
            · intro wq hSw; have m0 := (hSw.cell (p := ⟨r, 0, none⟩) hlr).trans (HS.out.rd.cell 0); simp at m0; go_simp; all_goals (with_reducible rfl)
            try simp only [Act.put, List.setIfInBounds_toArray, List.set_cons_zero, List.set_cons_succ]
            refine wpAnyH_take (i := 4) (v := ?_) (by simp only [List.getElem?_toArray, List.getElem?_cons_succ, List.getElem?_cons_zero]; exact rfl) (by kernel_rfl) (by kernel_rfl) (by kernel_rfl) (by exact fun _ _ _ h => h) (Or.inl ⟨by rfl, ?_⟩) hHeld ?_
            rotate_left
            · intro wq hSw; go_simp; all_goals (with_reducible rfl)
            try simp only [Act.put, List.setIfInBounds_toArray, List.set_cons_zero, List.set_cons_succ]
            refine wpAnyH_take (i := 5) (v := ?_) (by simp only [List.getElem?_toArray, List.getElem?_cons_succ, List.getElem?_cons_zero]; exact rfl) (by kernel_rfl) (by kernel_rfl) (by kernel_rfl) (by exact fun _ _ _ h => h) (Or.inl ⟨by rfl, ?_⟩) hHeld ?_
            rotate_left
            · intro wq hSw; go_simp; all_goals (with_reducible rfl)
            try simp only [Act.put, List.setIfInBounds_toArray, List.set_cons_zero, List.set_cons_succ]
            refine wpAnyH_take (i := 6) (v := ?_) (by simp only [List.getElem?_toArray, List.getElem?_cons_succ, List.getElem?_cons_zero]; exact rfl) (by kernel_rfl) (by kernel_rfl) (by kernel_rfl) (by exact fun _ _ _ h => h) (Or.inl ⟨by rfl, ?_⟩) hHeld ?_
            rotate_left
            · intro wq hSw; go_simp; all_goals (with_reducible rfl)
            try simp only [Act.put, List.setIfInBounds_toArray, List.set_cons_zero, List.set_cons_succ]
            refine wpAnyH_take (i := 7) (v := ?_) (by simp only [List.getElem?_toArray, List.getElem?_cons_succ, List.getElem?_cons_zero]; exact rfl) (by kernel_rfl) (by kernel_rfl) (by kernel_rfl) (by exact fun _ _ _ h => h) (Or.inl ⟨by rfl, ?_⟩) hHeld ?_
            rotate_left
            · intro wq hSw; have m1 := (hSw.cell (p := ⟨r, 1, none⟩) hlr).trans (HS.out.rd.cell 1); simp at m1; go_simp; all_goals (with_reducible rfl)
            try simp only [Act.put, List.setIfInBounds_toArray, List.set_cons_zero, List.set_cons_succ]
            refine wpAnyH_take (i := 8) (v := ?_) (by simp only [List.getElem?_toArray, List.getElem?_cons_succ, List.getElem?_cons_zero]; exact rfl) (by kernel_rfl) (by kernel_rfl) (by kernel_rfl) (by exact fun _ _ _ h => h) (Or.inl ⟨by rfl, ?_⟩) hHeld ?_
            rotate_left
            · intro wq hSw; go_simp; all_goals (with_reducible rfl)
            try simp only [Act.put, List.setIfInBounds_toArray, List.set_cons_zero, List.set_cons_succ]
            refine wpAnyH_take (i := 9) (v := ?_) (by simp only [List.getElem?_toArray, List.getElem?_cons_succ, List.getElem?_cons_zero]; exact rfl) (by kernel_rfl) (by kernel_rfl) (by kernel_rfl) (by exact fun _ _ _ h => h) (Or.inl ⟨by rfl, ?_⟩) hHeld ?_
            rotate_left
            · intro wq hSw; go_simp; all_goals (with_reducible rfl)
            try simp only [Act.put, List.setIfInBounds_toArray, List.set_cons_zero, List.set_cons_succ]
            refine wpAnyH_take (i := 10) (v := ?_) (by simp only [List.getElem?_toArray, List.getElem?_cons_succ, List.getElem?_cons_zero]; exact rfl) (by kernel_rfl) (by kernel_rfl) (by kernel_rfl) (by exact fun _ _ _ h => h) (Or.inl ⟨by rfl, ?_⟩) hHeld ?_
            rotate_left
            · intro wq hSw; have x2 := (hSw.cell (p := ⟨bb, off + p * 3 + 2, none⟩) hbw).trans HX2.out; go_simp; all_goals (with_reducible rfl)
            try simp only [Act.put, List.setIfInBounds_toArray, List.set_cons_zero, List.set_cons_succ]
            refine wpAnyH_take (i := 11) (v := ?_) (by simp only [List.getElem?_toArray, List.getElem?_cons_succ, List.getElem?_cons_zero]; exact rfl) (by kernel_rfl) (by kernel_rfl) (by kernel_rfl) (by exact fun _ _ _ h => h) (Or.inl ⟨by rfl, ?_⟩) hHeld ?_
            rotate_left
            · intro wq hSw; go_simp; all_goals (with_reducible rfl)
            try simp only [Act.put, List.setIfInBounds_toArray, List.set_cons_zero, List.set_cons_succ]
            refine wpAnyH_done (by kernel_rfl) ?_ _
            have HS := Lib.hid (HS.out.keep hHeld)
            clear hHeld
            generalize w4.drew = w6 at HS ⊢
            have m0 := HS.out.rd.cell 0
            have m1 := HS.out.rd.cell 1
            have fr := HS.out.rd.frozen 1
            have hpi : (.int .i64 ((p + 1 : Nat) : Int) : Value) = .int .i64 ((p : Int) + 1) := rfl
            have hs7 := HS.out.step hlt (Rd.set_ (j := p + 1) HS.out.rd) ((But.refl r w6).setCell 1 _)
            rw [hpi] at hs7
            have HS := Lib.hid hs7
            clear hs7 hpi
            simp at m0 m1
            have f0 := HS.out.blk.frozen 0
            have f1 := HS.out.blk.frozen 1
            have f2 := HS.out.blk.frozen 2
            have g0 := HS.out.blk.cell 0
            have g1 := HS.out.blk.cell 1
            have g2 := HS.out.blk.cell 2
            simp at g0 g1 g2
            go_wp2
            have HZ := Lib.hid (((HS.out.far hlt 0 (.string (s0))).far hlt 1 (.string (u))).far hlt 2 (.bool true))
            have z0 := HZ.out.blk.cell 0
            have z1 := HZ.out.blk.cell 1
            have z2 := HZ.out.blk.cell 2
            simp at z0 z1 z2
            refine bodyPost_ret (v := .tuple #[.agg #[.string (s0), .string (u), .bool true], .int .i64 (0)]) (by simp [results, Tryd.results62, go_sem, z0, z1, z2]) rfl ⟨rfl, HZ.out.rd, HZ.out.but⟩
end Go.Proofs.YtbdochcajpempaaDoor
