/- The walks of file's sane and of the reference's group. -/
import Derived.Test.YthjnhifaejoigaaLabF
namespace Go.Proofs.Ythjnhifaejoigaa
open Go.RowKit
set_option linter.unusedSimpArgs false
set_option linter.unusedVariables false

namespace Lab
theorem grHead_is {g : Gr} {b1 b2 : Bool} {n : Nat} (h1 : name g.nm = b1) (h2 : durSane g.iv = b2) (hn : g.rs.length = n) :
    grHead g = (b1 && b2 && decide (g.iv ≠ 0) && decide (0 ≤ g.off) && decide (g.off < g.iv) && decide (n ≤ 16)) := by
  unfold grHead
  rw [h1, h2, hn]
end Lab

set_option maxRecDepth 100000 in
set_option maxHeartbeats 8000000 in
theorem grSane_any (g : Lab.Gr) (w : World) (h : GrIn w w.heap.size g) :
    Calls Try.prog 26 #[.agg #[.string g.nm, .int .i64 g.iv, .int .i64 g.off, .slice g.RA g.Rn g.Rc]] w fun e w' => e = .returned (.bool (Lab.grSane g)) ∧ Below w.heap.size w w' := by
  obtain ⟨nm, iv, off0, RA, n, c, rs⟩ := g
  have hl : rs.length = n := h.1.1
  have HH := Lib.hid h
  obtain ⟨b1, h1⟩ : ∃ b, Lab.name nm = b := ⟨_, rfl⟩
  obtain ⟨b2, h2⟩ : ∃ b, Lab.durSane iv = b := ⟨_, rfl⟩
  have hhead := Lab.grHead_is (g := ⟨nm, iv, off0, RA, n, c, rs⟩) h1 h2 hl
  simp only at hhead
  have H1 := Lib.hid h1
  have H2 := Lib.hid h2
  have HL := Lib.hid hl
  have HSN : Lab.grHead ⟨nm, iv, off0, RA, n, c, rs⟩ = false → Hid (Lab.grSane ⟨nm, iv, off0, RA, n, c, rs⟩ = false) := fun hh => Lib.hid (by unfold Lab.grSane; rw [hh]; rfl)
  clear h h1 h2 hl
  rcases b1 with _ | _
  · have HS := HSN (by rw [hhead]; rfl)
    clear hhead HSN
    go_enter Try.func26, Try.ntmps26
    go_wp2_with fail
    refine (name_is _ _ H1.out _).mono ?_
    rintro e w9 ⟨rfl, rfl⟩
    go_wp2
    go_ret
    exact ⟨by rw [HS.out]; rfl, (by repeat (first | assumption | exact Below.refl _ _ | apply Mem.below_drewN | apply Below.drew | refine Below.alloc ?_ (by first | assumption | omega | (simp; done) | (simp; omega)) _ | refine Below.setCell ?_ (by first | assumption | omega | (simp; done) | (simp; omega)) _))⟩
  · rcases b2 with _ | _
    · have HS := HSN (by rw [hhead]; rfl)
      clear hhead HSN
      go_enter Try.func26, Try.ntmps26
      go_wp2_with fail
      refine (name_is _ _ H1.out _).mono ?_
      rintro e w9 ⟨rfl, rfl⟩
      go_wp2_with fail
      refine (durSane_is _ _ H2.out _).mono ?_
      rintro e w9 ⟨rfl, rfl⟩
      go_wp2
      go_ret
      exact ⟨by rw [HS.out]; rfl, (by repeat (first | assumption | exact Below.refl _ _ | apply Mem.below_drewN | apply Below.drew | refine Below.alloc ?_ (by first | assumption | omega | (simp; done) | (simp; omega)) _ | refine Below.setCell ?_ (by first | assumption | omega | (simp; done) | (simp; omega)) _))⟩
    · have hcase : (iv == 0) = true ∨ ((iv == 0) = false ∧ decide (off0 < 0) = true) ∨ ((iv == 0) = false ∧ decide (off0 < 0) = false ∧ decide (iv ≤ off0) = true) ∨
          ((iv == 0) = false ∧ decide (off0 < 0) = false ∧ decide (iv ≤ off0) = false ∧ decide ((16 : Int) < (n : Int)) = true) ∨ ((iv == 0) = false ∧ decide (off0 < 0) = false ∧ decide (iv ≤ off0) = false ∧ decide ((16 : Int) < (n : Int)) = false) := by
        cases (iv == 0) <;> cases decide (off0 < 0) <;> cases decide (iv ≤ off0) <;> cases decide ((16 : Int) < (n : Int)) <;> simp
      rcases hcase with e1 | ⟨e1, e2⟩ | ⟨e1, e2, e3⟩ | ⟨e1, e2, e3, e4⟩ | ⟨e1, e2, e3, e4⟩
      · have HS := HSN (by rw [hhead, decide_eq_false (by rw [beq_iff_eq] at e1; simpa using e1 : ¬ iv ≠ 0)]; rfl)
        clear hhead HSN
        go_enter Try.func26, Try.ntmps26
        go_wp2_with fail
        refine (name_is _ _ H1.out _).mono ?_
        rintro e w9 ⟨rfl, rfl⟩
        go_wp2_with fail
        refine (durSane_is _ _ H2.out _).mono ?_
        rintro e w9 ⟨rfl, rfl⟩
        go_wp2
        go_ret
        exact ⟨by rw [HS.out]; rfl, (by repeat (first | assumption | exact Below.refl _ _ | apply Mem.below_drewN | apply Below.drew | refine Below.alloc ?_ (by first | assumption | omega | (simp; done) | (simp; omega)) _ | refine Below.setCell ?_ (by first | assumption | omega | (simp; done) | (simp; omega)) _))⟩
      · have HS := HSN (by rw [hhead, decide_eq_false (by have := of_decide_eq_true e2; omega : ¬ 0 ≤ off0), Bool.and_false]; rfl)
        clear hhead HSN
        go_enter Try.func26, Try.ntmps26
        go_wp2_with fail
        refine (name_is _ _ H1.out _).mono ?_
        rintro e w9 ⟨rfl, rfl⟩
        go_wp2_with fail
        refine (durSane_is _ _ H2.out _).mono ?_
        rintro e w9 ⟨rfl, rfl⟩
        go_wp2
        go_ret
        exact ⟨by rw [HS.out]; rfl, (by repeat (first | assumption | exact Below.refl _ _ | apply Mem.below_drewN | apply Below.drew | refine Below.alloc ?_ (by first | assumption | omega | (simp; done) | (simp; omega)) _ | refine Below.setCell ?_ (by first | assumption | omega | (simp; done) | (simp; omega)) _))⟩
      · have HS := HSN (by rw [hhead, decide_eq_false (by have := of_decide_eq_true e3; omega : ¬ off0 < iv), Bool.and_false]; rfl)
        clear hhead HSN
        go_enter Try.func26, Try.ntmps26
        go_wp2_with fail
        refine (name_is _ _ H1.out _).mono ?_
        rintro e w9 ⟨rfl, rfl⟩
        go_wp2_with fail
        refine (durSane_is _ _ H2.out _).mono ?_
        rintro e w9 ⟨rfl, rfl⟩
        go_wp2
        go_ret
        exact ⟨by rw [HS.out]; rfl, (by repeat (first | assumption | exact Below.refl _ _ | apply Mem.below_drewN | apply Below.drew | refine Below.alloc ?_ (by first | assumption | omega | (simp; done) | (simp; omega)) _ | refine Below.setCell ?_ (by first | assumption | omega | (simp; done) | (simp; omega)) _))⟩
      · have HS := HSN (by rw [hhead, decide_eq_false (by have := of_decide_eq_true e4; omega : ¬ n ≤ 16), Bool.and_false])
        clear hhead HSN
        go_enter Try.func26, Try.ntmps26
        go_wp2_with fail
        refine (name_is _ _ H1.out _).mono ?_
        rintro e w9 ⟨rfl, rfl⟩
        go_wp2_with fail
        refine (durSane_is _ _ H2.out _).mono ?_
        rintro e w9 ⟨rfl, rfl⟩
        go_wp2
        go_ret
        exact ⟨by rw [HS.out]; rfl, (by repeat (first | assumption | exact Below.refl _ _ | apply Mem.below_drewN | apply Below.drew | refine Below.alloc ?_ (by first | assumption | omega | (simp; done) | (simp; omega)) _ | refine Below.setCell ?_ (by first | assumption | omega | (simp; done) | (simp; omega)) _))⟩
      · have HS := Lib.hid (show Lab.grSane ⟨nm, iv, off0, RA, n, c, rs⟩ = Lab.allTo (Lab.grAt rs) rs.length by
          unfold Lab.grSane
          rw [hhead, decide_eq_true (by rw [beq_eq_false_iff_ne] at e1; exact e1 : iv ≠ 0), decide_eq_true (by have := of_decide_eq_false e2; omega : 0 ≤ off0), decide_eq_true (by have := of_decide_eq_false e3; omega : off0 < iv), decide_eq_true (by have := of_decide_eq_false e4; omega : n ≤ 16)]
          rfl)
        have hn16 : n ≤ 16 := by have := of_decide_eq_false e4; omega
        clear hhead HSN
        go_enter Try.func26, Try.ntmps26
        go_wp2_with fail
        have hB1 := (Below.refl w.heap.size w).alloc (Nat.le_refl _) (.cells #[.string nm, .int .i64 iv, .int .i64 off0, .slice RA n c] 24)
        have hblk := (Mem.Blk.new w 24 #[.string nm, .int .i64 iv, .int .i64 off0, .slice RA n c])
        have hlt1 : w.heap.size < (w.alloc (.cells #[.string nm, .int .i64 iv, .int .i64 off0, .slice RA n c] 24)).heap.size := by simp
        have hsz1 : w.heap.size ≤ (w.alloc (.cells #[.string nm, .int .i64 iv, .int .i64 off0, .slice RA n c] 24)).heap.size := by simp
        obtain ⟨W1, hW1⟩ : ∃ W1, W1 = w.alloc (.cells #[.string nm, .int .i64 iv, .int .i64 off0, .slice RA n c] 24) := ⟨_, rfl⟩
        rw [← hW1] at hB1 hblk hlt1 hsz1 ⊢
        clear hW1
        have HBLK := Lib.hid hblk
        clear hblk
        have y1 : W1.cell? ⟨w.heap.size, 1, none⟩ = some (.int .i64 iv) := HBLK.out.cell 1
        have y2 : W1.cell? ⟨w.heap.size, 2, none⟩ = some (.int .i64 off0) := HBLK.out.cell 2
        have y3 : W1.cell? ⟨w.heap.size, 3, none⟩ = some (.slice RA n c) := HBLK.out.cell 3
        refine (name_is _ _ H1.out _).mono ?_
        rintro e w9 ⟨rfl, rfl⟩
        go_wp2_with fail
        refine (durSane_is _ _ H2.out _).mono ?_
        rintro e w9 ⟨rfl, rfl⟩
        go_wp2
        clear y1 y2 y3
        go_loopw [39] (fun i wr => ∃ k : Nat, k ≤ n ∧ i = .int .i64 (k : Nat) ∧ Lab.allTo (Lab.grAt rs) k = true ∧ Below W1.heap.size W1 wr) (fun i _ => n - (intOf i).toNat)
        case atStart => exact ⟨0, Nat.zero_le _, rfl, rfl, Below.refl _ _⟩
        case round =>
          obtain ⟨k, hk, rfl, hall, hb1⟩ := hrel
          have HALL := Lib.hid hall
          clear hall
          have hb := hB1.trans (hb1.mono hB1.size)
          by_cases hlt : k < n
          · have hdk : decide (k < n) = true := decide_eq_true hlt
            obtain ⟨b, off, rfl, hbB, hcell⟩ := HH.out.1.at_ (show 0 < n by omega)
            obtain ⟨r, hp⟩ : ∃ r, rs[k]? = some r := ⟨_, List.getElem?_eq_getElem (by rw [HL.out]; exact hlt)⟩
            have c0 := (hb.cell (p := ⟨b, off + k * 8, none⟩) hbB).trans (hcell k r hp 0 _ rfl)
            have c1 := (hb.cell (p := ⟨b, off + k * 8 + 1, none⟩) hbB).trans (hcell k r hp 1 _ rfl)
            have c2 := (hb.cell (p := ⟨b, off + k * 8 + 2, none⟩) hbB).trans (hcell k r hp 2 _ rfl)
            have c3 := (hb.cell (p := ⟨b, off + k * 8 + 3, none⟩) hbB).trans (hcell k r hp 3 _ rfl)
            have c4 := (hb.cell (p := ⟨b, off + k * 8 + 4, none⟩) hbB).trans (hcell k r hp 4 _ rfl)
            have c5 := (hb.cell (p := ⟨b, off + k * 8 + 5, none⟩) hbB).trans (hcell k r hp 5 _ rfl)
            have c6 := (hb.cell (p := ⟨b, off + k * 8 + 6, none⟩) hbB).trans (hcell k r hp 6 _ rfl)
            have c7 := (hb.cell (p := ⟨b, off + k * 8 + 7, none⟩) hbB).trans (hcell k r hp 7 _ rfl)
            have x3 : wr.cell? ⟨w.heap.size, 3, none⟩ = some (.slice (some ⟨b, off, none⟩) n c) := (hb1.cell (p := ⟨w.heap.size, 3, none⟩) hlt1).trans (HBLK.out.cell 3)
            have hltr : w.heap.size < wr.heap.size := Nat.lt_of_lt_of_le hlt1 hb1.size
            have hat := Lab.grAt_is hp
            have HRI := Lib.hid (HH.out.2.1 r (List.mem_of_getElem? hp))
            have HTK := Lib.hid (HH.out.1.take (k := k) (by simp only; omega))
            have hbs := hb.size
            clear hcell hp
            obtain ⟨rb, hrb⟩ : ∃ b, Lab.ruSane r = b := ⟨_, rfl⟩
            obtain ⟨nb, hnb⟩ : ∃ b, Lab.named ((rs.take k).map (·.nm)) r.nm = b := ⟨_, rfl⟩
            rw [hrb, hnb] at hat
            have HRB := Lib.hid hrb
            have HNB := Lib.hid hnb
            have HAT := Lib.hid hat
            clear hrb hnb hat
            go_wp2
            have hblk2 := Lib.hid (Mem.Blk.new wr 48 #[.string r.nm, .string r.sn, .slice r.MA r.Mn r.Mc, .int .i64 r.op, .int .i64 r.v, .int .i64 r.fo, .int .i64 r.ke, .slice r.LA r.Ln r.Lc])
            have hB2 : Below w.heap.size w (wr.alloc (.cells #[.string r.nm, .string r.sn, .slice r.MA r.Mn r.Mc, .int .i64 r.op, .int .i64 r.v, .int .i64 r.fo, .int .i64 r.ke, .slice r.LA r.Ln r.Lc] 48)) := hb.alloc hbs _
            have hB21 : Below W1.heap.size W1 (wr.alloc (.cells #[.string r.nm, .string r.sn, .slice r.MA r.Mn r.Mc, .int .i64 r.op, .int .i64 r.v, .int .i64 r.fo, .int .i64 r.ke, .slice r.LA r.Ln r.Lc] 48)) := hb1.alloc hb1.size _
            have hlt2 : wr.heap.size < (wr.alloc (.cells #[.string r.nm, .string r.sn, .slice r.MA r.Mn r.Mc, .int .i64 r.op, .int .i64 r.v, .int .i64 r.fo, .int .i64 r.ke, .slice r.LA r.Ln r.Lc] 48)).heap.size := by simp
            have x3' : (wr.alloc (.cells #[.string r.nm, .string r.sn, .slice r.MA r.Mn r.Mc, .int .i64 r.op, .int .i64 r.v, .int .i64 r.fo, .int .i64 r.ke, .slice r.LA r.Ln r.Lc] 48)).cell? ⟨w.heap.size, 3, none⟩ = some (.slice (some ⟨b, off, none⟩) n c) := (World.cell?_alloc_lt wr _ _ hltr).trans x3
            generalize wr.alloc (.cells #[.string r.nm, .string r.sn, .slice r.MA r.Mn r.Mc, .int .i64 r.op, .int .i64 r.v, .int .i64 r.fo, .int .i64 r.ke, .slice r.LA r.Ln r.Lc] 48) = W2 at hblk2 hB2 hB21 hlt2 x3' ⊢
            have X3 := Lib.hid x3'
            have hlt3 : w.heap.size < W2.heap.size := Nat.lt_trans hltr hlt2
            have hkc : k ≤ c := Nat.le_trans hk HH.out.1.2.1
            clear c0 c1 c2 c3 c4 c5 c6 c7 x3 x3'
            refine wp_region_held_drew (S := fun W' => Below W2.heap.size W2 W') (by kernel_rfl) (Below.refl _ _).drew (fun hHeld => ?_)
            refine wpAnyH_take (i := 0) (v := ?_) (by simp only [List.getElem?_toArray, List.getElem?_cons_succ, List.getElem?_cons_zero]; exact rfl) (by kernel_rfl) (by kernel_rfl) (by kernel_rfl) (by exact fun _ _ _ h => h) (Or.inl ⟨by rfl, ?_⟩) hHeld ?_
            rotate_left
            · intro wq hSw; have k0 := (hSw.cell (p := ⟨wr.heap.size, 0, none⟩) hlt2).trans (hblk2.out.cell 0); have k1 := (hSw.cell (p := ⟨wr.heap.size, 1, none⟩) hlt2).trans (hblk2.out.cell 1); have k2 := (hSw.cell (p := ⟨wr.heap.size, 2, none⟩) hlt2).trans (hblk2.out.cell 2); have k3 := (hSw.cell (p := ⟨wr.heap.size, 3, none⟩) hlt2).trans (hblk2.out.cell 3); have k4 := (hSw.cell (p := ⟨wr.heap.size, 4, none⟩) hlt2).trans (hblk2.out.cell 4); have k5 := (hSw.cell (p := ⟨wr.heap.size, 5, none⟩) hlt2).trans (hblk2.out.cell 5); have k6 := (hSw.cell (p := ⟨wr.heap.size, 6, none⟩) hlt2).trans (hblk2.out.cell 6); have k7 := (hSw.cell (p := ⟨wr.heap.size, 7, none⟩) hlt2).trans (hblk2.out.cell 7); simp at k0 k1 k2 k3 k4 k5 k6 k7; go_simp; all_goals (with_reducible rfl)
            try simp only [Act.put, List.setIfInBounds_toArray, List.set_cons_zero, List.set_cons_succ]
            refine wpAnyH_ready (rs := [1]) (by kernel_rfl) (by simp) ?_
            refine AllReadyH.cons (by simp only [List.getElem?_toArray, List.getElem?_cons_succ, List.getElem?_cons_zero]; exact rfl) (fun K hK => ?_) ?_
            · go_simp
              refine (ruSane_is r rb HRB.out _ ((HRI.out.below (hB2.trans (hHeld.mono hB2.size))).more (hB2.trans (hHeld.mono hB2.size)).size)).mono ?_
              rintro e w4 ⟨rfl, hB4⟩
              show K _ _
              refine hK.out _ _ (hHeld.trans (hB4.mono hHeld.size)) (fun hHeld => ?_)
              clear hK K hB4
              try simp only [Act.put, List.setIfInBounds_toArray, List.set_cons_zero, List.set_cons_succ]
              rcases rb with _ | _
              · have HB := Lib.hid (show Lab.grSane ⟨nm, iv, off0, some ⟨b, off, none⟩, n, c, rs⟩ = false by rw [HS.out]; exact Lab.allTo_bad (by rw [HL.out]; exact hlt) (by rw [HAT.out]; rfl))
                refine wpAnyH_take (i := 2) (v := ?_) (by simp only [List.getElem?_toArray, List.getElem?_cons_succ, List.getElem?_cons_zero]; exact rfl) (by kernel_rfl) (by kernel_rfl) (by kernel_rfl) (by exact fun _ _ _ h => h) (Or.inl ⟨by rfl, ?_⟩) hHeld ?_
                rotate_left
                · intro wq hSw; go_simp; all_goals (with_reducible rfl)
                try simp only [Act.put, List.setIfInBounds_toArray, List.set_cons_zero, List.set_cons_succ]
                refine wpAnyH_take (i := 3) (v := ?_) (by simp only [List.getElem?_toArray, List.getElem?_cons_succ, List.getElem?_cons_zero]; exact rfl) (by kernel_rfl) (by kernel_rfl) (by kernel_rfl) (by exact fun _ _ _ h => h) (Or.inl ⟨by rfl, ?_⟩) hHeld ?_
                rotate_left
                · intro wq hSw; go_simp; all_goals (with_reducible rfl)
                try simp only [Act.put, List.setIfInBounds_toArray, List.set_cons_zero, List.set_cons_succ]
                refine wpAnyH_take (i := 4) (v := undef) (by simp only [List.getElem?_toArray, List.getElem?_cons_succ, List.getElem?_cons_zero]; exact rfl) (by kernel_rfl) (by kernel_rfl) (by kernel_rfl) (by exact fun _ _ _ h => h) (Or.inr ⟨by rfl, rfl⟩) hHeld ?_
                try simp only [Act.put, List.setIfInBounds_toArray, List.set_cons_zero, List.set_cons_succ]
                refine wpAnyH_take (i := 5) (v := undef) (by simp only [List.getElem?_toArray, List.getElem?_cons_succ, List.getElem?_cons_zero]; exact rfl) (by kernel_rfl) (by kernel_rfl) (by kernel_rfl) (by exact fun _ _ _ h => h) (Or.inr ⟨by rfl, rfl⟩) hHeld ?_
                try simp only [Act.put, List.setIfInBounds_toArray, List.set_cons_zero, List.set_cons_succ]
                refine wpAnyH_take (i := 6) (v := undef) (by simp only [List.getElem?_toArray, List.getElem?_cons_succ, List.getElem?_cons_zero]; exact rfl) (by kernel_rfl) (by kernel_rfl) (by kernel_rfl) (by exact fun _ _ _ h => h) (Or.inr ⟨by rfl, rfl⟩) hHeld ?_
                try simp only [Act.put, List.setIfInBounds_toArray, List.set_cons_zero, List.set_cons_succ]
                refine wpAnyH_take (i := 7) (v := undef) (by simp only [List.getElem?_toArray, List.getElem?_cons_succ, List.getElem?_cons_zero]; exact rfl) (by kernel_rfl) (by kernel_rfl) (by kernel_rfl) (by exact fun _ _ _ h => h) (Or.inr ⟨by rfl, rfl⟩) hHeld ?_
                try simp only [Act.put, List.setIfInBounds_toArray, List.set_cons_zero, List.set_cons_succ]
                refine wpAnyH_take (i := 8) (v := undef) (by simp only [List.getElem?_toArray, List.getElem?_cons_succ, List.getElem?_cons_zero]; exact rfl) (by kernel_rfl) (by kernel_rfl) (by kernel_rfl) (by exact fun _ _ _ h => h) (Or.inr ⟨by rfl, rfl⟩) hHeld ?_
                try simp only [Act.put, List.setIfInBounds_toArray, List.set_cons_zero, List.set_cons_succ]
                refine wpAnyH_take (i := 9) (v := undef) (by simp only [List.getElem?_toArray, List.getElem?_cons_succ, List.getElem?_cons_zero]; exact rfl) (by kernel_rfl) (by kernel_rfl) (by kernel_rfl) (by exact fun _ _ _ h => h) (Or.inr ⟨by rfl, rfl⟩) hHeld ?_
                try simp only [Act.put, List.setIfInBounds_toArray, List.set_cons_zero, List.set_cons_succ]
                refine wpAnyH_take (i := 10) (v := undef) (by simp only [List.getElem?_toArray, List.getElem?_cons_succ, List.getElem?_cons_zero]; exact rfl) (by kernel_rfl) (by kernel_rfl) (by kernel_rfl) (by exact fun _ _ _ h => h) (Or.inr ⟨by rfl, rfl⟩) hHeld ?_
                try simp only [Act.put, List.setIfInBounds_toArray, List.set_cons_zero, List.set_cons_succ]
                refine wpAnyH_take (i := 11) (v := ?_) (by simp only [List.getElem?_toArray, List.getElem?_cons_succ, List.getElem?_cons_zero]; exact rfl) (by kernel_rfl) (by kernel_rfl) (by kernel_rfl) (by exact fun _ _ _ h => h) (Or.inl ⟨by rfl, ?_⟩) hHeld ?_
                rotate_left
                · intro wq hSw; go_simp; all_goals (with_reducible rfl)
                try simp only [Act.put, List.setIfInBounds_toArray, List.set_cons_zero, List.set_cons_succ]
                refine wpAnyH_done (by kernel_rfl) ?_ _
                go_wp2
                go_ret
                exact ⟨by rw [HB.out]; rfl, hB2.trans (hHeld.mono hB2.size)⟩
              · skip
                refine wpAnyH_take (i := 2) (v := ?_) (by simp only [List.getElem?_toArray, List.getElem?_cons_succ, List.getElem?_cons_zero]; exact rfl) (by kernel_rfl) (by kernel_rfl) (by kernel_rfl) (by exact fun _ _ _ h => h) (Or.inl ⟨by rfl, ?_⟩) hHeld ?_
                rotate_left
                · intro wq hSw; go_simp; all_goals (with_reducible rfl)
                try simp only [Act.put, List.setIfInBounds_toArray, List.set_cons_zero, List.set_cons_succ]
                refine wpAnyH_take (i := 3) (v := ?_) (by simp only [List.getElem?_toArray, List.getElem?_cons_succ, List.getElem?_cons_zero]; exact rfl) (by kernel_rfl) (by kernel_rfl) (by kernel_rfl) (by exact fun _ _ _ h => h) (Or.inl ⟨by rfl, ?_⟩) hHeld ?_
                rotate_left
                · intro wq hSw; go_simp; all_goals (with_reducible rfl)
                try simp only [Act.put, List.setIfInBounds_toArray, List.set_cons_zero, List.set_cons_succ]
                refine wpAnyH_take (i := 4) (v := ?_) (by simp only [List.getElem?_toArray, List.getElem?_cons_succ, List.getElem?_cons_zero]; exact rfl) (by kernel_rfl) (by kernel_rfl) (by kernel_rfl) (by exact fun _ _ _ h => h) (Or.inl ⟨by rfl, ?_⟩) hHeld ?_
                rotate_left
                · intro wq hSw; go_simp; all_goals (with_reducible rfl)
                try simp only [Act.put, List.setIfInBounds_toArray, List.set_cons_zero, List.set_cons_succ]
                refine wpAnyH_take (i := 5) (v := ?_) (by simp only [List.getElem?_toArray, List.getElem?_cons_succ, List.getElem?_cons_zero]; exact rfl) (by kernel_rfl) (by kernel_rfl) (by kernel_rfl) (by exact fun _ _ _ h => h) (Or.inl ⟨by rfl, ?_⟩) hHeld ?_
                rotate_left
                · intro wq hSw; have m3 := (hSw.cell (p := ⟨w.heap.size, 3, none⟩) hlt3).trans X3.out; go_simp; all_goals (with_reducible rfl)
                try simp only [Act.put, List.setIfInBounds_toArray, List.set_cons_zero, List.set_cons_succ]
                refine wpAnyH_take (i := 6) (v := ?_) (by simp only [List.getElem?_toArray, List.getElem?_cons_succ, List.getElem?_cons_zero]; exact rfl) (by kernel_rfl) (by kernel_rfl) (by kernel_rfl) (by exact fun _ _ _ h => h) (Or.inl ⟨by rfl, ?_⟩) hHeld ?_
                rotate_left
                · intro wq hSw; go_simp; all_goals (with_reducible rfl)
                try simp only [Act.put, List.setIfInBounds_toArray, List.set_cons_zero, List.set_cons_succ]
                refine wpAnyH_take (i := 7) (v := ?_) (by simp only [List.getElem?_toArray, List.getElem?_cons_succ, List.getElem?_cons_zero]; exact rfl) (by kernel_rfl) (by kernel_rfl) (by kernel_rfl) (by exact fun _ _ _ h => h) (Or.inl ⟨by rfl, ?_⟩) hHeld ?_
                rotate_left
                · intro wq hSw; go_simp; all_goals (with_reducible rfl)
                try simp only [Act.put, List.setIfInBounds_toArray, List.set_cons_zero, List.set_cons_succ]
                refine wpAnyH_take (i := 8) (v := ?_) (by simp only [List.getElem?_toArray, List.getElem?_cons_succ, List.getElem?_cons_zero]; exact rfl) (by kernel_rfl) (by kernel_rfl) (by kernel_rfl) (by exact fun _ _ _ h => h) (Or.inl ⟨by rfl, ?_⟩) hHeld ?_
                rotate_left
                · intro wq hSw; go_simp; all_goals (with_reducible rfl)
                try simp only [Act.put, List.setIfInBounds_toArray, List.set_cons_zero, List.set_cons_succ]
                refine wpAnyH_take (i := 9) (v := ?_) (by simp only [List.getElem?_toArray, List.getElem?_cons_succ, List.getElem?_cons_zero]; exact rfl) (by kernel_rfl) (by kernel_rfl) (by kernel_rfl) (by exact fun _ _ _ h => h) (Or.inl ⟨by rfl, ?_⟩) hHeld ?_
                rotate_left
                · intro wq hSw; have m0 := (hSw.cell (p := ⟨wr.heap.size, 0, none⟩) hlt2).trans (hblk2.out.cell 0); simp at m0; go_simp; all_goals (with_reducible rfl)
                try simp only [Act.put, List.setIfInBounds_toArray, List.set_cons_zero, List.set_cons_succ]
                refine wpAnyH_ready (rs := [10]) (by kernel_rfl) (by simp) ?_
                refine AllReadyH.cons (by simp only [List.getElem?_toArray, List.getElem?_cons_succ, List.getElem?_cons_zero]; exact rfl) (fun K hK => ?_) ?_
                · go_simp
                  refine (hasRule_is (some ⟨b, off, none⟩) k c (rs.take k) r.nm nb HNB.out _ ((HTK.out.below (hB2.trans (hHeld.mono hB2.size))).more (hB2.trans (hHeld.mono hB2.size)).size)).mono ?_
                  rintro e w5 ⟨rfl, hB5⟩
                  show K _ _
                  refine hK.out _ _ (hHeld.trans (hB5.mono hHeld.size)) (fun hHeld => ?_)
                  clear hK K hB5
                  try simp only [Act.put, List.setIfInBounds_toArray, List.set_cons_zero, List.set_cons_succ]
                  refine wpAnyH_take (i := 11) (v := ?_) (by simp only [List.getElem?_toArray, List.getElem?_cons_succ, List.getElem?_cons_zero]; exact rfl) (by kernel_rfl) (by kernel_rfl) (by kernel_rfl) (by exact fun _ _ _ h => h) (Or.inl ⟨by rfl, ?_⟩) hHeld ?_
                  rotate_left
                  · intro wq hSw; go_simp; all_goals (with_reducible rfl)
                  try simp only [Act.put, List.setIfInBounds_toArray, List.set_cons_zero, List.set_cons_succ]
                  refine wpAnyH_done (by kernel_rfl) ?_ _
                  rcases nb with _ | _
                  · have HOK := Lib.hid (Lab.allTo_step HALL.out (show Lab.grAt rs k = true by rw [HAT.out]; rfl))
                    go_wp2
                    go_roundw
                    case rel => exact ⟨k + 1, by omega, by go_num, HOK.out, hB21.trans (hHeld.mono hB21.size)⟩
                    case measure => simp [intOf]; omega
                  · have HB := Lib.hid (show Lab.grSane ⟨nm, iv, off0, some ⟨b, off, none⟩, n, c, rs⟩ = false by rw [HS.out]; exact Lab.allTo_bad (by rw [HL.out]; exact hlt) (by rw [HAT.out]; rfl))
                    go_wp2
                    go_ret
                    exact ⟨by rw [HB.out]; rfl, hB2.trans (hHeld.mono hB2.size)⟩
                · exact AllReadyH.nil
            · exact AllReadyH.nil
          · obtain rfl : k = n := by omega
            have hdk : decide (k < k) = false := decide_eq_false (by omega)
            go_wp2
            go_ret
            exact ⟨by rw [HS.out, HL.out, HALL.out]; rfl, hb⟩
end Go.Proofs.Ythjnhifaejoigaa
