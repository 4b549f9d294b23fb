/- The walk of the reference's group. -/
import Derived.Test.YthjnhifaejoigaaLabG
namespace Go.Proofs.Ythjnhifaejoigaa
open Go.RowKit
set_option linter.unusedSimpArgs false
set_option linter.unusedVariables false

set_option maxRecDepth 100000 in
set_option maxHeartbeats 8000000 in
theorem rGroup_any (g : Lab.Gr) (w : World) (h : GrIn w w.heap.size g) :
    Calls Try.prog 30 #[.agg #[.string g.nm, .int .i64 g.iv, .int .i64 g.off, .slice g.RA g.Rn g.Rc]] w fun e w' => e = .returned (.bool (Lab.grSane g)) ∧ Below w.heap.size w w' := by
  obtain ⟨nm, iv, off0, RA, n, c, rs⟩ := g
  have hl : rs.length = n := h.1.1
  have hcap := Nat.le_trans h.1.2.1 h.1.2.2.1
  simp only at hcap
  have HH := Lib.hid h
  have HL := Lib.hid hl
  clear h hl
  go_enter Try.func30, Try.ntmps30
  go_wp2
  have hB1 := (Below.refl w.heap.size w).alloc (Nat.le_refl _) (.cells #[.string nm, .int .i64 iv, .int .i64 off0, .slice RA n c] 24)
  have hblk := (Mem.Blk.new w 24 #[.string nm, .int .i64 iv, .int .i64 off0, .slice RA n c])
  have hlt1 : w.heap.size < (w.alloc (.cells #[.string nm, .int .i64 iv, .int .i64 off0, .slice RA n c] 24)).heap.size := by simp
  have hsz1 : w.heap.size ≤ (w.alloc (.cells #[.string nm, .int .i64 iv, .int .i64 off0, .slice RA n c] 24)).heap.size := by simp
  obtain ⟨W1, hW1⟩ : ∃ W1, W1 = w.alloc (.cells #[.string nm, .int .i64 iv, .int .i64 off0, .slice RA n c] 24) := ⟨_, rfl⟩
  rw [← hW1] at hB1 hblk hlt1 hsz1 ⊢
  clear hW1
  have HBLK := Lib.hid hblk
  clear hblk
  go_loopw [3] (fun i wr => ∃ k : Nat, k ≤ n ∧ i = .int .i64 (k : Nat) ∧ Lab.allTo (Lab.grAt rs) k = true ∧ Below W1.heap.size W1 wr) (fun i _ => n - (intOf i).toNat)
  case atStart => exact ⟨0, Nat.zero_le _, rfl, rfl, Below.refl _ _⟩
  case round =>
    obtain ⟨k, hk, rfl, hall, hb1⟩ := hrel
    have HALL := Lib.hid hall
    clear hall
    have hb := hB1.trans (hb1.mono hB1.size)
    have x0 : wr.cell? ⟨w.heap.size, 0, none⟩ = some (.string nm) := (hb1.cell (p := ⟨w.heap.size, 0, none⟩) hlt1).trans (HBLK.out.cell 0)
    have x1 : wr.cell? ⟨w.heap.size, 1, none⟩ = some (.int .i64 iv) := (hb1.cell (p := ⟨w.heap.size, 1, none⟩) hlt1).trans (HBLK.out.cell 1)
    have x2 : wr.cell? ⟨w.heap.size, 2, none⟩ = some (.int .i64 off0) := (hb1.cell (p := ⟨w.heap.size, 2, none⟩) hlt1).trans (HBLK.out.cell 2)
    have x3 : wr.cell? ⟨w.heap.size, 3, none⟩ = some (.slice RA n c) := (hb1.cell (p := ⟨w.heap.size, 3, none⟩) hlt1).trans (HBLK.out.cell 3)
    have hltr : w.heap.size < wr.heap.size := Nat.lt_of_lt_of_le hlt1 hb1.size
    by_cases hlt : k < n
    · have hdk : decide (k < n) = true := decide_eq_true hlt
      clear x0 x1 x2
      obtain ⟨b, off, rfl, hbB, hcell⟩ := HH.out.1.at_ (show 0 < n by omega)
      obtain ⟨r, hp⟩ : ∃ r, rs[k]? = some r := ⟨_, List.getElem?_eq_getElem (by rw [HL.out]; exact hlt)⟩
      have c0 := (hb.cell (p := ⟨b, off + k * 8, none⟩) hbB).trans (hcell k r hp 0 _ rfl)
      have c1 := (hb.cell (p := ⟨b, off + k * 8 + 1, none⟩) hbB).trans (hcell k r hp 1 _ rfl)
      have c2 := (hb.cell (p := ⟨b, off + k * 8 + 2, none⟩) hbB).trans (hcell k r hp 2 _ rfl)
      have c3 := (hb.cell (p := ⟨b, off + k * 8 + 3, none⟩) hbB).trans (hcell k r hp 3 _ rfl)
      have c4 := (hb.cell (p := ⟨b, off + k * 8 + 4, none⟩) hbB).trans (hcell k r hp 4 _ rfl)
      have c5 := (hb.cell (p := ⟨b, off + k * 8 + 5, none⟩) hbB).trans (hcell k r hp 5 _ rfl)
      have c6 := (hb.cell (p := ⟨b, off + k * 8 + 6, none⟩) hbB).trans (hcell k r hp 6 _ rfl)
      have c7 := (hb.cell (p := ⟨b, off + k * 8 + 7, none⟩) hbB).trans (hcell k r hp 7 _ rfl)
      have hbr : b < wr.heap.size := Nat.lt_of_lt_of_le hbB (by have := hb.size; omega)
      have hat := Lab.grAt_is hp
      have HRI := Lib.hid (HH.out.2.1 r (List.mem_of_getElem? hp))
      have HTK := Lib.hid (HH.out.1.take (k := k) (by simp only; omega))
      have hbs := hb.size
      have hkc : k ≤ c := Nat.le_trans hk HH.out.1.2.1
      clear hcell hp
      obtain ⟨rb, hrb⟩ : ∃ b, Lab.ruSane r = b := ⟨_, rfl⟩
      obtain ⟨nb, hnb⟩ : ∃ b, Lab.named ((rs.take k).map (·.nm)) r.nm = b := ⟨_, rfl⟩
      rw [hrb, hnb] at hat
      have HRB := Lib.hid hrb
      have HNB := Lib.hid hnb
      have HAT := Lib.hid hat
      clear hrb hnb hat
      go_wp2
      have C0 := Lib.hid c0
      have C1 := Lib.hid c1
      have C2 := Lib.hid c2
      have C3 := Lib.hid c3
      have C4 := Lib.hid c4
      have C5 := Lib.hid c5
      have C6 := Lib.hid c6
      have C7 := Lib.hid c7
      have X3 := Lib.hid x3
      clear c0 c1 c2 c3 c4 c5 c6 c7 x3
      refine wp_region_held_drew (S := fun W' => Below wr.heap.size wr W') (by kernel_rfl) (Below.refl _ _).drew (fun hHeld => ?_)
      refine wpAnyH_take (i := 0) (v := ?_) (by simp only [List.getElem?_toArray, List.getElem?_cons_succ, List.getElem?_cons_zero]; exact rfl) (by kernel_rfl) (by kernel_rfl) (by kernel_rfl) (by exact fun _ _ _ h => h) (Or.inl ⟨by rfl, ?_⟩) hHeld ?_
      rotate_left
      · intro wq hSw; go_simp; all_goals (with_reducible rfl)
      try simp only [Act.put, List.setIfInBounds_toArray, List.set_cons_zero, List.set_cons_succ]
      refine wpAnyH_take (i := 1) (v := ?_) (by simp only [List.getElem?_toArray, List.getElem?_cons_succ, List.getElem?_cons_zero]; exact rfl) (by kernel_rfl) (by kernel_rfl) (by kernel_rfl) (by exact fun _ _ _ h => h) (Or.inl ⟨by rfl, ?_⟩) hHeld ?_
      rotate_left
      · intro wq hSw; have m3 := (hSw.cell (p := ⟨w.heap.size, 3, none⟩) hltr).trans X3.out; go_simp; all_goals (with_reducible rfl)
      try simp only [Act.put, List.setIfInBounds_toArray, List.set_cons_zero, List.set_cons_succ]
      refine wpAnyH_take (i := 2) (v := ?_) (by simp only [List.getElem?_toArray, List.getElem?_cons_succ, List.getElem?_cons_zero]; exact rfl) (by kernel_rfl) (by kernel_rfl) (by kernel_rfl) (by exact fun _ _ _ h => h) (Or.inl ⟨by rfl, ?_⟩) hHeld ?_
      rotate_left
      · intro wq hSw; go_simp; all_goals (with_reducible rfl)
      try simp only [Act.put, List.setIfInBounds_toArray, List.set_cons_zero, List.set_cons_succ]
      refine wpAnyH_take (i := 3) (v := ?_) (by simp only [List.getElem?_toArray, List.getElem?_cons_succ, List.getElem?_cons_zero]; exact rfl) (by kernel_rfl) (by kernel_rfl) (by kernel_rfl) (by exact fun _ _ _ h => h) (Or.inl ⟨by rfl, ?_⟩) hHeld ?_
      rotate_left
      · intro wq hSw; go_simp; all_goals (with_reducible rfl)
      try simp only [Act.put, List.setIfInBounds_toArray, List.set_cons_zero, List.set_cons_succ]
      refine wpAnyH_take (i := 4) (v := ?_) (by simp only [List.getElem?_toArray, List.getElem?_cons_succ, List.getElem?_cons_zero]; exact rfl) (by kernel_rfl) (by kernel_rfl) (by kernel_rfl) (by exact fun _ _ _ h => h) (Or.inl ⟨by rfl, ?_⟩) hHeld ?_
      rotate_left
      · intro wq hSw; have k0 := (hSw.cell (p := ⟨b, off + k * 8, none⟩) hbr).trans C0.out; have k1 := (hSw.cell (p := ⟨b, off + k * 8 + 1, none⟩) hbr).trans C1.out; have k2 := (hSw.cell (p := ⟨b, off + k * 8 + 2, none⟩) hbr).trans C2.out; have k3 := (hSw.cell (p := ⟨b, off + k * 8 + 3, none⟩) hbr).trans C3.out; have k4 := (hSw.cell (p := ⟨b, off + k * 8 + 4, none⟩) hbr).trans C4.out; have k5 := (hSw.cell (p := ⟨b, off + k * 8 + 5, none⟩) hbr).trans C5.out; have k6 := (hSw.cell (p := ⟨b, off + k * 8 + 6, none⟩) hbr).trans C6.out; have k7 := (hSw.cell (p := ⟨b, off + k * 8 + 7, none⟩) hbr).trans C7.out; go_simp; all_goals (with_reducible rfl)
      try simp only [Act.put, List.setIfInBounds_toArray, List.set_cons_zero, List.set_cons_succ]
      refine wpAnyH_ready (rs := [5]) (by kernel_rfl) (by simp) ?_
      refine AllReadyH.cons (by simp only [List.getElem?_toArray, List.getElem?_cons_succ, List.getElem?_cons_zero]; exact rfl) (fun K hK => ?_) ?_
      · go_simp
        refine (rRuSane_is r rb HRB.out _ ((HRI.out.below (hb.trans (hHeld.mono hb.size))).more (hb.trans (hHeld.mono hb.size)).size)).mono ?_
        rintro e w4 ⟨rfl, hB4⟩
        show K _ _
        refine hK.out _ _ (hHeld.trans (hB4.mono hHeld.size)) (fun hHeld => ?_)
        clear hK K hB4
        try simp only [Act.put, List.setIfInBounds_toArray, List.set_cons_zero, List.set_cons_succ]
        rcases rb with _ | _
        · have HB := Lib.hid (show Lab.grSane ⟨nm, iv, off0, some ⟨b, off, none⟩, n, c, rs⟩ = false by unfold Lab.grSane; rw [Lab.allTo_bad (by rw [HL.out]; exact hlt) (by rw [HAT.out]; rfl), Bool.and_false])
          refine wpAnyH_take (i := 6) (v := ?_) (by simp only [List.getElem?_toArray, List.getElem?_cons_succ, List.getElem?_cons_zero]; exact rfl) (by kernel_rfl) (by kernel_rfl) (by kernel_rfl) (by exact fun _ _ _ h => h) (Or.inl ⟨by rfl, ?_⟩) hHeld ?_
          rotate_left
          · intro wq hSw; go_simp; all_goals (with_reducible rfl)
          try simp only [Act.put, List.setIfInBounds_toArray, List.set_cons_zero, List.set_cons_succ]
          refine wpAnyH_take (i := 7) (v := ?_) (by simp only [List.getElem?_toArray, List.getElem?_cons_succ, List.getElem?_cons_zero]; exact rfl) (by kernel_rfl) (by kernel_rfl) (by kernel_rfl) (by exact fun _ _ _ h => h) (Or.inl ⟨by rfl, ?_⟩) hHeld ?_
          rotate_left
          · intro wq hSw; go_simp; all_goals (with_reducible rfl)
          try simp only [Act.put, List.setIfInBounds_toArray, List.set_cons_zero, List.set_cons_succ]
          refine wpAnyH_take (i := 8) (v := undef) (by simp only [List.getElem?_toArray, List.getElem?_cons_succ, List.getElem?_cons_zero]; exact rfl) (by kernel_rfl) (by kernel_rfl) (by kernel_rfl) (by exact fun _ _ _ h => h) (Or.inr ⟨by rfl, rfl⟩) hHeld ?_
          try simp only [Act.put, List.setIfInBounds_toArray, List.set_cons_zero, List.set_cons_succ]
          refine wpAnyH_take (i := 9) (v := undef) (by simp only [List.getElem?_toArray, List.getElem?_cons_succ, List.getElem?_cons_zero]; exact rfl) (by kernel_rfl) (by kernel_rfl) (by kernel_rfl) (by exact fun _ _ _ h => h) (Or.inr ⟨by rfl, rfl⟩) hHeld ?_
          try simp only [Act.put, List.setIfInBounds_toArray, List.set_cons_zero, List.set_cons_succ]
          refine wpAnyH_take (i := 10) (v := undef) (by simp only [List.getElem?_toArray, List.getElem?_cons_succ, List.getElem?_cons_zero]; exact rfl) (by kernel_rfl) (by kernel_rfl) (by kernel_rfl) (by exact fun _ _ _ h => h) (Or.inr ⟨by rfl, rfl⟩) hHeld ?_
          try simp only [Act.put, List.setIfInBounds_toArray, List.set_cons_zero, List.set_cons_succ]
          refine wpAnyH_take (i := 11) (v := undef) (by simp only [List.getElem?_toArray, List.getElem?_cons_succ, List.getElem?_cons_zero]; exact rfl) (by kernel_rfl) (by kernel_rfl) (by kernel_rfl) (by exact fun _ _ _ h => h) (Or.inr ⟨by rfl, rfl⟩) hHeld ?_
          try simp only [Act.put, List.setIfInBounds_toArray, List.set_cons_zero, List.set_cons_succ]
          refine wpAnyH_take (i := 12) (v := undef) (by simp only [List.getElem?_toArray, List.getElem?_cons_succ, List.getElem?_cons_zero]; exact rfl) (by kernel_rfl) (by kernel_rfl) (by kernel_rfl) (by exact fun _ _ _ h => h) (Or.inr ⟨by rfl, rfl⟩) hHeld ?_
          try simp only [Act.put, List.setIfInBounds_toArray, List.set_cons_zero, List.set_cons_succ]
          refine wpAnyH_take (i := 13) (v := undef) (by simp only [List.getElem?_toArray, List.getElem?_cons_succ, List.getElem?_cons_zero]; exact rfl) (by kernel_rfl) (by kernel_rfl) (by kernel_rfl) (by exact fun _ _ _ h => h) (Or.inr ⟨by rfl, rfl⟩) hHeld ?_
          try simp only [Act.put, List.setIfInBounds_toArray, List.set_cons_zero, List.set_cons_succ]
          refine wpAnyH_take (i := 14) (v := undef) (by simp only [List.getElem?_toArray, List.getElem?_cons_succ, List.getElem?_cons_zero]; exact rfl) (by kernel_rfl) (by kernel_rfl) (by kernel_rfl) (by exact fun _ _ _ h => h) (Or.inr ⟨by rfl, rfl⟩) hHeld ?_
          try simp only [Act.put, List.setIfInBounds_toArray, List.set_cons_zero, List.set_cons_succ]
          refine wpAnyH_take (i := 15) (v := undef) (by simp only [List.getElem?_toArray, List.getElem?_cons_succ, List.getElem?_cons_zero]; exact rfl) (by kernel_rfl) (by kernel_rfl) (by kernel_rfl) (by exact fun _ _ _ h => h) (Or.inr ⟨by rfl, rfl⟩) hHeld ?_
          try simp only [Act.put, List.setIfInBounds_toArray, List.set_cons_zero, List.set_cons_succ]
          refine wpAnyH_take (i := 16) (v := undef) (by simp only [List.getElem?_toArray, List.getElem?_cons_succ, List.getElem?_cons_zero]; exact rfl) (by kernel_rfl) (by kernel_rfl) (by kernel_rfl) (by exact fun _ _ _ h => h) (Or.inr ⟨by rfl, rfl⟩) hHeld ?_
          try simp only [Act.put, List.setIfInBounds_toArray, List.set_cons_zero, List.set_cons_succ]
          refine wpAnyH_take (i := 17) (v := undef) (by simp only [List.getElem?_toArray, List.getElem?_cons_succ, List.getElem?_cons_zero]; exact rfl) (by kernel_rfl) (by kernel_rfl) (by kernel_rfl) (by exact fun _ _ _ h => h) (Or.inr ⟨by rfl, rfl⟩) hHeld ?_
          try simp only [Act.put, List.setIfInBounds_toArray, List.set_cons_zero, List.set_cons_succ]
          refine wpAnyH_take (i := 18) (v := undef) (by simp only [List.getElem?_toArray, List.getElem?_cons_succ, List.getElem?_cons_zero]; exact rfl) (by kernel_rfl) (by kernel_rfl) (by kernel_rfl) (by exact fun _ _ _ h => h) (Or.inr ⟨by rfl, rfl⟩) hHeld ?_
          try simp only [Act.put, List.setIfInBounds_toArray, List.set_cons_zero, List.set_cons_succ]
          refine wpAnyH_take (i := 19) (v := ?_) (by simp only [List.getElem?_toArray, List.getElem?_cons_succ, List.getElem?_cons_zero]; exact rfl) (by kernel_rfl) (by kernel_rfl) (by kernel_rfl) (by exact fun _ _ _ h => h) (Or.inl ⟨by rfl, ?_⟩) hHeld ?_
          rotate_left
          · intro wq hSw; go_simp; all_goals (with_reducible rfl)
          try simp only [Act.put, List.setIfInBounds_toArray, List.set_cons_zero, List.set_cons_succ]
          refine wpAnyH_done (by kernel_rfl) ?_ _
          go_wp2
          go_ret
          exact ⟨by rw [HB.out]; rfl, hb.trans (hHeld.mono hb.size)⟩
        · skip
          refine wpAnyH_take (i := 6) (v := ?_) (by simp only [List.getElem?_toArray, List.getElem?_cons_succ, List.getElem?_cons_zero]; exact rfl) (by kernel_rfl) (by kernel_rfl) (by kernel_rfl) (by exact fun _ _ _ h => h) (Or.inl ⟨by rfl, ?_⟩) hHeld ?_
          rotate_left
          · intro wq hSw; go_simp; all_goals (with_reducible rfl)
          try simp only [Act.put, List.setIfInBounds_toArray, List.set_cons_zero, List.set_cons_succ]
          refine wpAnyH_take (i := 7) (v := ?_) (by simp only [List.getElem?_toArray, List.getElem?_cons_succ, List.getElem?_cons_zero]; exact rfl) (by kernel_rfl) (by kernel_rfl) (by kernel_rfl) (by exact fun _ _ _ h => h) (Or.inl ⟨by rfl, ?_⟩) hHeld ?_
          rotate_left
          · intro wq hSw; go_simp; all_goals (with_reducible rfl)
          try simp only [Act.put, List.setIfInBounds_toArray, List.set_cons_zero, List.set_cons_succ]
          refine wpAnyH_take (i := 8) (v := ?_) (by simp only [List.getElem?_toArray, List.getElem?_cons_succ, List.getElem?_cons_zero]; exact rfl) (by kernel_rfl) (by kernel_rfl) (by kernel_rfl) (by exact fun _ _ _ h => h) (Or.inl ⟨by rfl, ?_⟩) hHeld ?_
          rotate_left
          · intro wq hSw; go_simp; all_goals (with_reducible rfl)
          try simp only [Act.put, List.setIfInBounds_toArray, List.set_cons_zero, List.set_cons_succ]
          refine wpAnyH_take (i := 9) (v := ?_) (by simp only [List.getElem?_toArray, List.getElem?_cons_succ, List.getElem?_cons_zero]; exact rfl) (by kernel_rfl) (by kernel_rfl) (by kernel_rfl) (by exact fun _ _ _ h => h) (Or.inl ⟨by rfl, ?_⟩) hHeld ?_
          rotate_left
          · intro wq hSw; have m3 := (hSw.cell (p := ⟨w.heap.size, 3, none⟩) hltr).trans X3.out; go_simp; all_goals (with_reducible rfl)
          try simp only [Act.put, List.setIfInBounds_toArray, List.set_cons_zero, List.set_cons_succ]
          refine wpAnyH_take (i := 10) (v := ?_) (by simp only [List.getElem?_toArray, List.getElem?_cons_succ, List.getElem?_cons_zero]; exact rfl) (by kernel_rfl) (by kernel_rfl) (by kernel_rfl) (by exact fun _ _ _ h => h) (Or.inl ⟨by rfl, ?_⟩) hHeld ?_
          rotate_left
          · intro wq hSw; go_simp; all_goals (with_reducible rfl)
          try simp only [Act.put, List.setIfInBounds_toArray, List.set_cons_zero, List.set_cons_succ]
          refine wpAnyH_take (i := 11) (v := ?_) (by simp only [List.getElem?_toArray, List.getElem?_cons_succ, List.getElem?_cons_zero]; exact rfl) (by kernel_rfl) (by kernel_rfl) (by kernel_rfl) (by exact fun _ _ _ h => h) (Or.inl ⟨by rfl, ?_⟩) hHeld ?_
          rotate_left
          · intro wq hSw; go_simp; all_goals (with_reducible rfl)
          try simp only [Act.put, List.setIfInBounds_toArray, List.set_cons_zero, List.set_cons_succ]
          refine wpAnyH_take (i := 12) (v := ?_) (by simp only [List.getElem?_toArray, List.getElem?_cons_succ, List.getElem?_cons_zero]; exact rfl) (by kernel_rfl) (by kernel_rfl) (by kernel_rfl) (by exact fun _ _ _ h => h) (Or.inl ⟨by rfl, ?_⟩) hHeld ?_
          rotate_left
          · intro wq hSw; go_simp; all_goals (with_reducible rfl)
          try simp only [Act.put, List.setIfInBounds_toArray, List.set_cons_zero, List.set_cons_succ]
          refine wpAnyH_take (i := 13) (v := ?_) (by simp only [List.getElem?_toArray, List.getElem?_cons_succ, List.getElem?_cons_zero]; exact rfl) (by kernel_rfl) (by kernel_rfl) (by kernel_rfl) (by exact fun _ _ _ h => h) (Or.inl ⟨by rfl, ?_⟩) hHeld ?_
          rotate_left
          · intro wq hSw; have m3 := (hSw.cell (p := ⟨w.heap.size, 3, none⟩) hltr).trans X3.out; go_simp; all_goals (with_reducible rfl)
          try simp only [Act.put, List.setIfInBounds_toArray, List.set_cons_zero, List.set_cons_succ]
          refine wpAnyH_take (i := 14) (v := ?_) (by simp only [List.getElem?_toArray, List.getElem?_cons_succ, List.getElem?_cons_zero]; exact rfl) (by kernel_rfl) (by kernel_rfl) (by kernel_rfl) (by exact fun _ _ _ h => h) (Or.inl ⟨by rfl, ?_⟩) hHeld ?_
          rotate_left
          · intro wq hSw; go_simp; all_goals (with_reducible rfl)
          try simp only [Act.put, List.setIfInBounds_toArray, List.set_cons_zero, List.set_cons_succ]
          refine wpAnyH_take (i := 15) (v := ?_) (by simp only [List.getElem?_toArray, List.getElem?_cons_succ, List.getElem?_cons_zero]; exact rfl) (by kernel_rfl) (by kernel_rfl) (by kernel_rfl) (by exact fun _ _ _ h => h) (Or.inl ⟨by rfl, ?_⟩) hHeld ?_
          rotate_left
          · intro wq hSw; go_simp; all_goals (with_reducible rfl)
          try simp only [Act.put, List.setIfInBounds_toArray, List.set_cons_zero, List.set_cons_succ]
          refine wpAnyH_take (i := 16) (v := ?_) (by simp only [List.getElem?_toArray, List.getElem?_cons_succ, List.getElem?_cons_zero]; exact rfl) (by kernel_rfl) (by kernel_rfl) (by kernel_rfl) (by exact fun _ _ _ h => h) (Or.inl ⟨by rfl, ?_⟩) hHeld ?_
          rotate_left
          · intro wq hSw; go_simp; all_goals (with_reducible rfl)
          try simp only [Act.put, List.setIfInBounds_toArray, List.set_cons_zero, List.set_cons_succ]
          refine wpAnyH_take (i := 17) (v := ?_) (by simp only [List.getElem?_toArray, List.getElem?_cons_succ, List.getElem?_cons_zero]; exact rfl) (by kernel_rfl) (by kernel_rfl) (by kernel_rfl) (by exact fun _ _ _ h => h) (Or.inl ⟨by rfl, ?_⟩) hHeld ?_
          rotate_left
          · intro wq hSw; have k0 := (hSw.cell (p := ⟨b, off + k * 8, none⟩) hbr).trans C0.out; go_simp; all_goals (with_reducible rfl)
          try simp only [Act.put, List.setIfInBounds_toArray, List.set_cons_zero, List.set_cons_succ]
          refine wpAnyH_ready (rs := [18]) (by kernel_rfl) (by simp) ?_
          refine AllReadyH.cons (by simp only [List.getElem?_toArray, List.getElem?_cons_succ, List.getElem?_cons_zero]; exact rfl) (fun K hK => ?_) ?_
          · go_simp
            refine (rNamed_is (some ⟨b, off, none⟩) k c (rs.take k) r.nm nb HNB.out _ ((HTK.out.below (hb.trans (hHeld.mono hb.size))).more (hb.trans (hHeld.mono hb.size)).size)).mono ?_
            rintro e w5 ⟨rfl, hB5⟩
            show K _ _
            refine hK.out _ _ (hHeld.trans (hB5.mono hHeld.size)) (fun hHeld => ?_)
            clear hK K hB5
            try simp only [Act.put, List.setIfInBounds_toArray, List.set_cons_zero, List.set_cons_succ]
            refine wpAnyH_take (i := 19) (v := ?_) (by simp only [List.getElem?_toArray, List.getElem?_cons_succ, List.getElem?_cons_zero]; exact rfl) (by kernel_rfl) (by kernel_rfl) (by kernel_rfl) (by exact fun _ _ _ h => h) (Or.inl ⟨by rfl, ?_⟩) hHeld ?_
            rotate_left
            · intro wq hSw; go_simp; all_goals (with_reducible rfl)
            try simp only [Act.put, List.setIfInBounds_toArray, List.set_cons_zero, List.set_cons_succ]
            refine wpAnyH_done (by kernel_rfl) ?_ _
            rcases nb with _ | _
            · have HOK := Lib.hid (Lab.allTo_step HALL.out (show Lab.grAt rs k = true by rw [HAT.out]; rfl))
              go_wp2
              go_roundw
              case rel => exact ⟨k + 1, by omega, by go_num, HOK.out, hb1.trans (hHeld.mono hb1.size)⟩
              case measure => simp [intOf]; omega
            · have HB := Lib.hid (show Lab.grSane ⟨nm, iv, off0, some ⟨b, off, none⟩, n, c, rs⟩ = false by unfold Lab.grSane; rw [Lab.allTo_bad (by rw [HL.out]; exact hlt) (by rw [HAT.out]; rfl), Bool.and_false])
              go_wp2
              go_ret
              exact ⟨by rw [HB.out]; rfl, hb.trans (hHeld.mono hb.size)⟩
          · exact AllReadyH.nil
      · exact AllReadyH.nil
    · obtain rfl : k = n := by omega
      have hdk : decide (k < k) = false := decide_eq_false (by omega)
      obtain ⟨b1, h1⟩ : ∃ b, Lab.name nm = b := ⟨_, rfl⟩
      obtain ⟨b2, h2⟩ : ∃ b, Lab.durSane iv = b := ⟨_, rfl⟩
      have hhead := Lab.grHead_is (g := ⟨nm, iv, off0, RA, k, c, rs⟩) h1 h2 HL.out
      simp only at hhead
      have hs : Lab.grSane ⟨nm, iv, off0, RA, k, c, rs⟩ = (b1 && b2 && decide (iv ≠ 0) && decide (0 ≤ off0) && decide (off0 < iv) && decide (k ≤ 16)) := by
        unfold Lab.grSane
        simp only
        rw [hhead, HL.out, HALL.out, Bool.and_true]
      have hiv : b2 = true → (decide (iv ≠ 0) = decide (0 < iv)) := by
        intro hb2
        rw [hb2] at h2
        unfold Lab.durSane at h2
        rw [Bool.and_eq_true, decide_eq_true_eq] at h2
        rw [Bool.eq_iff_iff, decide_eq_true_eq, decide_eq_true_eq]
        have := h2.1
        omega
      have H1 := Lib.hid h1
      have H2 := Lib.hid h2
      have HNM := Lib.hid HH.out.2.2
      clear h1 h2 hhead
      rcases b1 with _ | _
      · have HS := Lib.hid (show Lab.grSane ⟨nm, iv, off0, RA, k, c, rs⟩ = false by rw [hs]; rfl)
        clear hs hiv
        go_wp2_with fail
        refine (rName_is _ HNM.out _ H1.out _).mono ?_
        rintro e w9 ⟨rfl, rfl⟩
        go_wp2
        go_ret
        exact ⟨by rw [HS.out]; rfl, hb⟩
      · rcases b2 with _ | _
        · have HS := Lib.hid (show Lab.grSane ⟨nm, iv, off0, RA, k, c, rs⟩ = false by rw [hs]; rfl)
          clear hs hiv
          go_wp2_with fail
          refine (rName_is _ HNM.out _ H1.out _).mono ?_
          rintro e w9 ⟨rfl, rfl⟩
          go_wp2_with fail
          refine (rDurSane_is _ _ H2.out _).mono ?_
          rintro e w9 ⟨rfl, rfl⟩
          go_wp2
          go_ret
          exact ⟨by rw [HS.out]; rfl, hb⟩
        · rw [hiv rfl] at hs
          have hk16 : decide (k ≤ 16) = decide ((k : Int) ≤ 16) := by rw [Bool.eq_iff_iff, decide_eq_true_eq, decide_eq_true_eq]; omega
          rw [hk16] at hs
          have hcase : (decide (0 < iv) = false ∧ Hid (Lab.grSane ⟨nm, iv, off0, RA, k, c, rs⟩ = false)) ∨ (decide (0 < iv) = true ∧ decide (0 ≤ off0) = false ∧ Hid (Lab.grSane ⟨nm, iv, off0, RA, k, c, rs⟩ = false)) ∨ (decide (0 < iv) = true ∧ decide (0 ≤ off0) = true ∧ decide (off0 < iv) = false ∧ Hid (Lab.grSane ⟨nm, iv, off0, RA, k, c, rs⟩ = false)) ∨
              (decide (0 < iv) = true ∧ decide (0 ≤ off0) = true ∧ decide (off0 < iv) = true ∧ decide ((k : Int) ≤ 16) = false ∧ Hid (Lab.grSane ⟨nm, iv, off0, RA, k, c, rs⟩ = false)) ∨ (decide (0 < iv) = true ∧ decide (0 ≤ off0) = true ∧ decide (off0 < iv) = true ∧ decide ((k : Int) ≤ 16) = true ∧ Hid (Lab.grSane ⟨nm, iv, off0, RA, k, c, rs⟩ = true)) := by
            unfold Hid
            rw [hs]
            cases decide (0 < iv) <;> cases decide (0 ≤ off0) <;> cases decide (off0 < iv) <;> cases decide ((k : Int) ≤ 16) <;> simp
          clear hs hiv hk16
          rcases hcase with ⟨d1, HS⟩ | ⟨d1, d2, HS⟩ | ⟨d1, d2, d3, HS⟩ | ⟨d1, d2, d3, d4, HS⟩ | ⟨d1, d2, d3, d4, HS⟩
          all_goals
            go_wp2_with fail
            refine (rName_is _ HNM.out _ H1.out _).mono ?_
            rintro e w9 ⟨rfl, rfl⟩
            go_wp2_with fail
            refine (rDurSane_is _ _ H2.out _).mono ?_
            rintro e w9 ⟨rfl, rfl⟩
            go_wp2
            go_ret
            exact ⟨by rw [HS.out]; rfl, hb⟩
theorem grSane_is (g : Lab.Gr) (bb : Bool) (hbb : Lab.grSane g = bb) (w : World) (h : GrIn w w.heap.size g) :
    Calls Try.prog 26 #[.agg #[.string g.nm, .int .i64 g.iv, .int .i64 g.off, .slice g.RA g.Rn g.Rc]] w fun e w' => e = .returned (.bool bb) ∧ Below w.heap.size w w' := by
  subst hbb
  exact grSane_any g w h
theorem rGroup_is (g : Lab.Gr) (bb : Bool) (hbb : Lab.grSane g = bb) (w : World) (h : GrIn w w.heap.size g) :
    Calls Try.prog 30 #[.agg #[.string g.nm, .int .i64 g.iv, .int .i64 g.off, .slice g.RA g.Rn g.Rc]] w fun e w' => e = .returned (.bool bb) ∧ Below w.heap.size w w' := by
  subst hbb
  exact rGroup_any g w h
end Go.Proofs.Ythjnhifaejoigaa
