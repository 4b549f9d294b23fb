/- The walks of file's Sane and of the reference's Sane. -/
import Derived.Test.YthjnhifaejoigaaLabH
namespace Go.Proofs.Ythjnhifaejoigaa
open Go.RowKit
set_option linter.unusedSimpArgs false
set_option linter.unusedVariables false

set_option maxRecDepth 100000 in
set_option maxHeartbeats 8000000 in
theorem fiSane_any (A : Option Addr) (n c : Nat) (gs : List Lab.Gr) (w : World) (h : FiIn w w.heap.size A n c gs) :
    Calls Try.prog 20 #[.slice A n c] w fun e w' => e = .returned (.bool (Lab.fiSane gs)) ∧ Below w.heap.size w w' := by
  have hl := h.1.1
  have HH := Lib.hid h
  by_cases h16 : 16 < n
  · have hd : decide ((16 : Int) < (n : Int)) = true := decide_eq_true (by omega)
    have HS := Lib.hid (show Lab.fiSane gs = false by unfold Lab.fiSane; rw [hl, decide_eq_false (by omega : ¬ n ≤ 16)]; rfl)
    clear h hl
    go_enter Try.func20, Try.ntmps20
    go_wp2
    go_ret
    exact ⟨by rw [HS.out]; rfl, Below.refl _ _⟩
  · have hd : decide ((16 : Int) < (n : Int)) = false := decide_eq_false (by omega)
    have HS := Lib.hid (show Lab.fiSane gs = Lab.allTo (Lab.fiAt gs) gs.length by unfold Lab.fiSane; rw [hl, decide_eq_true (by omega : n ≤ 16)]; rfl)
    have hn16 : n ≤ 16 := by omega
    have HL := Lib.hid hl
    clear h hl h16
    go_enter Try.func20, Try.ntmps20
    go_wp2
    go_loopw [10] (fun i wr => ∃ k : Nat, k ≤ n ∧ i = .int .i64 (k : Nat) ∧ Lab.allTo (Lab.fiAt gs) k = true ∧ Below w.heap.size w wr) (fun i _ => n - (intOf i).toNat)
    case atStart => exact ⟨0, Nat.zero_le _, rfl, rfl, Below.refl _ _⟩
    case round =>
      obtain ⟨k, hk, rfl, hall, hb⟩ := hrel
      have HALL := Lib.hid hall
      clear hall
      by_cases hlt : k < n
      · have hdk : decide (k < n) = true := decide_eq_true hlt
        obtain ⟨b, off, rfl, hbB, hcell⟩ := HH.out.1.at_ (show 0 < n by omega)
        obtain ⟨r, hp⟩ : ∃ r, gs[k]? = some r := ⟨_, List.getElem?_eq_getElem (by rw [HL.out]; exact hlt)⟩
        have c0 := (hb.cell (p := ⟨b, off + k * 4, none⟩) hbB).trans (hcell k r hp 0 _ rfl)
        have c1 := (hb.cell (p := ⟨b, off + k * 4 + 1, none⟩) hbB).trans (hcell k r hp 1 _ rfl)
        have c2 := (hb.cell (p := ⟨b, off + k * 4 + 2, none⟩) hbB).trans (hcell k r hp 2 _ rfl)
        have c3 := (hb.cell (p := ⟨b, off + k * 4 + 3, none⟩) hbB).trans (hcell k r hp 3 _ rfl)
        have hat := Lab.fiAt_is hp
        have HRI := Lib.hid (HH.out.2 r (List.mem_of_getElem? hp))
        have HTK := Lib.hid (HH.out.1.take (k := k) (by omega))
        have hbs := hb.size
        have hkc : k ≤ c := Nat.le_trans hk HH.out.1.2.1
        clear hcell hp
        obtain ⟨rb, hrb⟩ : ∃ b, Lab.grSane r = b := ⟨_, rfl⟩
        obtain ⟨nb, hnb⟩ : ∃ b, Lab.named ((gs.take k).map (·.nm)) r.nm = b := ⟨_, rfl⟩
        rw [hrb, hnb] at hat
        have HRB := Lib.hid hrb
        have HNB := Lib.hid hnb
        have HAT := Lib.hid hat
        clear hrb hnb hat
        go_wp2
        have hblk2 := Lib.hid (Mem.Blk.new wr 24 #[.string r.nm, .int .i64 r.iv, .int .i64 r.off, .slice r.RA r.Rn r.Rc])
        have hB2 : Below w.heap.size w (wr.alloc (.cells #[.string r.nm, .int .i64 r.iv, .int .i64 r.off, .slice r.RA r.Rn r.Rc] 24)) := hb.alloc hbs _
        have hlt2 : wr.heap.size < (wr.alloc (.cells #[.string r.nm, .int .i64 r.iv, .int .i64 r.off, .slice r.RA r.Rn r.Rc] 24)).heap.size := by simp
        generalize wr.alloc (.cells #[.string r.nm, .int .i64 r.iv, .int .i64 r.off, .slice r.RA r.Rn r.Rc] 24) = W2 at hblk2 hB2 hlt2 ⊢
        clear c0 c1 c2 c3
        refine wp_region_held_drew (S := fun W' => Below W2.heap.size W2 W') (by kernel_rfl) (Below.refl _ _).drew (fun hHeld => ?_)
        refine wpAnyH_take (i := 0) (v := ?_) (by simp only [List.getElem?_toArray, List.getElem?_cons_succ, List.getElem?_cons_zero]; exact rfl) (by kernel_rfl) (by kernel_rfl) (by kernel_rfl) (by exact fun _ _ _ h => h) (Or.inl ⟨by rfl, ?_⟩) hHeld ?_
        rotate_left
        · intro wq hSw; have k0 := (hSw.cell (p := ⟨wr.heap.size, 0, none⟩) hlt2).trans (hblk2.out.cell 0); have k1 := (hSw.cell (p := ⟨wr.heap.size, 1, none⟩) hlt2).trans (hblk2.out.cell 1); have k2 := (hSw.cell (p := ⟨wr.heap.size, 2, none⟩) hlt2).trans (hblk2.out.cell 2); have k3 := (hSw.cell (p := ⟨wr.heap.size, 3, none⟩) hlt2).trans (hblk2.out.cell 3); simp at k0 k1 k2 k3; go_simp; all_goals (with_reducible rfl)
        try simp only [Act.put, List.setIfInBounds_toArray, List.set_cons_zero, List.set_cons_succ]
        refine wpAnyH_ready (rs := [1]) (by kernel_rfl) (by simp) ?_
        refine AllReadyH.cons (by simp only [List.getElem?_toArray, List.getElem?_cons_succ, List.getElem?_cons_zero]; exact rfl) (fun K hK => ?_) ?_
        · go_simp
          refine (grSane_is r rb HRB.out _ ((HRI.out.below (hB2.trans (hHeld.mono hB2.size))).more (hB2.trans (hHeld.mono hB2.size)).size)).mono ?_
          rintro e w4 ⟨rfl, hB4⟩
          show K _ _
          refine hK.out _ _ (hHeld.trans (hB4.mono hHeld.size)) (fun hHeld => ?_)
          clear hK K hB4
          try simp only [Act.put, List.setIfInBounds_toArray, List.set_cons_zero, List.set_cons_succ]
          rcases rb with _ | _
          · have HB := Lib.hid (show Lab.fiSane gs = false by rw [HS.out]; exact Lab.allTo_bad (by rw [HL.out]; exact hlt) (by rw [HAT.out]; rfl))
            refine wpAnyH_take (i := 2) (v := ?_) (by simp only [List.getElem?_toArray, List.getElem?_cons_succ, List.getElem?_cons_zero]; exact rfl) (by kernel_rfl) (by kernel_rfl) (by kernel_rfl) (by exact fun _ _ _ h => h) (Or.inl ⟨by rfl, ?_⟩) hHeld ?_
            rotate_left
            · intro wq hSw; go_simp; all_goals (with_reducible rfl)
            try simp only [Act.put, List.setIfInBounds_toArray, List.set_cons_zero, List.set_cons_succ]
            refine wpAnyH_take (i := 3) (v := ?_) (by simp only [List.getElem?_toArray, List.getElem?_cons_succ, List.getElem?_cons_zero]; exact rfl) (by kernel_rfl) (by kernel_rfl) (by kernel_rfl) (by exact fun _ _ _ h => h) (Or.inl ⟨by rfl, ?_⟩) hHeld ?_
            rotate_left
            · intro wq hSw; go_simp; all_goals (with_reducible rfl)
            try simp only [Act.put, List.setIfInBounds_toArray, List.set_cons_zero, List.set_cons_succ]
            refine wpAnyH_take (i := 4) (v := undef) (by simp only [List.getElem?_toArray, List.getElem?_cons_succ, List.getElem?_cons_zero]; exact rfl) (by kernel_rfl) (by kernel_rfl) (by kernel_rfl) (by exact fun _ _ _ h => h) (Or.inr ⟨by rfl, rfl⟩) hHeld ?_
            try simp only [Act.put, List.setIfInBounds_toArray, List.set_cons_zero, List.set_cons_succ]
            refine wpAnyH_take (i := 5) (v := undef) (by simp only [List.getElem?_toArray, List.getElem?_cons_succ, List.getElem?_cons_zero]; exact rfl) (by kernel_rfl) (by kernel_rfl) (by kernel_rfl) (by exact fun _ _ _ h => h) (Or.inr ⟨by rfl, rfl⟩) hHeld ?_
            try simp only [Act.put, List.setIfInBounds_toArray, List.set_cons_zero, List.set_cons_succ]
            refine wpAnyH_take (i := 6) (v := undef) (by simp only [List.getElem?_toArray, List.getElem?_cons_succ, List.getElem?_cons_zero]; exact rfl) (by kernel_rfl) (by kernel_rfl) (by kernel_rfl) (by exact fun _ _ _ h => h) (Or.inr ⟨by rfl, rfl⟩) hHeld ?_
            try simp only [Act.put, List.setIfInBounds_toArray, List.set_cons_zero, List.set_cons_succ]
            refine wpAnyH_take (i := 7) (v := undef) (by simp only [List.getElem?_toArray, List.getElem?_cons_succ, List.getElem?_cons_zero]; exact rfl) (by kernel_rfl) (by kernel_rfl) (by kernel_rfl) (by exact fun _ _ _ h => h) (Or.inr ⟨by rfl, rfl⟩) hHeld ?_
            try simp only [Act.put, List.setIfInBounds_toArray, List.set_cons_zero, List.set_cons_succ]
            refine wpAnyH_take (i := 8) (v := undef) (by simp only [List.getElem?_toArray, List.getElem?_cons_succ, List.getElem?_cons_zero]; exact rfl) (by kernel_rfl) (by kernel_rfl) (by kernel_rfl) (by exact fun _ _ _ h => h) (Or.inr ⟨by rfl, rfl⟩) hHeld ?_
            try simp only [Act.put, List.setIfInBounds_toArray, List.set_cons_zero, List.set_cons_succ]
            refine wpAnyH_take (i := 9) (v := undef) (by simp only [List.getElem?_toArray, List.getElem?_cons_succ, List.getElem?_cons_zero]; exact rfl) (by kernel_rfl) (by kernel_rfl) (by kernel_rfl) (by exact fun _ _ _ h => h) (Or.inr ⟨by rfl, rfl⟩) hHeld ?_
            try simp only [Act.put, List.setIfInBounds_toArray, List.set_cons_zero, List.set_cons_succ]
            refine wpAnyH_take (i := 10) (v := ?_) (by simp only [List.getElem?_toArray, List.getElem?_cons_succ, List.getElem?_cons_zero]; exact rfl) (by kernel_rfl) (by kernel_rfl) (by kernel_rfl) (by exact fun _ _ _ h => h) (Or.inl ⟨by rfl, ?_⟩) hHeld ?_
            rotate_left
            · intro wq hSw; go_simp; all_goals (with_reducible rfl)
            try simp only [Act.put, List.setIfInBounds_toArray, List.set_cons_zero, List.set_cons_succ]
            refine wpAnyH_done (by kernel_rfl) ?_ _
            go_wp2
            go_ret
            exact ⟨by rw [HB.out]; rfl, hB2.trans (hHeld.mono hB2.size)⟩
          · skip
            refine wpAnyH_take (i := 2) (v := ?_) (by simp only [List.getElem?_toArray, List.getElem?_cons_succ, List.getElem?_cons_zero]; exact rfl) (by kernel_rfl) (by kernel_rfl) (by kernel_rfl) (by exact fun _ _ _ h => h) (Or.inl ⟨by rfl, ?_⟩) hHeld ?_
            rotate_left
            · intro wq hSw; go_simp; all_goals (with_reducible rfl)
            try simp only [Act.put, List.setIfInBounds_toArray, List.set_cons_zero, List.set_cons_succ]
            refine wpAnyH_take (i := 3) (v := ?_) (by simp only [List.getElem?_toArray, List.getElem?_cons_succ, List.getElem?_cons_zero]; exact rfl) (by kernel_rfl) (by kernel_rfl) (by kernel_rfl) (by exact fun _ _ _ h => h) (Or.inl ⟨by rfl, ?_⟩) hHeld ?_
            rotate_left
            · intro wq hSw; go_simp; all_goals (with_reducible rfl)
            try simp only [Act.put, List.setIfInBounds_toArray, List.set_cons_zero, List.set_cons_succ]
            refine wpAnyH_take (i := 4) (v := ?_) (by simp only [List.getElem?_toArray, List.getElem?_cons_succ, List.getElem?_cons_zero]; exact rfl) (by kernel_rfl) (by kernel_rfl) (by kernel_rfl) (by exact fun _ _ _ h => h) (Or.inl ⟨by rfl, ?_⟩) hHeld ?_
            rotate_left
            · intro wq hSw; go_simp; all_goals (with_reducible rfl)
            try simp only [Act.put, List.setIfInBounds_toArray, List.set_cons_zero, List.set_cons_succ]
            refine wpAnyH_take (i := 5) (v := ?_) (by simp only [List.getElem?_toArray, List.getElem?_cons_succ, List.getElem?_cons_zero]; exact rfl) (by kernel_rfl) (by kernel_rfl) (by kernel_rfl) (by exact fun _ _ _ h => h) (Or.inl ⟨by rfl, ?_⟩) hHeld ?_
            rotate_left
            · intro wq hSw; go_simp; all_goals (with_reducible rfl)
            try simp only [Act.put, List.setIfInBounds_toArray, List.set_cons_zero, List.set_cons_succ]
            refine wpAnyH_take (i := 6) (v := ?_) (by simp only [List.getElem?_toArray, List.getElem?_cons_succ, List.getElem?_cons_zero]; exact rfl) (by kernel_rfl) (by kernel_rfl) (by kernel_rfl) (by exact fun _ _ _ h => h) (Or.inl ⟨by rfl, ?_⟩) hHeld ?_
            rotate_left
            · intro wq hSw; go_simp; all_goals (with_reducible rfl)
            try simp only [Act.put, List.setIfInBounds_toArray, List.set_cons_zero, List.set_cons_succ]
            refine wpAnyH_take (i := 7) (v := ?_) (by simp only [List.getElem?_toArray, List.getElem?_cons_succ, List.getElem?_cons_zero]; exact rfl) (by kernel_rfl) (by kernel_rfl) (by kernel_rfl) (by exact fun _ _ _ h => h) (Or.inl ⟨by rfl, ?_⟩) hHeld ?_
            rotate_left
            · intro wq hSw; go_simp; all_goals (with_reducible rfl)
            try simp only [Act.put, List.setIfInBounds_toArray, List.set_cons_zero, List.set_cons_succ]
            refine wpAnyH_take (i := 8) (v := ?_) (by simp only [List.getElem?_toArray, List.getElem?_cons_succ, List.getElem?_cons_zero]; exact rfl) (by kernel_rfl) (by kernel_rfl) (by kernel_rfl) (by exact fun _ _ _ h => h) (Or.inl ⟨by rfl, ?_⟩) hHeld ?_
            rotate_left
            · intro wq hSw; have m0 := (hSw.cell (p := ⟨wr.heap.size, 0, none⟩) hlt2).trans (hblk2.out.cell 0); simp at m0; go_simp; all_goals (with_reducible rfl)
            try simp only [Act.put, List.setIfInBounds_toArray, List.set_cons_zero, List.set_cons_succ]
            refine wpAnyH_ready (rs := [9]) (by kernel_rfl) (by simp) ?_
            refine AllReadyH.cons (by simp only [List.getElem?_toArray, List.getElem?_cons_succ, List.getElem?_cons_zero]; exact rfl) (fun K hK => ?_) ?_
            · go_simp
              refine (hasGroup_is (some ⟨b, off, none⟩) k c (gs.take k) r.nm nb HNB.out _ ((HTK.out.below (hB2.trans (hHeld.mono hB2.size))).more (hB2.trans (hHeld.mono hB2.size)).size)).mono ?_
              rintro e w5 ⟨rfl, hB5⟩
              show K _ _
              refine hK.out _ _ (hHeld.trans (hB5.mono hHeld.size)) (fun hHeld => ?_)
              clear hK K hB5
              try simp only [Act.put, List.setIfInBounds_toArray, List.set_cons_zero, List.set_cons_succ]
              refine wpAnyH_take (i := 10) (v := ?_) (by simp only [List.getElem?_toArray, List.getElem?_cons_succ, List.getElem?_cons_zero]; exact rfl) (by kernel_rfl) (by kernel_rfl) (by kernel_rfl) (by exact fun _ _ _ h => h) (Or.inl ⟨by rfl, ?_⟩) hHeld ?_
              rotate_left
              · intro wq hSw; go_simp; all_goals (with_reducible rfl)
              try simp only [Act.put, List.setIfInBounds_toArray, List.set_cons_zero, List.set_cons_succ]
              refine wpAnyH_done (by kernel_rfl) ?_ _
              rcases nb with _ | _
              · have HOK := Lib.hid (Lab.allTo_step HALL.out (show Lab.fiAt gs k = true by rw [HAT.out]; rfl))
                go_wp2
                go_roundw
                case rel => exact ⟨k + 1, by omega, by go_num, HOK.out, hB2.trans (hHeld.mono hB2.size)⟩
                case measure => simp [intOf]; omega
              · have HB := Lib.hid (show Lab.fiSane gs = false by rw [HS.out]; exact Lab.allTo_bad (by rw [HL.out]; exact hlt) (by rw [HAT.out]; rfl))
                go_wp2
                go_ret
                exact ⟨by rw [HB.out]; rfl, hB2.trans (hHeld.mono hB2.size)⟩
            · exact AllReadyH.nil
        · exact AllReadyH.nil
      · obtain rfl : k = n := by omega
        have hdk : decide (k < k) = false := decide_eq_false (by omega)
        go_wp2
        go_ret
        exact ⟨by rw [HS.out, HL.out, HALL.out]; rfl, hb⟩

set_option maxRecDepth 100000 in
set_option maxHeartbeats 8000000 in
theorem rFiSane_any (A : Option Addr) (n c : Nat) (gs : List Lab.Gr) (w : World) (h : FiIn w w.heap.size A n c gs) :
    Calls Try.prog 25 #[.slice A n c] w fun e w' => e = .returned (.bool (Lab.fiSane gs)) ∧ Below w.heap.size w w' := by
  have hl := h.1.1
  have hcap := Nat.le_trans h.1.2.1 h.1.2.2.1
  have HH := Lib.hid h
  have HL := Lib.hid hl
  clear h hl
  go_enter Try.func25, Try.ntmps25
  go_wp2
  go_loopw [3] (fun i wr => ∃ k : Nat, k ≤ n ∧ i = .int .i64 (k : Nat) ∧ Lab.allTo (Lab.fiAt gs) k = true ∧ Below w.heap.size w wr) (fun i _ => n - (intOf i).toNat)
  case atStart => exact ⟨0, Nat.zero_le _, rfl, rfl, Below.refl _ _⟩
  case round =>
    obtain ⟨k, hk, rfl, hall, hb⟩ := hrel
    have HALL := Lib.hid hall
    clear hall
    by_cases hlt : k < n
    · have hdk : decide (k < n) = true := decide_eq_true hlt
      obtain ⟨b, off, rfl, hbB, hcell⟩ := HH.out.1.at_ (show 0 < n by omega)
      obtain ⟨r, hp⟩ : ∃ r, gs[k]? = some r := ⟨_, List.getElem?_eq_getElem (by rw [HL.out]; exact hlt)⟩
      have C0 := Lib.hid ((hb.cell (p := ⟨b, off + k * 4, none⟩) hbB).trans (hcell k r hp 0 _ rfl))
      have C1 := Lib.hid ((hb.cell (p := ⟨b, off + k * 4 + 1, none⟩) hbB).trans (hcell k r hp 1 _ rfl))
      have C2 := Lib.hid ((hb.cell (p := ⟨b, off + k * 4 + 2, none⟩) hbB).trans (hcell k r hp 2 _ rfl))
      have C3 := Lib.hid ((hb.cell (p := ⟨b, off + k * 4 + 3, none⟩) hbB).trans (hcell k r hp 3 _ rfl))
      have hbr : b < wr.heap.size := Nat.lt_of_lt_of_le hbB hb.size
      have hat := Lab.fiAt_is hp
      have HRI := Lib.hid (HH.out.2 r (List.mem_of_getElem? hp))
      have HTK := Lib.hid (HH.out.1.take (k := k) (by omega))
      have hbs := hb.size
      have hkc : k ≤ c := Nat.le_trans hk HH.out.1.2.1
      clear hcell hp
      obtain ⟨rb, hrb⟩ : ∃ b, Lab.grSane r = b := ⟨_, rfl⟩
      obtain ⟨nb, hnb⟩ : ∃ b, Lab.named ((gs.take k).map (·.nm)) r.nm = b := ⟨_, rfl⟩
      rw [hrb, hnb] at hat
      have HRB := Lib.hid hrb
      have HNB := Lib.hid hnb
      have HAT := Lib.hid hat
      clear hrb hnb hat
      go_wp2
      refine wp_region_held_drew (S := fun W' => Below wr.heap.size wr W') (by kernel_rfl) (Below.refl _ _).drew (fun hHeld => ?_)
      refine wpAnyH_take (i := 0) (v := ?_) (by simp only [List.getElem?_toArray, List.getElem?_cons_succ, List.getElem?_cons_zero]; exact rfl) (by kernel_rfl) (by kernel_rfl) (by kernel_rfl) (by exact fun _ _ _ h => h) (Or.inl ⟨by rfl, ?_⟩) hHeld ?_
      rotate_left
      · intro wq hSw; go_simp; all_goals (with_reducible rfl)
      try simp only [Act.put, List.setIfInBounds_toArray, List.set_cons_zero, List.set_cons_succ]
      refine wpAnyH_take (i := 1) (v := ?_) (by simp only [List.getElem?_toArray, List.getElem?_cons_succ, List.getElem?_cons_zero]; exact rfl) (by kernel_rfl) (by kernel_rfl) (by kernel_rfl) (by exact fun _ _ _ h => h) (Or.inl ⟨by rfl, ?_⟩) hHeld ?_
      rotate_left
      · intro wq hSw; go_simp; all_goals (with_reducible rfl)
      try simp only [Act.put, List.setIfInBounds_toArray, List.set_cons_zero, List.set_cons_succ]
      refine wpAnyH_take (i := 2) (v := ?_) (by simp only [List.getElem?_toArray, List.getElem?_cons_succ, List.getElem?_cons_zero]; exact rfl) (by kernel_rfl) (by kernel_rfl) (by kernel_rfl) (by exact fun _ _ _ h => h) (Or.inl ⟨by rfl, ?_⟩) hHeld ?_
      rotate_left
      · intro wq hSw; go_simp; all_goals (with_reducible rfl)
      try simp only [Act.put, List.setIfInBounds_toArray, List.set_cons_zero, List.set_cons_succ]
      refine wpAnyH_take (i := 3) (v := ?_) (by simp only [List.getElem?_toArray, List.getElem?_cons_succ, List.getElem?_cons_zero]; exact rfl) (by kernel_rfl) (by kernel_rfl) (by kernel_rfl) (by exact fun _ _ _ h => h) (Or.inl ⟨by rfl, ?_⟩) hHeld ?_
      rotate_left
      · intro wq hSw; have k0 := (hSw.cell (p := ⟨b, off + k * 4, none⟩) hbr).trans C0.out; have k1 := (hSw.cell (p := ⟨b, off + k * 4 + 1, none⟩) hbr).trans C1.out; have k2 := (hSw.cell (p := ⟨b, off + k * 4 + 2, none⟩) hbr).trans C2.out; have k3 := (hSw.cell (p := ⟨b, off + k * 4 + 3, none⟩) hbr).trans C3.out; go_simp; all_goals (with_reducible rfl)
      try simp only [Act.put, List.setIfInBounds_toArray, List.set_cons_zero, List.set_cons_succ]
      refine wpAnyH_ready (rs := [4]) (by kernel_rfl) (by simp) ?_
      refine AllReadyH.cons (by simp only [List.getElem?_toArray, List.getElem?_cons_succ, List.getElem?_cons_zero]; exact rfl) (fun K hK => ?_) ?_
      · go_simp
        refine (rGroup_is r rb HRB.out _ ((HRI.out.below (hb.trans (hHeld.mono hb.size))).more (hb.trans (hHeld.mono hb.size)).size)).mono ?_
        rintro e w4 ⟨rfl, hB4⟩
        show K _ _
        refine hK.out _ _ (hHeld.trans (hB4.mono hHeld.size)) (fun hHeld => ?_)
        clear hK K hB4
        try simp only [Act.put, List.setIfInBounds_toArray, List.set_cons_zero, List.set_cons_succ]
        rcases rb with _ | _
        · have HB := Lib.hid (show Lab.fiSane gs = false by unfold Lab.fiSane; rw [Lab.allTo_bad (by rw [HL.out]; exact hlt) (by rw [HAT.out]; rfl), Bool.and_false])
          refine wpAnyH_take (i := 5) (v := ?_) (by simp only [List.getElem?_toArray, List.getElem?_cons_succ, List.getElem?_cons_zero]; exact rfl) (by kernel_rfl) (by kernel_rfl) (by kernel_rfl) (by exact fun _ _ _ h => h) (Or.inl ⟨by rfl, ?_⟩) hHeld ?_
          rotate_left
          · intro wq hSw; go_simp; all_goals (with_reducible rfl)
          try simp only [Act.put, List.setIfInBounds_toArray, List.set_cons_zero, List.set_cons_succ]
          refine wpAnyH_take (i := 6) (v := ?_) (by simp only [List.getElem?_toArray, List.getElem?_cons_succ, List.getElem?_cons_zero]; exact rfl) (by kernel_rfl) (by kernel_rfl) (by kernel_rfl) (by exact fun _ _ _ h => h) (Or.inl ⟨by rfl, ?_⟩) hHeld ?_
          rotate_left
          · intro wq hSw; go_simp; all_goals (with_reducible rfl)
          try simp only [Act.put, List.setIfInBounds_toArray, List.set_cons_zero, List.set_cons_succ]
          refine wpAnyH_take (i := 7) (v := undef) (by simp only [List.getElem?_toArray, List.getElem?_cons_succ, List.getElem?_cons_zero]; exact rfl) (by kernel_rfl) (by kernel_rfl) (by kernel_rfl) (by exact fun _ _ _ h => h) (Or.inr ⟨by rfl, rfl⟩) hHeld ?_
          try simp only [Act.put, List.setIfInBounds_toArray, List.set_cons_zero, List.set_cons_succ]
          refine wpAnyH_take (i := 8) (v := undef) (by simp only [List.getElem?_toArray, List.getElem?_cons_succ, List.getElem?_cons_zero]; exact rfl) (by kernel_rfl) (by kernel_rfl) (by kernel_rfl) (by exact fun _ _ _ h => h) (Or.inr ⟨by rfl, rfl⟩) hHeld ?_
          try simp only [Act.put, List.setIfInBounds_toArray, List.set_cons_zero, List.set_cons_succ]
          refine wpAnyH_take (i := 9) (v := undef) (by simp only [List.getElem?_toArray, List.getElem?_cons_succ, List.getElem?_cons_zero]; exact rfl) (by kernel_rfl) (by kernel_rfl) (by kernel_rfl) (by exact fun _ _ _ h => h) (Or.inr ⟨by rfl, rfl⟩) hHeld ?_
          try simp only [Act.put, List.setIfInBounds_toArray, List.set_cons_zero, List.set_cons_succ]
          refine wpAnyH_take (i := 10) (v := undef) (by simp only [List.getElem?_toArray, List.getElem?_cons_succ, List.getElem?_cons_zero]; exact rfl) (by kernel_rfl) (by kernel_rfl) (by kernel_rfl) (by exact fun _ _ _ h => h) (Or.inr ⟨by rfl, rfl⟩) hHeld ?_
          try simp only [Act.put, List.setIfInBounds_toArray, List.set_cons_zero, List.set_cons_succ]
          refine wpAnyH_take (i := 11) (v := undef) (by simp only [List.getElem?_toArray, List.getElem?_cons_succ, List.getElem?_cons_zero]; exact rfl) (by kernel_rfl) (by kernel_rfl) (by kernel_rfl) (by exact fun _ _ _ h => h) (Or.inr ⟨by rfl, rfl⟩) hHeld ?_
          try simp only [Act.put, List.setIfInBounds_toArray, List.set_cons_zero, List.set_cons_succ]
          refine wpAnyH_take (i := 12) (v := undef) (by simp only [List.getElem?_toArray, List.getElem?_cons_succ, List.getElem?_cons_zero]; exact rfl) (by kernel_rfl) (by kernel_rfl) (by kernel_rfl) (by exact fun _ _ _ h => h) (Or.inr ⟨by rfl, rfl⟩) hHeld ?_
          try simp only [Act.put, List.setIfInBounds_toArray, List.set_cons_zero, List.set_cons_succ]
          refine wpAnyH_take (i := 13) (v := undef) (by simp only [List.getElem?_toArray, List.getElem?_cons_succ, List.getElem?_cons_zero]; exact rfl) (by kernel_rfl) (by kernel_rfl) (by kernel_rfl) (by exact fun _ _ _ h => h) (Or.inr ⟨by rfl, rfl⟩) hHeld ?_
          try simp only [Act.put, List.setIfInBounds_toArray, List.set_cons_zero, List.set_cons_succ]
          refine wpAnyH_take (i := 14) (v := undef) (by simp only [List.getElem?_toArray, List.getElem?_cons_succ, List.getElem?_cons_zero]; exact rfl) (by kernel_rfl) (by kernel_rfl) (by kernel_rfl) (by exact fun _ _ _ h => h) (Or.inr ⟨by rfl, rfl⟩) hHeld ?_
          try simp only [Act.put, List.setIfInBounds_toArray, List.set_cons_zero, List.set_cons_succ]
          refine wpAnyH_take (i := 15) (v := undef) (by simp only [List.getElem?_toArray, List.getElem?_cons_succ, List.getElem?_cons_zero]; exact rfl) (by kernel_rfl) (by kernel_rfl) (by kernel_rfl) (by exact fun _ _ _ h => h) (Or.inr ⟨by rfl, rfl⟩) hHeld ?_
          try simp only [Act.put, List.setIfInBounds_toArray, List.set_cons_zero, List.set_cons_succ]
          refine wpAnyH_take (i := 16) (v := ?_) (by simp only [List.getElem?_toArray, List.getElem?_cons_succ, List.getElem?_cons_zero]; exact rfl) (by kernel_rfl) (by kernel_rfl) (by kernel_rfl) (by exact fun _ _ _ h => h) (Or.inl ⟨by rfl, ?_⟩) hHeld ?_
          rotate_left
          · intro wq hSw; go_simp; all_goals (with_reducible rfl)
          try simp only [Act.put, List.setIfInBounds_toArray, List.set_cons_zero, List.set_cons_succ]
          refine wpAnyH_done (by kernel_rfl) ?_ _
          go_wp2
          go_ret
          exact ⟨by rw [HB.out]; rfl, hb.trans (hHeld.mono hb.size)⟩
        · skip
          refine wpAnyH_take (i := 5) (v := ?_) (by simp only [List.getElem?_toArray, List.getElem?_cons_succ, List.getElem?_cons_zero]; exact rfl) (by kernel_rfl) (by kernel_rfl) (by kernel_rfl) (by exact fun _ _ _ h => h) (Or.inl ⟨by rfl, ?_⟩) hHeld ?_
          rotate_left
          · intro wq hSw; go_simp; all_goals (with_reducible rfl)
          try simp only [Act.put, List.setIfInBounds_toArray, List.set_cons_zero, List.set_cons_succ]
          refine wpAnyH_take (i := 6) (v := ?_) (by simp only [List.getElem?_toArray, List.getElem?_cons_succ, List.getElem?_cons_zero]; exact rfl) (by kernel_rfl) (by kernel_rfl) (by kernel_rfl) (by exact fun _ _ _ h => h) (Or.inl ⟨by rfl, ?_⟩) hHeld ?_
          rotate_left
          · intro wq hSw; go_simp; all_goals (with_reducible rfl)
          try simp only [Act.put, List.setIfInBounds_toArray, List.set_cons_zero, List.set_cons_succ]
          refine wpAnyH_take (i := 7) (v := ?_) (by simp only [List.getElem?_toArray, List.getElem?_cons_succ, List.getElem?_cons_zero]; exact rfl) (by kernel_rfl) (by kernel_rfl) (by kernel_rfl) (by exact fun _ _ _ h => h) (Or.inl ⟨by rfl, ?_⟩) hHeld ?_
          rotate_left
          · intro wq hSw; go_simp; all_goals (with_reducible rfl)
          try simp only [Act.put, List.setIfInBounds_toArray, List.set_cons_zero, List.set_cons_succ]
          refine wpAnyH_take (i := 8) (v := ?_) (by simp only [List.getElem?_toArray, List.getElem?_cons_succ, List.getElem?_cons_zero]; exact rfl) (by kernel_rfl) (by kernel_rfl) (by kernel_rfl) (by exact fun _ _ _ h => h) (Or.inl ⟨by rfl, ?_⟩) hHeld ?_
          rotate_left
          · intro wq hSw; go_simp; all_goals (with_reducible rfl)
          try simp only [Act.put, List.setIfInBounds_toArray, List.set_cons_zero, List.set_cons_succ]
          refine wpAnyH_take (i := 9) (v := ?_) (by simp only [List.getElem?_toArray, List.getElem?_cons_succ, List.getElem?_cons_zero]; exact rfl) (by kernel_rfl) (by kernel_rfl) (by kernel_rfl) (by exact fun _ _ _ h => h) (Or.inl ⟨by rfl, ?_⟩) hHeld ?_
          rotate_left
          · intro wq hSw; go_simp; all_goals (with_reducible rfl)
          try simp only [Act.put, List.setIfInBounds_toArray, List.set_cons_zero, List.set_cons_succ]
          refine wpAnyH_take (i := 10) (v := ?_) (by simp only [List.getElem?_toArray, List.getElem?_cons_succ, List.getElem?_cons_zero]; exact rfl) (by kernel_rfl) (by kernel_rfl) (by kernel_rfl) (by exact fun _ _ _ h => h) (Or.inl ⟨by rfl, ?_⟩) hHeld ?_
          rotate_left
          · intro wq hSw; go_simp; all_goals (with_reducible rfl)
          try simp only [Act.put, List.setIfInBounds_toArray, List.set_cons_zero, List.set_cons_succ]
          refine wpAnyH_take (i := 11) (v := ?_) (by simp only [List.getElem?_toArray, List.getElem?_cons_succ, List.getElem?_cons_zero]; exact rfl) (by kernel_rfl) (by kernel_rfl) (by kernel_rfl) (by exact fun _ _ _ h => h) (Or.inl ⟨by rfl, ?_⟩) hHeld ?_
          rotate_left
          · intro wq hSw; go_simp; all_goals (with_reducible rfl)
          try simp only [Act.put, List.setIfInBounds_toArray, List.set_cons_zero, List.set_cons_succ]
          refine wpAnyH_take (i := 12) (v := ?_) (by simp only [List.getElem?_toArray, List.getElem?_cons_succ, List.getElem?_cons_zero]; exact rfl) (by kernel_rfl) (by kernel_rfl) (by kernel_rfl) (by exact fun _ _ _ h => h) (Or.inl ⟨by rfl, ?_⟩) hHeld ?_
          rotate_left
          · intro wq hSw; go_simp; all_goals (with_reducible rfl)
          try simp only [Act.put, List.setIfInBounds_toArray, List.set_cons_zero, List.set_cons_succ]
          refine wpAnyH_take (i := 13) (v := ?_) (by simp only [List.getElem?_toArray, List.getElem?_cons_succ, List.getElem?_cons_zero]; exact rfl) (by kernel_rfl) (by kernel_rfl) (by kernel_rfl) (by exact fun _ _ _ h => h) (Or.inl ⟨by rfl, ?_⟩) hHeld ?_
          rotate_left
          · intro wq hSw; go_simp; all_goals (with_reducible rfl)
          try simp only [Act.put, List.setIfInBounds_toArray, List.set_cons_zero, List.set_cons_succ]
          refine wpAnyH_take (i := 14) (v := ?_) (by simp only [List.getElem?_toArray, List.getElem?_cons_succ, List.getElem?_cons_zero]; exact rfl) (by kernel_rfl) (by kernel_rfl) (by kernel_rfl) (by exact fun _ _ _ h => h) (Or.inl ⟨by rfl, ?_⟩) hHeld ?_
          rotate_left
          · intro wq hSw; have k0 := (hSw.cell (p := ⟨b, off + k * 4, none⟩) hbr).trans C0.out; go_simp; all_goals (with_reducible rfl)
          try simp only [Act.put, List.setIfInBounds_toArray, List.set_cons_zero, List.set_cons_succ]
          refine wpAnyH_ready (rs := [15]) (by kernel_rfl) (by simp) ?_
          refine AllReadyH.cons (by simp only [List.getElem?_toArray, List.getElem?_cons_succ, List.getElem?_cons_zero]; exact rfl) (fun K hK => ?_) ?_
          · go_simp
            refine (rHas_is (some ⟨b, off, none⟩) k c (gs.take k) r.nm nb HNB.out _ ((HTK.out.below (hb.trans (hHeld.mono hb.size))).more (hb.trans (hHeld.mono hb.size)).size)).mono ?_
            rintro e w5 ⟨rfl, hB5⟩
            show K _ _
            refine hK.out _ _ (hHeld.trans (hB5.mono hHeld.size)) (fun hHeld => ?_)
            clear hK K hB5
            try simp only [Act.put, List.setIfInBounds_toArray, List.set_cons_zero, List.set_cons_succ]
            refine wpAnyH_take (i := 16) (v := ?_) (by simp only [List.getElem?_toArray, List.getElem?_cons_succ, List.getElem?_cons_zero]; exact rfl) (by kernel_rfl) (by kernel_rfl) (by kernel_rfl) (by exact fun _ _ _ h => h) (Or.inl ⟨by rfl, ?_⟩) hHeld ?_
            rotate_left
            · intro wq hSw; go_simp; all_goals (with_reducible rfl)
            try simp only [Act.put, List.setIfInBounds_toArray, List.set_cons_zero, List.set_cons_succ]
            refine wpAnyH_done (by kernel_rfl) ?_ _
            rcases nb with _ | _
            · have HOK := Lib.hid (Lab.allTo_step HALL.out (show Lab.fiAt gs k = true by rw [HAT.out]; rfl))
              go_wp2
              go_roundw
              case rel => exact ⟨k + 1, by omega, by go_num, HOK.out, hb.trans (hHeld.mono hb.size)⟩
              case measure => simp [intOf]; omega
            · have HB := Lib.hid (show Lab.fiSane gs = false by unfold Lab.fiSane; rw [Lab.allTo_bad (by rw [HL.out]; exact hlt) (by rw [HAT.out]; rfl), Bool.and_false])
              go_wp2
              go_ret
              exact ⟨by rw [HB.out]; rfl, hb.trans (hHeld.mono hb.size)⟩
          · exact AllReadyH.nil
      · exact AllReadyH.nil
    · obtain rfl : k = n := by omega
      have hdk : decide (k < k) = false := decide_eq_false (by omega)
      have HS := Lib.hid (show Lab.fiSane gs = decide (k ≤ 16) by unfold Lab.fiSane; rw [HL.out, HALL.out, Bool.and_true])
      by_cases h16 : k ≤ 16
      · have hd : decide ((k : Int) ≤ 16) = true := decide_eq_true (by omega)
        go_wp2
        go_ret
        exact ⟨by rw [HS.out, decide_eq_true h16]; rfl, hb⟩
      · have hd : decide ((k : Int) ≤ 16) = false := decide_eq_false (by omega)
        go_wp2
        go_ret
        exact ⟨by rw [HS.out, decide_eq_false h16]; rfl, hb⟩
theorem fiSane_is (A : Option Addr) (n c : Nat) (gs : List Lab.Gr) (bb : Bool) (hbb : Lab.fiSane gs = bb) (w : World) (h : FiIn w w.heap.size A n c gs) :
    Calls Try.prog 20 #[.slice A n c] w fun e w' => e = .returned (.bool bb) ∧ Below w.heap.size w w' := by
  subst hbb
  exact fiSane_any A n c gs w h
theorem rFiSane_is (A : Option Addr) (n c : Nat) (gs : List Lab.Gr) (bb : Bool) (hbb : Lab.fiSane gs = bb) (w : World) (h : FiIn w w.heap.size A n c gs) :
    Calls Try.prog 25 #[.slice A n c] w fun e w' => e = .returned (.bool bb) ∧ Below w.heap.size w w' := by
  subst hbb
  exact rFiSane_any A n c gs w h
end Go.Proofs.Ythjnhifaejoigaa
