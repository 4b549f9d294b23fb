/- The walk of CondIs. -/
import Derived.Test.YtbdochcajpempaaDoorCondL
namespace Go.Proofs.YtbdochcajpempaaDoor
open Go.RowKit
set_option linter.unusedSimpArgs false
set_option linter.unusedVariables false

set_option maxRecDepth 100000 in
set_option maxHeartbeats 16000000 in
theorem condIs_any (nm : ByteArray) (hnms : nm.size ≤ 9223372036854775807) (A : Option Addr) (n c : Nat) (ms : List Lab.Mt) (op v : Int) (B : Option Addr) (n2 c2 : Nat) (ts : List Sel.Tk) (x y z : Int) (hsz : ∀ t ∈ ts, t.2.2.size ≤ 4611686018427387904) (w : World) (hG : CGlob w)
    (hM : Mts w w.heap.size A n c ms) (hT : Tks w w.heap.size B n2 c2 ts) :
    Calls Tryd.prog 3 #[.agg #[.string nm, .slice A n c, .int .i64 op, .int .i64 v], .slice B n2 c2, .int .i64 x, .int .i64 y, .int .i64 z] w fun e w' => LawR w e w' := by
  have HM := Lib.hid hM
  have HT := Lib.hid hT
  have HG := Lib.hid hG
  rcases hps : Cond.parse ts x with ⟨⟨nm1, ms1, op1, v1⟩, j1, e1⟩
  have HPS := Lib.hid hps
  clear hM hT hps hG
  go_enter Tryd.func3, Tryd.ntmps3
  go_wp2_with fail
  have hB1 := (Below.refl w.heap.size w).alloc (Nat.le_refl _) (.cells #[.string nm, .slice A n c, .int .i64 op, .int .i64 v] 26)
  have hblk := (Mem.Blk.new w 26 #[.string nm, .slice A n c, .int .i64 op, .int .i64 v])
  have hlt1 : w.heap.size < (w.alloc (.cells #[.string nm, .slice A n c, .int .i64 op, .int .i64 v] 26)).heap.size := by simp
  have hsz1 : w.heap.size ≤ (w.alloc (.cells #[.string nm, .slice A n c, .int .i64 op, .int .i64 v] 26)).heap.size := by simp
  obtain ⟨W1, hW1⟩ : ∃ W1, W1 = w.alloc (.cells #[.string nm, .slice A n c, .int .i64 op, .int .i64 v] 26) := ⟨_, rfl⟩
  rw [← hW1] at hB1 hblk hlt1 hsz1 ⊢
  clear hW1
  have HBLK := Lib.hid hblk
  clear hblk
  have HM := Lib.hid ((HM.out.below hB1).more hsz1)
  have HT := Lib.hid ((HT.out.below hB1).more hsz1)
  have HG := Lib.hid (HG.out.below hB1)
  refine (awake_any W1 HG.out).mono ?_
  rintro e w2 ⟨rfl, hC2⟩
  have u0 := (hC2.cell (p := ⟨w.heap.size, 0, none⟩) hlt1).trans (HBLK.out.cell 0)
  have u1 := (hC2.cell (p := ⟨w.heap.size, 1, none⟩) hlt1).trans (HBLK.out.cell 1)
  have u2 := (hC2.cell (p := ⟨w.heap.size, 2, none⟩) hlt1).trans (HBLK.out.cell 2)
  have u3 := (hC2.cell (p := ⟨w.heap.size, 3, none⟩) hlt1).trans (HBLK.out.cell 3)
  simp at u0 u1 u2 u3
  go_wp2_with fail
  refine (fewS_any nm A n c ms w2 (HM.out.later hC2)).mono ?_
  rintro e w3 ⟨few, rfl, -, hb3⟩
  have hC3 := hC2.trans (hb3.mono hC2.size)
  rcases few with _ | _
  · go_wp2
    go_ret
    exact ⟨rfl, hB1.trans (hC3.mono hB1.size)⟩
  go_wp2_with fail
  refine (short_any B n2 c2 ts w3 (HT.out.later hC3)).mono ?_
  rintro e w4 ⟨few, rfl, -, hb4⟩
  have hC4 := hC3.trans (hb4.mono hC3.size)
  rcases few with _ | _
  · go_wp2
    go_ret
    exact ⟨rfl, hB1.trans (hC4.mono hB1.size)⟩
  clear u0 u1 u2 u3
  go_wp2_with fail
  refine (cparse_is B n2 c2 x ts nm1 ms1 op1 v1 j1 e1 HPS.out hsz w4 (HG.out.below hC4).1 (HT.out.later hC4)).mono ?_
  rintro e w6 ⟨A6, n6, c6, rfl, hM6, hb6⟩
  have ha6 := (Below.refl w6.heap.size w6).alloc (Nat.le_refl _) (.cells #[.string nm1, .slice A6 n6 c6, .int .i64 op1, .int .i64 v1] 26)
  have hbl6 := Mem.Blk.new w6 26 #[.string nm1, .slice A6 n6 c6, .int .i64 op1, .int .i64 v1]
  have hC7 := (hC4.trans (hb6.mono hC4.size)).trans (ha6.mono (hC4.trans (hb6.mono hC4.size)).size)
  have hM7 := hM6.later ha6
  have hl6 : w6.heap.size < (w6.alloc (.cells #[.string nm1, .slice A6 n6 c6, .int .i64 op1, .int .i64 v1] 26)).heap.size := by simp
  clear hM6 ha6
  go_wp2_with fail
  generalize w6.alloc (.cells #[.string nm1, .slice A6 n6 c6, .int .i64 op1, .int .i64 v1] 26) = w7 at hbl6 hC7 hM7 hl6 ⊢
  refine (rcparse_is B n2 c2 x ts nm1 ms1 op1 v1 j1 e1 HPS.out hsz w7 (HT.out.later hC7)).mono ?_
  rintro e w8 ⟨A8, n8, c8, rfl, hM8, hb8⟩
  have ha8 := (Below.refl w8.heap.size w8).alloc (Nat.le_refl _) (.cells #[.string nm1, .slice A8 n8 c8, .int .i64 op1, .int .i64 v1] 26)
  have hbl8 := Mem.Blk.new w8 26 #[.string nm1, .slice A8 n8 c8, .int .i64 op1, .int .i64 v1]
  have hb89 := hb8.trans (ha8.mono hb8.size)
  have hC9 := hC7.trans (hb89.mono hC7.size)
  have hM9 := hM8.later ha8
  have hM7 := hM7.later hb89
  have hbl6 := hbl6.below hb89 hl6
  have hl8 : w8.heap.size < (w8.alloc (.cells #[.string nm1, .slice A8 n8 c8, .int .i64 op1, .int .i64 v1] 26)).heap.size := by simp
  have hl6 := Nat.lt_of_lt_of_le hl6 hb89.size
  clear hM8 ha8 hb8 hb89
  go_wp2
  generalize w8.alloc (.cells #[.string nm1, .slice A8 n8 c8, .int .i64 op1, .int .i64 v1] 26) = w9 at hbl6 hbl8 hC9 hM7 hM9 hl6 hl8 ⊢
  have hl1 : w.heap.size < w9.heap.size := Nat.lt_of_lt_of_le hlt1 hC9.size
  have U0 := Lib.hid ((hC9.cell (p := ⟨w.heap.size, 0, none⟩) hlt1).trans (HBLK.out.cell 0))
  have U1 := Lib.hid ((hC9.cell (p := ⟨w.heap.size, 1, none⟩) hlt1).trans (HBLK.out.cell 1))
  have U2 := Lib.hid ((hC9.cell (p := ⟨w.heap.size, 2, none⟩) hlt1).trans (HBLK.out.cell 2))
  have U3 := Lib.hid ((hC9.cell (p := ⟨w.heap.size, 3, none⟩) hlt1).trans (HBLK.out.cell 3))
  have HBA := Lib.hid hbl6
  have HBB := Lib.hid hbl8
  have HMS := Lib.hid (HM.out.later hC9)
  have HMA := Lib.hid hM7
  have HMB := Lib.hid hM9
  have HG9 := Lib.hid (HG.out.below hC9)
  have hB9 := hB1.trans (hC9.mono hB1.size)
  obtain ⟨bs, hbs⟩ : ∃ b, Cond.sane nm ms op v = b := ⟨_, rfl⟩
  obtain ⟨bh, hbh⟩ : ∃ b, Cond.holds op y z = b := ⟨_, rfl⟩
  obtain ⟨rn, hrn⟩ : ∃ b, Cond.not_ op = b := ⟨_, rfl⟩
  obtain ⟨q, hq⟩ : ∃ b, Cond.print nm ms op v = b := ⟨_, rfl⟩
  have HBS := Lib.hid hbs
  have HBH := Lib.hid hbh
  have HRN := Lib.hid hrn
  have HQ := Lib.hid hq
  clear hbl6 hbl8 hM7 hM9 hC9 hC7 hC4 hC3 hC2 hb3 hb4 hb6 hbs hbh hrn hq
  refine wp_region_held_drew (S := fun W' => Below w9.heap.size w9 W') (by kernel_rfl) (Below.refl _ _).drew (fun hHeld => ?_)
  refine wpAnyH_take (i := 0) (v := ?_) (by simp only [List.getElem?_toArray, List.getElem?_cons_succ, List.getElem?_cons_zero]; exact rfl) (by kernel_rfl) (by kernel_rfl) (by kernel_rfl) (by exact fun _ _ _ h => h) (Or.inl ⟨by rfl, ?_⟩) hHeld ?_
  rotate_left
  · intro wq hSw; go_simp; all_goals (with_reducible rfl)
  try simp only [Act.put, List.setIfInBounds_toArray, List.set_cons_zero, List.set_cons_succ]
  refine wpAnyH_take (i := 1) (v := ?_) (by simp only [List.getElem?_toArray, List.getElem?_cons_succ, List.getElem?_cons_zero]; exact rfl) (by kernel_rfl) (by kernel_rfl) (by kernel_rfl) (by exact fun _ _ _ h => h) (Or.inl ⟨by rfl, ?_⟩) hHeld ?_
  rotate_left
  · intro wq hSw; go_simp; all_goals (with_reducible rfl)
  try simp only [Act.put, List.setIfInBounds_toArray, List.set_cons_zero, List.set_cons_succ]
  refine wpAnyH_take (i := 2) (v := ?_) (by simp only [List.getElem?_toArray, List.getElem?_cons_succ, List.getElem?_cons_zero]; exact rfl) (by kernel_rfl) (by kernel_rfl) (by kernel_rfl) (by exact fun _ _ _ h => h) (Or.inl ⟨by rfl, ?_⟩) hHeld ?_
  rotate_left
  · intro wq hSw; have k0 := (hSw.cell (p := ⟨w.heap.size, 0, none⟩) hl1).trans U0.out; have k1 := (hSw.cell (p := ⟨w.heap.size, 1, none⟩) hl1).trans U1.out; have k2 := (hSw.cell (p := ⟨w.heap.size, 2, none⟩) hl1).trans U2.out; have k3 := (hSw.cell (p := ⟨w.heap.size, 3, none⟩) hl1).trans U3.out; simp at k0 k1 k2 k3; go_simp; all_goals (with_reducible rfl)
  try simp only [Act.put, List.setIfInBounds_toArray, List.set_cons_zero, List.set_cons_succ]
  refine wpAnyH_take (i := 4) (v := ?_) (by simp only [List.getElem?_toArray, List.getElem?_cons_succ, List.getElem?_cons_zero]; exact rfl) (by kernel_rfl) (by kernel_rfl) (by kernel_rfl) (by exact fun _ _ _ h => h) (Or.inl ⟨by rfl, ?_⟩) hHeld ?_
  rotate_left
  · intro wq hSw; have k0 := (hSw.cell (p := ⟨w.heap.size, 0, none⟩) hl1).trans U0.out; have k1 := (hSw.cell (p := ⟨w.heap.size, 1, none⟩) hl1).trans U1.out; have k2 := (hSw.cell (p := ⟨w.heap.size, 2, none⟩) hl1).trans U2.out; have k3 := (hSw.cell (p := ⟨w.heap.size, 3, none⟩) hl1).trans U3.out; simp at k0 k1 k2 k3; go_simp; all_goals (with_reducible rfl)
  try simp only [Act.put, List.setIfInBounds_toArray, List.set_cons_zero, List.set_cons_succ]
  refine wpAnyH_ready (rs := [3]) (by kernel_rfl) (by simp) ?_
  refine AllReadyH.cons (by simp only [List.getElem?_toArray, List.getElem?_cons_succ, List.getElem?_cons_zero]; exact rfl) (fun K hK => ?_) ?_
  · go_simp
    refine (cSane_any nm A n c ms op v bs HBS.out _ (HMS.out.later hHeld)).mono ?_
    rintro e w10 ⟨rfl, hb10⟩
    show K _ _
    refine hK.out _ _ (hHeld.trans (hb10.mono hHeld.size)) (fun hHeld => ?_)
    clear hK K
    try simp only [Act.put, List.setIfInBounds_toArray, List.set_cons_zero, List.set_cons_succ]
    refine wpAnyH_ready (rs := [5]) (by kernel_rfl) (by simp) ?_
    refine AllReadyH.cons (by simp only [List.getElem?_toArray, List.getElem?_cons_succ, List.getElem?_cons_zero]; exact rfl) (fun K hK => ?_) ?_
    · go_simp
      refine (rcSane_any nm hnms A n c ms op v bs HBS.out _ (HMS.out.later hHeld)).mono ?_
      rintro e w11 ⟨rfl, hb11⟩
      show K _ _
      refine hK.out _ _ (hHeld.trans (hb11.mono hHeld.size)) (fun hHeld => ?_)
      clear hK K
      try simp only [Act.put, List.setIfInBounds_toArray, List.set_cons_zero, List.set_cons_succ]
      refine wpAnyH_take (i := 6) (v := ?_) (by simp only [List.getElem?_toArray, List.getElem?_cons_succ, List.getElem?_cons_zero]; exact rfl) (by kernel_rfl) (by kernel_rfl) (by kernel_rfl) (by exact fun _ _ _ h => h) (Or.inl ⟨by rfl, ?_⟩) hHeld ?_
      rotate_left
      · intro wq hSw; go_simp; all_goals (with_reducible rfl)
      try simp only [Act.put, List.setIfInBounds_toArray, List.set_cons_zero, List.set_cons_succ]
      refine wpAnyH_take (i := 7) (v := ?_) (by simp only [List.getElem?_toArray, List.getElem?_cons_succ, List.getElem?_cons_zero]; exact rfl) (by kernel_rfl) (by kernel_rfl) (by kernel_rfl) (by exact fun _ _ _ h => h) (Or.inl ⟨by rfl, ?_⟩) hHeld ?_
      rotate_left
      · intro wq hSw; go_simp; all_goals (with_reducible rfl)
      try simp only [Act.put, List.setIfInBounds_toArray, List.set_cons_zero, List.set_cons_succ]
      refine wpAnyH_take (i := 8) (v := ?_) (by simp only [List.getElem?_toArray, List.getElem?_cons_succ, List.getElem?_cons_zero]; exact rfl) (by kernel_rfl) (by kernel_rfl) (by kernel_rfl) (by exact fun _ _ _ h => h) (Or.inl ⟨by rfl, ?_⟩) hHeld ?_
      rotate_left
      · intro wq hSw; go_simp; all_goals (with_reducible rfl)
      try simp only [Act.put, List.setIfInBounds_toArray, List.set_cons_zero, List.set_cons_succ]
      refine wpAnyH_take (i := 9) (v := ?_) (by simp only [List.getElem?_toArray, List.getElem?_cons_succ, List.getElem?_cons_zero]; exact rfl) (by kernel_rfl) (by kernel_rfl) (by kernel_rfl) (by exact fun _ _ _ h => h) (Or.inl ⟨by rfl, ?_⟩) hHeld ?_
      rotate_left
      · intro wq hSw; go_simp; all_goals (with_reducible rfl)
      try simp only [Act.put, List.setIfInBounds_toArray, List.set_cons_zero, List.set_cons_succ]
      refine wpAnyH_take (i := 10) (v := ?_) (by simp only [List.getElem?_toArray, List.getElem?_cons_succ, List.getElem?_cons_zero]; exact rfl) (by kernel_rfl) (by kernel_rfl) (by kernel_rfl) (by exact fun _ _ _ h => h) (Or.inl ⟨by rfl, ?_⟩) hHeld ?_
      rotate_left
      · intro wq hSw; have k0 := (hSw.cell (p := ⟨w.heap.size, 0, none⟩) hl1).trans U0.out; have k1 := (hSw.cell (p := ⟨w.heap.size, 1, none⟩) hl1).trans U1.out; have k2 := (hSw.cell (p := ⟨w.heap.size, 2, none⟩) hl1).trans U2.out; have k3 := (hSw.cell (p := ⟨w.heap.size, 3, none⟩) hl1).trans U3.out; simp at k0 k1 k2 k3; go_simp; all_goals (with_reducible rfl)
      try simp only [Act.put, List.setIfInBounds_toArray, List.set_cons_zero, List.set_cons_succ]
      refine wpAnyH_take (i := 11) (v := ?_) (by simp only [List.getElem?_toArray, List.getElem?_cons_succ, List.getElem?_cons_zero]; exact rfl) (by kernel_rfl) (by kernel_rfl) (by kernel_rfl) (by exact fun _ _ _ h => h) (Or.inl ⟨by rfl, ?_⟩) hHeld ?_
      rotate_left
      · intro wq hSw; go_simp; all_goals (with_reducible rfl)
      try simp only [Act.put, List.setIfInBounds_toArray, List.set_cons_zero, List.set_cons_succ]
      refine wpAnyH_take (i := 12) (v := ?_) (by simp only [List.getElem?_toArray, List.getElem?_cons_succ, List.getElem?_cons_zero]; exact rfl) (by kernel_rfl) (by kernel_rfl) (by kernel_rfl) (by exact fun _ _ _ h => h) (Or.inl ⟨by rfl, ?_⟩) hHeld ?_
      rotate_left
      · intro wq hSw; go_simp; all_goals (with_reducible rfl)
      try simp only [Act.put, List.setIfInBounds_toArray, List.set_cons_zero, List.set_cons_succ]
      refine wpAnyH_take (i := 14) (v := ?_) (by simp only [List.getElem?_toArray, List.getElem?_cons_succ, List.getElem?_cons_zero]; exact rfl) (by kernel_rfl) (by kernel_rfl) (by kernel_rfl) (by exact fun _ _ _ h => h) (Or.inl ⟨by rfl, ?_⟩) hHeld ?_
      rotate_left
      · intro wq hSw; go_simp; all_goals (with_reducible rfl)
      try simp only [Act.put, List.setIfInBounds_toArray, List.set_cons_zero, List.set_cons_succ]
      refine wpAnyH_take (i := 15) (v := ?_) (by simp only [List.getElem?_toArray, List.getElem?_cons_succ, List.getElem?_cons_zero]; exact rfl) (by kernel_rfl) (by kernel_rfl) (by kernel_rfl) (by exact fun _ _ _ h => h) (Or.inl ⟨by rfl, ?_⟩) hHeld ?_
      rotate_left
      · intro wq hSw; have k0 := (hSw.cell (p := ⟨w.heap.size, 0, none⟩) hl1).trans U0.out; have k1 := (hSw.cell (p := ⟨w.heap.size, 1, none⟩) hl1).trans U1.out; have k2 := (hSw.cell (p := ⟨w.heap.size, 2, none⟩) hl1).trans U2.out; have k3 := (hSw.cell (p := ⟨w.heap.size, 3, none⟩) hl1).trans U3.out; simp at k0 k1 k2 k3; go_simp; all_goals (with_reducible rfl)
      try simp only [Act.put, List.setIfInBounds_toArray, List.set_cons_zero, List.set_cons_succ]
      refine wpAnyH_take (i := 16) (v := ?_) (by simp only [List.getElem?_toArray, List.getElem?_cons_succ, List.getElem?_cons_zero]; exact rfl) (by kernel_rfl) (by kernel_rfl) (by kernel_rfl) (by exact fun _ _ _ h => h) (Or.inl ⟨by rfl, ?_⟩) hHeld ?_
      rotate_left
      · intro wq hSw; go_simp; all_goals (with_reducible rfl)
      try simp only [Act.put, List.setIfInBounds_toArray, List.set_cons_zero, List.set_cons_succ]
      refine wpAnyH_take (i := 17) (v := ?_) (by simp only [List.getElem?_toArray, List.getElem?_cons_succ, List.getElem?_cons_zero]; exact rfl) (by kernel_rfl) (by kernel_rfl) (by kernel_rfl) (by exact fun _ _ _ h => h) (Or.inl ⟨by rfl, ?_⟩) hHeld ?_
      rotate_left
      · intro wq hSw; go_simp; all_goals (with_reducible rfl)
      try simp only [Act.put, List.setIfInBounds_toArray, List.set_cons_zero, List.set_cons_succ]
      refine wpAnyH_ready (rs := [13]) (by kernel_rfl) (by simp) ?_
      refine AllReadyH.cons (by simp only [List.getElem?_toArray, List.getElem?_cons_succ, List.getElem?_cons_zero]; exact rfl) (fun K hK => ?_) ?_
      · go_simp
        refine (holds_is op y z bh HBH.out _).mono ?_
        rintro e w12 ⟨rfl, rfl⟩
        show K _ _
        refine hK.out _ _ hHeld (fun hHeld => ?_)
        clear hK K
        try simp only [Act.put, List.setIfInBounds_toArray, List.set_cons_zero, List.set_cons_succ]
        refine wpAnyH_ready (rs := [18]) (by kernel_rfl) (by simp) ?_
        refine AllReadyH.cons (by simp only [List.getElem?_toArray, List.getElem?_cons_succ, List.getElem?_cons_zero]; exact rfl) (fun K hK => ?_) ?_
        · go_simp
          refine (rHolds_is op y z bh HBH.out _).mono ?_
          rintro e w13 ⟨rfl, rfl⟩
          show K _ _
          refine hK.out _ _ hHeld (fun hHeld => ?_)
          clear hK K
          try simp only [Act.put, List.setIfInBounds_toArray, List.set_cons_zero, List.set_cons_succ]
          refine wpAnyH_take (i := 19) (v := ?_) (by simp only [List.getElem?_toArray, List.getElem?_cons_succ, List.getElem?_cons_zero]; exact rfl) (by kernel_rfl) (by kernel_rfl) (by kernel_rfl) (by exact fun _ _ _ h => h) (Or.inl ⟨by rfl, ?_⟩) hHeld ?_
          rotate_left
          · intro wq hSw; go_simp; all_goals (with_reducible rfl)
          try simp only [Act.put, List.setIfInBounds_toArray, List.set_cons_zero, List.set_cons_succ]
          refine wpAnyH_take (i := 20) (v := ?_) (by simp only [List.getElem?_toArray, List.getElem?_cons_succ, List.getElem?_cons_zero]; exact rfl) (by kernel_rfl) (by kernel_rfl) (by kernel_rfl) (by exact fun _ _ _ h => h) (Or.inl ⟨by rfl, ?_⟩) hHeld ?_
          rotate_left
          · intro wq hSw; go_simp; all_goals (with_reducible rfl)
          try simp only [Act.put, List.setIfInBounds_toArray, List.set_cons_zero, List.set_cons_succ]
          refine wpAnyH_take (i := 21) (v := ?_) (by simp only [List.getElem?_toArray, List.getElem?_cons_succ, List.getElem?_cons_zero]; exact rfl) (by kernel_rfl) (by kernel_rfl) (by kernel_rfl) (by exact fun _ _ _ h => h) (Or.inl ⟨by rfl, ?_⟩) hHeld ?_
          rotate_left
          · intro wq hSw; go_simp; all_goals (with_reducible rfl)
          try simp only [Act.put, List.setIfInBounds_toArray, List.set_cons_zero, List.set_cons_succ]
          refine wpAnyH_take (i := 22) (v := ?_) (by simp only [List.getElem?_toArray, List.getElem?_cons_succ, List.getElem?_cons_zero]; exact rfl) (by kernel_rfl) (by kernel_rfl) (by kernel_rfl) (by exact fun _ _ _ h => h) (Or.inl ⟨by rfl, ?_⟩) hHeld ?_
          rotate_left
          · intro wq hSw; go_simp; all_goals (with_reducible rfl)
          try simp only [Act.put, List.setIfInBounds_toArray, List.set_cons_zero, List.set_cons_succ]
          refine wpAnyH_take (i := 23) (v := ?_) (by simp only [List.getElem?_toArray, List.getElem?_cons_succ, List.getElem?_cons_zero]; exact rfl) (by kernel_rfl) (by kernel_rfl) (by kernel_rfl) (by exact fun _ _ _ h => h) (Or.inl ⟨by rfl, ?_⟩) hHeld ?_
          rotate_left
          · intro wq hSw; have k0 := (hSw.cell (p := ⟨w.heap.size, 0, none⟩) hl1).trans U0.out; have k1 := (hSw.cell (p := ⟨w.heap.size, 1, none⟩) hl1).trans U1.out; have k2 := (hSw.cell (p := ⟨w.heap.size, 2, none⟩) hl1).trans U2.out; have k3 := (hSw.cell (p := ⟨w.heap.size, 3, none⟩) hl1).trans U3.out; simp at k0 k1 k2 k3; go_simp; all_goals (with_reducible rfl)
          try simp only [Act.put, List.setIfInBounds_toArray, List.set_cons_zero, List.set_cons_succ]
          refine wpAnyH_take (i := 25) (v := ?_) (by simp only [List.getElem?_toArray, List.getElem?_cons_succ, List.getElem?_cons_zero]; exact rfl) (by kernel_rfl) (by kernel_rfl) (by kernel_rfl) (by exact fun _ _ _ h => h) (Or.inl ⟨by rfl, ?_⟩) hHeld ?_
          rotate_left
          · intro wq hSw; go_simp; all_goals (with_reducible rfl)
          try simp only [Act.put, List.setIfInBounds_toArray, List.set_cons_zero, List.set_cons_succ]
          refine wpAnyH_take (i := 26) (v := ?_) (by simp only [List.getElem?_toArray, List.getElem?_cons_succ, List.getElem?_cons_zero]; exact rfl) (by kernel_rfl) (by kernel_rfl) (by kernel_rfl) (by exact fun _ _ _ h => h) (Or.inl ⟨by rfl, ?_⟩) hHeld ?_
          rotate_left
          · intro wq hSw; have k0 := (hSw.cell (p := ⟨w.heap.size, 0, none⟩) hl1).trans U0.out; have k1 := (hSw.cell (p := ⟨w.heap.size, 1, none⟩) hl1).trans U1.out; have k2 := (hSw.cell (p := ⟨w.heap.size, 2, none⟩) hl1).trans U2.out; have k3 := (hSw.cell (p := ⟨w.heap.size, 3, none⟩) hl1).trans U3.out; simp at k0 k1 k2 k3; go_simp; all_goals (with_reducible rfl)
          try simp only [Act.put, List.setIfInBounds_toArray, List.set_cons_zero, List.set_cons_succ]
          refine wpAnyH_ready (rs := [24]) (by kernel_rfl) (by simp) ?_
          refine AllReadyH.cons (by simp only [List.getElem?_toArray, List.getElem?_cons_succ, List.getElem?_cons_zero]; exact rfl) (fun K hK => ?_) ?_
          · go_simp
            refine (not_is op rn HRN.out _).mono ?_
            rintro e w14 ⟨rfl, rfl⟩
            show K _ _
            refine hK.out _ _ hHeld (fun hHeld => ?_)
            clear hK K
            try simp only [Act.put, List.setIfInBounds_toArray, List.set_cons_zero, List.set_cons_succ]
            refine wpAnyH_ready (rs := [27]) (by kernel_rfl) (by simp) ?_
            refine AllReadyH.cons (by simp only [List.getElem?_toArray, List.getElem?_cons_succ, List.getElem?_cons_zero]; exact rfl) (fun K hK => ?_) ?_
            · go_simp
              refine (rNot_is op rn HRN.out _).mono ?_
              rintro e w15 ⟨rfl, rfl⟩
              show K _ _
              refine hK.out _ _ hHeld (fun hHeld => ?_)
              clear hK K
              try simp only [Act.put, List.setIfInBounds_toArray, List.set_cons_zero, List.set_cons_succ]
              refine wpAnyH_take (i := 28) (v := ?_) (by simp only [List.getElem?_toArray, List.getElem?_cons_succ, List.getElem?_cons_zero]; exact rfl) (by kernel_rfl) (by kernel_rfl) (by kernel_rfl) (by exact fun _ _ _ h => h) (Or.inl ⟨by rfl, ?_⟩) hHeld ?_
              rotate_left
              · intro wq hSw; go_simp; all_goals (with_reducible rfl)
              try simp only [Act.put, List.setIfInBounds_toArray, List.set_cons_zero, List.set_cons_succ]
              refine wpAnyH_take (i := 29) (v := ?_) (by simp only [List.getElem?_toArray, List.getElem?_cons_succ, List.getElem?_cons_zero]; exact rfl) (by kernel_rfl) (by kernel_rfl) (by kernel_rfl) (by exact fun _ _ _ h => h) (Or.inl ⟨by rfl, ?_⟩) hHeld ?_
              rotate_left
              · intro wq hSw; go_simp; all_goals (with_reducible rfl)
              try simp only [Act.put, List.setIfInBounds_toArray, List.set_cons_zero, List.set_cons_succ]
              refine wpAnyH_take (i := 30) (v := ?_) (by simp only [List.getElem?_toArray, List.getElem?_cons_succ, List.getElem?_cons_zero]; exact rfl) (by kernel_rfl) (by kernel_rfl) (by kernel_rfl) (by exact fun _ _ _ h => h) (Or.inl ⟨by rfl, ?_⟩) hHeld ?_
              rotate_left
              · intro wq hSw; go_simp; all_goals (with_reducible rfl)
              try simp only [Act.put, List.setIfInBounds_toArray, List.set_cons_zero, List.set_cons_succ]
              refine wpAnyH_take (i := 31) (v := ?_) (by simp only [List.getElem?_toArray, List.getElem?_cons_succ, List.getElem?_cons_zero]; exact rfl) (by kernel_rfl) (by kernel_rfl) (by kernel_rfl) (by exact fun _ _ _ h => h) (Or.inl ⟨by rfl, ?_⟩) hHeld ?_
              rotate_left
              · intro wq hSw; have k0 := (hSw.cell (p := ⟨w.heap.size, 0, none⟩) hl1).trans U0.out; have k1 := (hSw.cell (p := ⟨w.heap.size, 1, none⟩) hl1).trans U1.out; have k2 := (hSw.cell (p := ⟨w.heap.size, 2, none⟩) hl1).trans U2.out; have k3 := (hSw.cell (p := ⟨w.heap.size, 3, none⟩) hl1).trans U3.out; simp at k0 k1 k2 k3; go_simp; all_goals (with_reducible rfl)
              try simp only [Act.put, List.setIfInBounds_toArray, List.set_cons_zero, List.set_cons_succ]
              refine wpAnyH_take (i := 33) (v := ?_) (by simp only [List.getElem?_toArray, List.getElem?_cons_succ, List.getElem?_cons_zero]; exact rfl) (by kernel_rfl) (by kernel_rfl) (by kernel_rfl) (by exact fun _ _ _ h => h) (Or.inl ⟨by rfl, ?_⟩) hHeld ?_
              rotate_left
              · intro wq hSw; have k0 := (hSw.cell (p := ⟨w.heap.size, 0, none⟩) hl1).trans U0.out; have k1 := (hSw.cell (p := ⟨w.heap.size, 1, none⟩) hl1).trans U1.out; have k2 := (hSw.cell (p := ⟨w.heap.size, 2, none⟩) hl1).trans U2.out; have k3 := (hSw.cell (p := ⟨w.heap.size, 3, none⟩) hl1).trans U3.out; simp at k0 k1 k2 k3; go_simp; all_goals (with_reducible rfl)
              try simp only [Act.put, List.setIfInBounds_toArray, List.set_cons_zero, List.set_cons_succ]
              refine wpAnyH_ready (rs := [32]) (by kernel_rfl) (by simp) ?_
              refine AllReadyH.cons (by simp only [List.getElem?_toArray, List.getElem?_cons_succ, List.getElem?_cons_zero]; exact rfl) (fun K hK => ?_) ?_
              · go_simp
                refine (cprint_is nm A n c ms op v q HQ.out _ (HG9.out.below hHeld) (HMS.out.later hHeld)).mono ?_
                rintro e w16 ⟨rfl, hb16⟩
                show K _ _
                refine hK.out _ _ (hHeld.trans (hb16.mono hHeld.size)) (fun hHeld => ?_)
                clear hK K
                try simp only [Act.put, List.setIfInBounds_toArray, List.set_cons_zero, List.set_cons_succ]
                refine wpAnyH_ready (rs := [34]) (by kernel_rfl) (by simp) ?_
                refine AllReadyH.cons (by simp only [List.getElem?_toArray, List.getElem?_cons_succ, List.getElem?_cons_zero]; exact rfl) (fun K hK => ?_) ?_
                · go_simp
                  refine (rcprint_is nm hnms A n c ms op v q HQ.out _ (HMS.out.later hHeld)).mono ?_
                  rintro e w17 ⟨rfl, hb17⟩
                  show K _ _
                  refine hK.out _ _ (hHeld.trans (hb17.mono hHeld.size)) (fun hHeld => ?_)
                  clear hK K
                  try simp only [Act.put, List.setIfInBounds_toArray, List.set_cons_zero, List.set_cons_succ]
                  refine wpAnyH_take (i := 35) (v := ?_) (by simp only [List.getElem?_toArray, List.getElem?_cons_succ, List.getElem?_cons_zero]; exact rfl) (by kernel_rfl) (by kernel_rfl) (by kernel_rfl) (by exact fun _ _ _ h => h) (Or.inl ⟨by rfl, ?_⟩) hHeld ?_
                  rotate_left
                  · intro wq hSw; go_simp; all_goals (with_reducible rfl)
                  try simp only [Act.put, List.setIfInBounds_toArray, List.set_cons_zero, List.set_cons_succ]
                  refine wpAnyH_take (i := 36) (v := ?_) (by simp only [List.getElem?_toArray, List.getElem?_cons_succ, List.getElem?_cons_zero]; exact rfl) (by kernel_rfl) (by kernel_rfl) (by kernel_rfl) (by exact fun _ _ _ h => h) (Or.inl ⟨by rfl, ?_⟩) hHeld ?_
                  rotate_left
                  · intro wq hSw; go_simp; all_goals (with_reducible rfl)
                  try simp only [Act.put, List.setIfInBounds_toArray, List.set_cons_zero, List.set_cons_succ]
                  refine wpAnyH_take (i := 37) (v := ?_) (by simp only [List.getElem?_toArray, List.getElem?_cons_succ, List.getElem?_cons_zero]; exact rfl) (by kernel_rfl) (by kernel_rfl) (by kernel_rfl) (by exact fun _ _ _ h => h) (Or.inl ⟨by rfl, ?_⟩) hHeld ?_
                  rotate_left
                  · intro wq hSw; go_simp; all_goals (with_reducible rfl)
                  try simp only [Act.put, List.setIfInBounds_toArray, List.set_cons_zero, List.set_cons_succ]
                  refine wpAnyH_take (i := 38) (v := ?_) (by simp only [List.getElem?_toArray, List.getElem?_cons_succ, List.getElem?_cons_zero]; exact rfl) (by kernel_rfl) (by kernel_rfl) (by kernel_rfl) (by exact fun _ _ _ h => h) (Or.inl ⟨by rfl, ?_⟩) hHeld ?_
                  rotate_left
                  · intro wq hSw; have k0 := (hSw.cell (p := ⟨w6.heap.size, 0, none⟩) hl6).trans (HBA.out.cell 0); have k1 := (hSw.cell (p := ⟨w6.heap.size, 1, none⟩) hl6).trans (HBA.out.cell 1); have k2 := (hSw.cell (p := ⟨w6.heap.size, 2, none⟩) hl6).trans (HBA.out.cell 2); have k3 := (hSw.cell (p := ⟨w6.heap.size, 3, none⟩) hl6).trans (HBA.out.cell 3); simp at k0 k1 k2 k3; go_simp; all_goals (with_reducible rfl)
                  try simp only [Act.put, List.setIfInBounds_toArray, List.set_cons_zero, List.set_cons_succ]
                  refine wpAnyH_take (i := 39) (v := ?_) (by simp only [List.getElem?_toArray, List.getElem?_cons_succ, List.getElem?_cons_zero]; exact rfl) (by kernel_rfl) (by kernel_rfl) (by kernel_rfl) (by exact fun _ _ _ h => h) (Or.inl ⟨by rfl, ?_⟩) hHeld ?_
                  rotate_left
                  · intro wq hSw; have k0 := (hSw.cell (p := ⟨w8.heap.size, 0, none⟩) hl8).trans (HBB.out.cell 0); have k1 := (hSw.cell (p := ⟨w8.heap.size, 1, none⟩) hl8).trans (HBB.out.cell 1); have k2 := (hSw.cell (p := ⟨w8.heap.size, 2, none⟩) hl8).trans (HBB.out.cell 2); have k3 := (hSw.cell (p := ⟨w8.heap.size, 3, none⟩) hl8).trans (HBB.out.cell 3); simp at k0 k1 k2 k3; go_simp; all_goals (with_reducible rfl)
                  try simp only [Act.put, List.setIfInBounds_toArray, List.set_cons_zero, List.set_cons_succ]
                  refine wpAnyH_ready (rs := [40]) (by kernel_rfl) (by simp) ?_
                  refine AllReadyH.cons (by simp only [List.getElem?_toArray, List.getElem?_cons_succ, List.getElem?_cons_zero]; exact rfl) (fun K hK => ?_) ?_
                  · go_simp
                    refine (csame_is nm1 nm1 A6 A8 n6 c6 n8 c8 ms1 ms1 op1 op1 v1 v1 true (Cond.same_self _ _ _ _) _ (HMA.out.later hHeld) (HMB.out.later hHeld)).mono ?_
                    rintro e w18 ⟨rfl, hb18⟩
                    show K _ _
                    refine hK.out _ _ (hHeld.trans (hb18.mono hHeld.size)) (fun hHeld => ?_)
                    clear hK K
                    try simp only [Act.put, List.setIfInBounds_toArray, List.set_cons_zero, List.set_cons_succ]
                    refine wpAnyH_take (i := 41) (v := ?_) (by simp only [List.getElem?_toArray, List.getElem?_cons_succ, List.getElem?_cons_zero]; exact rfl) (by kernel_rfl) (by kernel_rfl) (by kernel_rfl) (by exact fun _ _ _ h => h) (Or.inl ⟨by rfl, ?_⟩) hHeld ?_
                    rotate_left
                    · intro wq hSw; go_simp; all_goals (with_reducible rfl)
                    try simp only [Act.put, List.setIfInBounds_toArray, List.set_cons_zero, List.set_cons_succ]
                    refine wpAnyH_take (i := 42) (v := ?_) (by simp only [List.getElem?_toArray, List.getElem?_cons_succ, List.getElem?_cons_zero]; exact rfl) (by kernel_rfl) (by kernel_rfl) (by kernel_rfl) (by exact fun _ _ _ h => h) (Or.inl ⟨by rfl, ?_⟩) hHeld ?_
                    rotate_left
                    · intro wq hSw; go_simp; all_goals (with_reducible rfl)
                    try simp only [Act.put, List.setIfInBounds_toArray, List.set_cons_zero, List.set_cons_succ]
                    refine wpAnyH_take (i := 43) (v := ?_) (by simp only [List.getElem?_toArray, List.getElem?_cons_succ, List.getElem?_cons_zero]; exact rfl) (by kernel_rfl) (by kernel_rfl) (by kernel_rfl) (by exact fun _ _ _ h => h) (Or.inl ⟨by rfl, ?_⟩) hHeld ?_
                    rotate_left
                    · intro wq hSw; go_simp; all_goals (with_reducible rfl)
                    try simp only [Act.put, List.setIfInBounds_toArray, List.set_cons_zero, List.set_cons_succ]
                    refine wpAnyH_take (i := 44) (v := ?_) (by simp only [List.getElem?_toArray, List.getElem?_cons_succ, List.getElem?_cons_zero]; exact rfl) (by kernel_rfl) (by kernel_rfl) (by kernel_rfl) (by exact fun _ _ _ h => h) (Or.inl ⟨by rfl, ?_⟩) hHeld ?_
                    rotate_left
                    · intro wq hSw; go_simp; all_goals (with_reducible rfl)
                    try simp only [Act.put, List.setIfInBounds_toArray, List.set_cons_zero, List.set_cons_succ]
                    refine wpAnyH_take (i := 45) (v := ?_) (by simp only [List.getElem?_toArray, List.getElem?_cons_succ, List.getElem?_cons_zero]; exact rfl) (by kernel_rfl) (by kernel_rfl) (by kernel_rfl) (by exact fun _ _ _ h => h) (Or.inl ⟨by rfl, ?_⟩) hHeld ?_
                    rotate_left
                    · intro wq hSw; go_simp; all_goals (with_reducible rfl)
                    try simp only [Act.put, List.setIfInBounds_toArray, List.set_cons_zero, List.set_cons_succ]
                    refine wpAnyH_take (i := 46) (v := ?_) (by simp only [List.getElem?_toArray, List.getElem?_cons_succ, List.getElem?_cons_zero]; exact rfl) (by kernel_rfl) (by kernel_rfl) (by kernel_rfl) (by exact fun _ _ _ h => h) (Or.inl ⟨by rfl, ?_⟩) hHeld ?_
                    rotate_left
                    · intro wq hSw; go_simp; all_goals (with_reducible rfl)
                    try simp only [Act.put, List.setIfInBounds_toArray, List.set_cons_zero, List.set_cons_succ]
                    refine wpAnyH_take (i := 47) (v := ?_) (by simp only [List.getElem?_toArray, List.getElem?_cons_succ, List.getElem?_cons_zero]; exact rfl) (by kernel_rfl) (by kernel_rfl) (by kernel_rfl) (by exact fun _ _ _ h => h) (Or.inl ⟨by rfl, ?_⟩) hHeld ?_
                    rotate_left
                    · intro wq hSw; go_simp; all_goals (with_reducible rfl)
                    try simp only [Act.put, List.setIfInBounds_toArray, List.set_cons_zero, List.set_cons_succ]
                    refine wpAnyH_take (i := 48) (v := ?_) (by simp only [List.getElem?_toArray, List.getElem?_cons_succ, List.getElem?_cons_zero]; exact rfl) (by kernel_rfl) (by kernel_rfl) (by kernel_rfl) (by exact fun _ _ _ h => h) (Or.inl ⟨by rfl, ?_⟩) hHeld ?_
                    rotate_left
                    · intro wq hSw; go_simp; all_goals (with_reducible rfl)
                    try simp only [Act.put, List.setIfInBounds_toArray, List.set_cons_zero, List.set_cons_succ]
                    refine wpAnyH_take (i := 49) (v := ?_) (by simp only [List.getElem?_toArray, List.getElem?_cons_succ, List.getElem?_cons_zero]; exact rfl) (by kernel_rfl) (by kernel_rfl) (by kernel_rfl) (by exact fun _ _ _ h => h) (Or.inl ⟨by rfl, ?_⟩) hHeld ?_
                    rotate_left
                    · intro wq hSw; go_simp; all_goals (with_reducible rfl)
                    try simp only [Act.put, List.setIfInBounds_toArray, List.set_cons_zero, List.set_cons_succ]
                    refine wpAnyH_take (i := 50) (v := ?_) (by simp only [List.getElem?_toArray, List.getElem?_cons_succ, List.getElem?_cons_zero]; exact rfl) (by kernel_rfl) (by kernel_rfl) (by kernel_rfl) (by exact fun _ _ _ h => h) (Or.inl ⟨by rfl, ?_⟩) hHeld ?_
                    rotate_left
                    · intro wq hSw; go_simp; all_goals (with_reducible rfl)
                    try simp only [Act.put, List.setIfInBounds_toArray, List.set_cons_zero, List.set_cons_succ]
                    refine wpAnyH_take (i := 51) (v := ?_) (by simp only [List.getElem?_toArray, List.getElem?_cons_succ, List.getElem?_cons_zero]; exact rfl) (by kernel_rfl) (by kernel_rfl) (by kernel_rfl) (by exact fun _ _ _ h => h) (Or.inl ⟨by rfl, ?_⟩) hHeld ?_
                    rotate_left
                    · intro wq hSw; go_simp; all_goals (with_reducible rfl)
                    try simp only [Act.put, List.setIfInBounds_toArray, List.set_cons_zero, List.set_cons_succ]
                    refine wpAnyH_take (i := 52) (v := ?_) (by simp only [List.getElem?_toArray, List.getElem?_cons_succ, List.getElem?_cons_zero]; exact rfl) (by kernel_rfl) (by kernel_rfl) (by kernel_rfl) (by exact fun _ _ _ h => h) (Or.inl ⟨by rfl, ?_⟩) hHeld ?_
                    rotate_left
                    · intro wq hSw; go_simp; all_goals (with_reducible rfl)
                    try simp only [Act.put, List.setIfInBounds_toArray, List.set_cons_zero, List.set_cons_succ]
                    refine wpAnyH_done (by kernel_rfl) ?_ _
                    go_wp2
                    go_ret
                    exact ⟨rfl, hB9.trans (hHeld.mono hB9.size)⟩
                  · exact AllReadyH.nil
                · exact AllReadyH.nil
              · exact AllReadyH.nil
            · exact AllReadyH.nil
          · exact AllReadyH.nil
        · exact AllReadyH.nil
      · exact AllReadyH.nil
    · exact AllReadyH.nil
  · exact AllReadyH.nil
end Go.Proofs.YtbdochcajpempaaDoor
