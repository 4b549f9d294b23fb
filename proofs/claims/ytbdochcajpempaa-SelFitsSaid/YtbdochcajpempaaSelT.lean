/- The statement SelIs: the walk. -/
import Derived.Test.YtbdochcajpempaaSelS
import Derived.Test.YtbdochcajpempaaRow
namespace Go.Proofs.Ytbdochcajpempaa
open Go.RowKit
set_option linter.unusedSimpArgs false
set_option linter.unusedVariables false

theorem rParse_any (A : Option Addr) (n c : Nat) (x : Int) (ts : List Sel.Tk) (nm : ByteArray) (ms : List Sel.Mt) (j : Nat) (e0 : Int) (hs : Sel.parse ts x = (nm, ms, j, e0)) (w : World) (hT : Tks w w.heap.size A n c ts) :
    Calls Try.prog 13 #[.slice A n c, .int .i64 x] w fun e w' => ∃ A' n' c', e = .returned (.tuple #[.agg #[.string nm, .slice A' n' c'], .int .i64 (j : Nat), .int .i64 e0]) ∧ Mts w' w'.heap.size A' n' c' ms ∧ Below w.heap.size w w' := by
  by_cases hx : x < 0
  · have h2 := hs
    unfold Sel.parse at h2
    rw [if_pos hx] at h2
    injection h2 with h1 h2
    injection h2 with h3 h2
    injection h2 with h4 h5
    subst h1 h3 h4 h5
    exact rParse_neg A n c x hx ts w hT
  · obtain ⟨X, rfl⟩ : ∃ X : Nat, x = X := ⟨x.toNat, by omega⟩
    by_cases h0 : Sel.nameE ts X = 0
    · exact rParse_good A n c X ts h0 nm ms j e0 hs w hT
    · have h2 := hs
      rw [parse_bad hT.len h0] at h2
      injection h2 with h1 h2
      injection h2 with h3 h2
      injection h2 with h4 h5
      subst h1 h3 h4 h5
      exact rParse_bad A n c X ts _ rfl _ rfl h0 w hT
/-- a selector parsed is itself -/
theorem Sel.same_self (nm : ByteArray) (ms : List Sel.Mt) : Sel.same nm nm ms ms = true := by
  unfold Sel.same
  rw [decide_eq_true rfl, decide_eq_true rfl]
  rfl

set_option maxRecDepth 100000 in
set_option maxHeartbeats 16000000 in
theorem selIs_any (nm : ByteArray) (hnms : nm.size ≤ 9223372036854775807) (A : Option Addr) (n c : Nat) (ms : List Lab.Mt) (B : Option Addr) (n2 c2 : Nat) (ts : List Sel.Tk) (x : Int) (D : Option Addr) (n3 c3 : Nat) (l : List Lab.Pr) (w : World)
    (hM : Mts w w.heap.size A n c ms) (hT : Tks w w.heap.size B n2 c2 ts) (hP : Prs w w.heap.size D n3 c3 l) :
    Calls Try.prog 3 #[.agg #[.string nm, .slice A n c], .slice B n2 c2, .int .i64 x, .slice D n3 c3] w fun e w' => LawR w e w' := by
  have HM := Lib.hid hM
  have HT := Lib.hid hT
  have HP := Lib.hid hP
  rcases hps : Sel.parse ts x with ⟨nm1, ms1, j1, e1⟩
  have HPS := Lib.hid hps
  clear hM hT hP hps
  go_enter Try.func3, Try.ntmps3
  go_wp2_with fail
  have hB1 := (Below.refl w.heap.size w).alloc (Nat.le_refl _) (.cells #[.string nm, .slice A n c] 24)
  have hblk := (Mem.Blk.new w 24 #[.string nm, .slice A n c])
  have hlt1 : w.heap.size < (w.alloc (.cells #[.string nm, .slice A n c] 24)).heap.size := by simp
  have hsz1 : w.heap.size ≤ (w.alloc (.cells #[.string nm, .slice A n c] 24)).heap.size := by simp
  obtain ⟨W1, hW1⟩ : ∃ W1, W1 = w.alloc (.cells #[.string nm, .slice A n c] 24) := ⟨_, rfl⟩
  rw [← hW1] at hB1 hblk hlt1 hsz1 ⊢
  clear hW1
  have HBLK := Lib.hid hblk
  clear hblk
  have HM := Lib.hid ((HM.out.below hB1).more hsz1)
  have HT := Lib.hid ((HT.out.below hB1).more hsz1)
  have HP := Lib.hid ((HP.out.below hB1).more hsz1)
  have u0 : W1.cell? ⟨w.heap.size, 0, none⟩ = some (.string nm) := HBLK.out.cell 0
  have u1 : W1.cell? ⟨w.heap.size, 1, none⟩ = some (.slice A n c) := HBLK.out.cell 1
  refine (awake_any W1).mono ?_
  rintro e w2 ⟨rfl, hb2⟩
  have hC2 := hb2
  have u0 := (hb2.cell (p := ⟨w.heap.size, 0, none⟩) (Nat.lt_of_lt_of_le hlt1 (by first | exact Nat.le_refl _ | exact hC2.size | exact hC3.size | exact hC4.size | exact hC5.size))).trans u0
  have u1 := (hb2.cell (p := ⟨w.heap.size, 1, none⟩) (Nat.lt_of_lt_of_le hlt1 (by first | exact Nat.le_refl _ | exact hC2.size | exact hC3.size | exact hC4.size | exact hC5.size))).trans u1
  go_wp2_with fail
  refine (fewS_any nm A n c ms w2 (HM.out.later hC2)).mono ?_
  rintro e w3 ⟨few, rfl, -, hb3⟩
  have hC3 := hC2.trans (hb3.mono hC2.size)
  have u0 := (hb3.cell (p := ⟨w.heap.size, 0, none⟩) (Nat.lt_of_lt_of_le hlt1 (by first | exact Nat.le_refl _ | exact hC2.size | exact hC3.size | exact hC4.size | exact hC5.size))).trans u0
  have u1 := (hb3.cell (p := ⟨w.heap.size, 1, none⟩) (Nat.lt_of_lt_of_le hlt1 (by first | exact Nat.le_refl _ | exact hC2.size | exact hC3.size | exact hC4.size | exact hC5.size))).trans u1
  rcases few with _ | _
  · go_wp2
    go_ret
    exact ⟨rfl, hB1.trans (hC3.mono hB1.size)⟩
  go_wp2_with fail
  refine (short_any B n2 c2 ts w3 (HT.out.later hC3)).mono ?_
  rintro e w4 ⟨few, rfl, -, hb4⟩
  have hC4 := hC3.trans (hb4.mono hC3.size)
  have u0 := (hb4.cell (p := ⟨w.heap.size, 0, none⟩) (Nat.lt_of_lt_of_le hlt1 (by first | exact Nat.le_refl _ | exact hC2.size | exact hC3.size | exact hC4.size | exact hC5.size))).trans u0
  have u1 := (hb4.cell (p := ⟨w.heap.size, 1, none⟩) (Nat.lt_of_lt_of_le hlt1 (by first | exact Nat.le_refl _ | exact hC2.size | exact hC3.size | exact hC4.size | exact hC5.size))).trans u1
  rcases few with _ | _
  · go_wp2
    go_ret
    exact ⟨rfl, hB1.trans (hC4.mono hB1.size)⟩
  go_wp2_with fail
  refine (fewL_any D n3 c3 l w4 (HP.out.later hC4)).mono ?_
  rintro e w5 ⟨few, rfl, -, hb5⟩
  have hC5 := hC4.trans (hb5.mono hC4.size)
  have u0 := (hb5.cell (p := ⟨w.heap.size, 0, none⟩) (Nat.lt_of_lt_of_le hlt1 (by first | exact Nat.le_refl _ | exact hC2.size | exact hC3.size | exact hC4.size | exact hC5.size))).trans u0
  have u1 := (hb5.cell (p := ⟨w.heap.size, 1, none⟩) (Nat.lt_of_lt_of_le hlt1 (by first | exact Nat.le_refl _ | exact hC2.size | exact hC3.size | exact hC4.size | exact hC5.size))).trans u1
  rcases few with _ | _
  · go_wp2
    go_ret
    exact ⟨rfl, hB1.trans (hC5.mono hB1.size)⟩
  go_wp2_with fail
  refine (parse_is B n2 c2 x ts nm1 ms1 j1 e1 HPS.out w5 (HT.out.later hC5)).mono ?_
  rintro e w6 ⟨A6, n6, c6, rfl, hM6, hb6⟩
  have ha6 := (Below.refl w6.heap.size w6).alloc (Nat.le_refl _) (.cells #[.string nm1, .slice A6 n6 c6] 24)
  have hbl6 := Mem.Blk.new w6 24 #[.string nm1, .slice A6 n6 c6]
  have hC7 := (hC5.trans (hb6.mono hC5.size)).trans (ha6.mono (hC5.trans (hb6.mono hC5.size)).size)
  have hM7 := hM6.later ha6
  have hl6 : w6.heap.size < (w6.alloc (.cells #[.string nm1, .slice A6 n6 c6] 24)).heap.size := by simp
  clear hM6 ha6
  go_wp2_with fail
  generalize w6.alloc (.cells #[.string nm1, .slice A6 n6 c6] 24) = w7 at hbl6 hC7 hM7 hl6 ⊢
  refine (rParse_any B n2 c2 x ts nm1 ms1 j1 e1 HPS.out w7 (HT.out.later hC7)).mono ?_
  rintro e w8 ⟨A8, n8, c8, rfl, hM8, hb8⟩
  have ha8 := (Below.refl w8.heap.size w8).alloc (Nat.le_refl _) (.cells #[.string nm1, .slice A8 n8 c8] 24)
  have hbl8 := Mem.Blk.new w8 24 #[.string nm1, .slice A8 n8 c8]
  have hb89 := hb8.trans (ha8.mono hb8.size)
  have hC9 := hC7.trans (hb89.mono hC7.size)
  have hM9 := hM8.later ha8
  have hM7 := hM7.later hb89
  have hbl6 := hbl6.below hb89 hl6
  have hl8 : w8.heap.size < (w8.alloc (.cells #[.string nm1, .slice A8 n8 c8] 24)).heap.size := by simp
  have hl6 := Nat.lt_of_lt_of_le hl6 hb89.size
  clear hM8 ha8 hb8 hb89
  go_wp2
  generalize w8.alloc (.cells #[.string nm1, .slice A8 n8 c8] 24) = w9 at hbl6 hbl8 hC9 hM7 hM9 hl6 hl8 ⊢
  have hl1 : w.heap.size < w9.heap.size := Nat.lt_of_lt_of_le hlt1 hC9.size
  have U0 := Lib.hid ((hC9.cell (p := ⟨w.heap.size, 0, none⟩) hlt1).trans (HBLK.out.cell 0))
  have U1 := Lib.hid ((hC9.cell (p := ⟨w.heap.size, 1, none⟩) hlt1).trans (HBLK.out.cell 1))
  have HBA := Lib.hid hbl6
  have HBB := Lib.hid hbl8
  have HMS := Lib.hid (HM.out.later hC9)
  have HPL := Lib.hid (HP.out.later hC9)
  have HMA := Lib.hid hM7
  have HMB := Lib.hid hM9
  have hB9 := hB1.trans (hC9.mono hB1.size)
  clear u0 u1 hbl6 hbl8 hM7 hM9 hC9 hC7 hC5 hC4 hC3 hC2 hb2 hb3 hb4 hb5 hb6
  refine wp_region_held_drew (S := fun W' => Below w9.heap.size w9 W') (by kernel_rfl) (Below.refl _ _).drew (fun hHeld => ?_)
  refine wpAnyH_take (i := 0) (v := ?_) (by simp only [List.getElem?_toArray, List.getElem?_cons_succ, List.getElem?_cons_zero]; exact rfl) (by kernel_rfl) (by kernel_rfl) (by kernel_rfl) (by exact fun _ _ _ h => h) (Or.inl ⟨by rfl, ?_⟩) hHeld ?_
  rotate_left
  · intro wq hSw; go_simp; all_goals (with_reducible rfl)
  try simp only [Act.put, List.setIfInBounds_toArray, List.set_cons_zero, List.set_cons_succ]
  refine wpAnyH_take (i := 1) (v := ?_) (by simp only [List.getElem?_toArray, List.getElem?_cons_succ, List.getElem?_cons_zero]; exact rfl) (by kernel_rfl) (by kernel_rfl) (by kernel_rfl) (by exact fun _ _ _ h => h) (Or.inl ⟨by rfl, ?_⟩) hHeld ?_
  rotate_left
  · intro wq hSw; go_simp; all_goals (with_reducible rfl)
  try simp only [Act.put, List.setIfInBounds_toArray, List.set_cons_zero, List.set_cons_succ]
  refine wpAnyH_take (i := 2) (v := ?_) (by simp only [List.getElem?_toArray, List.getElem?_cons_succ, List.getElem?_cons_zero]; exact rfl) (by kernel_rfl) (by kernel_rfl) (by kernel_rfl) (by exact fun _ _ _ h => h) (Or.inl ⟨by rfl, ?_⟩) hHeld ?_
  rotate_left
  · intro wq hSw; have k0 := (hSw.cell (p := ⟨w.heap.size, 0, none⟩) hl1).trans U0.out; have k1 := (hSw.cell (p := ⟨w.heap.size, 1, none⟩) hl1).trans U1.out; simp at k0 k1; go_simp; all_goals (with_reducible rfl)
  try simp only [Act.put, List.setIfInBounds_toArray, List.set_cons_zero, List.set_cons_succ]
  refine wpAnyH_take (i := 4) (v := ?_) (by simp only [List.getElem?_toArray, List.getElem?_cons_succ, List.getElem?_cons_zero]; exact rfl) (by kernel_rfl) (by kernel_rfl) (by kernel_rfl) (by exact fun _ _ _ h => h) (Or.inl ⟨by rfl, ?_⟩) hHeld ?_
  rotate_left
  · intro wq hSw; have k0 := (hSw.cell (p := ⟨w.heap.size, 0, none⟩) hl1).trans U0.out; have k1 := (hSw.cell (p := ⟨w.heap.size, 1, none⟩) hl1).trans U1.out; simp at k0 k1; go_simp; all_goals (with_reducible rfl)
  try simp only [Act.put, List.setIfInBounds_toArray, List.set_cons_zero, List.set_cons_succ]
  refine wpAnyH_ready (rs := [3]) (by kernel_rfl) (by simp) ?_
  refine AllReadyH.cons (by simp only [List.getElem?_toArray, List.getElem?_cons_succ, List.getElem?_cons_zero]; exact rfl) (fun K hK => ?_) ?_
  · go_simp
    refine (selSane_any nm A n c ms _ (HMS.out.later hHeld)).mono ?_
    rintro e w10 ⟨rfl, hb10⟩
    show K _ _
    refine hK.out _ _ (hHeld.trans (hb10.mono hHeld.size)) (fun hHeld => ?_)
    clear hK K
    try simp only [Act.put, List.setIfInBounds_toArray, List.set_cons_zero, List.set_cons_succ]
    refine wpAnyH_ready (rs := [5]) (by kernel_rfl) (by simp) ?_
    refine AllReadyH.cons (by simp only [List.getElem?_toArray, List.getElem?_cons_succ, List.getElem?_cons_zero]; exact rfl) (fun K hK => ?_) ?_
    · go_simp
      refine (rSelSane_any nm hnms A n c ms _ (HMS.out.later hHeld)).mono ?_
      rintro e w11 ⟨rfl, hb11⟩
      show K _ _
      refine hK.out _ _ (hHeld.trans (hb11.mono hHeld.size)) (fun hHeld => ?_)
      clear hK K
      try simp only [Act.put, List.setIfInBounds_toArray, List.set_cons_zero, List.set_cons_succ]
      refine wpAnyH_take (i := 6) (v := ?_) (by simp only [List.getElem?_toArray, List.getElem?_cons_succ, List.getElem?_cons_zero]; exact rfl) (by kernel_rfl) (by kernel_rfl) (by kernel_rfl) (by exact fun _ _ _ h => h) (Or.inl ⟨by rfl, ?_⟩) hHeld ?_
      rotate_left
      · intro wq hSw; go_simp; all_goals (with_reducible rfl)
      try simp only [Act.put, List.setIfInBounds_toArray, List.set_cons_zero, List.set_cons_succ]
      refine wpAnyH_take (i := 7) (v := ?_) (by simp only [List.getElem?_toArray, List.getElem?_cons_succ, List.getElem?_cons_zero]; exact rfl) (by kernel_rfl) (by kernel_rfl) (by kernel_rfl) (by exact fun _ _ _ h => h) (Or.inl ⟨by rfl, ?_⟩) hHeld ?_
      rotate_left
      · intro wq hSw; go_simp; all_goals (with_reducible rfl)
      try simp only [Act.put, List.setIfInBounds_toArray, List.set_cons_zero, List.set_cons_succ]
      refine wpAnyH_take (i := 8) (v := ?_) (by simp only [List.getElem?_toArray, List.getElem?_cons_succ, List.getElem?_cons_zero]; exact rfl) (by kernel_rfl) (by kernel_rfl) (by kernel_rfl) (by exact fun _ _ _ h => h) (Or.inl ⟨by rfl, ?_⟩) hHeld ?_
      rotate_left
      · intro wq hSw; go_simp; all_goals (with_reducible rfl)
      try simp only [Act.put, List.setIfInBounds_toArray, List.set_cons_zero, List.set_cons_succ]
      refine wpAnyH_take (i := 9) (v := ?_) (by simp only [List.getElem?_toArray, List.getElem?_cons_succ, List.getElem?_cons_zero]; exact rfl) (by kernel_rfl) (by kernel_rfl) (by kernel_rfl) (by exact fun _ _ _ h => h) (Or.inl ⟨by rfl, ?_⟩) hHeld ?_
      rotate_left
      · intro wq hSw; have k0 := (hSw.cell (p := ⟨w.heap.size, 0, none⟩) hl1).trans U0.out; have k1 := (hSw.cell (p := ⟨w.heap.size, 1, none⟩) hl1).trans U1.out; simp at k0 k1; go_simp; all_goals (with_reducible rfl)
      try simp only [Act.put, List.setIfInBounds_toArray, List.set_cons_zero, List.set_cons_succ]
      refine wpAnyH_take (i := 11) (v := ?_) (by simp only [List.getElem?_toArray, List.getElem?_cons_succ, List.getElem?_cons_zero]; exact rfl) (by kernel_rfl) (by kernel_rfl) (by kernel_rfl) (by exact fun _ _ _ h => h) (Or.inl ⟨by rfl, ?_⟩) hHeld ?_
      rotate_left
      · intro wq hSw; have k0 := (hSw.cell (p := ⟨w.heap.size, 0, none⟩) hl1).trans U0.out; have k1 := (hSw.cell (p := ⟨w.heap.size, 1, none⟩) hl1).trans U1.out; simp at k0 k1; go_simp; all_goals (with_reducible rfl)
      try simp only [Act.put, List.setIfInBounds_toArray, List.set_cons_zero, List.set_cons_succ]
      refine wpAnyH_ready (rs := [10]) (by kernel_rfl) (by simp) ?_
      refine AllReadyH.cons (by simp only [List.getElem?_toArray, List.getElem?_cons_succ, List.getElem?_cons_zero]; exact rfl) (fun K hK => ?_) ?_
      · go_simp
        refine (print_any nm A n c ms _ (HMS.out.later hHeld)).mono ?_
        rintro e w12 ⟨rfl, hb12⟩
        show K _ _
        refine hK.out _ _ (hHeld.trans (hb12.mono hHeld.size)) (fun hHeld => ?_)
        clear hK K
        try simp only [Act.put, List.setIfInBounds_toArray, List.set_cons_zero, List.set_cons_succ]
        refine wpAnyH_ready (rs := [12]) (by kernel_rfl) (by simp) ?_
        refine AllReadyH.cons (by simp only [List.getElem?_toArray, List.getElem?_cons_succ, List.getElem?_cons_zero]; exact rfl) (fun K hK => ?_) ?_
        · go_simp
          refine (rPrint_any nm hnms A n c ms _ (HMS.out.later hHeld)).mono ?_
          rintro e w13 ⟨rfl, hb13⟩
          show K _ _
          refine hK.out _ _ (hHeld.trans (hb13.mono hHeld.size)) (fun hHeld => ?_)
          clear hK K
          try simp only [Act.put, List.setIfInBounds_toArray, List.set_cons_zero, List.set_cons_succ]
          refine wpAnyH_take (i := 13) (v := ?_) (by simp only [List.getElem?_toArray, List.getElem?_cons_succ, List.getElem?_cons_zero]; exact rfl) (by kernel_rfl) (by kernel_rfl) (by kernel_rfl) (by exact fun _ _ _ h => h) (Or.inl ⟨by rfl, ?_⟩) hHeld ?_
          rotate_left
          · intro wq hSw; go_simp; all_goals (with_reducible rfl)
          try simp only [Act.put, List.setIfInBounds_toArray, List.set_cons_zero, List.set_cons_succ]
          refine wpAnyH_take (i := 14) (v := ?_) (by simp only [List.getElem?_toArray, List.getElem?_cons_succ, List.getElem?_cons_zero]; exact rfl) (by kernel_rfl) (by kernel_rfl) (by kernel_rfl) (by exact fun _ _ _ h => h) (Or.inl ⟨by rfl, ?_⟩) hHeld ?_
          rotate_left
          · intro wq hSw; go_simp; all_goals (with_reducible rfl)
          try simp only [Act.put, List.setIfInBounds_toArray, List.set_cons_zero, List.set_cons_succ]
          refine wpAnyH_take (i := 15) (v := ?_) (by simp only [List.getElem?_toArray, List.getElem?_cons_succ, List.getElem?_cons_zero]; exact rfl) (by kernel_rfl) (by kernel_rfl) (by kernel_rfl) (by exact fun _ _ _ h => h) (Or.inl ⟨by rfl, ?_⟩) hHeld ?_
          rotate_left
          · intro wq hSw; go_simp; all_goals (with_reducible rfl)
          try simp only [Act.put, List.setIfInBounds_toArray, List.set_cons_zero, List.set_cons_succ]
          refine wpAnyH_take (i := 16) (v := ?_) (by simp only [List.getElem?_toArray, List.getElem?_cons_succ, List.getElem?_cons_zero]; exact rfl) (by kernel_rfl) (by kernel_rfl) (by kernel_rfl) (by exact fun _ _ _ h => h) (Or.inl ⟨by rfl, ?_⟩) hHeld ?_
          rotate_left
          · intro wq hSw; have k0 := (hSw.cell (p := ⟨w6.heap.size, 0, none⟩) hl6).trans (HBA.out.cell 0); have k1 := (hSw.cell (p := ⟨w6.heap.size, 1, none⟩) hl6).trans (HBA.out.cell 1); simp at k0 k1; go_simp; all_goals (with_reducible rfl)
          try simp only [Act.put, List.setIfInBounds_toArray, List.set_cons_zero, List.set_cons_succ]
          refine wpAnyH_take (i := 17) (v := ?_) (by simp only [List.getElem?_toArray, List.getElem?_cons_succ, List.getElem?_cons_zero]; exact rfl) (by kernel_rfl) (by kernel_rfl) (by kernel_rfl) (by exact fun _ _ _ h => h) (Or.inl ⟨by rfl, ?_⟩) hHeld ?_
          rotate_left
          · intro wq hSw; have k0 := (hSw.cell (p := ⟨w8.heap.size, 0, none⟩) hl8).trans (HBB.out.cell 0); have k1 := (hSw.cell (p := ⟨w8.heap.size, 1, none⟩) hl8).trans (HBB.out.cell 1); simp at k0 k1; go_simp; all_goals (with_reducible rfl)
          try simp only [Act.put, List.setIfInBounds_toArray, List.set_cons_zero, List.set_cons_succ]
          refine wpAnyH_ready (rs := [18]) (by kernel_rfl) (by simp) ?_
          refine AllReadyH.cons (by simp only [List.getElem?_toArray, List.getElem?_cons_succ, List.getElem?_cons_zero]; exact rfl) (fun K hK => ?_) ?_
          · go_simp
            have hx := same_any nm1 nm1 A6 A8 n6 c6 n8 c8 ms1 ms1 _ (HMA.out.later hHeld) (HMB.out.later hHeld)
            rw [Sel.same_self] at hx
            refine hx.mono ?_
            rintro e w14 ⟨rfl, hb14⟩
            show K _ _
            refine hK.out _ _ (hHeld.trans (hb14.mono hHeld.size)) (fun hHeld => ?_)
            clear hK K
            try simp only [Act.put, List.setIfInBounds_toArray, List.set_cons_zero, List.set_cons_succ]
            refine wpAnyH_take (i := 19) (v := ?_) (by simp only [List.getElem?_toArray, List.getElem?_cons_succ, List.getElem?_cons_zero]; exact rfl) (by kernel_rfl) (by kernel_rfl) (by kernel_rfl) (by exact fun _ _ _ h => h) (Or.inl ⟨by rfl, ?_⟩) hHeld ?_
            rotate_left
            · intro wq hSw; go_simp; all_goals (with_reducible rfl)
            try simp only [Act.put, List.setIfInBounds_toArray, List.set_cons_zero, List.set_cons_succ]
            refine wpAnyH_take (i := 20) (v := ?_) (by simp only [List.getElem?_toArray, List.getElem?_cons_succ, List.getElem?_cons_zero]; exact rfl) (by kernel_rfl) (by kernel_rfl) (by kernel_rfl) (by exact fun _ _ _ h => h) (Or.inl ⟨by rfl, ?_⟩) hHeld ?_
            rotate_left
            · intro wq hSw; go_simp; all_goals (with_reducible rfl)
            try simp only [Act.put, List.setIfInBounds_toArray, List.set_cons_zero, List.set_cons_succ]
            refine wpAnyH_take (i := 21) (v := ?_) (by simp only [List.getElem?_toArray, List.getElem?_cons_succ, List.getElem?_cons_zero]; exact rfl) (by kernel_rfl) (by kernel_rfl) (by kernel_rfl) (by exact fun _ _ _ h => h) (Or.inl ⟨by rfl, ?_⟩) hHeld ?_
            rotate_left
            · intro wq hSw; go_simp; all_goals (with_reducible rfl)
            try simp only [Act.put, List.setIfInBounds_toArray, List.set_cons_zero, List.set_cons_succ]
            refine wpAnyH_take (i := 22) (v := ?_) (by simp only [List.getElem?_toArray, List.getElem?_cons_succ, List.getElem?_cons_zero]; exact rfl) (by kernel_rfl) (by kernel_rfl) (by kernel_rfl) (by exact fun _ _ _ h => h) (Or.inl ⟨by rfl, ?_⟩) hHeld ?_
            rotate_left
            · intro wq hSw; go_simp; all_goals (with_reducible rfl)
            try simp only [Act.put, List.setIfInBounds_toArray, List.set_cons_zero, List.set_cons_succ]
            refine wpAnyH_take (i := 23) (v := ?_) (by simp only [List.getElem?_toArray, List.getElem?_cons_succ, List.getElem?_cons_zero]; exact rfl) (by kernel_rfl) (by kernel_rfl) (by kernel_rfl) (by exact fun _ _ _ h => h) (Or.inl ⟨by rfl, ?_⟩) hHeld ?_
            rotate_left
            · intro wq hSw; go_simp; all_goals (with_reducible rfl)
            try simp only [Act.put, List.setIfInBounds_toArray, List.set_cons_zero, List.set_cons_succ]
            refine wpAnyH_take (i := 24) (v := ?_) (by simp only [List.getElem?_toArray, List.getElem?_cons_succ, List.getElem?_cons_zero]; exact rfl) (by kernel_rfl) (by kernel_rfl) (by kernel_rfl) (by exact fun _ _ _ h => h) (Or.inl ⟨by rfl, ?_⟩) hHeld ?_
            rotate_left
            · intro wq hSw; go_simp; all_goals (with_reducible rfl)
            try simp only [Act.put, List.setIfInBounds_toArray, List.set_cons_zero, List.set_cons_succ]
            refine wpAnyH_take (i := 25) (v := ?_) (by simp only [List.getElem?_toArray, List.getElem?_cons_succ, List.getElem?_cons_zero]; exact rfl) (by kernel_rfl) (by kernel_rfl) (by kernel_rfl) (by exact fun _ _ _ h => h) (Or.inl ⟨by rfl, ?_⟩) hHeld ?_
            rotate_left
            · intro wq hSw; go_simp; all_goals (with_reducible rfl)
            try simp only [Act.put, List.setIfInBounds_toArray, List.set_cons_zero, List.set_cons_succ]
            refine wpAnyH_take (i := 26) (v := ?_) (by simp only [List.getElem?_toArray, List.getElem?_cons_succ, List.getElem?_cons_zero]; exact rfl) (by kernel_rfl) (by kernel_rfl) (by kernel_rfl) (by exact fun _ _ _ h => h) (Or.inl ⟨by rfl, ?_⟩) hHeld ?_
            rotate_left
            · intro wq hSw; go_simp; all_goals (with_reducible rfl)
            try simp only [Act.put, List.setIfInBounds_toArray, List.set_cons_zero, List.set_cons_succ]
            refine wpAnyH_take (i := 27) (v := ?_) (by simp only [List.getElem?_toArray, List.getElem?_cons_succ, List.getElem?_cons_zero]; exact rfl) (by kernel_rfl) (by kernel_rfl) (by kernel_rfl) (by exact fun _ _ _ h => h) (Or.inl ⟨by rfl, ?_⟩) hHeld ?_
            rotate_left
            · intro wq hSw; go_simp; all_goals (with_reducible rfl)
            try simp only [Act.put, List.setIfInBounds_toArray, List.set_cons_zero, List.set_cons_succ]
            refine wpAnyH_take (i := 28) (v := ?_) (by simp only [List.getElem?_toArray, List.getElem?_cons_succ, List.getElem?_cons_zero]; exact rfl) (by kernel_rfl) (by kernel_rfl) (by kernel_rfl) (by exact fun _ _ _ h => h) (Or.inl ⟨by rfl, ?_⟩) hHeld ?_
            rotate_left
            · intro wq hSw; go_simp; all_goals (with_reducible rfl)
            try simp only [Act.put, List.setIfInBounds_toArray, List.set_cons_zero, List.set_cons_succ]
            refine wpAnyH_take (i := 29) (v := ?_) (by simp only [List.getElem?_toArray, List.getElem?_cons_succ, List.getElem?_cons_zero]; exact rfl) (by kernel_rfl) (by kernel_rfl) (by kernel_rfl) (by exact fun _ _ _ h => h) (Or.inl ⟨by rfl, ?_⟩) hHeld ?_
            rotate_left
            · intro wq hSw; go_simp; all_goals (with_reducible rfl)
            try simp only [Act.put, List.setIfInBounds_toArray, List.set_cons_zero, List.set_cons_succ]
            refine wpAnyH_take (i := 30) (v := ?_) (by simp only [List.getElem?_toArray, List.getElem?_cons_succ, List.getElem?_cons_zero]; exact rfl) (by kernel_rfl) (by kernel_rfl) (by kernel_rfl) (by exact fun _ _ _ h => h) (Or.inl ⟨by rfl, ?_⟩) hHeld ?_
            rotate_left
            · intro wq hSw; go_simp; all_goals (with_reducible rfl)
            try simp only [Act.put, List.setIfInBounds_toArray, List.set_cons_zero, List.set_cons_succ]
            refine wpAnyH_take (i := 31) (v := ?_) (by simp only [List.getElem?_toArray, List.getElem?_cons_succ, List.getElem?_cons_zero]; exact rfl) (by kernel_rfl) (by kernel_rfl) (by kernel_rfl) (by exact fun _ _ _ h => h) (Or.inl ⟨by rfl, ?_⟩) hHeld ?_
            rotate_left
            · intro wq hSw; have k0 := (hSw.cell (p := ⟨w.heap.size, 0, none⟩) hl1).trans U0.out; have k1 := (hSw.cell (p := ⟨w.heap.size, 1, none⟩) hl1).trans U1.out; simp at k0 k1; go_simp; all_goals (with_reducible rfl)
            try simp only [Act.put, List.setIfInBounds_toArray, List.set_cons_zero, List.set_cons_succ]
            refine wpAnyH_take (i := 32) (v := ?_) (by simp only [List.getElem?_toArray, List.getElem?_cons_succ, List.getElem?_cons_zero]; exact rfl) (by kernel_rfl) (by kernel_rfl) (by kernel_rfl) (by exact fun _ _ _ h => h) (Or.inl ⟨by rfl, ?_⟩) hHeld ?_
            rotate_left
            · intro wq hSw; go_simp; all_goals (with_reducible rfl)
            try simp only [Act.put, List.setIfInBounds_toArray, List.set_cons_zero, List.set_cons_succ]
            refine wpAnyH_take (i := 34) (v := ?_) (by simp only [List.getElem?_toArray, List.getElem?_cons_succ, List.getElem?_cons_zero]; exact rfl) (by kernel_rfl) (by kernel_rfl) (by kernel_rfl) (by exact fun _ _ _ h => h) (Or.inl ⟨by rfl, ?_⟩) hHeld ?_
            rotate_left
            · intro wq hSw; have k0 := (hSw.cell (p := ⟨w.heap.size, 0, none⟩) hl1).trans U0.out; have k1 := (hSw.cell (p := ⟨w.heap.size, 1, none⟩) hl1).trans U1.out; simp at k0 k1; go_simp; all_goals (with_reducible rfl)
            try simp only [Act.put, List.setIfInBounds_toArray, List.set_cons_zero, List.set_cons_succ]
            refine wpAnyH_take (i := 35) (v := ?_) (by simp only [List.getElem?_toArray, List.getElem?_cons_succ, List.getElem?_cons_zero]; exact rfl) (by kernel_rfl) (by kernel_rfl) (by kernel_rfl) (by exact fun _ _ _ h => h) (Or.inl ⟨by rfl, ?_⟩) hHeld ?_
            rotate_left
            · intro wq hSw; go_simp; all_goals (with_reducible rfl)
            try simp only [Act.put, List.setIfInBounds_toArray, List.set_cons_zero, List.set_cons_succ]
            refine wpAnyH_ready (rs := [33]) (by kernel_rfl) (by simp) ?_
            refine AllReadyH.cons (by simp only [List.getElem?_toArray, List.getElem?_cons_succ, List.getElem?_cons_zero]; exact rfl) (fun K hK => ?_) ?_
            · go_simp
              refine (fits_any nm hnms A n c ms D n3 c3 l _ (HMS.out.later hHeld) (HPL.out.later hHeld)).mono ?_
              rintro e w15 ⟨rfl, hb15⟩
              show K _ _
              refine hK.out _ _ (hHeld.trans (hb15.mono hHeld.size)) (fun hHeld => ?_)
              clear hK K
              try simp only [Act.put, List.setIfInBounds_toArray, List.set_cons_zero, List.set_cons_succ]
              refine wpAnyH_ready (rs := [36]) (by kernel_rfl) (by simp) ?_
              refine AllReadyH.cons (by simp only [List.getElem?_toArray, List.getElem?_cons_succ, List.getElem?_cons_zero]; exact rfl) (fun K hK => ?_) ?_
              · go_simp
                refine (rFits_any nm hnms A n c ms D n3 c3 l _ (HMS.out.later hHeld) (HPL.out.later hHeld)).mono ?_
                rintro e w16 ⟨rfl, hb16⟩
                show K _ _
                refine hK.out _ _ (hHeld.trans (hb16.mono hHeld.size)) (fun hHeld => ?_)
                clear hK K
                try simp only [Act.put, List.setIfInBounds_toArray, List.set_cons_zero, List.set_cons_succ]
                refine wpAnyH_take (i := 37) (v := ?_) (by simp only [List.getElem?_toArray, List.getElem?_cons_succ, List.getElem?_cons_zero]; exact rfl) (by kernel_rfl) (by kernel_rfl) (by kernel_rfl) (by exact fun _ _ _ h => h) (Or.inl ⟨by rfl, ?_⟩) hHeld ?_
                rotate_left
                · intro wq hSw; go_simp; all_goals (with_reducible rfl)
                try simp only [Act.put, List.setIfInBounds_toArray, List.set_cons_zero, List.set_cons_succ]
                refine wpAnyH_take (i := 38) (v := ?_) (by simp only [List.getElem?_toArray, List.getElem?_cons_succ, List.getElem?_cons_zero]; exact rfl) (by kernel_rfl) (by kernel_rfl) (by kernel_rfl) (by exact fun _ _ _ h => h) (Or.inl ⟨by rfl, ?_⟩) hHeld ?_
                rotate_left
                · intro wq hSw; go_simp; all_goals (with_reducible rfl)
                try simp only [Act.put, List.setIfInBounds_toArray, List.set_cons_zero, List.set_cons_succ]
                refine wpAnyH_take (i := 39) (v := ?_) (by simp only [List.getElem?_toArray, List.getElem?_cons_succ, List.getElem?_cons_zero]; exact rfl) (by kernel_rfl) (by kernel_rfl) (by kernel_rfl) (by exact fun _ _ _ h => h) (Or.inl ⟨by rfl, ?_⟩) hHeld ?_
                rotate_left
                · intro wq hSw; go_simp; all_goals (with_reducible rfl)
                try simp only [Act.put, List.setIfInBounds_toArray, List.set_cons_zero, List.set_cons_succ]
                refine wpAnyH_done (by kernel_rfl) ?_ _
                go_wp2
                go_ret
                exact ⟨rfl, hB9.trans (hHeld.mono hB9.size)⟩
              · exact AllReadyH.nil
            · exact AllReadyH.nil
          · exact AllReadyH.nil
        · exact AllReadyH.nil
      · exact AllReadyH.nil
    · exact AllReadyH.nil
  · exact AllReadyH.nil
end Go.Proofs.Ytbdochcajpempaa
