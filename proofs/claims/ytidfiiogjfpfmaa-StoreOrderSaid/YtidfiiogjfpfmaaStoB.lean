/- The walks of label.Compare's function, of slices.CompareFunc at it, of label.Compare. -/
import Derived.Test.YtidfiiogjfpfmaaStoA
namespace Go.Proofs.Ytidfiiogjfpfmaa
open Go.RowKit
set_option linter.unusedSimpArgs false
set_option linter.unusedVariables false

/-- from here on more is held -/
theorem wpAnyH_stronger {P : Program} {md : Region.Mode} {ops : Array Oper} {Q : Exit → Act → World → Prop} {S S' : World → Prop} (hS : ∀ w, S' w → S w) : ∀ (fuel : Nat) (listed : Array Bool) (a : Act) (w : World), wpAnyH P md ops Q S' fuel listed a w → wpAnyH P md ops Q S fuel listed a w
  | 0, _, _, _, h => h
  | fuel + 1, _, _, _, h => ⟨h.1, fun i hi => wpOp_mono (fun a' w' h' => ⟨hS _ h'.1, wpAnyH_stronger hS fuel _ a' w' h'.2⟩) (h.2 i hi)⟩

set_option maxRecDepth 100000 in
set_option maxHeartbeats 8000000 in
theorem pcmp_is (p q : Lab.Pr) (c : Int) (hc : Lab.cmpP p q = c) (w : World) :
    Calls Try.prog 39 #[.agg #[.string p.1, .string p.2], .agg #[.string q.1, .string q.2]] w fun e w' => e = .returned (.int .i64 c) ∧ Below w.heap.size w w' := by
  obtain ⟨x1, x2⟩ := p
  obtain ⟨y1, y2⟩ := q
  obtain ⟨c1, h1⟩ : ∃ c, Lab.cmpB x1 y1 = c := ⟨_, rfl⟩
  obtain ⟨c2, h2⟩ : ∃ c, Lab.cmpB x2 y2 = c := ⟨_, rfl⟩
  have HR := Lib.hid (show (if c1 ≠ 0 then c1 else c2) = c by rw [← hc]; unfold Lab.cmpP; rw [h1, h2])
  have H1 := Lib.hid h1
  have H2 := Lib.hid h2
  clear h1 h2 hc
  go_enter Try.func39, Try.ntmps39
  go_wp2
  have hB2 : Below w.heap.size w ((w.alloc (.cells #[.string x1, .string x2] 61)).alloc (.cells #[.string y1, .string y2] 61)) := ((Below.refl _ w).alloc (Nat.le_refl _) _).alloc (by simp) _
  have b1 := (Mem.Blk.new w 61 #[.string x1, .string x2]).alloc (.cells #[.string y1, .string y2] 61)
  have b2 : Mem.Blk ((w.alloc (.cells #[.string x1, .string x2] 61)).alloc (.cells #[.string y1, .string y2] 61)) (w.heap.size + 1) 61 #[.string y1, .string y2] := by
    simpa using Mem.Blk.new (w.alloc (.cells #[.string x1, .string x2] 61)) 61 #[.string y1, .string y2]
  generalize (w.alloc (.cells #[.string x1, .string x2] 61)).alloc (.cells #[.string y1, .string y2] 61) = W1 at hB2 b1 b2 ⊢
  have hlA := b1.lt
  have hlB := b2.lt
  have BA := Lib.hid b1
  have BB := Lib.hid b2
  clear b1 b2
  refine wp_region_held_drew (S := fun W' => Below W1.heap.size W1 W') (by kernel_rfl) (Below.refl _ _).drew (fun hHeld => ?_)
  refine wpAnyH_take (i := 0) (v := ?_) (by simp only [List.getElem?_toArray, List.getElem?_cons_succ, List.getElem?_cons_zero]; exact rfl) (by kernel_rfl) (by kernel_rfl) (by kernel_rfl) (by exact fun _ _ _ h => h) (Or.inl ⟨by rfl, ?_⟩) hHeld ?_
  rotate_left
  · intro wq hSw; go_simp; all_goals (with_reducible rfl)
  try simp only [Act.put, List.setIfInBounds_toArray, List.set_cons_zero, List.set_cons_succ]
  refine wpAnyH_take (i := 1) (v := ?_) (by simp only [List.getElem?_toArray, List.getElem?_cons_succ, List.getElem?_cons_zero]; exact rfl) (by kernel_rfl) (by kernel_rfl) (by kernel_rfl) (by exact fun _ _ _ h => h) (Or.inl ⟨by rfl, ?_⟩) hHeld ?_
  rotate_left
  · intro wq hSw; have k0 := (hSw.cell (p := ⟨w.heap.size, 0, none⟩) hlA).trans (BA.out.cell 0); have k1 := (hSw.cell (p := ⟨w.heap.size, 1, none⟩) hlA).trans (BA.out.cell 1); have l0 := (hSw.cell (p := ⟨w.heap.size + 1, 0, none⟩) hlB).trans (BB.out.cell 0); have l1 := (hSw.cell (p := ⟨w.heap.size + 1, 1, none⟩) hlB).trans (BB.out.cell 1); simp at k0 k1 l0 l1; go_simp; all_goals (with_reducible rfl)
  try simp only [Act.put, List.setIfInBounds_toArray, List.set_cons_zero, List.set_cons_succ]
  refine wpAnyH_take (i := 2) (v := ?_) (by simp only [List.getElem?_toArray, List.getElem?_cons_succ, List.getElem?_cons_zero]; exact rfl) (by kernel_rfl) (by kernel_rfl) (by kernel_rfl) (by exact fun _ _ _ h => h) (Or.inl ⟨by rfl, ?_⟩) hHeld ?_
  rotate_left
  · intro wq hSw; go_simp; all_goals (with_reducible rfl)
  try simp only [Act.put, List.setIfInBounds_toArray, List.set_cons_zero, List.set_cons_succ]
  refine wpAnyH_take (i := 3) (v := ?_) (by simp only [List.getElem?_toArray, List.getElem?_cons_succ, List.getElem?_cons_zero]; exact rfl) (by kernel_rfl) (by kernel_rfl) (by kernel_rfl) (by exact fun _ _ _ h => h) (Or.inl ⟨by rfl, ?_⟩) hHeld ?_
  rotate_left
  · intro wq hSw; have k0 := (hSw.cell (p := ⟨w.heap.size, 0, none⟩) hlA).trans (BA.out.cell 0); have k1 := (hSw.cell (p := ⟨w.heap.size, 1, none⟩) hlA).trans (BA.out.cell 1); have l0 := (hSw.cell (p := ⟨w.heap.size + 1, 0, none⟩) hlB).trans (BB.out.cell 0); have l1 := (hSw.cell (p := ⟨w.heap.size + 1, 1, none⟩) hlB).trans (BB.out.cell 1); simp at k0 k1 l0 l1; go_simp; all_goals (with_reducible rfl)
  try simp only [Act.put, List.setIfInBounds_toArray, List.set_cons_zero, List.set_cons_succ]
  refine wpAnyH_take (i := 5) (v := ?_) (by simp only [List.getElem?_toArray, List.getElem?_cons_succ, List.getElem?_cons_zero]; exact rfl) (by kernel_rfl) (by kernel_rfl) (by kernel_rfl) (by exact fun _ _ _ h => h) (Or.inl ⟨by rfl, ?_⟩) hHeld ?_
  rotate_left
  · intro wq hSw; go_simp; all_goals (with_reducible rfl)
  try simp only [Act.put, List.setIfInBounds_toArray, List.set_cons_zero, List.set_cons_succ]
  refine wpAnyH_take (i := 6) (v := ?_) (by simp only [List.getElem?_toArray, List.getElem?_cons_succ, List.getElem?_cons_zero]; exact rfl) (by kernel_rfl) (by kernel_rfl) (by kernel_rfl) (by exact fun _ _ _ h => h) (Or.inl ⟨by rfl, ?_⟩) hHeld ?_
  rotate_left
  · intro wq hSw; have k0 := (hSw.cell (p := ⟨w.heap.size, 0, none⟩) hlA).trans (BA.out.cell 0); have k1 := (hSw.cell (p := ⟨w.heap.size, 1, none⟩) hlA).trans (BA.out.cell 1); have l0 := (hSw.cell (p := ⟨w.heap.size + 1, 0, none⟩) hlB).trans (BB.out.cell 0); have l1 := (hSw.cell (p := ⟨w.heap.size + 1, 1, none⟩) hlB).trans (BB.out.cell 1); simp at k0 k1 l0 l1; go_simp; all_goals (with_reducible rfl)
  try simp only [Act.put, List.setIfInBounds_toArray, List.set_cons_zero, List.set_cons_succ]
  refine wpAnyH_take (i := 7) (v := ?_) (by simp only [List.getElem?_toArray, List.getElem?_cons_succ, List.getElem?_cons_zero]; exact rfl) (by kernel_rfl) (by kernel_rfl) (by kernel_rfl) (by exact fun _ _ _ h => h) (Or.inl ⟨by rfl, ?_⟩) hHeld ?_
  rotate_left
  · intro wq hSw; go_simp; all_goals (with_reducible rfl)
  try simp only [Act.put, List.setIfInBounds_toArray, List.set_cons_zero, List.set_cons_succ]
  refine wpAnyH_take (i := 8) (v := ?_) (by simp only [List.getElem?_toArray, List.getElem?_cons_succ, List.getElem?_cons_zero]; exact rfl) (by kernel_rfl) (by kernel_rfl) (by kernel_rfl) (by exact fun _ _ _ h => h) (Or.inl ⟨by rfl, ?_⟩) hHeld ?_
  rotate_left
  · intro wq hSw; have k0 := (hSw.cell (p := ⟨w.heap.size, 0, none⟩) hlA).trans (BA.out.cell 0); have k1 := (hSw.cell (p := ⟨w.heap.size, 1, none⟩) hlA).trans (BA.out.cell 1); have l0 := (hSw.cell (p := ⟨w.heap.size + 1, 0, none⟩) hlB).trans (BB.out.cell 0); have l1 := (hSw.cell (p := ⟨w.heap.size + 1, 1, none⟩) hlB).trans (BB.out.cell 1); simp at k0 k1 l0 l1; go_simp; all_goals (with_reducible rfl)
  try simp only [Act.put, List.setIfInBounds_toArray, List.set_cons_zero, List.set_cons_succ]
  refine wpAnyH_ready (rs := [4]) (by kernel_rfl) (by simp) ?_
  refine AllReadyH.cons (by simp only [List.getElem?_toArray, List.getElem?_cons_succ, List.getElem?_cons_zero]; exact rfl) (fun K hK => ?_) ?_
  · go_simp
    refine (cmpB_is x1 y1 c1 H1.out _).mono ?_
    rintro e w' ⟨rfl, rfl⟩
    show K _ _
    refine hK.out _ _ hHeld (fun hHeld => ?_)
    clear hK K
    try simp only [Act.put, List.setIfInBounds_toArray, List.set_cons_zero, List.set_cons_succ]
    refine wpAnyH_ready (rs := [9]) (by kernel_rfl) (by simp) ?_
    refine AllReadyH.cons (by simp only [List.getElem?_toArray, List.getElem?_cons_succ, List.getElem?_cons_zero]; exact rfl) (fun K hK => ?_) ?_
    · go_simp
      refine (cmpB_is x2 y2 c2 H2.out _).mono ?_
      rintro e w' ⟨rfl, rfl⟩
      show K _ _
      refine hK.out _ _ hHeld (fun hHeld => ?_)
      clear hK K
      try simp only [Act.put, List.setIfInBounds_toArray, List.set_cons_zero, List.set_cons_succ]
      refine wpAnyH_ready (rs := [10]) (by kernel_rfl) (by simp) ?_
      refine AllReadyH.cons (by simp only [List.getElem?_toArray, List.getElem?_cons_succ, List.getElem?_cons_zero]; exact rfl) (fun K hK => ?_) ?_
      · go_simp
        refine hK.out _ _ ((Below.refl _ W1).alloc (Nat.le_refl _) _).drew (fun hHeld => ?_)
        clear hK K
        try simp only [Act.put, List.setIfInBounds_toArray, List.set_cons_zero, List.set_cons_succ]
        have hb6 : Mem.Blk (W1.alloc (.cells #[.int .i64 c1, .int .i64 c2] 3)).drew W1.heap.size 3 #[.int .i64 c1, .int .i64 c2] := (Mem.Blk.new W1 _ _).drew
        have hl6 : W1.heap.size < (W1.alloc (.cells #[.int .i64 c1, .int .i64 c2] 3)).drew.heap.size := by simp [World.drew]
        generalize (W1.alloc (.cells #[.int .i64 c1, .int .i64 c2] 3)).drew = w6 at hb6 hl6 hHeld ⊢
        have hC6 := hB2.trans (hHeld.mono hB2.size)
        have HB6 := Lib.hid hb6
        refine wpAnyH_stronger (S' := fun W' => Below w6.heap.size w6 W') (fun W h => hHeld.trans (h.mono hHeld.size)) _ _ _ _ ?_
        clear hHeld hb6
        have hHeld : Below w6.heap.size w6 w6 := Below.refl _ _
        refine wpAnyH_ready (rs := [11]) (by kernel_rfl) (by simp) ?_
        refine AllReadyH.cons (by simp only [List.getElem?_toArray, List.getElem?_cons_succ, List.getElem?_cons_zero]; exact rfl) (fun K hK => ?_) ?_
        · go_simp
          refine (cmpOr_is W1.heap.size c1 c2 c HR.out _ _ (HB6.out.below hHeld hl6)).mono ?_
          rintro e w' ⟨rfl, rfl⟩
          show K _ _
          refine hK.out _ _ hHeld (fun hHeld => ?_)
          clear hK K
          try simp only [Act.put, List.setIfInBounds_toArray, List.set_cons_zero, List.set_cons_succ]
          refine wpAnyH_take (i := 12) (v := ?_) (by simp only [List.getElem?_toArray, List.getElem?_cons_succ, List.getElem?_cons_zero]; exact rfl) (by kernel_rfl) (by kernel_rfl) (by kernel_rfl) (by exact fun _ _ _ h => h) (Or.inl ⟨by rfl, ?_⟩) hHeld ?_
          rotate_left
          · intro wq hSw; go_simp; all_goals (with_reducible rfl)
          try simp only [Act.put, List.setIfInBounds_toArray, List.set_cons_zero, List.set_cons_succ]
          refine wpAnyH_done (by kernel_rfl) ?_ _
          go_wp2
          go_ret
          exact ⟨rfl, hC6.trans (hHeld.mono hC6.size)⟩
        · exact AllReadyH.nil
      · exact AllReadyH.nil
    · exact AllReadyH.nil
  · exact AllReadyH.nil

namespace Lab
theorem cmpL_drop {xs ys : List Pr} {k : Nat} {p q : Pr} (hp : xs[k]? = some p) (hq : ys[k]? = some q) : cmpL (xs.drop k) (ys.drop k) = if cmpP p q ≠ 0 then cmpP p q else cmpL (xs.drop (k + 1)) (ys.drop (k + 1)) := by
  obtain ⟨h1, e1⟩ := List.getElem?_eq_some_iff.1 hp
  obtain ⟨h2, e2⟩ := List.getElem?_eq_some_iff.1 hq
  rw [List.drop_eq_getElem_cons h1, List.drop_eq_getElem_cons h2, e1, e2]
  rfl
theorem cmpL_more {xs ys : List Pr} {k : Nat} (h1 : k < xs.length) (h2 : ys.length ≤ k) : cmpL (xs.drop k) (ys.drop k) = 1 := by
  rw [List.drop_eq_getElem_cons h1, List.drop_eq_nil_of_le h2]
  rfl
theorem cmpL_end {xs ys : List Pr} {k : Nat} (h1 : xs.length = k) (h2 : k ≤ ys.length) : cmpL (xs.drop k) (ys.drop k) = if k < ys.length then -1 else 0 := by
  rw [List.drop_eq_nil_of_le (by omega)]
  by_cases h : k < ys.length
  · rw [List.drop_eq_getElem_cons h, if_pos h]
    rfl
  · rw [List.drop_eq_nil_of_le (by omega), if_neg h]
    rfl
end Lab
set_option maxRecDepth 100000 in
set_option maxHeartbeats 8000000 in
theorem cmpF_is (A : Option Addr) (n c : Nat) (xs : List Lab.Pr) (B : Option Addr) (m d : Nat) (ys : List Lab.Pr) (r : Int) (hr : Lab.cmpL xs ys = r) (w : World) (hx : Prs w w.heap.size A n c xs) (hy : Prs w w.heap.size B m d ys) :
    Calls Try.prog 37 #[.slice A n c, .slice B m d, .func (.func 39) #[] #[]] w fun e w' => e = .returned (.int .i64 r) ∧ Below w.heap.size w w' := by
  have hn := hx.len
  have hm := hy.len
  have HX := Lib.hid hx
  have HY := Lib.hid hy
  have HN := Lib.hid hn
  have HM := Lib.hid hm
  have hcap := Nat.le_trans hx.1.2.1 hx.1.2.2.1
  clear hx hy hn hm
  go_enter Try.func37, Try.ntmps37
  go_wp2
  go_loopw [13] (fun i wr => ∃ k : Nat, k ≤ n ∧ k ≤ m ∧ i = .int .i64 (k : Nat) ∧ Lab.cmpL (xs.drop k) (ys.drop k) = r ∧ Below w.heap.size w wr) (fun i _ => n - (intOf i).toNat)
  case atStart => exact ⟨0, by omega, by omega, rfl, hr, Below.refl _ _⟩
  case round =>
    obtain ⟨k, hkn, hkm, rfl, hq, hb⟩ := hrel
    obtain ⟨k2, hk2⟩ : ∃ y, y = k + 1 := ⟨_, rfl⟩
    have hwk : k < n → IntKind.i64.wrap ((k : Int) + 1) = ((k2 : Nat) : Int) := fun h => by rw [hk2, show (k : Int) + 1 = ((k + 1 : Nat) : Int) by omega]; exact IntWalk.i64_in _ (by omega)
    have HK2 := Lib.hid hk2
    clear hk2
    by_cases hlt : k < n
    · have hwk := hwk hlt
      have hd : decide (k < n) = true := decide_eq_true hlt
      obtain ⟨b1, o1, hA, hbB1, hc1⟩ := HX.out.at_ hlt
      obtain ⟨p, hp⟩ : ∃ p, xs[k]? = some p := ⟨_, List.getElem?_eq_getElem (by rw [HN.out]; exact hlt)⟩
      have x0 := (hb.cell (p := ⟨b1, o1 + k * 2, none⟩) hbB1).trans (hc1 k p hp).1
      have x1 := (hb.cell (p := ⟨b1, o1 + k * 2 + 1, none⟩) hbB1).trans (hc1 k p hp).2
      subst hA
      by_cases hltm : k < m
      · have hd2 : decide (m ≤ k) = false := decide_eq_false (by omega)
        obtain ⟨b2, o2, hB, hbB2, hc2⟩ := HY.out.at_ hltm
        obtain ⟨q, hq2⟩ : ∃ q, ys[k]? = some q := ⟨_, List.getElem?_eq_getElem (by rw [HM.out]; exact hltm)⟩
        have y0 := (hb.cell (p := ⟨b2, o2 + k * 2, none⟩) hbB2).trans (hc2 k q hq2).1
        have y1 := (hb.cell (p := ⟨b2, o2 + k * 2 + 1, none⟩) hbB2).trans (hc2 k q hq2).2
        subst hB
        rw [Lab.cmpL_drop hp hq2] at hq
        clear hc1 hc2 hp hq2
        have Y0 : ∀ o, (wr.alloc o).cell? ⟨b2, o2 + k * 2, none⟩ = some (.string q.1) := fun o => (World.cell?_alloc_some wr _ o (by rw [y0]; rfl)).trans y0
        have Y1 : ∀ o, (wr.alloc o).cell? ⟨b2, o2 + k * 2 + 1, none⟩ = some (.string q.2) := fun o => (World.cell?_alloc_some wr _ o (by rw [y1]; rfl)).trans y1
        obtain ⟨cc, hcc⟩ : ∃ c, Lab.cmpP p q = c := ⟨_, rfl⟩
        rw [hcc] at hq
        have HCC := Lib.hid hcc
        have HQ := Lib.hid hq
        clear hcc hq
        have hbs := hb.size
        go_wp2_with fail
        refine (pcmp_is p q cc HCC.out _).mono ?_
        rintro e w5 ⟨rfl, hb5⟩
        have hB5 : Below w.heap.size w w5 := ((hb.alloc hb.size _).alloc (by simp; omega) _).trans (hb5.mono (by simp; omega))
        by_cases hc0 : cc = 0
        · have hq := HQ.out
          rw [if_neg (by omega)] at hq
          subst hc0
          go_wp2
          go_roundw
          case rel => exact ⟨k2, by have := HK2.out; omega, by have := HK2.out; omega, rfl, by rw [HK2.out]; exact hq, hB5⟩
          case measure => have := HK2.out; simp [intOf]; omega
        · have hq := HQ.out
          rw [if_pos hc0] at hq
          subst hq
          go_wp2
          go_ret
          exact ⟨rfl, hB5⟩
      · have hd2 : decide (m ≤ k) = true := decide_eq_true (by omega)
        rw [Lab.cmpL_more (by rw [HN.out]; exact hlt) (by rw [HM.out]; omega)] at hq
        subst hq
        clear hc1 hp
        go_wp2
        go_ret
        exact ⟨rfl, hb.alloc hb.size _⟩
    · have hd : decide (k < n) = false := decide_eq_false hlt
      obtain rfl : k = n := by omega
      rw [Lab.cmpL_end HN.out (by rw [HM.out]; exact hkm), HM.out] at hq
      clear hwk
      by_cases hkm2 : k < m
      · have hd2 : decide (k < m) = true := decide_eq_true hkm2
        rw [if_pos hkm2] at hq
        subst hq
        go_wp2
        go_ret
        exact ⟨rfl, hb⟩
      · have hd2 : decide (k < m) = false := decide_eq_false hkm2
        rw [if_neg hkm2] at hq
        subst hq
        go_wp2
        go_ret
        exact ⟨rfl, hb⟩
set_option maxRecDepth 100000 in
set_option maxHeartbeats 8000000 in
theorem lcmp_is (A : Option Addr) (n c : Nat) (xs : List Lab.Pr) (B : Option Addr) (m d : Nat) (ys : List Lab.Pr) (r : Int) (hr : Lab.cmpL (Lab.counted xs) (Lab.counted ys) = r) (w : World) (hx : Prs w w.heap.size A n c xs) (hy : Prs w w.heap.size B m d ys) :
    Calls Try.prog 21 #[.slice A n c, .slice B m d] w fun e w' => e = .returned (.int .i64 r) ∧ Below w.heap.size w w' := by
  have HX := Lib.hid hx
  have HY := Lib.hid hy
  have HR := Lib.hid hr
  clear hx hy hr
  go_enter Try.func21, Try.ntmps21
  go_wp2_with fail
  refine (counts_any A n c xs w HX.out).mono ?_
  rintro e w1 ⟨A1, n1, c1, rfl, h1, hb1⟩
  go_wp2_with fail
  refine (counts_any B m d ys w1 (HY.out.later hb1)).mono ?_
  rintro e w2 ⟨A2, n2, c2, rfl, h2, hb2⟩
  have hB2 := hb1.trans (hb2.mono hb1.size)
  go_wp2_with fail
  refine (cmpF_is A1 n1 c1 _ A2 n2 c2 _ r HR.out w2 (h1.later hb2) h2).mono ?_
  rintro e w3 ⟨rfl, hb3⟩
  go_wp2
  go_ret
  exact ⟨rfl, hB2.trans (hb3.mono hB2.size)⟩
end Go.Proofs.Ytidfiiogjfpfmaa
