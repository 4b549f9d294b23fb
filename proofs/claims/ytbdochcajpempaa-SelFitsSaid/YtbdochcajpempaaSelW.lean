/- The statement SelApart: the walk. -/
import Derived.Test.YtbdochcajpempaaSelV
import Derived.Test.YtbdochcajpempaaSelT
namespace Go.Proofs.Ytbdochcajpempaa
open Go.RowKit
set_option linter.unusedSimpArgs false
set_option linter.unusedVariables false

theorem Sel.print_nil {nm : ByteArray} (h : Lab.name nm = true) : Sel.print nm [] = nm := by
  unfold Sel.print Lab.selSane
  rw [h]
  rfl
theorem Sel.same_false {nm nm2 : ByteArray} {ms ms2 : List Sel.Mt} (h : ¬ (nm = nm2 ∧ ms = ms2)) : Sel.same nm nm2 ms ms2 = false := by
  unfold Sel.same
  rw [← Bool.decide_and, decide_eq_false h]
theorem print_is (nm : ByteArray) (A : Option Addr) (n c : Nat) (ms : List Lab.Mt) (t : ByteArray) (ht : Sel.print nm ms = t) (w : World) (hm : Mts w w.heap.size A n c ms) :
    Calls Try.prog 16 #[.agg #[.string nm, .slice A n c]] w fun e w' => e = .returned (.string t) ∧ Below w.heap.size w w' := by
  subst ht
  exact print_any nm A n c ms w hm
theorem selSane_is (nm : ByteArray) (A : Option Addr) (n c : Nat) (ms : List Lab.Mt) (b : Bool) (hb : Lab.selSane nm ms = b) (w : World) (h : Mts w w.heap.size A n c ms) :
    Calls Try.prog 14 #[.agg #[.string nm, .slice A n c]] w fun e w' => e = .returned (.bool b) ∧ Below w.heap.size w w' := by
  subst hb
  exact selSane_any nm A n c ms w h
theorem same_is (nm nm2 : ByteArray) (A B : Option Addr) (n c m d : Nat) (ms ms2 : List Lab.Mt) (b : Bool) (hb : Sel.same nm nm2 ms ms2 = b) (w : World) (h : Mts w w.heap.size A n c ms) (g : Mts w w.heap.size B m d ms2) :
    Calls Try.prog 18 #[.agg #[.string nm, .slice A n c], .agg #[.string nm2, .slice B m d]] w fun e w' => e = .returned (.bool b) ∧ Below w.heap.size w w' := by
  subst hb
  exact same_any nm nm2 A B n c m d ms ms2 w h g

set_option maxRecDepth 100000 in
set_option maxHeartbeats 16000000 in
theorem selApart_any (nm : ByteArray) (A : Option Addr) (n c : Nat) (ms : List Lab.Mt) (nm2 : ByteArray) (B : Option Addr) (m d : Nat) (ms2 : List Lab.Mt) (w : World)
    (hM : Mts w w.heap.size A n c ms) (hM2 : Mts w w.heap.size B m d ms2) :
    Calls Try.prog 7 #[.agg #[.string nm, .slice A n c], .agg #[.string nm2, .slice B m d]] w fun e w' => LawR w e w' := by
  have HM := Lib.hid hM
  have HM2 := Lib.hid hM2
  clear hM hM2
  go_enter Try.func7, Try.ntmps7
  go_wp2_with fail
  have hB2 : Below w.heap.size w ((w.alloc (.cells #[.string nm, .slice A n c] 24)).alloc (.cells #[.string nm2, .slice B m d] 24)) := ((Below.refl _ w).alloc (Nat.le_refl _) _).alloc (by simp) _
  have b1 := (Mem.Blk.new w 24 #[.string nm, .slice A n c]).alloc (.cells #[.string nm2, .slice B m d] 24)
  have b2 : Mem.Blk ((w.alloc (.cells #[.string nm, .slice A n c] 24)).alloc (.cells #[.string nm2, .slice B m d] 24)) (w.heap.size + 1) 24 #[.string nm2, .slice B m d] := by
    simpa using Mem.Blk.new (w.alloc (.cells #[.string nm, .slice A n c] 24)) 24 #[.string nm2, .slice B m d]
  generalize (w.alloc (.cells #[.string nm, .slice A n c] 24)).alloc (.cells #[.string nm2, .slice B m d] 24) = W1 at hB2 b1 b2 ⊢
  have hlA := b1.lt
  have hlB := b2.lt
  have BA := Lib.hid b1
  have BB := Lib.hid b2
  clear b1 b2
  have HM := Lib.hid ((HM.out.below hB2).more hB2.size)
  have HM2 := Lib.hid ((HM2.out.below hB2).more hB2.size)
  refine (awake_any W1).mono ?_
  rintro e w2 ⟨rfl, hC2⟩
  have u0 := (hC2.cell (p := ⟨w.heap.size, 0, none⟩) hlA).trans (BA.out.cell 0)
  have u1 := (hC2.cell (p := ⟨w.heap.size, 1, none⟩) hlA).trans (BA.out.cell 1)
  have v0 := (hC2.cell (p := ⟨w.heap.size + 1, 0, none⟩) hlB).trans (BB.out.cell 0)
  have v1 := (hC2.cell (p := ⟨w.heap.size + 1, 1, none⟩) hlB).trans (BB.out.cell 1)
  simp at u0 u1 v0 v1
  go_wp2_with fail
  refine (fewS_any nm A n c ms w2 (HM.out.later hC2)).mono ?_
  rintro e w3 ⟨few, rfl, -, hb3⟩
  have hC3 := hC2.trans (hb3.mono hC2.size)
  have u0 := (hC3.cell (p := ⟨w.heap.size, 0, none⟩) hlA).trans (BA.out.cell 0)
  have u1 := (hC3.cell (p := ⟨w.heap.size, 1, none⟩) hlA).trans (BA.out.cell 1)
  have v0 := (hC3.cell (p := ⟨w.heap.size + 1, 0, none⟩) hlB).trans (BB.out.cell 0)
  have v1 := (hC3.cell (p := ⟨w.heap.size + 1, 1, none⟩) hlB).trans (BB.out.cell 1)
  simp at u0 u1 v0 v1
  rcases few with _ | _
  · go_wp2
    go_ret
    exact ⟨rfl, hB2.trans (hC3.mono hB2.size)⟩
  go_wp2_with fail
  refine (fewS_any nm2 B m d ms2 w3 (HM2.out.later hC3)).mono ?_
  rintro e w4 ⟨few, rfl, -, hb4⟩
  have hC4 := hC3.trans (hb4.mono hC3.size)
  have u0 := (hC4.cell (p := ⟨w.heap.size, 0, none⟩) hlA).trans (BA.out.cell 0)
  have u1 := (hC4.cell (p := ⟨w.heap.size, 1, none⟩) hlA).trans (BA.out.cell 1)
  have v0 := (hC4.cell (p := ⟨w.heap.size + 1, 0, none⟩) hlB).trans (BB.out.cell 0)
  have v1 := (hC4.cell (p := ⟨w.heap.size + 1, 1, none⟩) hlB).trans (BB.out.cell 1)
  simp at u0 u1 v0 v1
  rcases few with _ | _
  · go_wp2
    go_ret
    exact ⟨rfl, hB2.trans (hC4.mono hB2.size)⟩
  rcases hs : Lab.selSane nm ms with _ | _
  · have HS := Lib.hid hs
    clear hs
    go_wp2_with fail
    refine (selSane_is nm A n c ms _ HS.out w4 (HM.out.later hC4)).mono ?_
    rintro e w5 ⟨rfl, hb5⟩
    have hC5 := hC4.trans (hb5.mono hC4.size)
    go_wp2
    go_ret
    exact ⟨rfl, hB2.trans (hC5.mono hB2.size)⟩
  have HS := Lib.hid hs
  clear hs
  go_wp2_with fail
  refine (selSane_is nm A n c ms _ HS.out w4 (HM.out.later hC4)).mono ?_
  rintro e w5 ⟨rfl, hb5⟩
  have hC5 := hC4.trans (hb5.mono hC4.size)
  have u0 := (hC5.cell (p := ⟨w.heap.size, 0, none⟩) hlA).trans (BA.out.cell 0)
  have u1 := (hC5.cell (p := ⟨w.heap.size, 1, none⟩) hlA).trans (BA.out.cell 1)
  have v0 := (hC5.cell (p := ⟨w.heap.size + 1, 0, none⟩) hlB).trans (BB.out.cell 0)
  have v1 := (hC5.cell (p := ⟨w.heap.size + 1, 1, none⟩) hlB).trans (BB.out.cell 1)
  simp at u0 u1 v0 v1
  rcases hs : Lab.selSane nm2 ms2 with _ | _
  · have HS2 := Lib.hid hs
    clear hs
    go_wp2_with fail
    refine (selSane_is nm2 B m d ms2 _ HS2.out w5 (HM2.out.later hC5)).mono ?_
    rintro e w6 ⟨rfl, hb6⟩
    have hC6 := hC5.trans (hb6.mono hC5.size)
    go_wp2
    go_ret
    exact ⟨rfl, hB2.trans (hC6.mono hB2.size)⟩
  have HS2 := Lib.hid hs
  clear hs
  go_wp2_with fail
  refine (selSane_is nm2 B m d ms2 _ HS2.out w5 (HM2.out.later hC5)).mono ?_
  rintro e w6 ⟨rfl, hb6⟩
  have hC6 := hC5.trans (hb6.mono hC5.size)
  have u0 := (hC6.cell (p := ⟨w.heap.size, 0, none⟩) hlA).trans (BA.out.cell 0)
  have u1 := (hC6.cell (p := ⟨w.heap.size, 1, none⟩) hlA).trans (BA.out.cell 1)
  have v0 := (hC6.cell (p := ⟨w.heap.size + 1, 0, none⟩) hlB).trans (BB.out.cell 0)
  have v1 := (hC6.cell (p := ⟨w.heap.size + 1, 1, none⟩) hlB).trans (BB.out.cell 1)
  simp at u0 u1 v0 v1
  go_wp2
  have UA0 := Lib.hid u0
  have UA1 := Lib.hid u1
  have UB0 := Lib.hid v0
  have UB1 := Lib.hid v1
  have hlA' := Nat.lt_of_lt_of_le hlA hC6.size
  have hlB' := Nat.lt_of_lt_of_le hlB hC6.size
  have HMA := Lib.hid (HM.out.later hC6)
  have HMB := Lib.hid (HM2.out.later hC6)
  have hB6 := hB2.trans (hC6.mono hB2.size)
  have HPN := Lib.hid (Sel.print_nil (Sel.sane_nm HS.out).2.2.2)
  clear u0 u1 v0 v1 hC2 hC3 hC4 hC5 hC6 hb3 hb4 hb5 hb6
  by_cases heq : nm = nm2 ∧ ms = ms2
  · obtain ⟨q, hq⟩ : ∃ q, Sel.print nm ms = q := ⟨_, rfl⟩
    have HQ1 := Lib.hid hq
    have HQ2 := Lib.hid (show Sel.print nm2 ms2 = q by rw [← heq.1, ← heq.2]; exact hq)
    have HSM := Lib.hid (show Sel.same nm nm2 ms ms2 = true by rw [heq.1, heq.2]; exact Sel.same_self _ _)
    clear heq hq
    refine wp_region_held_drew (S := fun W' => Below w6.heap.size w6 W') (by kernel_rfl) (Below.refl _ _).drew (fun hHeld => ?_)
    refine wpAnyH_take (i := 0) (v := ?_) (by simp only [List.getElem?_toArray, List.getElem?_cons_succ, List.getElem?_cons_zero]; exact rfl) (by kernel_rfl) (by kernel_rfl) (by kernel_rfl) (by exact fun _ _ _ h => h) (Or.inl ⟨by rfl, ?_⟩) hHeld ?_
    rotate_left
    · intro wq hSw; go_simp; all_goals (with_reducible rfl)
    try simp only [Act.put, List.setIfInBounds_toArray, List.set_cons_zero, List.set_cons_succ]
    refine wpAnyH_take (i := 1) (v := ?_) (by simp only [List.getElem?_toArray, List.getElem?_cons_succ, List.getElem?_cons_zero]; exact rfl) (by kernel_rfl) (by kernel_rfl) (by kernel_rfl) (by exact fun _ _ _ h => h) (Or.inl ⟨by rfl, ?_⟩) hHeld ?_
    rotate_left
    · intro wq hSw; go_simp; all_goals (with_reducible rfl)
    try simp only [Act.put, List.setIfInBounds_toArray, List.set_cons_zero, List.set_cons_succ]
    refine wpAnyH_take (i := 2) (v := ?_) (by simp only [List.getElem?_toArray, List.getElem?_cons_succ, List.getElem?_cons_zero]; exact rfl) (by kernel_rfl) (by kernel_rfl) (by kernel_rfl) (by exact fun _ _ _ h => h) (Or.inl ⟨by rfl, ?_⟩) hHeld ?_
    rotate_left
    · intro wq hSw; have u0 := (hSw.cell (p := ⟨w.heap.size, 0, none⟩) hlA').trans UA0.out; have u1 := (hSw.cell (p := ⟨w.heap.size, 1, none⟩) hlA').trans UA1.out; have v0 := (hSw.cell (p := ⟨w.heap.size + 1, 0, none⟩) hlB').trans UB0.out; have v1 := (hSw.cell (p := ⟨w.heap.size + 1, 1, none⟩) hlB').trans UB1.out; go_simp; all_goals (with_reducible rfl)
    try simp only [Act.put, List.setIfInBounds_toArray, List.set_cons_zero, List.set_cons_succ]
    refine wpAnyH_take (i := 4) (v := ?_) (by simp only [List.getElem?_toArray, List.getElem?_cons_succ, List.getElem?_cons_zero]; exact rfl) (by kernel_rfl) (by kernel_rfl) (by kernel_rfl) (by exact fun _ _ _ h => h) (Or.inl ⟨by rfl, ?_⟩) hHeld ?_
    rotate_left
    · intro wq hSw; have u0 := (hSw.cell (p := ⟨w.heap.size, 0, none⟩) hlA').trans UA0.out; have u1 := (hSw.cell (p := ⟨w.heap.size, 1, none⟩) hlA').trans UA1.out; have v0 := (hSw.cell (p := ⟨w.heap.size + 1, 0, none⟩) hlB').trans UB0.out; have v1 := (hSw.cell (p := ⟨w.heap.size + 1, 1, none⟩) hlB').trans UB1.out; go_simp; all_goals (with_reducible rfl)
    try simp only [Act.put, List.setIfInBounds_toArray, List.set_cons_zero, List.set_cons_succ]
    refine wpAnyH_take (i := 7) (v := ?_) (by simp only [List.getElem?_toArray, List.getElem?_cons_succ, List.getElem?_cons_zero]; exact rfl) (by kernel_rfl) (by kernel_rfl) (by kernel_rfl) (by exact fun _ _ _ h => h) (Or.inl ⟨by rfl, ?_⟩) hHeld ?_
    rotate_left
    · intro wq hSw; have u0 := (hSw.cell (p := ⟨w.heap.size, 0, none⟩) hlA').trans UA0.out; have u1 := (hSw.cell (p := ⟨w.heap.size, 1, none⟩) hlA').trans UA1.out; have v0 := (hSw.cell (p := ⟨w.heap.size + 1, 0, none⟩) hlB').trans UB0.out; have v1 := (hSw.cell (p := ⟨w.heap.size + 1, 1, none⟩) hlB').trans UB1.out; go_simp; all_goals (with_reducible rfl)
    try simp only [Act.put, List.setIfInBounds_toArray, List.set_cons_zero, List.set_cons_succ]
    refine wpAnyH_take (i := 8) (v := ?_) (by simp only [List.getElem?_toArray, List.getElem?_cons_succ, List.getElem?_cons_zero]; exact rfl) (by kernel_rfl) (by kernel_rfl) (by kernel_rfl) (by exact fun _ _ _ h => h) (Or.inl ⟨by rfl, ?_⟩) hHeld ?_
    rotate_left
    · intro wq hSw; have u0 := (hSw.cell (p := ⟨w.heap.size, 0, none⟩) hlA').trans UA0.out; have u1 := (hSw.cell (p := ⟨w.heap.size, 1, none⟩) hlA').trans UA1.out; have v0 := (hSw.cell (p := ⟨w.heap.size + 1, 0, none⟩) hlB').trans UB0.out; have v1 := (hSw.cell (p := ⟨w.heap.size + 1, 1, none⟩) hlB').trans UB1.out; go_simp; all_goals (with_reducible rfl)
    try simp only [Act.put, List.setIfInBounds_toArray, List.set_cons_zero, List.set_cons_succ]
    refine wpAnyH_ready (rs := [3]) (by kernel_rfl) (by simp) ?_
    refine AllReadyH.cons (by simp only [List.getElem?_toArray, List.getElem?_cons_succ, List.getElem?_cons_zero]; exact rfl) (fun K hK => ?_) ?_
    · go_simp
      refine (print_is nm A n c ms q HQ1.out _ (HMA.out.later hHeld)).mono ?_
      rintro e w10 ⟨rfl, hb10⟩
      show K _ _
      refine hK.out _ _ (hHeld.trans (hb10.mono hHeld.size)) (fun hHeld => ?_)
      clear hK K
      try simp only [Act.put, List.setIfInBounds_toArray, List.set_cons_zero, List.set_cons_succ]
      refine wpAnyH_ready (rs := [5]) (by kernel_rfl) (by simp) ?_
      refine AllReadyH.cons (by simp only [List.getElem?_toArray, List.getElem?_cons_succ, List.getElem?_cons_zero]; exact rfl) (fun K hK => ?_) ?_
      · go_simp
        refine (print_is nm2 B m d ms2 q HQ2.out _ (HMB.out.later hHeld)).mono ?_
        rintro e w11 ⟨rfl, hb11⟩
        show K _ _
        refine hK.out _ _ (hHeld.trans (hb11.mono hHeld.size)) (fun hHeld => ?_)
        clear hK K
        try simp only [Act.put, List.setIfInBounds_toArray, List.set_cons_zero, List.set_cons_succ]
        refine wpAnyH_take (i := 6) (v := ?_) (by simp only [List.getElem?_toArray, List.getElem?_cons_succ, List.getElem?_cons_zero]; exact rfl) (by kernel_rfl) (by kernel_rfl) (by kernel_rfl) (by exact fun _ _ _ h => h) (Or.inl ⟨by rfl, ?_⟩) hHeld ?_
        rotate_left
        · intro wq hSw; go_simp; all_goals (with_reducible rfl)
        try simp only [Act.put, List.setIfInBounds_toArray, List.set_cons_zero, List.set_cons_succ]
        refine wpAnyH_ready (rs := [9]) (by kernel_rfl) (by simp) ?_
        refine AllReadyH.cons (by simp only [List.getElem?_toArray, List.getElem?_cons_succ, List.getElem?_cons_zero]; exact rfl) (fun K hK => ?_) ?_
        · go_simp
          refine (same_is nm nm2 A B n c m d ms ms2 true HSM.out _ (HMA.out.later hHeld) (HMB.out.later hHeld)).mono ?_
          rintro e w12 ⟨rfl, hb12⟩
          show K _ _
          refine hK.out _ _ (hHeld.trans (hb12.mono hHeld.size)) (fun hHeld => ?_)
          clear hK K
          try simp only [Act.put, List.setIfInBounds_toArray, List.set_cons_zero, List.set_cons_succ]
          refine wpAnyH_take (i := 10) (v := ?_) (by simp only [List.getElem?_toArray, List.getElem?_cons_succ, List.getElem?_cons_zero]; exact rfl) (by kernel_rfl) (by kernel_rfl) (by kernel_rfl) (by exact fun _ _ _ h => h) (Or.inl ⟨by rfl, ?_⟩) hHeld ?_
          rotate_left
          · intro wq hSw; go_simp; all_goals (with_reducible rfl)
          try simp only [Act.put, List.setIfInBounds_toArray, List.set_cons_zero, List.set_cons_succ]
          refine wpAnyH_take (i := 11) (v := ?_) (by simp only [List.getElem?_toArray, List.getElem?_cons_succ, List.getElem?_cons_zero]; exact rfl) (by kernel_rfl) (by kernel_rfl) (by kernel_rfl) (by exact fun _ _ _ h => h) (Or.inl ⟨by rfl, ?_⟩) hHeld ?_
          rotate_left
          · intro wq hSw; go_simp; all_goals (with_reducible rfl)
          try simp only [Act.put, List.setIfInBounds_toArray, List.set_cons_zero, List.set_cons_succ]
          refine wpAnyH_take (i := 12) (v := ?_) (by simp only [List.getElem?_toArray, List.getElem?_cons_succ, List.getElem?_cons_zero]; exact rfl) (by kernel_rfl) (by kernel_rfl) (by kernel_rfl) (by exact fun _ _ _ h => h) (Or.inl ⟨by rfl, ?_⟩) hHeld ?_
          rotate_left
          · intro wq hSw; go_simp; all_goals (with_reducible rfl)
          try simp only [Act.put, List.setIfInBounds_toArray, List.set_cons_zero, List.set_cons_succ]
          refine wpAnyH_take (i := 13) (v := ?_) (by simp only [List.getElem?_toArray, List.getElem?_cons_succ, List.getElem?_cons_zero]; exact rfl) (by kernel_rfl) (by kernel_rfl) (by kernel_rfl) (by exact fun _ _ _ h => h) (Or.inl ⟨by rfl, ?_⟩) hHeld ?_
          rotate_left
          · intro wq hSw; go_simp; all_goals (with_reducible rfl)
          try simp only [Act.put, List.setIfInBounds_toArray, List.set_cons_zero, List.set_cons_succ]
          refine wpAnyH_take (i := 14) (v := ?_) (by simp only [List.getElem?_toArray, List.getElem?_cons_succ, List.getElem?_cons_zero]; exact rfl) (by kernel_rfl) (by kernel_rfl) (by kernel_rfl) (by exact fun _ _ _ h => h) (Or.inl ⟨by rfl, ?_⟩) hHeld ?_
          rotate_left
          · intro wq hSw; have u0 := (hSw.cell (p := ⟨w.heap.size, 0, none⟩) hlA').trans UA0.out; have u1 := (hSw.cell (p := ⟨w.heap.size, 1, none⟩) hlA').trans UA1.out; have v0 := (hSw.cell (p := ⟨w.heap.size + 1, 0, none⟩) hlB').trans UB0.out; have v1 := (hSw.cell (p := ⟨w.heap.size + 1, 1, none⟩) hlB').trans UB1.out; go_simp; all_goals (with_reducible rfl)
          try simp only [Act.put, List.setIfInBounds_toArray, List.set_cons_zero, List.set_cons_succ]
          refine wpAnyH_take (i := 15) (v := ?_) (by simp only [List.getElem?_toArray, List.getElem?_cons_succ, List.getElem?_cons_zero]; exact rfl) (by kernel_rfl) (by kernel_rfl) (by kernel_rfl) (by exact fun _ _ _ h => h) (Or.inl ⟨by rfl, ?_⟩) hHeld ?_
          rotate_left
          · intro wq hSw; go_simp; all_goals (with_reducible rfl)
          try simp only [Act.put, List.setIfInBounds_toArray, List.set_cons_zero, List.set_cons_succ]
          refine wpAnyH_take (i := 17) (v := ?_) (by simp only [List.getElem?_toArray, List.getElem?_cons_succ, List.getElem?_cons_zero]; exact rfl) (by kernel_rfl) (by kernel_rfl) (by kernel_rfl) (by exact fun _ _ _ h => h) (Or.inl ⟨by rfl, ?_⟩) hHeld ?_
          rotate_left
          · intro wq hSw; go_simp; all_goals (with_reducible rfl)
          try simp only [Act.put, List.setIfInBounds_toArray, List.set_cons_zero, List.set_cons_succ]
          refine wpAnyH_take (i := 18) (v := ?_) (by simp only [List.getElem?_toArray, List.getElem?_cons_succ, List.getElem?_cons_zero]; exact rfl) (by kernel_rfl) (by kernel_rfl) (by kernel_rfl) (by exact fun _ _ _ h => h) (Or.inl ⟨by rfl, ?_⟩) hHeld ?_
          rotate_left
          · intro wq hSw; have u0 := (hSw.cell (p := ⟨w.heap.size, 0, none⟩) hlA').trans UA0.out; have u1 := (hSw.cell (p := ⟨w.heap.size, 1, none⟩) hlA').trans UA1.out; have v0 := (hSw.cell (p := ⟨w.heap.size + 1, 0, none⟩) hlB').trans UB0.out; have v1 := (hSw.cell (p := ⟨w.heap.size + 1, 1, none⟩) hlB').trans UB1.out; go_simp; all_goals (with_reducible rfl)
          try simp only [Act.put, List.setIfInBounds_toArray, List.set_cons_zero, List.set_cons_succ]
          refine wpAnyH_ready (rs := [16]) (by kernel_rfl) (by simp) ?_
          refine AllReadyH.cons (by simp only [List.getElem?_toArray, List.getElem?_cons_succ, List.getElem?_cons_zero]; exact rfl) (fun K hK => ?_) ?_
          · go_simp
            refine (print_is nm none 0 0 [] nm HPN.out _ (mts_none _)).mono ?_
            rintro e w13 ⟨rfl, hb13⟩
            show K _ _
            refine hK.out _ _ (hHeld.trans (hb13.mono hHeld.size)) (fun hHeld => ?_)
            clear hK K
            try simp only [Act.put, List.setIfInBounds_toArray, List.set_cons_zero, List.set_cons_succ]
            refine wpAnyH_take (i := 19) (v := ?_) (by simp only [List.getElem?_toArray, List.getElem?_cons_succ, List.getElem?_cons_zero]; exact rfl) (by kernel_rfl) (by kernel_rfl) (by kernel_rfl) (by exact fun _ _ _ h => h) (Or.inl ⟨by rfl, ?_⟩) hHeld ?_
            rotate_left
            · intro wq hSw; go_simp; all_goals (with_reducible rfl)
            try simp only [Act.put, List.setIfInBounds_toArray, List.set_cons_zero, List.set_cons_succ]
            refine wpAnyH_take (i := 20) (v := ?_) (by simp only [List.getElem?_toArray, List.getElem?_cons_succ, List.getElem?_cons_zero]; exact rfl) (by kernel_rfl) (by kernel_rfl) (by kernel_rfl) (by exact fun _ _ _ h => h) (Or.inl ⟨by rfl, ?_⟩) hHeld ?_
            rotate_left
            · intro wq hSw; go_simp; all_goals (with_reducible rfl)
            try simp only [Act.put, List.setIfInBounds_toArray, List.set_cons_zero, List.set_cons_succ]
            refine wpAnyH_take (i := 21) (v := ?_) (by simp only [List.getElem?_toArray, List.getElem?_cons_succ, List.getElem?_cons_zero]; exact rfl) (by kernel_rfl) (by kernel_rfl) (by kernel_rfl) (by exact fun _ _ _ h => h) (Or.inl ⟨by rfl, ?_⟩) hHeld ?_
            rotate_left
            · intro wq hSw; go_simp; all_goals (with_reducible rfl)
            try simp only [Act.put, List.setIfInBounds_toArray, List.set_cons_zero, List.set_cons_succ]
            refine wpAnyH_done (by kernel_rfl) ?_ _
            go_wp2
            go_ret
            exact ⟨rfl, hB6.trans (hHeld.mono hB6.size)⟩
          · exact AllReadyH.nil
        · exact AllReadyH.nil
      · exact AllReadyH.nil
    · exact AllReadyH.nil
  · obtain ⟨q, hq⟩ : ∃ q, Sel.print nm ms = q := ⟨_, rfl⟩
    obtain ⟨q2, hq2⟩ : ∃ q, Sel.print nm2 ms2 = q := ⟨_, rfl⟩
    have HQ1 := Lib.hid hq
    have HQ2 := Lib.hid hq2
    have HSM := Lib.hid (Sel.same_false heq)
    have hqn := Sel.ba_ne (show ¬ q = q2 by rw [← hq, ← hq2]; exact fun e => heq (Sel.print_inj HS.out HS2.out e))
    clear heq hq hq2
    refine wp_region_held_drew (S := fun W' => Below w6.heap.size w6 W') (by kernel_rfl) (Below.refl _ _).drew (fun hHeld => ?_)
    refine wpAnyH_take (i := 0) (v := ?_) (by simp only [List.getElem?_toArray, List.getElem?_cons_succ, List.getElem?_cons_zero]; exact rfl) (by kernel_rfl) (by kernel_rfl) (by kernel_rfl) (by exact fun _ _ _ h => h) (Or.inl ⟨by rfl, ?_⟩) hHeld ?_
    rotate_left
    · intro wq hSw; go_simp; all_goals (with_reducible rfl)
    try simp only [Act.put, List.setIfInBounds_toArray, List.set_cons_zero, List.set_cons_succ]
    refine wpAnyH_take (i := 1) (v := ?_) (by simp only [List.getElem?_toArray, List.getElem?_cons_succ, List.getElem?_cons_zero]; exact rfl) (by kernel_rfl) (by kernel_rfl) (by kernel_rfl) (by exact fun _ _ _ h => h) (Or.inl ⟨by rfl, ?_⟩) hHeld ?_
    rotate_left
    · intro wq hSw; go_simp; all_goals (with_reducible rfl)
    try simp only [Act.put, List.setIfInBounds_toArray, List.set_cons_zero, List.set_cons_succ]
    refine wpAnyH_take (i := 2) (v := ?_) (by simp only [List.getElem?_toArray, List.getElem?_cons_succ, List.getElem?_cons_zero]; exact rfl) (by kernel_rfl) (by kernel_rfl) (by kernel_rfl) (by exact fun _ _ _ h => h) (Or.inl ⟨by rfl, ?_⟩) hHeld ?_
    rotate_left
    · intro wq hSw; have u0 := (hSw.cell (p := ⟨w.heap.size, 0, none⟩) hlA').trans UA0.out; have u1 := (hSw.cell (p := ⟨w.heap.size, 1, none⟩) hlA').trans UA1.out; have v0 := (hSw.cell (p := ⟨w.heap.size + 1, 0, none⟩) hlB').trans UB0.out; have v1 := (hSw.cell (p := ⟨w.heap.size + 1, 1, none⟩) hlB').trans UB1.out; go_simp; all_goals (with_reducible rfl)
    try simp only [Act.put, List.setIfInBounds_toArray, List.set_cons_zero, List.set_cons_succ]
    refine wpAnyH_take (i := 4) (v := ?_) (by simp only [List.getElem?_toArray, List.getElem?_cons_succ, List.getElem?_cons_zero]; exact rfl) (by kernel_rfl) (by kernel_rfl) (by kernel_rfl) (by exact fun _ _ _ h => h) (Or.inl ⟨by rfl, ?_⟩) hHeld ?_
    rotate_left
    · intro wq hSw; have u0 := (hSw.cell (p := ⟨w.heap.size, 0, none⟩) hlA').trans UA0.out; have u1 := (hSw.cell (p := ⟨w.heap.size, 1, none⟩) hlA').trans UA1.out; have v0 := (hSw.cell (p := ⟨w.heap.size + 1, 0, none⟩) hlB').trans UB0.out; have v1 := (hSw.cell (p := ⟨w.heap.size + 1, 1, none⟩) hlB').trans UB1.out; go_simp; all_goals (with_reducible rfl)
    try simp only [Act.put, List.setIfInBounds_toArray, List.set_cons_zero, List.set_cons_succ]
    refine wpAnyH_take (i := 7) (v := ?_) (by simp only [List.getElem?_toArray, List.getElem?_cons_succ, List.getElem?_cons_zero]; exact rfl) (by kernel_rfl) (by kernel_rfl) (by kernel_rfl) (by exact fun _ _ _ h => h) (Or.inl ⟨by rfl, ?_⟩) hHeld ?_
    rotate_left
    · intro wq hSw; have u0 := (hSw.cell (p := ⟨w.heap.size, 0, none⟩) hlA').trans UA0.out; have u1 := (hSw.cell (p := ⟨w.heap.size, 1, none⟩) hlA').trans UA1.out; have v0 := (hSw.cell (p := ⟨w.heap.size + 1, 0, none⟩) hlB').trans UB0.out; have v1 := (hSw.cell (p := ⟨w.heap.size + 1, 1, none⟩) hlB').trans UB1.out; go_simp; all_goals (with_reducible rfl)
    try simp only [Act.put, List.setIfInBounds_toArray, List.set_cons_zero, List.set_cons_succ]
    refine wpAnyH_take (i := 8) (v := ?_) (by simp only [List.getElem?_toArray, List.getElem?_cons_succ, List.getElem?_cons_zero]; exact rfl) (by kernel_rfl) (by kernel_rfl) (by kernel_rfl) (by exact fun _ _ _ h => h) (Or.inl ⟨by rfl, ?_⟩) hHeld ?_
    rotate_left
    · intro wq hSw; have u0 := (hSw.cell (p := ⟨w.heap.size, 0, none⟩) hlA').trans UA0.out; have u1 := (hSw.cell (p := ⟨w.heap.size, 1, none⟩) hlA').trans UA1.out; have v0 := (hSw.cell (p := ⟨w.heap.size + 1, 0, none⟩) hlB').trans UB0.out; have v1 := (hSw.cell (p := ⟨w.heap.size + 1, 1, none⟩) hlB').trans UB1.out; go_simp; all_goals (with_reducible rfl)
    try simp only [Act.put, List.setIfInBounds_toArray, List.set_cons_zero, List.set_cons_succ]
    refine wpAnyH_ready (rs := [3]) (by kernel_rfl) (by simp) ?_
    refine AllReadyH.cons (by simp only [List.getElem?_toArray, List.getElem?_cons_succ, List.getElem?_cons_zero]; exact rfl) (fun K hK => ?_) ?_
    · go_simp
      refine (print_is nm A n c ms q HQ1.out _ (HMA.out.later hHeld)).mono ?_
      rintro e w10 ⟨rfl, hb10⟩
      show K _ _
      refine hK.out _ _ (hHeld.trans (hb10.mono hHeld.size)) (fun hHeld => ?_)
      clear hK K
      try simp only [Act.put, List.setIfInBounds_toArray, List.set_cons_zero, List.set_cons_succ]
      refine wpAnyH_ready (rs := [5]) (by kernel_rfl) (by simp) ?_
      refine AllReadyH.cons (by simp only [List.getElem?_toArray, List.getElem?_cons_succ, List.getElem?_cons_zero]; exact rfl) (fun K hK => ?_) ?_
      · go_simp
        refine (print_is nm2 B m d ms2 q2 HQ2.out _ (HMB.out.later hHeld)).mono ?_
        rintro e w11 ⟨rfl, hb11⟩
        show K _ _
        refine hK.out _ _ (hHeld.trans (hb11.mono hHeld.size)) (fun hHeld => ?_)
        clear hK K
        try simp only [Act.put, List.setIfInBounds_toArray, List.set_cons_zero, List.set_cons_succ]
        refine wpAnyH_take (i := 6) (v := ?_) (by simp only [List.getElem?_toArray, List.getElem?_cons_succ, List.getElem?_cons_zero]; exact rfl) (by kernel_rfl) (by kernel_rfl) (by kernel_rfl) (by exact fun _ _ _ h => h) (Or.inl ⟨by rfl, ?_⟩) hHeld ?_
        rotate_left
        · intro wq hSw; go_simp; all_goals (with_reducible rfl)
        try simp only [Act.put, List.setIfInBounds_toArray, List.set_cons_zero, List.set_cons_succ]
        refine wpAnyH_ready (rs := [9]) (by kernel_rfl) (by simp) ?_
        refine AllReadyH.cons (by simp only [List.getElem?_toArray, List.getElem?_cons_succ, List.getElem?_cons_zero]; exact rfl) (fun K hK => ?_) ?_
        · go_simp
          refine (same_is nm nm2 A B n c m d ms ms2 false HSM.out _ (HMA.out.later hHeld) (HMB.out.later hHeld)).mono ?_
          rintro e w12 ⟨rfl, hb12⟩
          show K _ _
          refine hK.out _ _ (hHeld.trans (hb12.mono hHeld.size)) (fun hHeld => ?_)
          clear hK K
          try simp only [Act.put, List.setIfInBounds_toArray, List.set_cons_zero, List.set_cons_succ]
          refine wpAnyH_take (i := 10) (v := ?_) (by simp only [List.getElem?_toArray, List.getElem?_cons_succ, List.getElem?_cons_zero]; exact rfl) (by kernel_rfl) (by kernel_rfl) (by kernel_rfl) (by exact fun _ _ _ h => h) (Or.inl ⟨by rfl, ?_⟩) hHeld ?_
          rotate_left
          · intro wq hSw; go_simp; all_goals (with_reducible rfl)
          try simp only [Act.put, List.setIfInBounds_toArray, List.set_cons_zero, List.set_cons_succ]
          refine wpAnyH_take (i := 11) (v := ?_) (by simp only [List.getElem?_toArray, List.getElem?_cons_succ, List.getElem?_cons_zero]; exact rfl) (by kernel_rfl) (by kernel_rfl) (by kernel_rfl) (by exact fun _ _ _ h => h) (Or.inl ⟨by rfl, ?_⟩) hHeld ?_
          rotate_left
          · intro wq hSw; go_simp; all_goals (with_reducible rfl)
          try simp only [Act.put, List.setIfInBounds_toArray, List.set_cons_zero, List.set_cons_succ]
          refine wpAnyH_take (i := 12) (v := ?_) (by simp only [List.getElem?_toArray, List.getElem?_cons_succ, List.getElem?_cons_zero]; exact rfl) (by kernel_rfl) (by kernel_rfl) (by kernel_rfl) (by exact fun _ _ _ h => h) (Or.inl ⟨by rfl, ?_⟩) hHeld ?_
          rotate_left
          · intro wq hSw; go_simp; all_goals (with_reducible rfl)
          try simp only [Act.put, List.setIfInBounds_toArray, List.set_cons_zero, List.set_cons_succ]
          refine wpAnyH_take (i := 13) (v := ?_) (by simp only [List.getElem?_toArray, List.getElem?_cons_succ, List.getElem?_cons_zero]; exact rfl) (by kernel_rfl) (by kernel_rfl) (by kernel_rfl) (by exact fun _ _ _ h => h) (Or.inl ⟨by rfl, ?_⟩) hHeld ?_
          rotate_left
          · intro wq hSw; go_simp; all_goals (with_reducible rfl)
          try simp only [Act.put, List.setIfInBounds_toArray, List.set_cons_zero, List.set_cons_succ]
          refine wpAnyH_take (i := 14) (v := ?_) (by simp only [List.getElem?_toArray, List.getElem?_cons_succ, List.getElem?_cons_zero]; exact rfl) (by kernel_rfl) (by kernel_rfl) (by kernel_rfl) (by exact fun _ _ _ h => h) (Or.inl ⟨by rfl, ?_⟩) hHeld ?_
          rotate_left
          · intro wq hSw; have u0 := (hSw.cell (p := ⟨w.heap.size, 0, none⟩) hlA').trans UA0.out; have u1 := (hSw.cell (p := ⟨w.heap.size, 1, none⟩) hlA').trans UA1.out; have v0 := (hSw.cell (p := ⟨w.heap.size + 1, 0, none⟩) hlB').trans UB0.out; have v1 := (hSw.cell (p := ⟨w.heap.size + 1, 1, none⟩) hlB').trans UB1.out; go_simp; all_goals (with_reducible rfl)
          try simp only [Act.put, List.setIfInBounds_toArray, List.set_cons_zero, List.set_cons_succ]
          refine wpAnyH_take (i := 15) (v := ?_) (by simp only [List.getElem?_toArray, List.getElem?_cons_succ, List.getElem?_cons_zero]; exact rfl) (by kernel_rfl) (by kernel_rfl) (by kernel_rfl) (by exact fun _ _ _ h => h) (Or.inl ⟨by rfl, ?_⟩) hHeld ?_
          rotate_left
          · intro wq hSw; go_simp; all_goals (with_reducible rfl)
          try simp only [Act.put, List.setIfInBounds_toArray, List.set_cons_zero, List.set_cons_succ]
          refine wpAnyH_take (i := 17) (v := ?_) (by simp only [List.getElem?_toArray, List.getElem?_cons_succ, List.getElem?_cons_zero]; exact rfl) (by kernel_rfl) (by kernel_rfl) (by kernel_rfl) (by exact fun _ _ _ h => h) (Or.inl ⟨by rfl, ?_⟩) hHeld ?_
          rotate_left
          · intro wq hSw; go_simp; all_goals (with_reducible rfl)
          try simp only [Act.put, List.setIfInBounds_toArray, List.set_cons_zero, List.set_cons_succ]
          refine wpAnyH_take (i := 18) (v := ?_) (by simp only [List.getElem?_toArray, List.getElem?_cons_succ, List.getElem?_cons_zero]; exact rfl) (by kernel_rfl) (by kernel_rfl) (by kernel_rfl) (by exact fun _ _ _ h => h) (Or.inl ⟨by rfl, ?_⟩) hHeld ?_
          rotate_left
          · intro wq hSw; have u0 := (hSw.cell (p := ⟨w.heap.size, 0, none⟩) hlA').trans UA0.out; have u1 := (hSw.cell (p := ⟨w.heap.size, 1, none⟩) hlA').trans UA1.out; have v0 := (hSw.cell (p := ⟨w.heap.size + 1, 0, none⟩) hlB').trans UB0.out; have v1 := (hSw.cell (p := ⟨w.heap.size + 1, 1, none⟩) hlB').trans UB1.out; go_simp; all_goals (with_reducible rfl)
          try simp only [Act.put, List.setIfInBounds_toArray, List.set_cons_zero, List.set_cons_succ]
          refine wpAnyH_ready (rs := [16]) (by kernel_rfl) (by simp) ?_
          refine AllReadyH.cons (by simp only [List.getElem?_toArray, List.getElem?_cons_succ, List.getElem?_cons_zero]; exact rfl) (fun K hK => ?_) ?_
          · go_simp
            refine (print_is nm none 0 0 [] nm HPN.out _ (mts_none _)).mono ?_
            rintro e w13 ⟨rfl, hb13⟩
            show K _ _
            refine hK.out _ _ (hHeld.trans (hb13.mono hHeld.size)) (fun hHeld => ?_)
            clear hK K
            try simp only [Act.put, List.setIfInBounds_toArray, List.set_cons_zero, List.set_cons_succ]
            refine wpAnyH_take (i := 19) (v := ?_) (by simp only [List.getElem?_toArray, List.getElem?_cons_succ, List.getElem?_cons_zero]; exact rfl) (by kernel_rfl) (by kernel_rfl) (by kernel_rfl) (by exact fun _ _ _ h => h) (Or.inl ⟨by rfl, ?_⟩) hHeld ?_
            rotate_left
            · intro wq hSw; go_simp; all_goals (with_reducible rfl)
            try simp only [Act.put, List.setIfInBounds_toArray, List.set_cons_zero, List.set_cons_succ]
            refine wpAnyH_take (i := 20) (v := ?_) (by simp only [List.getElem?_toArray, List.getElem?_cons_succ, List.getElem?_cons_zero]; exact rfl) (by kernel_rfl) (by kernel_rfl) (by kernel_rfl) (by exact fun _ _ _ h => h) (Or.inl ⟨by rfl, ?_⟩) hHeld ?_
            rotate_left
            · intro wq hSw; go_simp; all_goals (with_reducible rfl)
            try simp only [Act.put, List.setIfInBounds_toArray, List.set_cons_zero, List.set_cons_succ]
            refine wpAnyH_take (i := 21) (v := ?_) (by simp only [List.getElem?_toArray, List.getElem?_cons_succ, List.getElem?_cons_zero]; exact rfl) (by kernel_rfl) (by kernel_rfl) (by kernel_rfl) (by exact fun _ _ _ h => h) (Or.inl ⟨by rfl, ?_⟩) hHeld ?_
            rotate_left
            · intro wq hSw; go_simp; all_goals (with_reducible rfl)
            try simp only [Act.put, List.setIfInBounds_toArray, List.set_cons_zero, List.set_cons_succ]
            refine wpAnyH_done (by kernel_rfl) ?_ _
            go_wp2
            go_ret
            exact ⟨rfl, hB6.trans (hHeld.mono hB6.size)⟩
          · exact AllReadyH.nil
        · exact AllReadyH.nil
      · exact AllReadyH.nil
    · exact AllReadyH.nil
end Go.Proofs.Ytbdochcajpempaa
