/- The texts CondF, CondG in one. -/
import Derived.Test.YtbdochcajpempaaDoorCondC
import Derived.Test.YtbdochcajpempaaDoorCondE
import Derived.Test.YtbdochcajpempaaDoorSelK
import Derived.Test.YtbdochcajpempaaDoorNumE
import Derived.Test.YtbdochcajpempaaDoorSelP
import Derived.Test.YtbdochcajpempaaDoorSelR
/- The walks of cond's Print and of the reference's; the reference's signs. -/
namespace Go.Proofs.YtbdochcajpempaaDoor
open Go.RowKit
set_option linter.unusedSimpArgs false
set_option linter.unusedVariables false

/-- what the package's variables hold -/
def CGlob (w : World) : Prop := SGlob w ∧ Glob w
theorem CGlob.below {w w' : World} (h : CGlob w) (hb : Below w.heap.size w w') : CGlob w' := ⟨h.1.below hb, h.2.below hb⟩
theorem print_is (nm : ByteArray) (A : Option Addr) (n c : Nat) (ms : List Lab.Mt) (t : ByteArray) (ht : Sel.print nm ms = t) (w : World) (hm : Mts w w.heap.size A n c ms) :
    Calls Tryd.prog 33 #[.agg #[.string nm, .slice A n c]] w fun e w' => e = .returned (.string t) ∧ Below w.heap.size w w' := by
  subst ht
  exact print_any nm A n c ms w hm
theorem rPrint_is (nm : ByteArray) (hnms : nm.size ≤ 9223372036854775807) (A : Option Addr) (n c : Nat) (ms : List Lab.Mt) (t : ByteArray) (ht : Sel.print nm ms = t) (w : World) (hm : Mts w w.heap.size A n c ms) :
    Calls Tryd.prog 35 #[.agg #[.string nm, .slice A n c]] w fun e w' => e = .returned (.string t) ∧ Below w.heap.size w w' := by
  subst ht
  exact rPrint_any nm hnms A n c ms w hm
theorem numPrint_is (d : Int) (w : World) (hG : Glob w) (t : ByteArray) (h : Cond.numB d = t) :
    Calls Tryd.prog 34 #[.int .i64 d] w fun e w' => e = .returned (.string t) ∧ Below w.heap.size w w' := by
  subst h
  exact num_print_any d w hG
theorem rNumPrint_is (d : Int) (w : World) (t : ByteArray) (h : Cond.numB d = t) :
    Calls Tryd.prog 37 #[.int .i64 d] w fun e w' => e = .returned (.string t) ∧ Below w.heap.size w w' := by
  subst h
  exact num_rPrint_any d w
abbrev rsCells : Array Value := #[.string ⟨#[62]⟩, .string ⟨#[62, 61]⟩, .string ⟨#[60]⟩, .string ⟨#[60, 61]⟩, .string ⟨#[61, 61]⟩, .string ⟨#[33, 61]⟩]
theorem rs_at (j : Nat) (h : j < 6) : rsCells[j]? = some (.string (Cond.signB (j + 1))) := by
  rcases j with _ | _ | _ | _ | _ | _ | j
  · rfl
  · rfl
  · rfl
  · rfl
  · rfl
  · rfl
  · omega

set_option maxRecDepth 100000 in
set_option maxHeartbeats 4000000 in
theorem rsigns_any (w : World) : Calls Tryd.prog 36 #[] w fun e w' => e = .returned (.slice (some ⟨w.heap.size, 0, none⟩) 6 6) ∧ Mem.Blk w' w.heap.size 9 rsCells ∧ w.heap.size < w'.heap.size ∧ Below w.heap.size w w' := by
  go_enter Tryd.func36, Tryd.ntmps36
  go_wp2
  go_ret
  exact ⟨rfl, Mem.Blk.new w _ _, by simp, (Below.refl _ w).alloc (Nat.le_refl _) _⟩

/-- from here on more is held -/
theorem wpAnyH_stronger {P : Program} {md : Region.Mode} {ops : Array Oper} {Q : Exit → Act → World → Prop} {S S' : World → Prop} (hS : ∀ w, S' w → S w) : ∀ (fuel : Nat) (listed : Array Bool) (a : Act) (w : World), wpAnyH P md ops Q S' fuel listed a w → wpAnyH P md ops Q S fuel listed a w
  | 0, _, _, _, h => h
  | fuel + 1, _, _, _, h => ⟨h.1, fun i hi => wpOp_mono (fun a' w' h' => ⟨hS _ h'.1, wpAnyH_stronger hS fuel _ a' w' h'.2⟩) (h.2 i hi)⟩

set_option maxRecDepth 100000 in
set_option maxHeartbeats 8000000 in
theorem cprint_is (nm : ByteArray) (A : Option Addr) (n c : Nat) (ms : List Lab.Mt) (op v : Int) (t : ByteArray) (ht : Cond.print nm ms op v = t) (w : World) (hG : CGlob w) (hm : Mts w w.heap.size A n c ms) :
    Calls Tryd.prog 19 #[.agg #[.string nm, .slice A n c, .int .i64 op, .int .i64 v]] w fun e w' => e = .returned (.string t) ∧ Below w.heap.size w w' := by
  have HM := Lib.hid hm
  have HG := Lib.hid hG
  clear hm hG
  rcases hs : Cond.sane nm ms op v with _ | _
  · have HS := Lib.hid hs
    have hT : t = ⟨#[]⟩ := by rw [← ht]; unfold Cond.print; rw [hs]; rfl
    subst hT
    clear hs ht
    go_enter Tryd.func19, Tryd.ntmps19
    go_wp2_with fail
    have hB1 := (Below.refl w.heap.size w).alloc (Nat.le_refl _) (.cells #[.string nm, .slice A n c, .int .i64 op, .int .i64 v] 26)
    have hblk := (Mem.Blk.new w 26 #[.string nm, .slice A n c, .int .i64 op, .int .i64 v])
    have hlt1 : w.heap.size < (w.alloc (.cells #[.string nm, .slice A n c, .int .i64 op, .int .i64 v] 26)).heap.size := by simp
    have hsz1 : w.heap.size ≤ (w.alloc (.cells #[.string nm, .slice A n c, .int .i64 op, .int .i64 v] 26)).heap.size := by simp
    obtain ⟨W1, hW1⟩ : ∃ W1, W1 = w.alloc (.cells #[.string nm, .slice A n c, .int .i64 op, .int .i64 v] 26) := ⟨_, rfl⟩
    rw [← hW1] at hB1 hblk hlt1 hsz1 ⊢
    clear hW1
    have HBLK := Lib.hid hblk
    clear hblk
    refine (cSane_any nm A n c ms op v false HS.out W1 ((HM.out.below hB1).more hsz1)).mono ?_
    rintro e w2 ⟨rfl, hb2⟩
    have hC2 := hB1.trans (hb2.mono hB1.size)
    go_wp2
    go_ret
    exact ⟨rfl, hC2⟩
  · obtain ⟨hsel, ho1, ho6, hv⟩ := Cond.sane_parts hs
    obtain ⟨k, hk⟩ : ∃ k : Nat, op = k := ⟨op.toNat, by omega⟩
    subst hk
    obtain ⟨sp, hsp⟩ : ∃ q, Sel.print nm ms = q := ⟨_, rfl⟩
    obtain ⟨np, hnp⟩ : ∃ q, Cond.numB v = q := ⟨_, rfl⟩
    obtain ⟨sg, hsg⟩ : ∃ q, Cond.signB k = q := ⟨_, rfl⟩
    have hT : t = sp ++ ⟨#[32]⟩ ++ sg ++ ⟨#[32]⟩ ++ np := by rw [← ht]; unfold Cond.print Cond.text; rw [if_pos hs, show ((k : Int)).toNat = k from rfl, hsp, hsg, hnp]
    have z1 : sp.size ≤ 1700 := by rw [← hsp]; exact Cond.selPrint_size hsel
    have z2 : np.size ≤ 26 := by rw [← hnp]; exact Cond.numB_size v
    have z3 : sg.size ≤ 2 := by rw [← hsg]; exact Cond.signB_size k
    have hk7 : k < 7 := by omega
    have hsc : signCells[k]? = some (.string sg) := by
      rw [← hsg]
      have : ∀ x : Fin 7, signCells[x.val]? = some (.string (Cond.signB x.val)) := by
        intro ⟨x, hx⟩
        rcases x with _ | _ | _ | _ | _ | _ | _ | x
        · rfl
        · rfl
        · rfl
        · rfl
        · rfl
        · rfl
        · rfl
        · omega
      exact this ⟨k, hk7⟩
    have s1 : ¬ 9223372036854775807 < sp.size + 1 := by omega
    have s2 : ¬ 9223372036854775807 < sp.size + 1 + sg.size := by omega
    have s3 : ¬ 9223372036854775807 < sp.size + 1 + sg.size + 1 := by omega
    have s4 : ¬ 9223372036854775807 < sp.size + 1 + sg.size + 1 + np.size := by omega
    have HS := Lib.hid hs
    have HSP := Lib.hid hsp
    have HNP := Lib.hid hnp
    have HT := Lib.hid hT
    have HSC := Lib.hid hsc
    clear hs ht hsp hnp hsg hT hsel hv ho1 ho6 hsc
    have hi0 : (0 : Int) ≤ (k : Int) := by omega
    have hi7 : (k : Int) < 7 := by omega
    go_enter Tryd.func19, Tryd.ntmps19
    go_wp2_with fail
    have hB1 := (Below.refl w.heap.size w).alloc (Nat.le_refl _) (.cells #[.string nm, .slice A n c, .int .i64 (k : Int), .int .i64 v] 26)
    have hblk := (Mem.Blk.new w 26 #[.string nm, .slice A n c, .int .i64 (k : Int), .int .i64 v])
    have hlt1 : w.heap.size < (w.alloc (.cells #[.string nm, .slice A n c, .int .i64 (k : Int), .int .i64 v] 26)).heap.size := by simp
    have hsz1 : w.heap.size ≤ (w.alloc (.cells #[.string nm, .slice A n c, .int .i64 (k : Int), .int .i64 v] 26)).heap.size := by simp
    obtain ⟨W1, hW1⟩ : ∃ W1, W1 = w.alloc (.cells #[.string nm, .slice A n c, .int .i64 (k : Int), .int .i64 v] 26) := ⟨_, rfl⟩
    rw [← hW1] at hB1 hblk hlt1 hsz1 ⊢
    clear hW1
    have HBLK := Lib.hid hblk
    clear hblk
    refine (cSane_any nm A n c ms (k : Int) v true HS.out W1 ((HM.out.below hB1).more hsz1)).mono ?_
    rintro e w2 ⟨rfl, hb2⟩
    have hC2 := hB1.trans (hb2.mono hB1.size)
    have HC2 := Lib.hid hC2
    have hb := HBLK.out.below hb2 hlt1
    have hl1 := hb.lt
    have U0 := Lib.hid (hb.cell 0)
    have U1 := Lib.hid (hb.cell 1)
    have U2 := Lib.hid (hb.cell 2)
    have U3 := Lib.hid (hb.cell 3)
    have hG2 := HG.out.below hC2
    obtain ⟨ty, fr, hg0⟩ := hG2.1
    have hg0l := (Array.getElem?_eq_some_iff.1 hg0).1
    have hgc : w2.cell? ⟨0, k, none⟩ = some (.string sg) := by rw [Lib.cell_of_heap hg0, HSC.out]
    have HGC := Lib.hid hgc
    have HG2 := Lib.hid hG2
    clear hb hg0 hgc hG2
    go_wp2_with fail
    refine wp_region_held_drew (S := fun W' => Below w2.heap.size w2 W') (by kernel_rfl) (Below.refl _ _).drew (fun hHeld => ?_)
    refine wpAnyH_take (i := 0) (v := ?_) (by simp only [List.getElem?_toArray, List.getElem?_cons_succ, List.getElem?_cons_zero]; exact rfl) (by kernel_rfl) (by kernel_rfl) (by kernel_rfl) (by exact fun _ _ _ h => h) (Or.inl ⟨by rfl, ?_⟩) hHeld ?_
    rotate_left
    · intro wq hSw; go_simp; all_goals (with_reducible rfl)
    try simp only [Act.put, List.setIfInBounds_toArray, List.set_cons_zero, List.set_cons_succ]
    refine wpAnyH_take (i := 1) (v := ?_) (by simp only [List.getElem?_toArray, List.getElem?_cons_succ, List.getElem?_cons_zero]; exact rfl) (by kernel_rfl) (by kernel_rfl) (by kernel_rfl) (by exact fun _ _ _ h => h) (Or.inl ⟨by rfl, ?_⟩) hHeld ?_
    rotate_left
    · intro wq hSw; have k0 := (hSw.cell (p := ⟨w.heap.size, 0, none⟩) hl1).trans U0.out; have k1 := (hSw.cell (p := ⟨w.heap.size, 1, none⟩) hl1).trans U1.out; have k2 := (hSw.cell (p := ⟨w.heap.size, 2, none⟩) hl1).trans U2.out; have k3 := (hSw.cell (p := ⟨w.heap.size, 3, none⟩) hl1).trans U3.out; simp at k0 k1 k2 k3; go_simp; all_goals (with_reducible rfl)
    try simp only [Act.put, List.setIfInBounds_toArray, List.set_cons_zero, List.set_cons_succ]
    refine wpAnyH_take (i := 4) (v := ?_) (by simp only [List.getElem?_toArray, List.getElem?_cons_succ, List.getElem?_cons_zero]; exact rfl) (by kernel_rfl) (by kernel_rfl) (by kernel_rfl) (by exact fun _ _ _ h => h) (Or.inl ⟨by rfl, ?_⟩) hHeld ?_
    rotate_left
    · intro wq hSw; go_simp; all_goals (with_reducible rfl)
    try simp only [Act.put, List.setIfInBounds_toArray, List.set_cons_zero, List.set_cons_succ]
    refine wpAnyH_take (i := 5) (v := ?_) (by simp only [List.getElem?_toArray, List.getElem?_cons_succ, List.getElem?_cons_zero]; exact rfl) (by kernel_rfl) (by kernel_rfl) (by kernel_rfl) (by exact fun _ _ _ h => h) (Or.inl ⟨by rfl, ?_⟩) hHeld ?_
    rotate_left
    · intro wq hSw; have k0 := (hSw.cell (p := ⟨w.heap.size, 0, none⟩) hl1).trans U0.out; have k1 := (hSw.cell (p := ⟨w.heap.size, 1, none⟩) hl1).trans U1.out; have k2 := (hSw.cell (p := ⟨w.heap.size, 2, none⟩) hl1).trans U2.out; have k3 := (hSw.cell (p := ⟨w.heap.size, 3, none⟩) hl1).trans U3.out; simp at k0 k1 k2 k3; go_simp; all_goals (with_reducible rfl)
    try simp only [Act.put, List.setIfInBounds_toArray, List.set_cons_zero, List.set_cons_succ]
    refine wpAnyH_take (i := 6) (v := ?_) (by simp only [List.getElem?_toArray, List.getElem?_cons_succ, List.getElem?_cons_zero]; exact rfl) (by kernel_rfl) (by kernel_rfl) (by kernel_rfl) (by exact fun _ _ _ h => h) (Or.inl ⟨by rfl, ?_⟩) hHeld ?_
    rotate_left
    · intro wq hSw; go_simp; all_goals (with_reducible rfl)
    try simp only [Act.put, List.setIfInBounds_toArray, List.set_cons_zero, List.set_cons_succ]
    refine wpAnyH_take (i := 7) (v := ?_) (by simp only [List.getElem?_toArray, List.getElem?_cons_succ, List.getElem?_cons_zero]; exact rfl) (by kernel_rfl) (by kernel_rfl) (by kernel_rfl) (by exact fun _ _ _ h => h) (Or.inl ⟨by rfl, ?_⟩) hHeld ?_
    rotate_left
    · intro wq hSw; have gc := (hSw.cell (p := ⟨0, k, none⟩) hg0l).trans HGC.out; go_simp; all_goals (with_reducible rfl)
    try simp only [Act.put, List.setIfInBounds_toArray, List.set_cons_zero, List.set_cons_succ]
    refine wpAnyH_take (i := 10) (v := ?_) (by simp only [List.getElem?_toArray, List.getElem?_cons_succ, List.getElem?_cons_zero]; exact rfl) (by kernel_rfl) (by kernel_rfl) (by kernel_rfl) (by exact fun _ _ _ h => h) (Or.inl ⟨by rfl, ?_⟩) hHeld ?_
    rotate_left
    · intro wq hSw; go_simp; all_goals (with_reducible rfl)
    try simp only [Act.put, List.setIfInBounds_toArray, List.set_cons_zero, List.set_cons_succ]
    refine wpAnyH_take (i := 11) (v := ?_) (by simp only [List.getElem?_toArray, List.getElem?_cons_succ, List.getElem?_cons_zero]; exact rfl) (by kernel_rfl) (by kernel_rfl) (by kernel_rfl) (by exact fun _ _ _ h => h) (Or.inl ⟨by rfl, ?_⟩) hHeld ?_
    rotate_left
    · intro wq hSw; have k0 := (hSw.cell (p := ⟨w.heap.size, 0, none⟩) hl1).trans U0.out; have k1 := (hSw.cell (p := ⟨w.heap.size, 1, none⟩) hl1).trans U1.out; have k2 := (hSw.cell (p := ⟨w.heap.size, 2, none⟩) hl1).trans U2.out; have k3 := (hSw.cell (p := ⟨w.heap.size, 3, none⟩) hl1).trans U3.out; simp at k0 k1 k2 k3; go_simp; all_goals (with_reducible rfl)
    try simp only [Act.put, List.setIfInBounds_toArray, List.set_cons_zero, List.set_cons_succ]
    refine wpAnyH_ready (rs := [2]) (by kernel_rfl) (by simp) ?_
    refine AllReadyH.cons (by simp only [List.getElem?_toArray, List.getElem?_cons_succ, List.getElem?_cons_zero]; exact rfl) (fun K hK => ?_) ?_
    · go_simp
      refine (print_is nm A n c ms sp HSP.out _ ((HM.out.later HC2.out).later hHeld)).mono ?_
      rintro e w5 ⟨rfl, hb5⟩
      show K _ _
      refine hK.out _ _ (hHeld.trans (hb5.mono hHeld.size)) (fun hHeld => ?_)
      clear hK K
      try simp only [Act.put, List.setIfInBounds_toArray, List.set_cons_zero, List.set_cons_succ]
      refine wpAnyH_take (i := 3) (v := ?_) (by simp only [List.getElem?_toArray, List.getElem?_cons_succ, List.getElem?_cons_zero]; exact rfl) (by kernel_rfl) (by kernel_rfl) (by kernel_rfl) (by exact fun _ _ _ h => h) (Or.inl ⟨by rfl, ?_⟩) hHeld ?_
      rotate_left
      · intro wq hSw; go_simp; all_goals (with_reducible rfl)
      try simp only [Act.put, List.setIfInBounds_toArray, List.set_cons_zero, List.set_cons_succ]
      refine wpAnyH_take (i := 8) (v := ?_) (by simp only [List.getElem?_toArray, List.getElem?_cons_succ, List.getElem?_cons_zero]; exact rfl) (by kernel_rfl) (by kernel_rfl) (by kernel_rfl) (by exact fun _ _ _ h => h) (Or.inl ⟨by rfl, ?_⟩) hHeld ?_
      rotate_left
      · intro wq hSw; go_simp; all_goals (with_reducible rfl)
      try simp only [Act.put, List.setIfInBounds_toArray, List.set_cons_zero, List.set_cons_succ]
      refine wpAnyH_take (i := 9) (v := ?_) (by simp only [List.getElem?_toArray, List.getElem?_cons_succ, List.getElem?_cons_zero]; exact rfl) (by kernel_rfl) (by kernel_rfl) (by kernel_rfl) (by exact fun _ _ _ h => h) (Or.inl ⟨by rfl, ?_⟩) hHeld ?_
      rotate_left
      · intro wq hSw; go_simp; all_goals (with_reducible rfl)
      try simp only [Act.put, List.setIfInBounds_toArray, List.set_cons_zero, List.set_cons_succ]
      refine wpAnyH_ready (rs := [12]) (by kernel_rfl) (by simp) ?_
      refine AllReadyH.cons (by simp only [List.getElem?_toArray, List.getElem?_cons_succ, List.getElem?_cons_zero]; exact rfl) (fun K hK => ?_) ?_
      · go_simp
        refine (numPrint_is v _ (HG2.out.below hHeld).2 np HNP.out).mono ?_
        rintro e w6 ⟨rfl, hb6⟩
        show K _ _
        refine hK.out _ _ (hHeld.trans (hb6.mono hHeld.size)) (fun hHeld => ?_)
        clear hK K
        try simp only [Act.put, List.setIfInBounds_toArray, List.set_cons_zero, List.set_cons_succ]
        refine wpAnyH_take (i := 13) (v := ?_) (by simp only [List.getElem?_toArray, List.getElem?_cons_succ, List.getElem?_cons_zero]; exact rfl) (by kernel_rfl) (by kernel_rfl) (by kernel_rfl) (by exact fun _ _ _ h => h) (Or.inl ⟨by rfl, ?_⟩) hHeld ?_
        rotate_left
        · intro wq hSw; go_simp; all_goals (with_reducible rfl)
        try simp only [Act.put, List.setIfInBounds_toArray, List.set_cons_zero, List.set_cons_succ]
        refine wpAnyH_take (i := 14) (v := ?_) (by simp only [List.getElem?_toArray, List.getElem?_cons_succ, List.getElem?_cons_zero]; exact rfl) (by kernel_rfl) (by kernel_rfl) (by kernel_rfl) (by exact fun _ _ _ h => h) (Or.inl ⟨by rfl, ?_⟩) hHeld ?_
        rotate_left
        · intro wq hSw; go_simp; all_goals (with_reducible rfl)
        try simp only [Act.put, List.setIfInBounds_toArray, List.set_cons_zero, List.set_cons_succ]
        refine wpAnyH_done (by kernel_rfl) ?_ _
        go_wp2
        go_ret
        exact ⟨by rw [HT.out]; simp only [ByteArray.append_assoc]; rfl, HC2.out.trans (hHeld.mono HC2.out.size)⟩
      · exact AllReadyH.nil
    · exact AllReadyH.nil
set_option maxRecDepth 100000 in
set_option maxHeartbeats 8000000 in
theorem rcprint_is (nm : ByteArray) (hnms : nm.size ≤ 9223372036854775807) (A : Option Addr) (n c : Nat) (ms : List Lab.Mt) (op v : Int) (t : ByteArray) (ht : Cond.print nm ms op v = t) (w : World) (hm : Mts w w.heap.size A n c ms) :
    Calls Tryd.prog 20 #[.agg #[.string nm, .slice A n c, .int .i64 op, .int .i64 v]] w fun e w' => e = .returned (.string t) ∧ Below w.heap.size w w' := by
  have HM := Lib.hid hm
  clear hm
  rcases hs : Cond.sane nm ms op v with _ | _
  · have HS := Lib.hid hs
    have hT : t = ⟨#[]⟩ := by rw [← ht]; unfold Cond.print; rw [hs]; rfl
    subst hT
    clear hs ht
    go_enter Tryd.func20, Tryd.ntmps20
    go_wp2_with fail
    have hB1 := (Below.refl w.heap.size w).alloc (Nat.le_refl _) (.cells #[.string nm, .slice A n c, .int .i64 op, .int .i64 v] 26)
    have hblk := (Mem.Blk.new w 26 #[.string nm, .slice A n c, .int .i64 op, .int .i64 v])
    have hlt1 : w.heap.size < (w.alloc (.cells #[.string nm, .slice A n c, .int .i64 op, .int .i64 v] 26)).heap.size := by simp
    have hsz1 : w.heap.size ≤ (w.alloc (.cells #[.string nm, .slice A n c, .int .i64 op, .int .i64 v] 26)).heap.size := by simp
    obtain ⟨W1, hW1⟩ : ∃ W1, W1 = w.alloc (.cells #[.string nm, .slice A n c, .int .i64 op, .int .i64 v] 26) := ⟨_, rfl⟩
    rw [← hW1] at hB1 hblk hlt1 hsz1 ⊢
    clear hW1
    have HBLK := Lib.hid hblk
    clear hblk
    refine (rcSane_any nm hnms A n c ms op v false HS.out W1 ((HM.out.below hB1).more hsz1)).mono ?_
    rintro e w2 ⟨rfl, hb2⟩
    have hC2 := hB1.trans (hb2.mono hB1.size)
    go_wp2
    go_ret
    exact ⟨rfl, hC2⟩
  · obtain ⟨hsel, ho1, ho6, hv⟩ := Cond.sane_parts hs
    obtain ⟨k, hk⟩ : ∃ k : Nat, op = k := ⟨op.toNat, by omega⟩
    subst hk
    obtain ⟨sp, hsp⟩ : ∃ q, Sel.print nm ms = q := ⟨_, rfl⟩
    obtain ⟨np, hnp⟩ : ∃ q, Cond.numB v = q := ⟨_, rfl⟩
    obtain ⟨sg, hsg⟩ : ∃ q, Cond.signB k = q := ⟨_, rfl⟩
    have hT : t = sp ++ ⟨#[32]⟩ ++ sg ++ ⟨#[32]⟩ ++ np := by rw [← ht]; unfold Cond.print Cond.text; rw [if_pos hs, show ((k : Int)).toNat = k from rfl, hsp, hsg, hnp]
    have z1 : sp.size ≤ 1700 := by rw [← hsp]; exact Cond.selPrint_size hsel
    have z2 : np.size ≤ 26 := by rw [← hnp]; exact Cond.numB_size v
    have z3 : sg.size ≤ 2 := by rw [← hsg]; exact Cond.signB_size k
    obtain ⟨k1, hk1⟩ : ∃ k1, k = k1 + 1 := ⟨k - 1, by omega⟩
    have hk6 : k1 < 6 := by omega
    have hsc : rsCells[k1]? = some (.string sg) := by rw [← hsg, hk1]; exact rs_at k1 hk6
    have hwk : IntKind.i64.wrap ((k : Int) - 1) = ((k1 : Nat) : Int) := by rw [show (k : Int) - 1 = ((k1 : Nat) : Int) by omega]; exact IntWalk.i64_in _ (by omega)
    have s1 : ¬ 9223372036854775807 < sp.size + 1 := by omega
    have s2 : ¬ 9223372036854775807 < sp.size + 1 + sg.size := by omega
    have s3 : ¬ 9223372036854775807 < sp.size + 1 + sg.size + 1 := by omega
    have s4 : ¬ 9223372036854775807 < sp.size + 1 + sg.size + 1 + np.size := by omega
    have HS := Lib.hid hs
    have HSP := Lib.hid hsp
    have HNP := Lib.hid hnp
    have HT := Lib.hid hT
    have HSC := Lib.hid hsc
    clear hs ht hsp hnp hsg hT hsel hv ho1 ho6 hsc
    have hi0 : (0 : Int) ≤ (k1 : Int) := by omega
    have hi7 : (k1 : Int) < 6 := by omega
    have HK1 := Lib.hid hk1
    clear hk1
    go_enter Tryd.func20, Tryd.ntmps20
    go_wp2_with fail
    have hB1 := (Below.refl w.heap.size w).alloc (Nat.le_refl _) (.cells #[.string nm, .slice A n c, .int .i64 (k : Int), .int .i64 v] 26)
    have hblk := (Mem.Blk.new w 26 #[.string nm, .slice A n c, .int .i64 (k : Int), .int .i64 v])
    have hlt1 : w.heap.size < (w.alloc (.cells #[.string nm, .slice A n c, .int .i64 (k : Int), .int .i64 v] 26)).heap.size := by simp
    have hsz1 : w.heap.size ≤ (w.alloc (.cells #[.string nm, .slice A n c, .int .i64 (k : Int), .int .i64 v] 26)).heap.size := by simp
    obtain ⟨W1, hW1⟩ : ∃ W1, W1 = w.alloc (.cells #[.string nm, .slice A n c, .int .i64 (k : Int), .int .i64 v] 26) := ⟨_, rfl⟩
    rw [← hW1] at hB1 hblk hlt1 hsz1 ⊢
    clear hW1
    have HBLK := Lib.hid hblk
    clear hblk
    refine (rcSane_any nm hnms A n c ms (k : Int) v true HS.out W1 ((HM.out.below hB1).more hsz1)).mono ?_
    rintro e w2 ⟨rfl, hb2⟩
    have hC2 := hB1.trans (hb2.mono hB1.size)
    have HC2 := Lib.hid hC2
    have hb := HBLK.out.below hb2 hlt1
    have hl1 := hb.lt
    have U0 := Lib.hid (hb.cell 0)
    have U1 := Lib.hid (hb.cell 1)
    have U2 := Lib.hid (hb.cell 2)
    have U3 := Lib.hid (hb.cell 3)
    clear hb
    go_wp2_with fail
    refine wp_region_held_drew (S := fun W' => Below w2.heap.size w2 W') (by kernel_rfl) (Below.refl _ _).drew (fun hHeld => ?_)
    refine wpAnyH_take (i := 0) (v := ?_) (by simp only [List.getElem?_toArray, List.getElem?_cons_succ, List.getElem?_cons_zero]; exact rfl) (by kernel_rfl) (by kernel_rfl) (by kernel_rfl) (by exact fun _ _ _ h => h) (Or.inl ⟨by rfl, ?_⟩) hHeld ?_
    rotate_left
    · intro wq hSw; go_simp; all_goals (with_reducible rfl)
    try simp only [Act.put, List.setIfInBounds_toArray, List.set_cons_zero, List.set_cons_succ]
    refine wpAnyH_take (i := 1) (v := ?_) (by simp only [List.getElem?_toArray, List.getElem?_cons_succ, List.getElem?_cons_zero]; exact rfl) (by kernel_rfl) (by kernel_rfl) (by kernel_rfl) (by exact fun _ _ _ h => h) (Or.inl ⟨by rfl, ?_⟩) hHeld ?_
    rotate_left
    · intro wq hSw; have k0 := (hSw.cell (p := ⟨w.heap.size, 0, none⟩) hl1).trans U0.out; have k1 := (hSw.cell (p := ⟨w.heap.size, 1, none⟩) hl1).trans U1.out; have k2 := (hSw.cell (p := ⟨w.heap.size, 2, none⟩) hl1).trans U2.out; have k3 := (hSw.cell (p := ⟨w.heap.size, 3, none⟩) hl1).trans U3.out; simp at k0 k1 k2 k3; go_simp; all_goals (with_reducible rfl)
    try simp only [Act.put, List.setIfInBounds_toArray, List.set_cons_zero, List.set_cons_succ]
    refine wpAnyH_take (i := 5) (v := ?_) (by simp only [List.getElem?_toArray, List.getElem?_cons_succ, List.getElem?_cons_zero]; exact rfl) (by kernel_rfl) (by kernel_rfl) (by kernel_rfl) (by exact fun _ _ _ h => h) (Or.inl ⟨by rfl, ?_⟩) hHeld ?_
    rotate_left
    · intro wq hSw; go_simp; all_goals (with_reducible rfl)
    try simp only [Act.put, List.setIfInBounds_toArray, List.set_cons_zero, List.set_cons_succ]
    refine wpAnyH_take (i := 6) (v := ?_) (by simp only [List.getElem?_toArray, List.getElem?_cons_succ, List.getElem?_cons_zero]; exact rfl) (by kernel_rfl) (by kernel_rfl) (by kernel_rfl) (by exact fun _ _ _ h => h) (Or.inl ⟨by rfl, ?_⟩) hHeld ?_
    rotate_left
    · intro wq hSw; have k0 := (hSw.cell (p := ⟨w.heap.size, 0, none⟩) hl1).trans U0.out; have k1 := (hSw.cell (p := ⟨w.heap.size, 1, none⟩) hl1).trans U1.out; have k2 := (hSw.cell (p := ⟨w.heap.size, 2, none⟩) hl1).trans U2.out; have k3 := (hSw.cell (p := ⟨w.heap.size, 3, none⟩) hl1).trans U3.out; simp at k0 k1 k2 k3; go_simp; all_goals (with_reducible rfl)
    try simp only [Act.put, List.setIfInBounds_toArray, List.set_cons_zero, List.set_cons_succ]
    refine wpAnyH_take (i := 7) (v := ?_) (by simp only [List.getElem?_toArray, List.getElem?_cons_succ, List.getElem?_cons_zero]; exact rfl) (by kernel_rfl) (by kernel_rfl) (by kernel_rfl) (by exact fun _ _ _ h => h) (Or.inl ⟨by rfl, ?_⟩) hHeld ?_
    rotate_left
    · intro wq hSw; go_simp; all_goals (with_reducible rfl)
    try simp only [Act.put, List.setIfInBounds_toArray, List.set_cons_zero, List.set_cons_succ]
    refine wpAnyH_take (i := 12) (v := ?_) (by simp only [List.getElem?_toArray, List.getElem?_cons_succ, List.getElem?_cons_zero]; exact rfl) (by kernel_rfl) (by kernel_rfl) (by kernel_rfl) (by exact fun _ _ _ h => h) (Or.inl ⟨by rfl, ?_⟩) hHeld ?_
    rotate_left
    · intro wq hSw; go_simp; all_goals (with_reducible rfl)
    try simp only [Act.put, List.setIfInBounds_toArray, List.set_cons_zero, List.set_cons_succ]
    refine wpAnyH_take (i := 13) (v := ?_) (by simp only [List.getElem?_toArray, List.getElem?_cons_succ, List.getElem?_cons_zero]; exact rfl) (by kernel_rfl) (by kernel_rfl) (by kernel_rfl) (by exact fun _ _ _ h => h) (Or.inl ⟨by rfl, ?_⟩) hHeld ?_
    rotate_left
    · intro wq hSw; have k0 := (hSw.cell (p := ⟨w.heap.size, 0, none⟩) hl1).trans U0.out; have k1 := (hSw.cell (p := ⟨w.heap.size, 1, none⟩) hl1).trans U1.out; have k2 := (hSw.cell (p := ⟨w.heap.size, 2, none⟩) hl1).trans U2.out; have k3 := (hSw.cell (p := ⟨w.heap.size, 3, none⟩) hl1).trans U3.out; simp at k0 k1 k2 k3; go_simp; all_goals (with_reducible rfl)
    try simp only [Act.put, List.setIfInBounds_toArray, List.set_cons_zero, List.set_cons_succ]
    refine wpAnyH_ready (rs := [2]) (by kernel_rfl) (by simp) ?_
    refine AllReadyH.cons (by simp only [List.getElem?_toArray, List.getElem?_cons_succ, List.getElem?_cons_zero]; exact rfl) (fun K hK => ?_) ?_
    · go_simp
      refine (rPrint_is nm hnms A n c ms sp HSP.out _ ((HM.out.later HC2.out).later hHeld)).mono ?_
      rintro e w5 ⟨rfl, hb5⟩
      show K _ _
      refine hK.out _ _ (hHeld.trans (hb5.mono hHeld.size)) (fun hHeld => ?_)
      clear hK K
      try simp only [Act.put, List.setIfInBounds_toArray, List.set_cons_zero, List.set_cons_succ]
      refine wpAnyH_take (i := 3) (v := ?_) (by simp only [List.getElem?_toArray, List.getElem?_cons_succ, List.getElem?_cons_zero]; exact rfl) (by kernel_rfl) (by kernel_rfl) (by kernel_rfl) (by exact fun _ _ _ h => h) (Or.inl ⟨by rfl, ?_⟩) hHeld ?_
      rotate_left
      · intro wq hSw; go_simp; all_goals (with_reducible rfl)
      try simp only [Act.put, List.setIfInBounds_toArray, List.set_cons_zero, List.set_cons_succ]
      refine wpAnyH_ready (rs := [4]) (by kernel_rfl) (by simp) ?_
      refine AllReadyH.cons (by simp only [List.getElem?_toArray, List.getElem?_cons_succ, List.getElem?_cons_zero]; exact rfl) (fun K hK => ?_) ?_
      · go_simp
        refine (rsigns_any _).mono ?_
        rintro e w6 ⟨rfl, hblk6, hlt6, hb6⟩
        show K _ _
        refine hK.out _ _ (hHeld.trans (hb6.mono hHeld.size)) (fun hHeld => ?_)
        clear hK K
        try simp only [Act.put, List.setIfInBounds_toArray, List.set_cons_zero, List.set_cons_succ]
        refine wpAnyH_stronger (S' := fun W' => Below w6.heap.size w6 W') (fun W h => hHeld.trans (h.mono hHeld.size)) _ _ _ _ ?_
        have hC6 := HC2.out.trans (hHeld.mono HC2.out.size)
        have HBK := Lib.hid hblk6
        clear hHeld hblk6
        have hHeld : Below w6.heap.size w6 w6 := Below.refl _ _
        refine wpAnyH_take (i := 8) (v := ?_) (by simp only [List.getElem?_toArray, List.getElem?_cons_succ, List.getElem?_cons_zero]; exact rfl) (by kernel_rfl) (by kernel_rfl) (by kernel_rfl) (by exact fun _ _ _ h => h) (Or.inl ⟨by rfl, ?_⟩) hHeld ?_
        rotate_left
        · intro wq hSw; go_simp; all_goals (with_reducible rfl)
        try simp only [Act.put, List.setIfInBounds_toArray, List.set_cons_zero, List.set_cons_succ]
        refine wpAnyH_take (i := 9) (v := ?_) (by simp only [List.getElem?_toArray, List.getElem?_cons_succ, List.getElem?_cons_zero]; exact rfl) (by kernel_rfl) (by kernel_rfl) (by kernel_rfl) (by exact fun _ _ _ h => h) (Or.inl ⟨by rfl, ?_⟩) hHeld ?_
        rotate_left
        · intro wq hSw; have gc := (hSw.cell (p := ⟨w5.heap.size, k1, none⟩) hlt6).trans ((HBK.out.cell k1).trans HSC.out); go_simp; all_goals (with_reducible rfl)
        try simp only [Act.put, List.setIfInBounds_toArray, List.set_cons_zero, List.set_cons_succ]
        refine wpAnyH_take (i := 10) (v := ?_) (by simp only [List.getElem?_toArray, List.getElem?_cons_succ, List.getElem?_cons_zero]; exact rfl) (by kernel_rfl) (by kernel_rfl) (by kernel_rfl) (by exact fun _ _ _ h => h) (Or.inl ⟨by rfl, ?_⟩) hHeld ?_
        rotate_left
        · intro wq hSw; go_simp; all_goals (with_reducible rfl)
        try simp only [Act.put, List.setIfInBounds_toArray, List.set_cons_zero, List.set_cons_succ]
        refine wpAnyH_take (i := 11) (v := ?_) (by simp only [List.getElem?_toArray, List.getElem?_cons_succ, List.getElem?_cons_zero]; exact rfl) (by kernel_rfl) (by kernel_rfl) (by kernel_rfl) (by exact fun _ _ _ h => h) (Or.inl ⟨by rfl, ?_⟩) hHeld ?_
        rotate_left
        · intro wq hSw; go_simp; all_goals (with_reducible rfl)
        try simp only [Act.put, List.setIfInBounds_toArray, List.set_cons_zero, List.set_cons_succ]
        refine wpAnyH_ready (rs := [14]) (by kernel_rfl) (by simp) ?_
        refine AllReadyH.cons (by simp only [List.getElem?_toArray, List.getElem?_cons_succ, List.getElem?_cons_zero]; exact rfl) (fun K hK => ?_) ?_
        · go_simp
          refine (rNumPrint_is v _ np HNP.out).mono ?_
          rintro e w7 ⟨rfl, hb7⟩
          show K _ _
          refine hK.out _ _ (hHeld.trans (hb7.mono hHeld.size)) (fun hHeld => ?_)
          clear hK K
          try simp only [Act.put, List.setIfInBounds_toArray, List.set_cons_zero, List.set_cons_succ]
          refine wpAnyH_take (i := 15) (v := ?_) (by simp only [List.getElem?_toArray, List.getElem?_cons_succ, List.getElem?_cons_zero]; exact rfl) (by kernel_rfl) (by kernel_rfl) (by kernel_rfl) (by exact fun _ _ _ h => h) (Or.inl ⟨by rfl, ?_⟩) hHeld ?_
          rotate_left
          · intro wq hSw; go_simp; all_goals (with_reducible rfl)
          try simp only [Act.put, List.setIfInBounds_toArray, List.set_cons_zero, List.set_cons_succ]
          refine wpAnyH_take (i := 16) (v := ?_) (by simp only [List.getElem?_toArray, List.getElem?_cons_succ, List.getElem?_cons_zero]; exact rfl) (by kernel_rfl) (by kernel_rfl) (by kernel_rfl) (by exact fun _ _ _ h => h) (Or.inl ⟨by rfl, ?_⟩) hHeld ?_
          rotate_left
          · intro wq hSw; go_simp; all_goals (with_reducible rfl)
          try simp only [Act.put, List.setIfInBounds_toArray, List.set_cons_zero, List.set_cons_succ]
          refine wpAnyH_done (by kernel_rfl) ?_ _
          go_wp2
          go_ret
          exact ⟨by rw [HT.out]; simp only [ByteArray.append_assoc]; rfl, hC6.trans (hHeld.mono hC6.size)⟩
        · exact AllReadyH.nil
      · exact AllReadyH.nil
    · exact AllReadyH.nil
end Go.Proofs.YtbdochcajpempaaDoor

/- The walks of the reference's op and plain. -/
namespace Go.Proofs.YtbdochcajpempaaDoor
open Go.RowKit
set_option linter.unusedSimpArgs false
set_option linter.unusedVariables false

theorem rParse_any (A : Option Addr) (n c : Nat) (x : Int) (ts : List Sel.Tk) (nm : ByteArray) (ms : List Sel.Mt) (j : Nat) (e0 : Int) (hs : Sel.parse ts x = (nm, ms, j, e0)) (w : World) (hT : Tks w w.heap.size A n c ts) :
    Calls Tryd.prog 65 #[.slice A n c, .int .i64 x] w fun e w' => ∃ A' n' c', e = .returned (.tuple #[.agg #[.string nm, .slice A' n' c'], .int .i64 (j : Nat), .int .i64 e0]) ∧ Mts w' w'.heap.size A' n' c' ms ∧ Below w.heap.size w w' := by
  by_cases hx : x < 0
  · have h2 := hs
    unfold Sel.parse at h2
    rw [if_pos hx] at h2
    injection h2 with h1 h2
    injection h2 with h3 h2
    injection h2 with h4 h5
    subst h1 h3 h4 h5
    exact rParse_neg A n c x hx ts w hT
  · obtain ⟨X, rfl⟩ : ∃ X : Nat, x = X := ⟨x.toNat, by omega⟩
    by_cases h0 : Sel.nameE ts X = 0
    · exact rParse_good A n c X ts h0 nm ms j e0 hs w hT
    · have h2 := hs
      rw [parse_bad hT.len h0] at h2
      injection h2 with h1 h2
      injection h2 with h3 h2
      injection h2 with h4 h5
      subst h1 h3 h4 h5
      exact rParse_bad A n c X ts _ rfl _ rfl h0 w hT
theorem rNumParse_is (s : ByteArray) (hs : s.size ≤ 4611686018427387904) (w : World) (d e : Int) (h : Num.parse (Num.bl s) = (d, e)) :
    Calls Tryd.prog 67 #[.string s] w fun en w' => en = .returned (.tuple #[.int .i64 d, .int .i64 e]) ∧ Below w.heap.size w w' := by
  have := num_rParse_any s hs w
  rw [h] at this
  exact this
theorem Cond.signB_ne {k : Nat} (h1 : 1 ≤ k) (h6 : k ≤ 6) : ¬ Cond.signB k = ⟨#[]⟩ := by
  have hk : k = 1 ∨ k = 2 ∨ k = 3 ∨ k = 4 ∨ k = 5 ∨ k = 6 := by omega
  rcases hk with rfl | rfl | rfl | rfl | rfl | rfl <;> decide

set_option maxRecDepth 100000 in
set_option maxHeartbeats 8000000 in
theorem rop_is (A : Option Addr) (n c i : Nat) (ts : List Sel.Tk) (k : Nat) (hk : Cond.opAt ts i = k) (w : World) (hT : Tks w w.heap.size A n c ts) :
    Calls Tryd.prog 66 #[.slice A n c, .int .i64 (i : Nat)] w fun e w' => e = .returned (.int .i64 (k : Nat)) ∧ Below w.heap.size w w' := by
  have hk6 : k ≤ 6 := by rw [← hk]; exact Cond.opAt_le _ _
  have HK := Lib.hid hk
  have HT := Lib.hid hT
  clear hk hT
  go_enter Tryd.func66, Tryd.ntmps66
  go_wp2_with fail
  refine (rsigns_any w).mono ?_
  rintro e w1 ⟨rfl, hblk, hlt, hb1⟩
  have HBK := Lib.hid hblk
  have HT1 := Lib.hid (HT.out.later hb1)
  clear hblk
  go_wp2
  go_loopw [6] (fun s6 wr => ∃ q : Nat, q ≤ 6 ∧ s6 = .int .i64 (q : Nat) ∧ w1 = wr ∧ (k = 0 ∨ q < k)) (fun s6 _ => 6 - (intOf s6).toNat)
  case atStart => exact ⟨0, by omega, rfl, rfl, by omega⟩
  case round =>
    obtain ⟨q, hq, rfl, rfl, hqk⟩ := hrel
    obtain ⟨q2, hq2⟩ : ∃ y, y = q + 1 := ⟨_, rfl⟩
    by_cases hlt6 : q < 6
    · have hdl : decide (q < 6) = true := decide_eq_true hlt6
      have hcell : w1.cell? ⟨w.heap.size, q, none⟩ = some (.string (Cond.signB q2)) := (HBK.out.cell q).trans (by rw [hq2]; exact rs_at q hlt6)
      have hwq : IntKind.i64.wrap ((q : Int) + 1) = ((q2 : Nat) : Int) := by rw [hq2, show (q : Int) + 1 = ((q + 1 : Nat) : Int) by omega]; exact IntWalk.i64_in _ (by omega)
      have hi0 : (0 : Int) ≤ (q : Int) := by omega
      have hi6 : (q : Int) < 6 := by omega
      have HNE := Lib.hid (Cond.signB_ne (k := q2) (by omega) (by omega))
      obtain ⟨sg, hsg⟩ : ∃ s, Cond.signB q2 = s := ⟨_, rfl⟩
      by_cases hkq : k = q2
      · have HIS := Lib.hid (show (0 : Int) = if Sel.isS ts i (Cond.signB q2) = true then 0 else Sel.wrong ts i by rw [Cond.isS_op (by omega) (by omega), HK.out, decide_eq_true hkq, if_pos rfl])
        subst hkq
        have HQ2 := Lib.hid hq2
        clear hq2 hqk
        rw [hsg] at hcell
        rw [hsg] at HNE HIS
        clear hsg
        go_wp2_with fail
        refine (want_sign A n c i ts sg HNE.out 0 HIS.out _ HT1.out).mono ?_
        rintro e w' ⟨rfl, rfl⟩
        go_wp2
        go_ret
        exact ⟨rfl, hb1⟩
      · obtain ⟨e1, he1⟩ : ∃ e, e = Sel.wrong ts i := ⟨_, rfl⟩
        have hne1 : ¬ e1 = 0 := by rw [he1]; exact Sel.wrong_ne ts i
        have hnb : (e1 == 0) = false := by rw [beq_eq_false_iff_ne]; exact hne1
        have HIS := Lib.hid (show e1 = if Sel.isS ts i (Cond.signB q2) = true then 0 else Sel.wrong ts i by rw [Cond.isS_op (by omega) (by omega), HK.out, decide_eq_false hkq, if_neg (by decide), he1])
        have HQ2 := Lib.hid hq2
        have HQK := Lib.hid (show k = 0 ∨ q2 < k by omega)
        clear hq2 hqk he1 hkq
        rw [hsg] at hcell
        rw [hsg] at HNE HIS
        clear hsg
        go_wp2_with fail
        refine (want_sign A n c i ts sg HNE.out e1 HIS.out _ HT1.out).mono ?_
        rintro e w' ⟨rfl, rfl⟩
        go_wp2
        go_roundw
        case rel => exact ⟨q2, by have := HQ2.out; omega, rfl, by first | rfl | trivial, HQK.out⟩
        case measure => have := HQ2.out; simp [intOf]; omega
    · obtain rfl : q = 6 := by omega
      have hk0 : k = 0 := by omega
      subst hk0
      have hdl : decide (6 < 6) = false := by decide
      go_wp2
      go_ret
      exact ⟨rfl, hb1⟩
end Go.Proofs.YtbdochcajpempaaDoor
