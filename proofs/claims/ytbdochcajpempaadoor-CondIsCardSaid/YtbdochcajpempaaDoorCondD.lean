/- The walks of cond's is, wrong, and of Sane of both. -/
import Derived.Test.YtbdochcajpempaaDoorCondC
import Derived.Test.YtbdochcajpempaaDoorSelF
import Derived.Test.YtbdochcajpempaaDoorNumC
namespace Go.Proofs.YtbdochcajpempaaDoor
open Go.RowKit
set_option linter.unusedSimpArgs false
set_option linter.unusedVariables false

theorem isOp_is (op : Int) (b : Bool) (h : Cond.isOp op = b) (w : World) : Calls Tryd.prog 25 #[.int .i64 op] w fun e w' => e = .returned (.bool b) ∧ w = w' := by subst h; exact isOp_any op w
theorem numSane_is (d : Int) (b : Bool) (h : Num.sane d = b) (w : World) : Calls Tryd.prog 30 #[.int .i64 d] w fun e w' => e = .returned (.bool b) ∧ w = w' := by
  subst h
  exact sane_any d w
theorem rNumSane_is (d : Int) (b : Bool) (h : Num.sane d = b) (w : World) : Calls Tryd.prog 32 #[.int .i64 d] w fun e w' => e = .returned (.bool b) ∧ w = w' := by
  subst h
  exact rSane_any d w
theorem selSane_is (nm : ByteArray) (A : Option Addr) (n c : Nat) (ms : List Lab.Mt) (b : Bool) (hb : Lab.selSane nm ms = b) (w : World) (h : Mts w w.heap.size A n c ms) :
    Calls Tryd.prog 29 #[.agg #[.string nm, .slice A n c]] w fun e w' => e = .returned (.bool b) ∧ Below w.heap.size w w' := by
  subst hb
  exact selSane_any nm A n c ms w h
theorem rSelSane_is (nm : ByteArray) (hnms : nm.size ≤ 9223372036854775807) (A : Option Addr) (n c : Nat) (ms : List Lab.Mt) (b : Bool) (hb : Lab.selSane nm ms = b) (w : World) (h : Mts w w.heap.size A n c ms) :
    Calls Tryd.prog 31 #[.agg #[.string nm, .slice A n c]] w fun e w' => e = .returned (.bool b) ∧ Below w.heap.size w w' := by
  subst hb
  exact rSelSane_any nm hnms A n c ms w h
theorem numParse_is (s : ByteArray) (hs : s.size ≤ 4611686018427387904) (w : World) (d e : Int) (h : Num.parse (Num.bl s) = (d, e)) :
    Calls Tryd.prog 27 #[.string s] w fun en w' => en = .returned (.tuple #[.int .i64 d, .int .i64 e]) ∧ Below w.heap.size w w' := by
  have := parse_any s hs w
  rw [h] at this
  exact this

set_option maxRecDepth 100000 in
set_option maxHeartbeats 4000000 in
theorem cis_any (A : Option Addr) (n c i : Nat) (ts : List Sel.Tk) (s : ByteArray) (bo : Bool) (hs : Sel.isS ts i s = bo) (w : World) (hT : Tks w w.heap.size A n c ts) :
    Calls Tryd.prog 23 #[.slice A n c, .int .i64 (i : Nat), .string s] w fun e w' => e = .returned (.bool bo) ∧ w = w' := by
  have hl := hT.len
  by_cases hin : i < n
  · obtain ⟨b, off, t, rfl, hbB, ht, -, h0, -, h2⟩ := hT.at_ hin
    have hd1 : decide (i < n) = true := decide_eq_true hin
    rw [Sel.isS_some ht] at hs
    obtain ⟨k, a, u⟩ := t
    simp only at hs h0 h2
    rcases hk : (k == 4) with _ | _
    · rw [hk] at hs
      have hE : false = bo := hs
      have hkn : ¬ k = 4 := by simpa using hk
      clear hs hl ht hT
      subst hE
      go_enter Tryd.func23, Tryd.ntmps23
      go_wp2
      go_ret
      exact ⟨rfl, rfl⟩
    · rw [hk] at hs
      obtain rfl : k = 4 := by simpa using hk
      clear hk
      by_cases hu : u = s
      · have hE : bo = true := by rw [← hs, decide_eq_true hu]; rfl
        clear hs hl ht hT
        subst hE hu
        go_enter Tryd.func23, Tryd.ntmps23
        go_wp2
        go_ret
        exact ⟨rfl, rfl⟩
      · have hE : bo = false := by rw [← hs, decide_eq_false hu]; rfl
        have hun := Sel.ba_ne hu
        clear hs hl ht hT
        subst hE
        go_enter Tryd.func23, Tryd.ntmps23
        go_wp2
        go_ret
        exact ⟨rfl, rfl⟩
  · have hd1 : decide (i < n) = false := decide_eq_false (by omega)
    rw [Sel.isS_none (List.getElem?_eq_none (by omega))] at hs
    clear hl hT hin
    subst hs
    go_enter Tryd.func23, Tryd.ntmps23
    go_wp2
    go_ret
    exact ⟨rfl, rfl⟩
set_option maxRecDepth 100000 in
set_option maxHeartbeats 4000000 in
theorem cwrong_any (A : Option Addr) (n c i : Nat) (ts : List Sel.Tk) (hl : ts.length = n) (e0 : Int) (he : Sel.wrong ts i = e0) (w : World) :
    Calls Tryd.prog 26 #[.slice A n c, .int .i64 (i : Nat)] w fun e w' => e = .returned (.int .i64 e0) ∧ w = w' := by
  subst he
  unfold Sel.wrong
  rw [hl]
  by_cases h : n ≤ i
  · rw [if_pos h]
    have hd1 : decide (n ≤ i) = true := decide_eq_true h
    go_enter Tryd.func26, Tryd.ntmps26
    go_wp2
    go_ret
    exact ⟨rfl, rfl⟩
  · rw [if_neg h]
    have hd1 : decide (n ≤ i) = false := decide_eq_false h
    go_enter Tryd.func26, Tryd.ntmps26
    go_wp2
    go_ret
    exact ⟨rfl, rfl⟩
theorem isOp_false {op : Int} (h : Cond.isOp op = false) : op < 1 ∨ 6 < op := by
  unfold Cond.isOp at h
  simp only [Bool.and_eq_false_iff, decide_eq_false_iff_not] at h
  omega
set_option maxRecDepth 100000 in
set_option maxHeartbeats 4000000 in
theorem cSane_any (nm : ByteArray) (A : Option Addr) (n c : Nat) (ms : List Lab.Mt) (op v : Int) (b : Bool) (hb : Cond.sane nm ms op v = b) (w : World) (hm : Mts w w.heap.size A n c ms) :
    Calls Tryd.prog 13 #[.agg #[.string nm, .slice A n c, .int .i64 op, .int .i64 v]] w fun e w' => e = .returned (.bool b) ∧ Below w.heap.size w w' := by
  subst hb
  have HM := Lib.hid hm
  clear hm
  unfold Cond.sane
  obtain ⟨b1, h1⟩ : ∃ b, Lab.selSane nm ms = b := ⟨_, rfl⟩
  obtain ⟨b2, h2⟩ : ∃ b, Cond.isOp op = b := ⟨_, rfl⟩
  obtain ⟨b3, h3⟩ : ∃ b, Num.sane v = b := ⟨_, rfl⟩
  rw [h1, h2, h3]
  have H1 := Lib.hid h1
  have H2 := Lib.hid h2
  have H3 := Lib.hid h3
  clear h1 h2 h3
  go_enter Tryd.func13, Tryd.ntmps13
  go_wp2_with fail
  have hB1 := (Below.refl w.heap.size w).alloc (Nat.le_refl _) (.cells #[.string nm, .slice A n c, .int .i64 op, .int .i64 v] 26)
  have hblk := (Mem.Blk.new w 26 #[.string nm, .slice A n c, .int .i64 op, .int .i64 v])
  have hlt1 : w.heap.size < (w.alloc (.cells #[.string nm, .slice A n c, .int .i64 op, .int .i64 v] 26)).heap.size := by simp
  have hsz1 : w.heap.size ≤ (w.alloc (.cells #[.string nm, .slice A n c, .int .i64 op, .int .i64 v] 26)).heap.size := by simp
  obtain ⟨W1, hW1⟩ : ∃ W1, W1 = w.alloc (.cells #[.string nm, .slice A n c, .int .i64 op, .int .i64 v] 26) := ⟨_, rfl⟩
  rw [← hW1] at hB1 hblk hlt1 hsz1 ⊢
  clear hW1
  have HBLK := Lib.hid hblk
  clear hblk
  have u2 : W1.cell? ⟨w.heap.size, 2, none⟩ = some (.int .i64 op) := HBLK.out.cell 2
  have u3 : W1.cell? ⟨w.heap.size, 3, none⟩ = some (.int .i64 v) := HBLK.out.cell 3
  refine (selSane_is nm A n c ms b1 H1.out W1 ((HM.out.below hB1).more hsz1)).mono ?_
  rintro e w2 ⟨rfl, hb2⟩
  have u2 := (hb2.cell (p := ⟨w.heap.size, 2, none⟩) hlt1).trans u2
  have u3 := (hb2.cell (p := ⟨w.heap.size, 3, none⟩) hlt1).trans u3
  have hC2 := hB1.trans (hb2.mono hB1.size)
  rcases b1 with _ | _
  · go_wp2
    go_ret
    exact ⟨rfl, hC2⟩
  · go_wp2_with fail
    refine (isOp_is op b2 H2.out w2).mono ?_
    rintro e w3 ⟨rfl, rfl⟩
    rcases b2 with _ | _
    · go_wp2
      go_ret
      exact ⟨rfl, hC2⟩
    · go_wp2_with fail
      refine (numSane_is v b3 H3.out w2).mono ?_
      rintro e w3 ⟨rfl, rfl⟩
      go_wp2
      go_ret
      exact ⟨rfl, hC2⟩
set_option maxRecDepth 100000 in
set_option maxHeartbeats 4000000 in
theorem rcSane_any (nm : ByteArray) (hnms : nm.size ≤ 9223372036854775807) (A : Option Addr) (n c : Nat) (ms : List Lab.Mt) (op v : Int) (b : Bool) (hb : Cond.sane nm ms op v = b) (w : World) (hm : Mts w w.heap.size A n c ms) :
    Calls Tryd.prog 14 #[.agg #[.string nm, .slice A n c, .int .i64 op, .int .i64 v]] w fun e w' => e = .returned (.bool b) ∧ Below w.heap.size w w' := by
  subst hb
  have HM := Lib.hid hm
  clear hm
  unfold Cond.sane Cond.isOp
  obtain ⟨b1, h1⟩ : ∃ b, Lab.selSane nm ms = b := ⟨_, rfl⟩
  obtain ⟨b2, h2⟩ : ∃ b, decide (1 ≤ op) = b := ⟨_, rfl⟩
  obtain ⟨b4, h4⟩ : ∃ b, decide (op ≤ 6) = b := ⟨_, rfl⟩
  obtain ⟨b3, h3⟩ : ∃ b, Num.sane v = b := ⟨_, rfl⟩
  rw [h1, h2, h3, h4]
  have H1 := Lib.hid h1
  have H3 := Lib.hid h3
  clear h1 h3
  go_enter Tryd.func14, Tryd.ntmps14
  go_wp2_with fail
  have hB1 := (Below.refl w.heap.size w).alloc (Nat.le_refl _) (.cells #[.string nm, .slice A n c, .int .i64 op, .int .i64 v] 26)
  have hblk := (Mem.Blk.new w 26 #[.string nm, .slice A n c, .int .i64 op, .int .i64 v])
  have hlt1 : w.heap.size < (w.alloc (.cells #[.string nm, .slice A n c, .int .i64 op, .int .i64 v] 26)).heap.size := by simp
  have hsz1 : w.heap.size ≤ (w.alloc (.cells #[.string nm, .slice A n c, .int .i64 op, .int .i64 v] 26)).heap.size := by simp
  obtain ⟨W1, hW1⟩ : ∃ W1, W1 = w.alloc (.cells #[.string nm, .slice A n c, .int .i64 op, .int .i64 v] 26) := ⟨_, rfl⟩
  rw [← hW1] at hB1 hblk hlt1 hsz1 ⊢
  clear hW1
  have HBLK := Lib.hid hblk
  clear hblk
  have u2 : W1.cell? ⟨w.heap.size, 2, none⟩ = some (.int .i64 op) := HBLK.out.cell 2
  have u3 : W1.cell? ⟨w.heap.size, 3, none⟩ = some (.int .i64 v) := HBLK.out.cell 3
  refine (rSelSane_is nm hnms A n c ms b1 H1.out W1 ((HM.out.below hB1).more hsz1)).mono ?_
  rintro e w2 ⟨rfl, hb2⟩
  have u2 := (hb2.cell (p := ⟨w.heap.size, 2, none⟩) hlt1).trans u2
  have u3 := (hb2.cell (p := ⟨w.heap.size, 3, none⟩) hlt1).trans u3
  have hC2 := hB1.trans (hb2.mono hB1.size)
  rcases b1 with _ | _
  · go_wp2
    go_ret
    exact ⟨rfl, hC2⟩
  rcases b2 with _ | _
  · go_wp2
    go_ret
    exact ⟨rfl, hC2⟩
  rcases b4 with _ | _
  · go_wp2
    go_ret
    exact ⟨rfl, hC2⟩
  go_wp2_with fail
  refine (rNumSane_is v b3 H3.out w2).mono ?_
  rintro e w3 ⟨rfl, rfl⟩
  go_wp2
  go_ret
  exact ⟨rfl, hC2⟩
end Go.Proofs.YtbdochcajpempaaDoor
