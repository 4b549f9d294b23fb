/- The walks of cond's Sane and rule's Sane, and of the reference's. -/
import Derived.Test.YthjnhifaejoigaaLabD
namespace Go.Proofs.Ythjnhifaejoigaa
open Go.RowKit
set_option linter.unusedSimpArgs false
set_option linter.unusedVariables false

set_option maxRecDepth 100000 in
set_option maxHeartbeats 4000000 in
theorem condSane_any (sn : ByteArray) (A : Option Addr) (n c : Nat) (ms : List Lab.Mt) (op v : Int) (w : World) (h : Mts w w.heap.size A n c ms) :
    Calls Try.prog 40 #[.agg #[.string sn, .slice A n c, .int .i64 op, .int .i64 v]] w fun e w' => e = .returned (.bool (Lab.condSane sn ms op v)) ∧ Below w.heap.size w w' := by
  have HH := Lib.hid h
  clear h
  rcases h1 : Lab.selSane sn ms with _ | _
  · have H1 := Lib.hid h1
    have HS := Lib.hid (show Lab.condSane sn ms op v = false by unfold Lab.condSane; rw [h1]; rfl)
    clear h1
    go_enter Try.func40, Try.ntmps40
    go_wp2_with fail
    have hB1 := (Below.refl w.heap.size w).alloc (Nat.le_refl _) (.cells #[.string sn, .slice A n c, .int .i64 op, .int .i64 v] 45)
    have hblk := (Mem.Blk.new w 45 #[.string sn, .slice A n c, .int .i64 op, .int .i64 v])
    have hlt1 : w.heap.size < (w.alloc (.cells #[.string sn, .slice A n c, .int .i64 op, .int .i64 v] 45)).heap.size := by simp
    have hsz1 : w.heap.size ≤ (w.alloc (.cells #[.string sn, .slice A n c, .int .i64 op, .int .i64 v] 45)).heap.size := by simp
    obtain ⟨W1, hW1⟩ : ∃ W1, W1 = w.alloc (.cells #[.string sn, .slice A n c, .int .i64 op, .int .i64 v] 45) := ⟨_, rfl⟩
    rw [← hW1] at hB1 hblk hlt1 hsz1 ⊢
    clear hW1
    have HBLK := Lib.hid hblk
    clear hblk
    refine (selSane_is sn A n c ms _ H1.out W1 ((HH.out.below hB1).more hsz1)).mono ?_
    rintro e w2 ⟨rfl, hb2⟩
    go_wp2
    go_ret
    exact ⟨by rw [HS.out]; rfl, hB1.trans (hb2.mono hB1.size)⟩
  · have H1 := Lib.hid h1
    rcases h2 : Lab.isOp op with _ | _
    · have H2 := Lib.hid h2
      have HS := Lib.hid (show Lab.condSane sn ms op v = false by unfold Lab.condSane; rw [h1, h2]; rfl)
      clear h1 h2
      go_enter Try.func40, Try.ntmps40
      go_wp2_with fail
      have hB1 := (Below.refl w.heap.size w).alloc (Nat.le_refl _) (.cells #[.string sn, .slice A n c, .int .i64 op, .int .i64 v] 45)
      have hblk := (Mem.Blk.new w 45 #[.string sn, .slice A n c, .int .i64 op, .int .i64 v])
      have hlt1 : w.heap.size < (w.alloc (.cells #[.string sn, .slice A n c, .int .i64 op, .int .i64 v] 45)).heap.size := by simp
      have hsz1 : w.heap.size ≤ (w.alloc (.cells #[.string sn, .slice A n c, .int .i64 op, .int .i64 v] 45)).heap.size := by simp
      obtain ⟨W1, hW1⟩ : ∃ W1, W1 = w.alloc (.cells #[.string sn, .slice A n c, .int .i64 op, .int .i64 v] 45) := ⟨_, rfl⟩
      rw [← hW1] at hB1 hblk hlt1 hsz1 ⊢
      clear hW1
      have HBLK := Lib.hid hblk
      clear hblk
      refine (selSane_is sn A n c ms _ H1.out W1 ((HH.out.below hB1).more hsz1)).mono ?_
      rintro e w2 ⟨rfl, hb2⟩
      have x2 : w2.cell? ⟨w.heap.size, 2, none⟩ = some (.int .i64 op) := (hb2.cell (p := ⟨w.heap.size, 2, none⟩) hlt1).trans (HBLK.out.cell 2)
      go_wp2_with fail
      refine (isOp_is op _ H2.out _).mono ?_
      rintro e w3 ⟨rfl, rfl⟩
      go_wp2
      go_ret
      exact ⟨by rw [HS.out]; rfl, hB1.trans (hb2.mono hB1.size)⟩
    · have H2 := Lib.hid h2
      obtain ⟨b3, h3⟩ : ∃ b, Lab.numSane v = b := ⟨_, rfl⟩
      have H3 := Lib.hid h3
      have HS := Lib.hid (show Lab.condSane sn ms op v = b3 by unfold Lab.condSane; rw [h1, h2, h3]; rfl)
      clear h1 h2 h3
      go_enter Try.func40, Try.ntmps40
      go_wp2_with fail
      have hB1 := (Below.refl w.heap.size w).alloc (Nat.le_refl _) (.cells #[.string sn, .slice A n c, .int .i64 op, .int .i64 v] 45)
      have hblk := (Mem.Blk.new w 45 #[.string sn, .slice A n c, .int .i64 op, .int .i64 v])
      have hlt1 : w.heap.size < (w.alloc (.cells #[.string sn, .slice A n c, .int .i64 op, .int .i64 v] 45)).heap.size := by simp
      have hsz1 : w.heap.size ≤ (w.alloc (.cells #[.string sn, .slice A n c, .int .i64 op, .int .i64 v] 45)).heap.size := by simp
      obtain ⟨W1, hW1⟩ : ∃ W1, W1 = w.alloc (.cells #[.string sn, .slice A n c, .int .i64 op, .int .i64 v] 45) := ⟨_, rfl⟩
      rw [← hW1] at hB1 hblk hlt1 hsz1 ⊢
      clear hW1
      have HBLK := Lib.hid hblk
      clear hblk
      refine (selSane_is sn A n c ms _ H1.out W1 ((HH.out.below hB1).more hsz1)).mono ?_
      rintro e w2 ⟨rfl, hb2⟩
      have x2 : w2.cell? ⟨w.heap.size, 2, none⟩ = some (.int .i64 op) := (hb2.cell (p := ⟨w.heap.size, 2, none⟩) hlt1).trans (HBLK.out.cell 2)
      have x3 : w2.cell? ⟨w.heap.size, 3, none⟩ = some (.int .i64 v) := (hb2.cell (p := ⟨w.heap.size, 3, none⟩) hlt1).trans (HBLK.out.cell 3)
      go_wp2_with fail
      refine (isOp_is op _ H2.out _).mono ?_
      rintro e w3 ⟨rfl, rfl⟩
      go_wp2_with fail
      refine (numSane_is v _ H3.out _).mono ?_
      rintro e w3 ⟨rfl, rfl⟩
      go_wp2
      go_ret
      exact ⟨by rw [HS.out]; rfl, hB1.trans (hb2.mono hB1.size)⟩
set_option maxRecDepth 100000 in
set_option maxHeartbeats 4000000 in
theorem rCondSane_any (sn : ByteArray) (hsn : sn.size ≤ 9223372036854775807) (A : Option Addr) (n c : Nat) (ms : List Lab.Mt) (op v : Int) (w : World) (h : Mts w w.heap.size A n c ms) :
    Calls Try.prog 43 #[.agg #[.string sn, .slice A n c, .int .i64 op, .int .i64 v]] w fun e w' => e = .returned (.bool (Lab.condSane sn ms op v)) ∧ Below w.heap.size w w' := by
  have HH := Lib.hid h
  have HSN := Lib.hid hsn
  clear h
  obtain ⟨b1, h1⟩ : ∃ b, Lab.selSane sn ms = b := ⟨_, rfl⟩
  obtain ⟨b3, h3⟩ : ∃ b, Lab.numSane v = b := ⟨_, rfl⟩
  have H1 := Lib.hid h1
  have H3 := Lib.hid h3
  have hcase : (b1 = false ∧ Lab.condSane sn ms op v = false) ∨ (b1 = true ∧ decide (1 ≤ op) = false ∧ Lab.condSane sn ms op v = false) ∨ (b1 = true ∧ decide (1 ≤ op) = true ∧ decide (op ≤ 6) = false ∧ Lab.condSane sn ms op v = false) ∨ (b1 = true ∧ decide (1 ≤ op) = true ∧ decide (op ≤ 6) = true ∧ Lab.condSane sn ms op v = b3) := by
    unfold Lab.condSane Lab.isOp
    rw [h1, h3]
    cases b1 <;> cases hx : decide (1 ≤ op) <;> cases hy : decide (op ≤ 6) <;> simp_all
  clear h1 h3
  rcases hcase with ⟨rfl, hs⟩ | ⟨rfl, ho, hs⟩ | ⟨rfl, ho, ho2, hs⟩ | ⟨rfl, ho, ho2, hs⟩
  · have HS := Lib.hid hs
    clear hs
    go_enter Try.func43, Try.ntmps43
    go_wp2_with fail
    have hB1 := (Below.refl w.heap.size w).alloc (Nat.le_refl _) (.cells #[.string sn, .slice A n c, .int .i64 op, .int .i64 v] 45)
    have hblk := (Mem.Blk.new w 45 #[.string sn, .slice A n c, .int .i64 op, .int .i64 v])
    have hlt1 : w.heap.size < (w.alloc (.cells #[.string sn, .slice A n c, .int .i64 op, .int .i64 v] 45)).heap.size := by simp
    have hsz1 : w.heap.size ≤ (w.alloc (.cells #[.string sn, .slice A n c, .int .i64 op, .int .i64 v] 45)).heap.size := by simp
    obtain ⟨W1, hW1⟩ : ∃ W1, W1 = w.alloc (.cells #[.string sn, .slice A n c, .int .i64 op, .int .i64 v] 45) := ⟨_, rfl⟩
    rw [← hW1] at hB1 hblk hlt1 hsz1 ⊢
    clear hW1
    have HBLK := Lib.hid hblk
    clear hblk
    refine (rSelSane_is sn HSN.out A n c ms _ H1.out W1 ((HH.out.below hB1).more hsz1)).mono ?_
    rintro e w2 ⟨rfl, hb2⟩
    have x2 : w2.cell? ⟨w.heap.size, 2, none⟩ = some (.int .i64 op) := (hb2.cell (p := ⟨w.heap.size, 2, none⟩) hlt1).trans (HBLK.out.cell 2)
    have x3 : w2.cell? ⟨w.heap.size, 3, none⟩ = some (.int .i64 v) := (hb2.cell (p := ⟨w.heap.size, 3, none⟩) hlt1).trans (HBLK.out.cell 3)
    go_wp2
    go_ret
    exact ⟨by rw [HS.out]; rfl, hB1.trans (hb2.mono hB1.size)⟩
  · have HS := Lib.hid hs
    clear hs
    go_enter Try.func43, Try.ntmps43
    go_wp2_with fail
    have hB1 := (Below.refl w.heap.size w).alloc (Nat.le_refl _) (.cells #[.string sn, .slice A n c, .int .i64 op, .int .i64 v] 45)
    have hblk := (Mem.Blk.new w 45 #[.string sn, .slice A n c, .int .i64 op, .int .i64 v])
    have hlt1 : w.heap.size < (w.alloc (.cells #[.string sn, .slice A n c, .int .i64 op, .int .i64 v] 45)).heap.size := by simp
    have hsz1 : w.heap.size ≤ (w.alloc (.cells #[.string sn, .slice A n c, .int .i64 op, .int .i64 v] 45)).heap.size := by simp
    obtain ⟨W1, hW1⟩ : ∃ W1, W1 = w.alloc (.cells #[.string sn, .slice A n c, .int .i64 op, .int .i64 v] 45) := ⟨_, rfl⟩
    rw [← hW1] at hB1 hblk hlt1 hsz1 ⊢
    clear hW1
    have HBLK := Lib.hid hblk
    clear hblk
    refine (rSelSane_is sn HSN.out A n c ms _ H1.out W1 ((HH.out.below hB1).more hsz1)).mono ?_
    rintro e w2 ⟨rfl, hb2⟩
    have x2 : w2.cell? ⟨w.heap.size, 2, none⟩ = some (.int .i64 op) := (hb2.cell (p := ⟨w.heap.size, 2, none⟩) hlt1).trans (HBLK.out.cell 2)
    have x3 : w2.cell? ⟨w.heap.size, 3, none⟩ = some (.int .i64 v) := (hb2.cell (p := ⟨w.heap.size, 3, none⟩) hlt1).trans (HBLK.out.cell 3)
    go_wp2
    go_ret
    exact ⟨by rw [HS.out]; rfl, hB1.trans (hb2.mono hB1.size)⟩
  · have HS := Lib.hid hs
    clear hs
    go_enter Try.func43, Try.ntmps43
    go_wp2_with fail
    have hB1 := (Below.refl w.heap.size w).alloc (Nat.le_refl _) (.cells #[.string sn, .slice A n c, .int .i64 op, .int .i64 v] 45)
    have hblk := (Mem.Blk.new w 45 #[.string sn, .slice A n c, .int .i64 op, .int .i64 v])
    have hlt1 : w.heap.size < (w.alloc (.cells #[.string sn, .slice A n c, .int .i64 op, .int .i64 v] 45)).heap.size := by simp
    have hsz1 : w.heap.size ≤ (w.alloc (.cells #[.string sn, .slice A n c, .int .i64 op, .int .i64 v] 45)).heap.size := by simp
    obtain ⟨W1, hW1⟩ : ∃ W1, W1 = w.alloc (.cells #[.string sn, .slice A n c, .int .i64 op, .int .i64 v] 45) := ⟨_, rfl⟩
    rw [← hW1] at hB1 hblk hlt1 hsz1 ⊢
    clear hW1
    have HBLK := Lib.hid hblk
    clear hblk
    refine (rSelSane_is sn HSN.out A n c ms _ H1.out W1 ((HH.out.below hB1).more hsz1)).mono ?_
    rintro e w2 ⟨rfl, hb2⟩
    have x2 : w2.cell? ⟨w.heap.size, 2, none⟩ = some (.int .i64 op) := (hb2.cell (p := ⟨w.heap.size, 2, none⟩) hlt1).trans (HBLK.out.cell 2)
    have x3 : w2.cell? ⟨w.heap.size, 3, none⟩ = some (.int .i64 v) := (hb2.cell (p := ⟨w.heap.size, 3, none⟩) hlt1).trans (HBLK.out.cell 3)
    go_wp2
    go_ret
    exact ⟨by rw [HS.out]; rfl, hB1.trans (hb2.mono hB1.size)⟩
  · have HS := Lib.hid hs
    clear hs
    go_enter Try.func43, Try.ntmps43
    go_wp2_with fail
    have hB1 := (Below.refl w.heap.size w).alloc (Nat.le_refl _) (.cells #[.string sn, .slice A n c, .int .i64 op, .int .i64 v] 45)
    have hblk := (Mem.Blk.new w 45 #[.string sn, .slice A n c, .int .i64 op, .int .i64 v])
    have hlt1 : w.heap.size < (w.alloc (.cells #[.string sn, .slice A n c, .int .i64 op, .int .i64 v] 45)).heap.size := by simp
    have hsz1 : w.heap.size ≤ (w.alloc (.cells #[.string sn, .slice A n c, .int .i64 op, .int .i64 v] 45)).heap.size := by simp
    obtain ⟨W1, hW1⟩ : ∃ W1, W1 = w.alloc (.cells #[.string sn, .slice A n c, .int .i64 op, .int .i64 v] 45) := ⟨_, rfl⟩
    rw [← hW1] at hB1 hblk hlt1 hsz1 ⊢
    clear hW1
    have HBLK := Lib.hid hblk
    clear hblk
    refine (rSelSane_is sn HSN.out A n c ms _ H1.out W1 ((HH.out.below hB1).more hsz1)).mono ?_
    rintro e w2 ⟨rfl, hb2⟩
    have x2 : w2.cell? ⟨w.heap.size, 2, none⟩ = some (.int .i64 op) := (hb2.cell (p := ⟨w.heap.size, 2, none⟩) hlt1).trans (HBLK.out.cell 2)
    have x3 : w2.cell? ⟨w.heap.size, 3, none⟩ = some (.int .i64 v) := (hb2.cell (p := ⟨w.heap.size, 3, none⟩) hlt1).trans (HBLK.out.cell 3)
    go_wp2_with fail
    refine (rNumSane_is v _ H3.out _).mono ?_
    rintro e w3 ⟨rfl, rfl⟩
    go_wp2
    go_ret
    exact ⟨by rw [HS.out]; rfl, hB1.trans (hb2.mono hB1.size)⟩
theorem condSane_is (sn : ByteArray) (A : Option Addr) (n c : Nat) (ms : List Lab.Mt) (op v : Int) (b : Bool) (hb : Lab.condSane sn ms op v = b) (w : World) (h : Mts w w.heap.size A n c ms) :
    Calls Try.prog 40 #[.agg #[.string sn, .slice A n c, .int .i64 op, .int .i64 v]] w fun e w' => e = .returned (.bool b) ∧ Below w.heap.size w w' := by
  subst hb
  exact condSane_any sn A n c ms op v w h
theorem rCondSane_is (sn : ByteArray) (hsn : sn.size ≤ 9223372036854775807) (A : Option Addr) (n c : Nat) (ms : List Lab.Mt) (op v : Int) (b : Bool) (hb : Lab.condSane sn ms op v = b) (w : World) (h : Mts w w.heap.size A n c ms) :
    Calls Try.prog 43 #[.agg #[.string sn, .slice A n c, .int .i64 op, .int .i64 v]] w fun e w' => e = .returned (.bool b) ∧ Below w.heap.size w w' := by
  subst hb
  exact rCondSane_any sn hsn A n c ms op v w h
set_option maxRecDepth 100000 in
set_option maxHeartbeats 4000000 in
theorem ruSane_any (r : Lab.Ru) (w : World) (h : RuIn w w.heap.size r) :
    Calls Try.prog 34 #[.agg #[.string r.nm, .string r.sn, .slice r.MA r.Mn r.Mc, .int .i64 r.op, .int .i64 r.v, .int .i64 r.fo, .int .i64 r.ke, .slice r.LA r.Ln r.Lc]] w fun e w' => e = .returned (.bool (Lab.ruSane r)) ∧ Below w.heap.size w w' := by
  have HH := Lib.hid h
  clear h
  obtain ⟨b1, h1⟩ : ∃ b, Lab.name r.nm = b := ⟨_, rfl⟩
  obtain ⟨b2, h2⟩ : ∃ b, Lab.condSane r.sn r.ms r.op r.v = b := ⟨_, rfl⟩
  obtain ⟨b3, h3⟩ : ∃ b, Lab.durSane r.fo = b := ⟨_, rfl⟩
  obtain ⟨b4, h4⟩ : ∃ b, Lab.durSane r.ke = b := ⟨_, rfl⟩
  obtain ⟨b5, h5⟩ : ∃ b, Lab.sane r.ls = b := ⟨_, rfl⟩
  obtain ⟨b6, h6⟩ : ∃ b, Lab.free r.ls = b := ⟨_, rfl⟩
  have HS := Lib.hid (show Lab.ruSane r = (b1 && b2 && b3 && b4 && b5 && b6) by unfold Lab.ruSane; rw [h1, h2, h3, h4, h5, h6])
  have H1 := Lib.hid h1
  have H2 := Lib.hid h2
  have H3 := Lib.hid h3
  have H4 := Lib.hid h4
  have H5 := Lib.hid h5
  have H6 := Lib.hid h6
  clear h1 h2 h3 h4 h5 h6
  rcases b1 with _ | _
  · go_enter Try.func34, Try.ntmps34
    go_wp2_with fail
    have hB1 := (Below.refl w.heap.size w).alloc (Nat.le_refl _) (.cells #[.string r.nm, .string r.sn, .slice r.MA r.Mn r.Mc, .int .i64 r.op, .int .i64 r.v, .int .i64 r.fo, .int .i64 r.ke, .slice r.LA r.Ln r.Lc] 48)
    have hblk := (Mem.Blk.new w 48 #[.string r.nm, .string r.sn, .slice r.MA r.Mn r.Mc, .int .i64 r.op, .int .i64 r.v, .int .i64 r.fo, .int .i64 r.ke, .slice r.LA r.Ln r.Lc])
    have hlt1 : w.heap.size < (w.alloc (.cells #[.string r.nm, .string r.sn, .slice r.MA r.Mn r.Mc, .int .i64 r.op, .int .i64 r.v, .int .i64 r.fo, .int .i64 r.ke, .slice r.LA r.Ln r.Lc] 48)).heap.size := by simp
    have hsz1 : w.heap.size ≤ (w.alloc (.cells #[.string r.nm, .string r.sn, .slice r.MA r.Mn r.Mc, .int .i64 r.op, .int .i64 r.v, .int .i64 r.fo, .int .i64 r.ke, .slice r.LA r.Ln r.Lc] 48)).heap.size := by simp
    obtain ⟨W1, hW1⟩ : ∃ W1, W1 = w.alloc (.cells #[.string r.nm, .string r.sn, .slice r.MA r.Mn r.Mc, .int .i64 r.op, .int .i64 r.v, .int .i64 r.fo, .int .i64 r.ke, .slice r.LA r.Ln r.Lc] 48) := ⟨_, rfl⟩
    rw [← hW1] at hB1 hblk hlt1 hsz1 ⊢
    clear hW1
    have HBLK := Lib.hid hblk
    clear hblk
    refine (name_is _ _ H1.out _).mono ?_
    rintro e w9 ⟨rfl, rfl⟩
    go_wp2
    go_ret
    exact ⟨by rw [HS.out]; rfl, hB1⟩
  · skip
    rcases b2 with _ | _
    · go_enter Try.func34, Try.ntmps34
      go_wp2_with fail
      have hB1 := (Below.refl w.heap.size w).alloc (Nat.le_refl _) (.cells #[.string r.nm, .string r.sn, .slice r.MA r.Mn r.Mc, .int .i64 r.op, .int .i64 r.v, .int .i64 r.fo, .int .i64 r.ke, .slice r.LA r.Ln r.Lc] 48)
      have hblk := (Mem.Blk.new w 48 #[.string r.nm, .string r.sn, .slice r.MA r.Mn r.Mc, .int .i64 r.op, .int .i64 r.v, .int .i64 r.fo, .int .i64 r.ke, .slice r.LA r.Ln r.Lc])
      have hlt1 : w.heap.size < (w.alloc (.cells #[.string r.nm, .string r.sn, .slice r.MA r.Mn r.Mc, .int .i64 r.op, .int .i64 r.v, .int .i64 r.fo, .int .i64 r.ke, .slice r.LA r.Ln r.Lc] 48)).heap.size := by simp
      have hsz1 : w.heap.size ≤ (w.alloc (.cells #[.string r.nm, .string r.sn, .slice r.MA r.Mn r.Mc, .int .i64 r.op, .int .i64 r.v, .int .i64 r.fo, .int .i64 r.ke, .slice r.LA r.Ln r.Lc] 48)).heap.size := by simp
      obtain ⟨W1, hW1⟩ : ∃ W1, W1 = w.alloc (.cells #[.string r.nm, .string r.sn, .slice r.MA r.Mn r.Mc, .int .i64 r.op, .int .i64 r.v, .int .i64 r.fo, .int .i64 r.ke, .slice r.LA r.Ln r.Lc] 48) := ⟨_, rfl⟩
      rw [← hW1] at hB1 hblk hlt1 hsz1 ⊢
      clear hW1
      have HBLK := Lib.hid hblk
      clear hblk
      refine (name_is _ _ H1.out _).mono ?_
      rintro e w9 ⟨rfl, rfl⟩
      have y1 : W1.cell? ⟨w.heap.size, 1, none⟩ = some (.string r.sn) := HBLK.out.cell 1
      have y2 : W1.cell? ⟨w.heap.size, 2, none⟩ = some (.slice r.MA r.Mn r.Mc) := HBLK.out.cell 2
      have y3 : W1.cell? ⟨w.heap.size, 3, none⟩ = some (.int .i64 r.op) := HBLK.out.cell 3
      have y4 : W1.cell? ⟨w.heap.size, 4, none⟩ = some (.int .i64 r.v) := HBLK.out.cell 4
      go_wp2_with fail
      refine (condSane_is r.sn r.MA r.Mn r.Mc r.ms r.op r.v _ H2.out W1 ((HH.out.1.below hB1).more hsz1)).mono ?_
      rintro e w2 ⟨rfl, hb2⟩
      have hB2 := hB1.trans (hb2.mono hB1.size)
      clear y1 y2 y3 y4
      have x5 : w2.cell? ⟨w.heap.size, 5, none⟩ = some (.int .i64 r.fo) := (hb2.cell (p := ⟨w.heap.size, 5, none⟩) hlt1).trans (HBLK.out.cell 5)
      have x6 : w2.cell? ⟨w.heap.size, 6, none⟩ = some (.int .i64 r.ke) := (hb2.cell (p := ⟨w.heap.size, 6, none⟩) hlt1).trans (HBLK.out.cell 6)
      have x7 : w2.cell? ⟨w.heap.size, 7, none⟩ = some (.slice r.LA r.Ln r.Lc) := (hb2.cell (p := ⟨w.heap.size, 7, none⟩) hlt1).trans (HBLK.out.cell 7)
      go_wp2
      go_ret
      exact ⟨by rw [HS.out]; rfl, hB2⟩
    · skip
      rcases b3 with _ | _
      · go_enter Try.func34, Try.ntmps34
        go_wp2_with fail
        have hB1 := (Below.refl w.heap.size w).alloc (Nat.le_refl _) (.cells #[.string r.nm, .string r.sn, .slice r.MA r.Mn r.Mc, .int .i64 r.op, .int .i64 r.v, .int .i64 r.fo, .int .i64 r.ke, .slice r.LA r.Ln r.Lc] 48)
        have hblk := (Mem.Blk.new w 48 #[.string r.nm, .string r.sn, .slice r.MA r.Mn r.Mc, .int .i64 r.op, .int .i64 r.v, .int .i64 r.fo, .int .i64 r.ke, .slice r.LA r.Ln r.Lc])
        have hlt1 : w.heap.size < (w.alloc (.cells #[.string r.nm, .string r.sn, .slice r.MA r.Mn r.Mc, .int .i64 r.op, .int .i64 r.v, .int .i64 r.fo, .int .i64 r.ke, .slice r.LA r.Ln r.Lc] 48)).heap.size := by simp
        have hsz1 : w.heap.size ≤ (w.alloc (.cells #[.string r.nm, .string r.sn, .slice r.MA r.Mn r.Mc, .int .i64 r.op, .int .i64 r.v, .int .i64 r.fo, .int .i64 r.ke, .slice r.LA r.Ln r.Lc] 48)).heap.size := by simp
        obtain ⟨W1, hW1⟩ : ∃ W1, W1 = w.alloc (.cells #[.string r.nm, .string r.sn, .slice r.MA r.Mn r.Mc, .int .i64 r.op, .int .i64 r.v, .int .i64 r.fo, .int .i64 r.ke, .slice r.LA r.Ln r.Lc] 48) := ⟨_, rfl⟩
        rw [← hW1] at hB1 hblk hlt1 hsz1 ⊢
        clear hW1
        have HBLK := Lib.hid hblk
        clear hblk
        refine (name_is _ _ H1.out _).mono ?_
        rintro e w9 ⟨rfl, rfl⟩
        have y1 : W1.cell? ⟨w.heap.size, 1, none⟩ = some (.string r.sn) := HBLK.out.cell 1
        have y2 : W1.cell? ⟨w.heap.size, 2, none⟩ = some (.slice r.MA r.Mn r.Mc) := HBLK.out.cell 2
        have y3 : W1.cell? ⟨w.heap.size, 3, none⟩ = some (.int .i64 r.op) := HBLK.out.cell 3
        have y4 : W1.cell? ⟨w.heap.size, 4, none⟩ = some (.int .i64 r.v) := HBLK.out.cell 4
        go_wp2_with fail
        refine (condSane_is r.sn r.MA r.Mn r.Mc r.ms r.op r.v _ H2.out W1 ((HH.out.1.below hB1).more hsz1)).mono ?_
        rintro e w2 ⟨rfl, hb2⟩
        have hB2 := hB1.trans (hb2.mono hB1.size)
        clear y1 y2 y3 y4
        have x5 : w2.cell? ⟨w.heap.size, 5, none⟩ = some (.int .i64 r.fo) := (hb2.cell (p := ⟨w.heap.size, 5, none⟩) hlt1).trans (HBLK.out.cell 5)
        have x6 : w2.cell? ⟨w.heap.size, 6, none⟩ = some (.int .i64 r.ke) := (hb2.cell (p := ⟨w.heap.size, 6, none⟩) hlt1).trans (HBLK.out.cell 6)
        have x7 : w2.cell? ⟨w.heap.size, 7, none⟩ = some (.slice r.LA r.Ln r.Lc) := (hb2.cell (p := ⟨w.heap.size, 7, none⟩) hlt1).trans (HBLK.out.cell 7)
        go_wp2_with fail
        refine (durSane_is _ _ H3.out _).mono ?_
        rintro e w9 ⟨rfl, rfl⟩
        go_wp2
        go_ret
        exact ⟨by rw [HS.out]; rfl, hB2⟩
      · skip
        rcases b4 with _ | _
        · go_enter Try.func34, Try.ntmps34
          go_wp2_with fail
          have hB1 := (Below.refl w.heap.size w).alloc (Nat.le_refl _) (.cells #[.string r.nm, .string r.sn, .slice r.MA r.Mn r.Mc, .int .i64 r.op, .int .i64 r.v, .int .i64 r.fo, .int .i64 r.ke, .slice r.LA r.Ln r.Lc] 48)
          have hblk := (Mem.Blk.new w 48 #[.string r.nm, .string r.sn, .slice r.MA r.Mn r.Mc, .int .i64 r.op, .int .i64 r.v, .int .i64 r.fo, .int .i64 r.ke, .slice r.LA r.Ln r.Lc])
          have hlt1 : w.heap.size < (w.alloc (.cells #[.string r.nm, .string r.sn, .slice r.MA r.Mn r.Mc, .int .i64 r.op, .int .i64 r.v, .int .i64 r.fo, .int .i64 r.ke, .slice r.LA r.Ln r.Lc] 48)).heap.size := by simp
          have hsz1 : w.heap.size ≤ (w.alloc (.cells #[.string r.nm, .string r.sn, .slice r.MA r.Mn r.Mc, .int .i64 r.op, .int .i64 r.v, .int .i64 r.fo, .int .i64 r.ke, .slice r.LA r.Ln r.Lc] 48)).heap.size := by simp
          obtain ⟨W1, hW1⟩ : ∃ W1, W1 = w.alloc (.cells #[.string r.nm, .string r.sn, .slice r.MA r.Mn r.Mc, .int .i64 r.op, .int .i64 r.v, .int .i64 r.fo, .int .i64 r.ke, .slice r.LA r.Ln r.Lc] 48) := ⟨_, rfl⟩
          rw [← hW1] at hB1 hblk hlt1 hsz1 ⊢
          clear hW1
          have HBLK := Lib.hid hblk
          clear hblk
          refine (name_is _ _ H1.out _).mono ?_
          rintro e w9 ⟨rfl, rfl⟩
          have y1 : W1.cell? ⟨w.heap.size, 1, none⟩ = some (.string r.sn) := HBLK.out.cell 1
          have y2 : W1.cell? ⟨w.heap.size, 2, none⟩ = some (.slice r.MA r.Mn r.Mc) := HBLK.out.cell 2
          have y3 : W1.cell? ⟨w.heap.size, 3, none⟩ = some (.int .i64 r.op) := HBLK.out.cell 3
          have y4 : W1.cell? ⟨w.heap.size, 4, none⟩ = some (.int .i64 r.v) := HBLK.out.cell 4
          go_wp2_with fail
          refine (condSane_is r.sn r.MA r.Mn r.Mc r.ms r.op r.v _ H2.out W1 ((HH.out.1.below hB1).more hsz1)).mono ?_
          rintro e w2 ⟨rfl, hb2⟩
          have hB2 := hB1.trans (hb2.mono hB1.size)
          clear y1 y2 y3 y4
          have x5 : w2.cell? ⟨w.heap.size, 5, none⟩ = some (.int .i64 r.fo) := (hb2.cell (p := ⟨w.heap.size, 5, none⟩) hlt1).trans (HBLK.out.cell 5)
          have x6 : w2.cell? ⟨w.heap.size, 6, none⟩ = some (.int .i64 r.ke) := (hb2.cell (p := ⟨w.heap.size, 6, none⟩) hlt1).trans (HBLK.out.cell 6)
          have x7 : w2.cell? ⟨w.heap.size, 7, none⟩ = some (.slice r.LA r.Ln r.Lc) := (hb2.cell (p := ⟨w.heap.size, 7, none⟩) hlt1).trans (HBLK.out.cell 7)
          go_wp2_with fail
          refine (durSane_is _ _ H3.out _).mono ?_
          rintro e w9 ⟨rfl, rfl⟩
          go_wp2_with fail
          refine (durSane_is _ _ H4.out _).mono ?_
          rintro e w9 ⟨rfl, rfl⟩
          go_wp2
          go_ret
          exact ⟨by rw [HS.out]; rfl, hB2⟩
        · skip
          rcases b5 with _ | _
          · go_enter Try.func34, Try.ntmps34
            go_wp2_with fail
            have hB1 := (Below.refl w.heap.size w).alloc (Nat.le_refl _) (.cells #[.string r.nm, .string r.sn, .slice r.MA r.Mn r.Mc, .int .i64 r.op, .int .i64 r.v, .int .i64 r.fo, .int .i64 r.ke, .slice r.LA r.Ln r.Lc] 48)
            have hblk := (Mem.Blk.new w 48 #[.string r.nm, .string r.sn, .slice r.MA r.Mn r.Mc, .int .i64 r.op, .int .i64 r.v, .int .i64 r.fo, .int .i64 r.ke, .slice r.LA r.Ln r.Lc])
            have hlt1 : w.heap.size < (w.alloc (.cells #[.string r.nm, .string r.sn, .slice r.MA r.Mn r.Mc, .int .i64 r.op, .int .i64 r.v, .int .i64 r.fo, .int .i64 r.ke, .slice r.LA r.Ln r.Lc] 48)).heap.size := by simp
            have hsz1 : w.heap.size ≤ (w.alloc (.cells #[.string r.nm, .string r.sn, .slice r.MA r.Mn r.Mc, .int .i64 r.op, .int .i64 r.v, .int .i64 r.fo, .int .i64 r.ke, .slice r.LA r.Ln r.Lc] 48)).heap.size := by simp
            obtain ⟨W1, hW1⟩ : ∃ W1, W1 = w.alloc (.cells #[.string r.nm, .string r.sn, .slice r.MA r.Mn r.Mc, .int .i64 r.op, .int .i64 r.v, .int .i64 r.fo, .int .i64 r.ke, .slice r.LA r.Ln r.Lc] 48) := ⟨_, rfl⟩
            rw [← hW1] at hB1 hblk hlt1 hsz1 ⊢
            clear hW1
            have HBLK := Lib.hid hblk
            clear hblk
            refine (name_is _ _ H1.out _).mono ?_
            rintro e w9 ⟨rfl, rfl⟩
            have y1 : W1.cell? ⟨w.heap.size, 1, none⟩ = some (.string r.sn) := HBLK.out.cell 1
            have y2 : W1.cell? ⟨w.heap.size, 2, none⟩ = some (.slice r.MA r.Mn r.Mc) := HBLK.out.cell 2
            have y3 : W1.cell? ⟨w.heap.size, 3, none⟩ = some (.int .i64 r.op) := HBLK.out.cell 3
            have y4 : W1.cell? ⟨w.heap.size, 4, none⟩ = some (.int .i64 r.v) := HBLK.out.cell 4
            go_wp2_with fail
            refine (condSane_is r.sn r.MA r.Mn r.Mc r.ms r.op r.v _ H2.out W1 ((HH.out.1.below hB1).more hsz1)).mono ?_
            rintro e w2 ⟨rfl, hb2⟩
            have hB2 := hB1.trans (hb2.mono hB1.size)
            clear y1 y2 y3 y4
            have x5 : w2.cell? ⟨w.heap.size, 5, none⟩ = some (.int .i64 r.fo) := (hb2.cell (p := ⟨w.heap.size, 5, none⟩) hlt1).trans (HBLK.out.cell 5)
            have x6 : w2.cell? ⟨w.heap.size, 6, none⟩ = some (.int .i64 r.ke) := (hb2.cell (p := ⟨w.heap.size, 6, none⟩) hlt1).trans (HBLK.out.cell 6)
            have x7 : w2.cell? ⟨w.heap.size, 7, none⟩ = some (.slice r.LA r.Ln r.Lc) := (hb2.cell (p := ⟨w.heap.size, 7, none⟩) hlt1).trans (HBLK.out.cell 7)
            go_wp2_with fail
            refine (durSane_is _ _ H3.out _).mono ?_
            rintro e w9 ⟨rfl, rfl⟩
            go_wp2_with fail
            refine (durSane_is _ _ H4.out _).mono ?_
            rintro e w9 ⟨rfl, rfl⟩
            go_wp2_with fail
            refine (labSane_is r.LA r.Ln r.Lc r.ls _ H5.out w2 ((HH.out.2.1.below hB2).more hB2.size)).mono ?_
            rintro e w3 ⟨rfl, hb3⟩
            have hB3 := hB2.trans (hb3.mono hB2.size)
            have z7 : w3.cell? ⟨w.heap.size, 7, none⟩ = some (.slice r.LA r.Ln r.Lc) := (hb3.cell (p := ⟨w.heap.size, 7, none⟩) (Nat.lt_of_lt_of_le hlt1 hb2.size)).trans x7
            clear x5 x6 x7
            go_wp2
            go_ret
            exact ⟨by rw [HS.out]; rfl, hB3⟩
          · skip
            go_enter Try.func34, Try.ntmps34
            go_wp2_with fail
            have hB1 := (Below.refl w.heap.size w).alloc (Nat.le_refl _) (.cells #[.string r.nm, .string r.sn, .slice r.MA r.Mn r.Mc, .int .i64 r.op, .int .i64 r.v, .int .i64 r.fo, .int .i64 r.ke, .slice r.LA r.Ln r.Lc] 48)
            have hblk := (Mem.Blk.new w 48 #[.string r.nm, .string r.sn, .slice r.MA r.Mn r.Mc, .int .i64 r.op, .int .i64 r.v, .int .i64 r.fo, .int .i64 r.ke, .slice r.LA r.Ln r.Lc])
            have hlt1 : w.heap.size < (w.alloc (.cells #[.string r.nm, .string r.sn, .slice r.MA r.Mn r.Mc, .int .i64 r.op, .int .i64 r.v, .int .i64 r.fo, .int .i64 r.ke, .slice r.LA r.Ln r.Lc] 48)).heap.size := by simp
            have hsz1 : w.heap.size ≤ (w.alloc (.cells #[.string r.nm, .string r.sn, .slice r.MA r.Mn r.Mc, .int .i64 r.op, .int .i64 r.v, .int .i64 r.fo, .int .i64 r.ke, .slice r.LA r.Ln r.Lc] 48)).heap.size := by simp
            obtain ⟨W1, hW1⟩ : ∃ W1, W1 = w.alloc (.cells #[.string r.nm, .string r.sn, .slice r.MA r.Mn r.Mc, .int .i64 r.op, .int .i64 r.v, .int .i64 r.fo, .int .i64 r.ke, .slice r.LA r.Ln r.Lc] 48) := ⟨_, rfl⟩
            rw [← hW1] at hB1 hblk hlt1 hsz1 ⊢
            clear hW1
            have HBLK := Lib.hid hblk
            clear hblk
            refine (name_is _ _ H1.out _).mono ?_
            rintro e w9 ⟨rfl, rfl⟩
            have y1 : W1.cell? ⟨w.heap.size, 1, none⟩ = some (.string r.sn) := HBLK.out.cell 1
            have y2 : W1.cell? ⟨w.heap.size, 2, none⟩ = some (.slice r.MA r.Mn r.Mc) := HBLK.out.cell 2
            have y3 : W1.cell? ⟨w.heap.size, 3, none⟩ = some (.int .i64 r.op) := HBLK.out.cell 3
            have y4 : W1.cell? ⟨w.heap.size, 4, none⟩ = some (.int .i64 r.v) := HBLK.out.cell 4
            go_wp2_with fail
            refine (condSane_is r.sn r.MA r.Mn r.Mc r.ms r.op r.v _ H2.out W1 ((HH.out.1.below hB1).more hsz1)).mono ?_
            rintro e w2 ⟨rfl, hb2⟩
            have hB2 := hB1.trans (hb2.mono hB1.size)
            clear y1 y2 y3 y4
            have x5 : w2.cell? ⟨w.heap.size, 5, none⟩ = some (.int .i64 r.fo) := (hb2.cell (p := ⟨w.heap.size, 5, none⟩) hlt1).trans (HBLK.out.cell 5)
            have x6 : w2.cell? ⟨w.heap.size, 6, none⟩ = some (.int .i64 r.ke) := (hb2.cell (p := ⟨w.heap.size, 6, none⟩) hlt1).trans (HBLK.out.cell 6)
            have x7 : w2.cell? ⟨w.heap.size, 7, none⟩ = some (.slice r.LA r.Ln r.Lc) := (hb2.cell (p := ⟨w.heap.size, 7, none⟩) hlt1).trans (HBLK.out.cell 7)
            go_wp2_with fail
            refine (durSane_is _ _ H3.out _).mono ?_
            rintro e w9 ⟨rfl, rfl⟩
            go_wp2_with fail
            refine (durSane_is _ _ H4.out _).mono ?_
            rintro e w9 ⟨rfl, rfl⟩
            go_wp2_with fail
            refine (labSane_is r.LA r.Ln r.Lc r.ls _ H5.out w2 ((HH.out.2.1.below hB2).more hB2.size)).mono ?_
            rintro e w3 ⟨rfl, hb3⟩
            have hB3 := hB2.trans (hb3.mono hB2.size)
            have z7 : w3.cell? ⟨w.heap.size, 7, none⟩ = some (.slice r.LA r.Ln r.Lc) := (hb3.cell (p := ⟨w.heap.size, 7, none⟩) (Nat.lt_of_lt_of_le hlt1 hb2.size)).trans x7
            clear x5 x6 x7
            go_wp2_with fail
            refine (free_is r.LA r.Ln r.Lc r.ls _ H6.out w3 ((HH.out.2.1.below hB3).more hB3.size)).mono ?_
            rintro e w4 ⟨rfl, hb4⟩
            have hB4 := hB3.trans (hb4.mono hB3.size)
            rcases b6 with _ | _
            all_goals
              go_wp2
              go_ret
              exact ⟨by rw [HS.out]; rfl, hB4⟩
set_option maxRecDepth 100000 in
set_option maxHeartbeats 4000000 in
theorem rRuSane_any (r : Lab.Ru) (w : World) (h : RuIn w w.heap.size r) :
    Calls Try.prog 36 #[.agg #[.string r.nm, .string r.sn, .slice r.MA r.Mn r.Mc, .int .i64 r.op, .int .i64 r.v, .int .i64 r.fo, .int .i64 r.ke, .slice r.LA r.Ln r.Lc]] w fun e w' => e = .returned (.bool (Lab.ruSane r)) ∧ Below w.heap.size w w' := by
  have HH := Lib.hid h
  clear h
  obtain ⟨b1, h1⟩ : ∃ b, Lab.name r.nm = b := ⟨_, rfl⟩
  obtain ⟨b2, h2⟩ : ∃ b, Lab.condSane r.sn r.ms r.op r.v = b := ⟨_, rfl⟩
  obtain ⟨b3, h3⟩ : ∃ b, Lab.durSane r.fo = b := ⟨_, rfl⟩
  obtain ⟨b4, h4⟩ : ∃ b, Lab.durSane r.ke = b := ⟨_, rfl⟩
  obtain ⟨b5, h5⟩ : ∃ b, Lab.sane r.ls = b := ⟨_, rfl⟩
  obtain ⟨b6, h6⟩ : ∃ b, Lab.free r.ls = b := ⟨_, rfl⟩
  have HS := Lib.hid (show Lab.ruSane r = (b1 && b2 && b3 && b4 && b5 && b6) by unfold Lab.ruSane; rw [h1, h2, h3, h4, h5, h6])
  have H1 := Lib.hid h1
  have H2 := Lib.hid h2
  have H3 := Lib.hid h3
  have H4 := Lib.hid h4
  have H5 := Lib.hid h5
  have H6 := Lib.hid h6
  clear h1 h2 h3 h4 h5 h6
  rcases b1 with _ | _
  · go_enter Try.func36, Try.ntmps36
    go_wp2_with fail
    have hB1 := (Below.refl w.heap.size w).alloc (Nat.le_refl _) (.cells #[.string r.nm, .string r.sn, .slice r.MA r.Mn r.Mc, .int .i64 r.op, .int .i64 r.v, .int .i64 r.fo, .int .i64 r.ke, .slice r.LA r.Ln r.Lc] 48)
    have hblk := (Mem.Blk.new w 48 #[.string r.nm, .string r.sn, .slice r.MA r.Mn r.Mc, .int .i64 r.op, .int .i64 r.v, .int .i64 r.fo, .int .i64 r.ke, .slice r.LA r.Ln r.Lc])
    have hlt1 : w.heap.size < (w.alloc (.cells #[.string r.nm, .string r.sn, .slice r.MA r.Mn r.Mc, .int .i64 r.op, .int .i64 r.v, .int .i64 r.fo, .int .i64 r.ke, .slice r.LA r.Ln r.Lc] 48)).heap.size := by simp
    have hsz1 : w.heap.size ≤ (w.alloc (.cells #[.string r.nm, .string r.sn, .slice r.MA r.Mn r.Mc, .int .i64 r.op, .int .i64 r.v, .int .i64 r.fo, .int .i64 r.ke, .slice r.LA r.Ln r.Lc] 48)).heap.size := by simp
    obtain ⟨W1, hW1⟩ : ∃ W1, W1 = w.alloc (.cells #[.string r.nm, .string r.sn, .slice r.MA r.Mn r.Mc, .int .i64 r.op, .int .i64 r.v, .int .i64 r.fo, .int .i64 r.ke, .slice r.LA r.Ln r.Lc] 48) := ⟨_, rfl⟩
    rw [← hW1] at hB1 hblk hlt1 hsz1 ⊢
    clear hW1
    have HBLK := Lib.hid hblk
    clear hblk
    refine (rName_is _ HH.out.2.2.1 _ H1.out _).mono ?_
    rintro e w9 ⟨rfl, rfl⟩
    go_wp2
    go_ret
    exact ⟨by rw [HS.out]; rfl, hB1⟩
  · skip
    rcases b2 with _ | _
    · go_enter Try.func36, Try.ntmps36
      go_wp2_with fail
      have hB1 := (Below.refl w.heap.size w).alloc (Nat.le_refl _) (.cells #[.string r.nm, .string r.sn, .slice r.MA r.Mn r.Mc, .int .i64 r.op, .int .i64 r.v, .int .i64 r.fo, .int .i64 r.ke, .slice r.LA r.Ln r.Lc] 48)
      have hblk := (Mem.Blk.new w 48 #[.string r.nm, .string r.sn, .slice r.MA r.Mn r.Mc, .int .i64 r.op, .int .i64 r.v, .int .i64 r.fo, .int .i64 r.ke, .slice r.LA r.Ln r.Lc])
      have hlt1 : w.heap.size < (w.alloc (.cells #[.string r.nm, .string r.sn, .slice r.MA r.Mn r.Mc, .int .i64 r.op, .int .i64 r.v, .int .i64 r.fo, .int .i64 r.ke, .slice r.LA r.Ln r.Lc] 48)).heap.size := by simp
      have hsz1 : w.heap.size ≤ (w.alloc (.cells #[.string r.nm, .string r.sn, .slice r.MA r.Mn r.Mc, .int .i64 r.op, .int .i64 r.v, .int .i64 r.fo, .int .i64 r.ke, .slice r.LA r.Ln r.Lc] 48)).heap.size := by simp
      obtain ⟨W1, hW1⟩ : ∃ W1, W1 = w.alloc (.cells #[.string r.nm, .string r.sn, .slice r.MA r.Mn r.Mc, .int .i64 r.op, .int .i64 r.v, .int .i64 r.fo, .int .i64 r.ke, .slice r.LA r.Ln r.Lc] 48) := ⟨_, rfl⟩
      rw [← hW1] at hB1 hblk hlt1 hsz1 ⊢
      clear hW1
      have HBLK := Lib.hid hblk
      clear hblk
      refine (rName_is _ HH.out.2.2.1 _ H1.out _).mono ?_
      rintro e w9 ⟨rfl, rfl⟩
      have y1 : W1.cell? ⟨w.heap.size, 1, none⟩ = some (.string r.sn) := HBLK.out.cell 1
      have y2 : W1.cell? ⟨w.heap.size, 2, none⟩ = some (.slice r.MA r.Mn r.Mc) := HBLK.out.cell 2
      have y3 : W1.cell? ⟨w.heap.size, 3, none⟩ = some (.int .i64 r.op) := HBLK.out.cell 3
      have y4 : W1.cell? ⟨w.heap.size, 4, none⟩ = some (.int .i64 r.v) := HBLK.out.cell 4
      go_wp2_with fail
      refine (rCondSane_is r.sn HH.out.2.2.2 r.MA r.Mn r.Mc r.ms r.op r.v _ H2.out W1 ((HH.out.1.below hB1).more hsz1)).mono ?_
      rintro e w2 ⟨rfl, hb2⟩
      have hB2 := hB1.trans (hb2.mono hB1.size)
      clear y1 y2 y3 y4
      have x5 : w2.cell? ⟨w.heap.size, 5, none⟩ = some (.int .i64 r.fo) := (hb2.cell (p := ⟨w.heap.size, 5, none⟩) hlt1).trans (HBLK.out.cell 5)
      have x6 : w2.cell? ⟨w.heap.size, 6, none⟩ = some (.int .i64 r.ke) := (hb2.cell (p := ⟨w.heap.size, 6, none⟩) hlt1).trans (HBLK.out.cell 6)
      have x7 : w2.cell? ⟨w.heap.size, 7, none⟩ = some (.slice r.LA r.Ln r.Lc) := (hb2.cell (p := ⟨w.heap.size, 7, none⟩) hlt1).trans (HBLK.out.cell 7)
      go_wp2
      go_ret
      exact ⟨by rw [HS.out]; rfl, hB2⟩
    · skip
      rcases b3 with _ | _
      · go_enter Try.func36, Try.ntmps36
        go_wp2_with fail
        have hB1 := (Below.refl w.heap.size w).alloc (Nat.le_refl _) (.cells #[.string r.nm, .string r.sn, .slice r.MA r.Mn r.Mc, .int .i64 r.op, .int .i64 r.v, .int .i64 r.fo, .int .i64 r.ke, .slice r.LA r.Ln r.Lc] 48)
        have hblk := (Mem.Blk.new w 48 #[.string r.nm, .string r.sn, .slice r.MA r.Mn r.Mc, .int .i64 r.op, .int .i64 r.v, .int .i64 r.fo, .int .i64 r.ke, .slice r.LA r.Ln r.Lc])
        have hlt1 : w.heap.size < (w.alloc (.cells #[.string r.nm, .string r.sn, .slice r.MA r.Mn r.Mc, .int .i64 r.op, .int .i64 r.v, .int .i64 r.fo, .int .i64 r.ke, .slice r.LA r.Ln r.Lc] 48)).heap.size := by simp
        have hsz1 : w.heap.size ≤ (w.alloc (.cells #[.string r.nm, .string r.sn, .slice r.MA r.Mn r.Mc, .int .i64 r.op, .int .i64 r.v, .int .i64 r.fo, .int .i64 r.ke, .slice r.LA r.Ln r.Lc] 48)).heap.size := by simp
        obtain ⟨W1, hW1⟩ : ∃ W1, W1 = w.alloc (.cells #[.string r.nm, .string r.sn, .slice r.MA r.Mn r.Mc, .int .i64 r.op, .int .i64 r.v, .int .i64 r.fo, .int .i64 r.ke, .slice r.LA r.Ln r.Lc] 48) := ⟨_, rfl⟩
        rw [← hW1] at hB1 hblk hlt1 hsz1 ⊢
        clear hW1
        have HBLK := Lib.hid hblk
        clear hblk
        refine (rName_is _ HH.out.2.2.1 _ H1.out _).mono ?_
        rintro e w9 ⟨rfl, rfl⟩
        have y1 : W1.cell? ⟨w.heap.size, 1, none⟩ = some (.string r.sn) := HBLK.out.cell 1
        have y2 : W1.cell? ⟨w.heap.size, 2, none⟩ = some (.slice r.MA r.Mn r.Mc) := HBLK.out.cell 2
        have y3 : W1.cell? ⟨w.heap.size, 3, none⟩ = some (.int .i64 r.op) := HBLK.out.cell 3
        have y4 : W1.cell? ⟨w.heap.size, 4, none⟩ = some (.int .i64 r.v) := HBLK.out.cell 4
        go_wp2_with fail
        refine (rCondSane_is r.sn HH.out.2.2.2 r.MA r.Mn r.Mc r.ms r.op r.v _ H2.out W1 ((HH.out.1.below hB1).more hsz1)).mono ?_
        rintro e w2 ⟨rfl, hb2⟩
        have hB2 := hB1.trans (hb2.mono hB1.size)
        clear y1 y2 y3 y4
        have x5 : w2.cell? ⟨w.heap.size, 5, none⟩ = some (.int .i64 r.fo) := (hb2.cell (p := ⟨w.heap.size, 5, none⟩) hlt1).trans (HBLK.out.cell 5)
        have x6 : w2.cell? ⟨w.heap.size, 6, none⟩ = some (.int .i64 r.ke) := (hb2.cell (p := ⟨w.heap.size, 6, none⟩) hlt1).trans (HBLK.out.cell 6)
        have x7 : w2.cell? ⟨w.heap.size, 7, none⟩ = some (.slice r.LA r.Ln r.Lc) := (hb2.cell (p := ⟨w.heap.size, 7, none⟩) hlt1).trans (HBLK.out.cell 7)
        go_wp2_with fail
        refine (rDurSane_is _ _ H3.out _).mono ?_
        rintro e w9 ⟨rfl, rfl⟩
        go_wp2
        go_ret
        exact ⟨by rw [HS.out]; rfl, hB2⟩
      · skip
        rcases b4 with _ | _
        · go_enter Try.func36, Try.ntmps36
          go_wp2_with fail
          have hB1 := (Below.refl w.heap.size w).alloc (Nat.le_refl _) (.cells #[.string r.nm, .string r.sn, .slice r.MA r.Mn r.Mc, .int .i64 r.op, .int .i64 r.v, .int .i64 r.fo, .int .i64 r.ke, .slice r.LA r.Ln r.Lc] 48)
          have hblk := (Mem.Blk.new w 48 #[.string r.nm, .string r.sn, .slice r.MA r.Mn r.Mc, .int .i64 r.op, .int .i64 r.v, .int .i64 r.fo, .int .i64 r.ke, .slice r.LA r.Ln r.Lc])
          have hlt1 : w.heap.size < (w.alloc (.cells #[.string r.nm, .string r.sn, .slice r.MA r.Mn r.Mc, .int .i64 r.op, .int .i64 r.v, .int .i64 r.fo, .int .i64 r.ke, .slice r.LA r.Ln r.Lc] 48)).heap.size := by simp
          have hsz1 : w.heap.size ≤ (w.alloc (.cells #[.string r.nm, .string r.sn, .slice r.MA r.Mn r.Mc, .int .i64 r.op, .int .i64 r.v, .int .i64 r.fo, .int .i64 r.ke, .slice r.LA r.Ln r.Lc] 48)).heap.size := by simp
          obtain ⟨W1, hW1⟩ : ∃ W1, W1 = w.alloc (.cells #[.string r.nm, .string r.sn, .slice r.MA r.Mn r.Mc, .int .i64 r.op, .int .i64 r.v, .int .i64 r.fo, .int .i64 r.ke, .slice r.LA r.Ln r.Lc] 48) := ⟨_, rfl⟩
          rw [← hW1] at hB1 hblk hlt1 hsz1 ⊢
          clear hW1
          have HBLK := Lib.hid hblk
          clear hblk
          refine (rName_is _ HH.out.2.2.1 _ H1.out _).mono ?_
          rintro e w9 ⟨rfl, rfl⟩
          have y1 : W1.cell? ⟨w.heap.size, 1, none⟩ = some (.string r.sn) := HBLK.out.cell 1
          have y2 : W1.cell? ⟨w.heap.size, 2, none⟩ = some (.slice r.MA r.Mn r.Mc) := HBLK.out.cell 2
          have y3 : W1.cell? ⟨w.heap.size, 3, none⟩ = some (.int .i64 r.op) := HBLK.out.cell 3
          have y4 : W1.cell? ⟨w.heap.size, 4, none⟩ = some (.int .i64 r.v) := HBLK.out.cell 4
          go_wp2_with fail
          refine (rCondSane_is r.sn HH.out.2.2.2 r.MA r.Mn r.Mc r.ms r.op r.v _ H2.out W1 ((HH.out.1.below hB1).more hsz1)).mono ?_
          rintro e w2 ⟨rfl, hb2⟩
          have hB2 := hB1.trans (hb2.mono hB1.size)
          clear y1 y2 y3 y4
          have x5 : w2.cell? ⟨w.heap.size, 5, none⟩ = some (.int .i64 r.fo) := (hb2.cell (p := ⟨w.heap.size, 5, none⟩) hlt1).trans (HBLK.out.cell 5)
          have x6 : w2.cell? ⟨w.heap.size, 6, none⟩ = some (.int .i64 r.ke) := (hb2.cell (p := ⟨w.heap.size, 6, none⟩) hlt1).trans (HBLK.out.cell 6)
          have x7 : w2.cell? ⟨w.heap.size, 7, none⟩ = some (.slice r.LA r.Ln r.Lc) := (hb2.cell (p := ⟨w.heap.size, 7, none⟩) hlt1).trans (HBLK.out.cell 7)
          go_wp2_with fail
          refine (rDurSane_is _ _ H3.out _).mono ?_
          rintro e w9 ⟨rfl, rfl⟩
          go_wp2_with fail
          refine (rDurSane_is _ _ H4.out _).mono ?_
          rintro e w9 ⟨rfl, rfl⟩
          go_wp2
          go_ret
          exact ⟨by rw [HS.out]; rfl, hB2⟩
        · skip
          rcases b5 with _ | _
          · go_enter Try.func36, Try.ntmps36
            go_wp2_with fail
            have hB1 := (Below.refl w.heap.size w).alloc (Nat.le_refl _) (.cells #[.string r.nm, .string r.sn, .slice r.MA r.Mn r.Mc, .int .i64 r.op, .int .i64 r.v, .int .i64 r.fo, .int .i64 r.ke, .slice r.LA r.Ln r.Lc] 48)
            have hblk := (Mem.Blk.new w 48 #[.string r.nm, .string r.sn, .slice r.MA r.Mn r.Mc, .int .i64 r.op, .int .i64 r.v, .int .i64 r.fo, .int .i64 r.ke, .slice r.LA r.Ln r.Lc])
            have hlt1 : w.heap.size < (w.alloc (.cells #[.string r.nm, .string r.sn, .slice r.MA r.Mn r.Mc, .int .i64 r.op, .int .i64 r.v, .int .i64 r.fo, .int .i64 r.ke, .slice r.LA r.Ln r.Lc] 48)).heap.size := by simp
            have hsz1 : w.heap.size ≤ (w.alloc (.cells #[.string r.nm, .string r.sn, .slice r.MA r.Mn r.Mc, .int .i64 r.op, .int .i64 r.v, .int .i64 r.fo, .int .i64 r.ke, .slice r.LA r.Ln r.Lc] 48)).heap.size := by simp
            obtain ⟨W1, hW1⟩ : ∃ W1, W1 = w.alloc (.cells #[.string r.nm, .string r.sn, .slice r.MA r.Mn r.Mc, .int .i64 r.op, .int .i64 r.v, .int .i64 r.fo, .int .i64 r.ke, .slice r.LA r.Ln r.Lc] 48) := ⟨_, rfl⟩
            rw [← hW1] at hB1 hblk hlt1 hsz1 ⊢
            clear hW1
            have HBLK := Lib.hid hblk
            clear hblk
            refine (rName_is _ HH.out.2.2.1 _ H1.out _).mono ?_
            rintro e w9 ⟨rfl, rfl⟩
            have y1 : W1.cell? ⟨w.heap.size, 1, none⟩ = some (.string r.sn) := HBLK.out.cell 1
            have y2 : W1.cell? ⟨w.heap.size, 2, none⟩ = some (.slice r.MA r.Mn r.Mc) := HBLK.out.cell 2
            have y3 : W1.cell? ⟨w.heap.size, 3, none⟩ = some (.int .i64 r.op) := HBLK.out.cell 3
            have y4 : W1.cell? ⟨w.heap.size, 4, none⟩ = some (.int .i64 r.v) := HBLK.out.cell 4
            go_wp2_with fail
            refine (rCondSane_is r.sn HH.out.2.2.2 r.MA r.Mn r.Mc r.ms r.op r.v _ H2.out W1 ((HH.out.1.below hB1).more hsz1)).mono ?_
            rintro e w2 ⟨rfl, hb2⟩
            have hB2 := hB1.trans (hb2.mono hB1.size)
            clear y1 y2 y3 y4
            have x5 : w2.cell? ⟨w.heap.size, 5, none⟩ = some (.int .i64 r.fo) := (hb2.cell (p := ⟨w.heap.size, 5, none⟩) hlt1).trans (HBLK.out.cell 5)
            have x6 : w2.cell? ⟨w.heap.size, 6, none⟩ = some (.int .i64 r.ke) := (hb2.cell (p := ⟨w.heap.size, 6, none⟩) hlt1).trans (HBLK.out.cell 6)
            have x7 : w2.cell? ⟨w.heap.size, 7, none⟩ = some (.slice r.LA r.Ln r.Lc) := (hb2.cell (p := ⟨w.heap.size, 7, none⟩) hlt1).trans (HBLK.out.cell 7)
            go_wp2_with fail
            refine (rDurSane_is _ _ H3.out _).mono ?_
            rintro e w9 ⟨rfl, rfl⟩
            go_wp2_with fail
            refine (rDurSane_is _ _ H4.out _).mono ?_
            rintro e w9 ⟨rfl, rfl⟩
            go_wp2_with fail
            refine (rLabSane_is r.LA r.Ln r.Lc r.ls _ H5.out w2 ((HH.out.2.1.below hB2).more hB2.size)).mono ?_
            rintro e w3 ⟨rfl, hb3⟩
            have hB3 := hB2.trans (hb3.mono hB2.size)
            have z7 : w3.cell? ⟨w.heap.size, 7, none⟩ = some (.slice r.LA r.Ln r.Lc) := (hb3.cell (p := ⟨w.heap.size, 7, none⟩) (Nat.lt_of_lt_of_le hlt1 hb2.size)).trans x7
            clear x5 x6 x7
            go_wp2
            go_ret
            exact ⟨by rw [HS.out]; rfl, hB3⟩
          · skip
            go_enter Try.func36, Try.ntmps36
            go_wp2_with fail
            have hB1 := (Below.refl w.heap.size w).alloc (Nat.le_refl _) (.cells #[.string r.nm, .string r.sn, .slice r.MA r.Mn r.Mc, .int .i64 r.op, .int .i64 r.v, .int .i64 r.fo, .int .i64 r.ke, .slice r.LA r.Ln r.Lc] 48)
            have hblk := (Mem.Blk.new w 48 #[.string r.nm, .string r.sn, .slice r.MA r.Mn r.Mc, .int .i64 r.op, .int .i64 r.v, .int .i64 r.fo, .int .i64 r.ke, .slice r.LA r.Ln r.Lc])
            have hlt1 : w.heap.size < (w.alloc (.cells #[.string r.nm, .string r.sn, .slice r.MA r.Mn r.Mc, .int .i64 r.op, .int .i64 r.v, .int .i64 r.fo, .int .i64 r.ke, .slice r.LA r.Ln r.Lc] 48)).heap.size := by simp
            have hsz1 : w.heap.size ≤ (w.alloc (.cells #[.string r.nm, .string r.sn, .slice r.MA r.Mn r.Mc, .int .i64 r.op, .int .i64 r.v, .int .i64 r.fo, .int .i64 r.ke, .slice r.LA r.Ln r.Lc] 48)).heap.size := by simp
            obtain ⟨W1, hW1⟩ : ∃ W1, W1 = w.alloc (.cells #[.string r.nm, .string r.sn, .slice r.MA r.Mn r.Mc, .int .i64 r.op, .int .i64 r.v, .int .i64 r.fo, .int .i64 r.ke, .slice r.LA r.Ln r.Lc] 48) := ⟨_, rfl⟩
            rw [← hW1] at hB1 hblk hlt1 hsz1 ⊢
            clear hW1
            have HBLK := Lib.hid hblk
            clear hblk
            refine (rName_is _ HH.out.2.2.1 _ H1.out _).mono ?_
            rintro e w9 ⟨rfl, rfl⟩
            have y1 : W1.cell? ⟨w.heap.size, 1, none⟩ = some (.string r.sn) := HBLK.out.cell 1
            have y2 : W1.cell? ⟨w.heap.size, 2, none⟩ = some (.slice r.MA r.Mn r.Mc) := HBLK.out.cell 2
            have y3 : W1.cell? ⟨w.heap.size, 3, none⟩ = some (.int .i64 r.op) := HBLK.out.cell 3
            have y4 : W1.cell? ⟨w.heap.size, 4, none⟩ = some (.int .i64 r.v) := HBLK.out.cell 4
            go_wp2_with fail
            refine (rCondSane_is r.sn HH.out.2.2.2 r.MA r.Mn r.Mc r.ms r.op r.v _ H2.out W1 ((HH.out.1.below hB1).more hsz1)).mono ?_
            rintro e w2 ⟨rfl, hb2⟩
            have hB2 := hB1.trans (hb2.mono hB1.size)
            clear y1 y2 y3 y4
            have x5 : w2.cell? ⟨w.heap.size, 5, none⟩ = some (.int .i64 r.fo) := (hb2.cell (p := ⟨w.heap.size, 5, none⟩) hlt1).trans (HBLK.out.cell 5)
            have x6 : w2.cell? ⟨w.heap.size, 6, none⟩ = some (.int .i64 r.ke) := (hb2.cell (p := ⟨w.heap.size, 6, none⟩) hlt1).trans (HBLK.out.cell 6)
            have x7 : w2.cell? ⟨w.heap.size, 7, none⟩ = some (.slice r.LA r.Ln r.Lc) := (hb2.cell (p := ⟨w.heap.size, 7, none⟩) hlt1).trans (HBLK.out.cell 7)
            go_wp2_with fail
            refine (rDurSane_is _ _ H3.out _).mono ?_
            rintro e w9 ⟨rfl, rfl⟩
            go_wp2_with fail
            refine (rDurSane_is _ _ H4.out _).mono ?_
            rintro e w9 ⟨rfl, rfl⟩
            go_wp2_with fail
            refine (rLabSane_is r.LA r.Ln r.Lc r.ls _ H5.out w2 ((HH.out.2.1.below hB2).more hB2.size)).mono ?_
            rintro e w3 ⟨rfl, hb3⟩
            have hB3 := hB2.trans (hb3.mono hB2.size)
            have z7 : w3.cell? ⟨w.heap.size, 7, none⟩ = some (.slice r.LA r.Ln r.Lc) := (hb3.cell (p := ⟨w.heap.size, 7, none⟩) (Nat.lt_of_lt_of_le hlt1 hb2.size)).trans x7
            clear x5 x6 x7
            go_wp2_with fail
            refine (rFree_is r.LA r.Ln r.Lc r.ls _ H6.out w3 ((HH.out.2.1.below hB3).more hB3.size)).mono ?_
            rintro e w4 ⟨rfl, hb4⟩
            have hB4 := hB3.trans (hb4.mono hB3.size)
            rcases b6 with _ | _
            all_goals
              go_wp2
              go_ret
              exact ⟨by rw [HS.out]; rfl, hB4⟩
theorem ruSane_is (r : Lab.Ru) (b : Bool) (hb : Lab.ruSane r = b) (w : World) (h : RuIn w w.heap.size r) :
    Calls Try.prog 34 #[.agg #[.string r.nm, .string r.sn, .slice r.MA r.Mn r.Mc, .int .i64 r.op, .int .i64 r.v, .int .i64 r.fo, .int .i64 r.ke, .slice r.LA r.Ln r.Lc]] w fun e w' => e = .returned (.bool b) ∧ Below w.heap.size w w' := by
  subst hb
  exact ruSane_any r w h
theorem rRuSane_is (r : Lab.Ru) (b : Bool) (hb : Lab.ruSane r = b) (w : World) (h : RuIn w w.heap.size r) :
    Calls Try.prog 36 #[.agg #[.string r.nm, .string r.sn, .slice r.MA r.Mn r.Mc, .int .i64 r.op, .int .i64 r.v, .int .i64 r.fo, .int .i64 r.ke, .slice r.LA r.Ln r.Lc]] w fun e w' => e = .returned (.bool b) ∧ Below w.heap.size w w' := by
  subst hb
  exact rRuSane_any r w h
end Go.Proofs.Ythjnhifaejoigaa
