/- The walk of sel's Print. -/
import Derived.Test.YtbdochcajpempaaDoorSelI
import Derived.Test.YtbdochcajpempaaDoorSelA
namespace Go.Proofs.YtbdochcajpempaaDoor
open Go.RowKit
set_option linter.unusedSimpArgs false
set_option linter.unusedVariables false

namespace Sel
/-- a value between quotes -/
def qB (v : ByteArray) : ByteArray := ⟨(Lex.quote (Lex.bl v)).toArray⟩
def btw (k : Nat) : ByteArray := if k = 0 then opS else coS
def how (b : Bool) : ByteArray := if b = true then neS else eqS
def part (k : Nat) (m : Mt) : ByteArray := btw k ++ m.1 ++ how m.2.2 ++ qB m.2.1
/-- the text as far as k matches -/
def textTo (nm : ByteArray) (ms : List Mt) : Nat → ByteArray
  | 0 => nm
  | k + 1 => match ms[k]? with
    | none => textTo nm ms k
    | some m => textTo nm ms k ++ part k m
/-- a selector's text -/
def print (nm : ByteArray) (ms : List Mt) : ByteArray := if Lab.selSane nm ms = true then (if ms.length = 0 then nm else textTo nm ms ms.length ++ clS) else ⟨#[]⟩
theorem textTo_step {nm : ByteArray} {ms : List Mt} {k : Nat} {m : Mt} (h : ms[k]? = some m) : textTo nm ms (k + 1) = textTo nm ms k ++ part k m := by
  rw [textTo, h]
theorem sane_at {nm : ByteArray} {ms : List Mt} (h : Lab.selSane nm ms = true) {k : Nat} {m : Mt} (hm : ms[k]? = some m) : 1 ≤ m.1.size ∧ m.1.size ≤ 64 ∧ m.2.1.size ≤ 64 ∧ Lab.name m.1 = true := by
  unfold Lab.selSane at h
  rw [Bool.and_eq_true] at h
  have := Lab.allTo_iff.1 h.2 k (List.getElem?_eq_some_iff.1 hm).1
  rw [Lab.selAt_is hm, Bool.and_eq_true, decide_eq_true_eq] at this
  have h2 := this.1
  unfold Lab.name at h2
  rw [Bool.and_eq_true, Bool.and_eq_true, decide_eq_true_eq, decide_eq_true_eq] at h2
  exact ⟨h2.1.1, h2.1.2, this.2, this.1⟩
theorem sane_nm {nm : ByteArray} {ms : List Mt} (h : Lab.selSane nm ms = true) : 1 ≤ nm.size ∧ nm.size ≤ 64 ∧ ms.length ≤ 8 ∧ Lab.name nm = true := by
  unfold Lab.selSane at h
  rw [Bool.and_eq_true, Bool.and_eq_true, decide_eq_true_eq] at h
  have h2 := h.1.1
  unfold Lab.name at h2
  rw [Bool.and_eq_true, Bool.and_eq_true, decide_eq_true_eq, decide_eq_true_eq] at h2
  exact ⟨h2.1.1, h2.1.2, h.1.2, h.1.1⟩
theorem qB_size (v : ByteArray) : (qB v).size ≤ 2 * v.size + 2 := by
  unfold qB
  rw [Lex.size_mk, Lex.size_bl v]
  exact Lex.quote_len _
theorem how_size (b : Bool) : (how b).size ≤ 2 := by cases b <;> decide
theorem btw_size (k : Nat) : (btw k).size = 1 := by unfold btw; split <;> rfl
theorem part_size {k : Nat} {m : Mt} (h1 : m.1.size ≤ 64) (h2 : m.2.1.size ≤ 64) : (part k m).size ≤ 200 := by
  unfold part
  rw [ByteArray.size_append, ByteArray.size_append, ByteArray.size_append, btw_size]
  have := how_size m.2.2
  have := qB_size m.2.1
  omega
theorem textTo_size {nm : ByteArray} {ms : List Mt} (h : Lab.selSane nm ms = true) (k : Nat) : (textTo nm ms k).size ≤ 64 + k * 200 := by
  induction k with
  | zero => unfold textTo; have := sane_nm h; omega
  | succ k ih =>
    rcases hx : ms[k]? with _ | m
    · rw [textTo, hx]
      simp only
      omega
    · rw [textTo_step hx, ByteArray.size_append]
      have h1 := sane_at h hx
      have := part_size (k := k) h1.2.1 h1.2.2.1
      omega
end Sel
theorem quote_is (v q : ByteArray) (hq : Sel.qB v = q) (hs : v.size ≤ 60000000000000) (w : World) : Calls Tryd.prog 51 #[.string v] w fun e w' => e = .returned (.string q) ∧ Below w.heap.size w w' := by
  subst hq
  exact quote_any v hs w
theorem rQuote_is (v q : ByteArray) (hq : Sel.qB v = q) (hs : v.size ≤ 60000000000000) (w : World) : Calls Tryd.prog 54 #[.string v] w fun e w' => e = .returned (.string q) ∧ Below w.heap.size w w' := by
  subst hq
  exact rQuote_any v hs w

set_option maxRecDepth 100000 in
set_option maxHeartbeats 8000000 in
theorem print_any (nm : ByteArray) (A : Option Addr) (n c : Nat) (ms : List Lab.Mt) (w : World) (hm : Mts w w.heap.size A n c ms) :
    Calls Tryd.prog 33 #[.agg #[.string nm, .slice A n c]] w fun e w' => e = .returned (.string (Sel.print nm ms)) ∧ Below w.heap.size w w' := by
  have HM := Lib.hid hm
  have hcap := Nat.le_trans hm.1.2.1 hm.1.2.2.1
  have HL := Lib.hid hm.len
  clear hm
  rcases hs : Lab.selSane nm ms with _ | _
  · have HS := Lib.hid hs
    have HF := Lib.hid (show Sel.print nm ms = ⟨#[]⟩ by unfold Sel.print; rw [hs]; rfl)
    clear hs
    go_enter Tryd.func33, Tryd.ntmps33
    go_wp2_with fail
    have hB1 := (Below.refl w.heap.size w).alloc (Nat.le_refl _) (.cells #[.string nm, .slice A n c] 24)
    have hblk := (Mem.Blk.new w 24 #[.string nm, .slice A n c])
    have hlt1 : w.heap.size < (w.alloc (.cells #[.string nm, .slice A n c] 24)).heap.size := by simp
    have hsz1 : w.heap.size ≤ (w.alloc (.cells #[.string nm, .slice A n c] 24)).heap.size := by simp
    obtain ⟨W1, hW1⟩ : ∃ W1, W1 = w.alloc (.cells #[.string nm, .slice A n c] 24) := ⟨_, rfl⟩
    rw [← hW1] at hB1 hblk hlt1 hsz1 ⊢
    clear hW1
    have HBLK := Lib.hid hblk
    clear hblk
    have u0 : W1.cell? ⟨w.heap.size, 0, none⟩ = some (.string nm) := HBLK.out.cell 0
    have u1 : W1.cell? ⟨w.heap.size, 1, none⟩ = some (.slice A n c) := HBLK.out.cell 1
    have HM1 := Lib.hid ((HM.out.below hB1).more hsz1)
    have hx := selSane_any nm A n c ms W1 HM1.out
    rw [HS.out] at hx
    refine hx.mono ?_
    rintro e w2 ⟨rfl, hb2⟩
    have HB2 := Lib.hid (hB1.trans (hb2.mono hsz1))
    have u0 := (hb2.cell (p := ⟨w.heap.size, 0, none⟩) hlt1).trans u0
    have u1 := (hb2.cell (p := ⟨w.heap.size, 1, none⟩) hlt1).trans u1
    have hlt2 := Nat.lt_of_lt_of_le hlt1 hb2.size
    have HM2 := Lib.hid (HM1.out.later hb2)
    clear hb2
    go_wp2
    go_ret
    exact ⟨by rw [HF.out]; rfl, HB2.out⟩
  · have HS := Lib.hid hs
    by_cases hn : n = 0
    · have HF := Lib.hid (show Sel.print nm ms = nm by unfold Sel.print; rw [hs, HL.out, if_pos hn]; rfl)
      have hz : ((n : Int) == 0) = true := by rw [beq_iff_eq]; omega
      clear hs hn
      go_enter Tryd.func33, Tryd.ntmps33
      go_wp2_with fail
      have hB1 := (Below.refl w.heap.size w).alloc (Nat.le_refl _) (.cells #[.string nm, .slice A n c] 24)
      have hblk := (Mem.Blk.new w 24 #[.string nm, .slice A n c])
      have hlt1 : w.heap.size < (w.alloc (.cells #[.string nm, .slice A n c] 24)).heap.size := by simp
      have hsz1 : w.heap.size ≤ (w.alloc (.cells #[.string nm, .slice A n c] 24)).heap.size := by simp
      obtain ⟨W1, hW1⟩ : ∃ W1, W1 = w.alloc (.cells #[.string nm, .slice A n c] 24) := ⟨_, rfl⟩
      rw [← hW1] at hB1 hblk hlt1 hsz1 ⊢
      clear hW1
      have HBLK := Lib.hid hblk
      clear hblk
      have u0 : W1.cell? ⟨w.heap.size, 0, none⟩ = some (.string nm) := HBLK.out.cell 0
      have u1 : W1.cell? ⟨w.heap.size, 1, none⟩ = some (.slice A n c) := HBLK.out.cell 1
      have HM1 := Lib.hid ((HM.out.below hB1).more hsz1)
      have hx := selSane_any nm A n c ms W1 HM1.out
      rw [HS.out] at hx
      refine hx.mono ?_
      rintro e w2 ⟨rfl, hb2⟩
      have HB2 := Lib.hid (hB1.trans (hb2.mono hsz1))
      have u0 := (hb2.cell (p := ⟨w.heap.size, 0, none⟩) hlt1).trans u0
      have u1 := (hb2.cell (p := ⟨w.heap.size, 1, none⟩) hlt1).trans u1
      have hlt2 := Nat.lt_of_lt_of_le hlt1 hb2.size
      have HM2 := Lib.hid (HM1.out.later hb2)
      clear hb2
      go_wp2
      go_ret
      exact ⟨by rw [HF.out]; rfl, HB2.out⟩
    · have HF := Lib.hid (show Sel.print nm ms = Sel.textTo nm ms n ++ Sel.clS by unfold Sel.print; rw [hs, HL.out, if_neg hn]; rfl)
      have hz : ((n : Int) == 0) = false := by rw [beq_eq_false_iff_ne]; omega
      have h8 := (Sel.sane_nm hs).2.2.1
      rw [HL.out] at h8
      clear hs hn
      go_enter Tryd.func33, Tryd.ntmps33
      go_wp2_with fail
      have hB1 := (Below.refl w.heap.size w).alloc (Nat.le_refl _) (.cells #[.string nm, .slice A n c] 24)
      have hblk := (Mem.Blk.new w 24 #[.string nm, .slice A n c])
      have hlt1 : w.heap.size < (w.alloc (.cells #[.string nm, .slice A n c] 24)).heap.size := by simp
      have hsz1 : w.heap.size ≤ (w.alloc (.cells #[.string nm, .slice A n c] 24)).heap.size := by simp
      obtain ⟨W1, hW1⟩ : ∃ W1, W1 = w.alloc (.cells #[.string nm, .slice A n c] 24) := ⟨_, rfl⟩
      rw [← hW1] at hB1 hblk hlt1 hsz1 ⊢
      clear hW1
      have HBLK := Lib.hid hblk
      clear hblk
      have u0 : W1.cell? ⟨w.heap.size, 0, none⟩ = some (.string nm) := HBLK.out.cell 0
      have u1 : W1.cell? ⟨w.heap.size, 1, none⟩ = some (.slice A n c) := HBLK.out.cell 1
      have HM1 := Lib.hid ((HM.out.below hB1).more hsz1)
      have hx := selSane_any nm A n c ms W1 HM1.out
      rw [HS.out] at hx
      refine hx.mono ?_
      rintro e w2 ⟨rfl, hb2⟩
      have HB2 := Lib.hid (hB1.trans (hb2.mono hsz1))
      have u0 := (hb2.cell (p := ⟨w.heap.size, 0, none⟩) hlt1).trans u0
      have u1 := (hb2.cell (p := ⟨w.heap.size, 1, none⟩) hlt1).trans u1
      have hlt2 := Nat.lt_of_lt_of_le hlt1 hb2.size
      have HM2 := Lib.hid (HM1.out.later hb2)
      clear hb2
      go_wp2
      clear u0 u1 hz
      go_loopw [3, 22] (fun v i wr => ∃ k : Nat, k ≤ n ∧ v = .string (Sel.textTo nm ms k) ∧ i = .int .i64 (k : Nat) ∧ Below w2.heap.size w2 wr) (fun _ i _ => n - (intOf i).toNat)
      case atStart => exact ⟨0, Nat.zero_le _, rfl, rfl, Below.refl _ _⟩
      case round =>
        obtain ⟨k, hk, rfl, rfl, hb⟩ := hrel
        have hB := HB2.out.trans (hb.mono HB2.out.size)
        have hbs := hb.size
        have hBs := hB.size
        have hts := Sel.textTo_size HS.out k
        by_cases hlt : k < n
        · have hdk : decide (k < n) = true := decide_eq_true hlt
          obtain ⟨b, off, rfl, hbB, hcell⟩ := HM2.out.at_ hlt
          obtain ⟨m, hp⟩ : ∃ m, ms[k]? = some m := ⟨_, List.getElem?_eq_getElem (by rw [HL.out]; exact hlt)⟩
          have h1 := (hb.cell (p := ⟨b, off + k * 3, none⟩) hbB).trans (hcell k m hp).1
          have h2 := (hb.cell (p := ⟨b, off + k * 3 + 1, none⟩) hbB).trans (hcell k m hp).2.1
          have h3 := (hb.cell (p := ⟨b, off + k * 3 + 2, none⟩) hbB).trans (hcell k m hp).2.2
          obtain ⟨hm1, hm2, hm3, -⟩ := Sel.sane_at HS.out hp
          have HST := Lib.hid (Sel.textTo_step (nm := nm) hp)
          have hqs := Sel.qB_size m.2.1
          obtain ⟨mn, mv, mb⟩ := m
          simp only at h1 h2 h3 hm1 hm2 hm3 hqs
          obtain ⟨t, ht⟩ : ∃ t, Sel.textTo nm ms k = t := ⟨_, rfl⟩
          rw [ht] at hts HST ⊢
          obtain ⟨q, hq⟩ : ∃ q, Sel.qB mv = q := ⟨_, rfl⟩
          rw [hq] at hqs
          have HQ := Lib.hid hq
          clear hcell hp ht hq
          rcases mb with _ | _
          · by_cases hk0 : k = 0
            · have hd0 : ((k : Int) == 0) = true := by rw [beq_iff_eq]; omega
              have HPK := Lib.hid (show Sel.part k (mn, mv, false) = ⟨#[123]⟩ ++ mn ++ ⟨#[61]⟩ ++ Sel.qB mv by unfold Sel.part Sel.btw; rw [if_pos hk0]; rfl)
              clear hk0
              have hb5 := (Below.refl wr.heap.size wr).alloc (Nat.le_refl _) (.cells #[.string mn, .string mv, .bool false] 45)
              have hblk5 := Mem.Blk.new wr 45 #[.string mn, .string mv, .bool false]
              have hl5 : wr.heap.size < (wr.alloc (.cells #[.string mn, .string mv, .bool false] 45)).heap.size := by simp
              have hb6 : Below w2.heap.size w2 (wr.alloc (.cells #[.string mn, .string mv, .bool false] 45)) := hb.alloc hbs _
              go_wp2
              generalize wr.alloc (.cells #[.string mn, .string mv, .bool false] 45) = w5 at hb5 hblk5 hl5 hb6 ⊢
              clear h1 h2 h3
              have n1 : ¬ 9223372036854775807 < 1 + mn.size := by omega
              have n2 : ¬ 9223372036854775807 < 1 + mn.size + 1 := by omega
              have n3 : ¬ 9223372036854775807 < 1 + mn.size + 1 + q.size := by omega
              have n4 : ¬ 9223372036854775807 < t.size + (1 + mn.size + 1 + q.size) := by omega
              refine wp_region_held_drew (S := fun W' => Below w5.heap.size w5 W') (by kernel_rfl) (Below.refl _ _).drew (fun hHeld => ?_)
              refine wpAnyH_take (i := 0) (v := ?_) (by simp only [List.getElem?_toArray, List.getElem?_cons_succ, List.getElem?_cons_zero]; exact rfl) (by kernel_rfl) (by kernel_rfl) (by kernel_rfl) (by exact fun _ _ _ h => h) (Or.inl ⟨by rfl, ?_⟩) hHeld ?_
              rotate_left
              · intro wq hSw; go_simp; all_goals (with_reducible rfl)
              try simp only [Act.put, List.setIfInBounds_toArray, List.set_cons_zero, List.set_cons_succ]
              refine wpAnyH_take (i := 1) (v := ?_) (by simp only [List.getElem?_toArray, List.getElem?_cons_succ, List.getElem?_cons_zero]; exact rfl) (by kernel_rfl) (by kernel_rfl) (by kernel_rfl) (by exact fun _ _ _ h => h) (Or.inl ⟨by rfl, ?_⟩) hHeld ?_
              rotate_left
              · intro wq hSw; go_simp; all_goals (with_reducible rfl)
              try simp only [Act.put, List.setIfInBounds_toArray, List.set_cons_zero, List.set_cons_succ]
              refine wpAnyH_take (i := 2) (v := ?_) (by simp only [List.getElem?_toArray, List.getElem?_cons_succ, List.getElem?_cons_zero]; exact rfl) (by kernel_rfl) (by kernel_rfl) (by kernel_rfl) (by exact fun _ _ _ h => h) (Or.inl ⟨by rfl, ?_⟩) hHeld ?_
              rotate_left
              · intro wq hSw; go_simp; all_goals (with_reducible rfl)
              try simp only [Act.put, List.setIfInBounds_toArray, List.set_cons_zero, List.set_cons_succ]
              refine wpAnyH_take (i := 3) (v := ?_) (by simp only [List.getElem?_toArray, List.getElem?_cons_succ, List.getElem?_cons_zero]; exact rfl) (by kernel_rfl) (by kernel_rfl) (by kernel_rfl) (by exact fun _ _ _ h => h) (Or.inl ⟨by rfl, ?_⟩) hHeld ?_
              rotate_left
              · intro wq hSw; have x0 := (hSw.cell (p := ⟨wr.heap.size, 0, none⟩) hl5).trans (hblk5.cell 0); simp at x0; go_simp; all_goals (with_reducible rfl)
              try simp only [Act.put, List.setIfInBounds_toArray, List.set_cons_zero, List.set_cons_succ]
              refine wpAnyH_take (i := 4) (v := ?_) (by simp only [List.getElem?_toArray, List.getElem?_cons_succ, List.getElem?_cons_zero]; exact rfl) (by kernel_rfl) (by kernel_rfl) (by kernel_rfl) (by exact fun _ _ _ h => h) (Or.inl ⟨by rfl, ?_⟩) hHeld ?_
              rotate_left
              · intro wq hSw; go_simp; all_goals (with_reducible rfl)
              try simp only [Act.put, List.setIfInBounds_toArray, List.set_cons_zero, List.set_cons_succ]
              refine wpAnyH_take (i := 5) (v := ?_) (by simp only [List.getElem?_toArray, List.getElem?_cons_succ, List.getElem?_cons_zero]; exact rfl) (by kernel_rfl) (by kernel_rfl) (by kernel_rfl) (by exact fun _ _ _ h => h) (Or.inl ⟨by rfl, ?_⟩) hHeld ?_
              rotate_left
              · intro wq hSw; go_simp; all_goals (with_reducible rfl)
              try simp only [Act.put, List.setIfInBounds_toArray, List.set_cons_zero, List.set_cons_succ]
              refine wpAnyH_take (i := 6) (v := ?_) (by simp only [List.getElem?_toArray, List.getElem?_cons_succ, List.getElem?_cons_zero]; exact rfl) (by kernel_rfl) (by kernel_rfl) (by kernel_rfl) (by exact fun _ _ _ h => h) (Or.inl ⟨by rfl, ?_⟩) hHeld ?_
              rotate_left
              · intro wq hSw; go_simp; all_goals (with_reducible rfl)
              try simp only [Act.put, List.setIfInBounds_toArray, List.set_cons_zero, List.set_cons_succ]
              refine wpAnyH_take (i := 7) (v := ?_) (by simp only [List.getElem?_toArray, List.getElem?_cons_succ, List.getElem?_cons_zero]; exact rfl) (by kernel_rfl) (by kernel_rfl) (by kernel_rfl) (by exact fun _ _ _ h => h) (Or.inl ⟨by rfl, ?_⟩) hHeld ?_
              rotate_left
              · intro wq hSw; go_simp; all_goals (with_reducible rfl)
              try simp only [Act.put, List.setIfInBounds_toArray, List.set_cons_zero, List.set_cons_succ]
              refine wpAnyH_take (i := 8) (v := ?_) (by simp only [List.getElem?_toArray, List.getElem?_cons_succ, List.getElem?_cons_zero]; exact rfl) (by kernel_rfl) (by kernel_rfl) (by kernel_rfl) (by exact fun _ _ _ h => h) (Or.inl ⟨by rfl, ?_⟩) hHeld ?_
              rotate_left
              · intro wq hSw; have x1 := (hSw.cell (p := ⟨wr.heap.size, 1, none⟩) hl5).trans (hblk5.cell 1); simp at x1; go_simp; all_goals (with_reducible rfl)
              try simp only [Act.put, List.setIfInBounds_toArray, List.set_cons_zero, List.set_cons_succ]
              refine wpAnyH_ready (rs := [9]) (by kernel_rfl) (by simp) ?_
              refine AllReadyH.cons (by simp only [List.getElem?_toArray, List.getElem?_cons_succ, List.getElem?_cons_zero]; exact rfl) (fun K hK => ?_) ?_
              · go_simp
                refine (quote_is mv q HQ.out (by omega) _).mono ?_
                rintro e w6 ⟨rfl, hB6⟩
                show K _ _
                refine hK.out _ _ (hHeld.trans (hB6.mono hHeld.size)) (fun hHeld => ?_)
                clear hK K
                try simp only [Act.put, List.setIfInBounds_toArray, List.set_cons_zero, List.set_cons_succ]
                refine wpAnyH_take (i := 10) (v := ?_) (by simp only [List.getElem?_toArray, List.getElem?_cons_succ, List.getElem?_cons_zero]; exact rfl) (by kernel_rfl) (by kernel_rfl) (by kernel_rfl) (by exact fun _ _ _ h => h) (Or.inl ⟨by rfl, ?_⟩) hHeld ?_
                rotate_left
                · intro wq hSw; go_simp; all_goals (with_reducible rfl)
                try simp only [Act.put, List.setIfInBounds_toArray, List.set_cons_zero, List.set_cons_succ]
                refine wpAnyH_take (i := 11) (v := ?_) (by simp only [List.getElem?_toArray, List.getElem?_cons_succ, List.getElem?_cons_zero]; exact rfl) (by kernel_rfl) (by kernel_rfl) (by kernel_rfl) (by exact fun _ _ _ h => h) (Or.inl ⟨by rfl, ?_⟩) hHeld ?_
                rotate_left
                · intro wq hSw; go_simp; all_goals (with_reducible rfl)
                try simp only [Act.put, List.setIfInBounds_toArray, List.set_cons_zero, List.set_cons_succ]
                refine wpAnyH_take (i := 12) (v := ?_) (by simp only [List.getElem?_toArray, List.getElem?_cons_succ, List.getElem?_cons_zero]; exact rfl) (by kernel_rfl) (by kernel_rfl) (by kernel_rfl) (by exact fun _ _ _ h => h) (Or.inl ⟨by rfl, ?_⟩) hHeld ?_
                rotate_left
                · intro wq hSw; go_simp; all_goals (with_reducible rfl)
                try simp only [Act.put, List.setIfInBounds_toArray, List.set_cons_zero, List.set_cons_succ]
                refine wpAnyH_done (by kernel_rfl) ?_ _
                have hb7 := hb6.trans (hHeld.mono hb6.size)
                rw [HQ.out] at HPK
                go_wp2
                go_roundw
                case rel => exact ⟨k + 1, by omega, by rw [HST.out, HPK.out], by go_num, hb7⟩
                case measure => simp [intOf]; omega
              · exact AllReadyH.nil
            · have hd0 : ((k : Int) == 0) = false := by rw [beq_eq_false_iff_ne]; omega
              have HPK := Lib.hid (show Sel.part k (mn, mv, false) = ⟨#[44]⟩ ++ mn ++ ⟨#[61]⟩ ++ Sel.qB mv by unfold Sel.part Sel.btw; rw [if_neg hk0]; rfl)
              clear hk0
              have hb5 := (Below.refl wr.heap.size wr).alloc (Nat.le_refl _) (.cells #[.string mn, .string mv, .bool false] 45)
              have hblk5 := Mem.Blk.new wr 45 #[.string mn, .string mv, .bool false]
              have hl5 : wr.heap.size < (wr.alloc (.cells #[.string mn, .string mv, .bool false] 45)).heap.size := by simp
              have hb6 : Below w2.heap.size w2 (wr.alloc (.cells #[.string mn, .string mv, .bool false] 45)) := hb.alloc hbs _
              go_wp2
              generalize wr.alloc (.cells #[.string mn, .string mv, .bool false] 45) = w5 at hb5 hblk5 hl5 hb6 ⊢
              clear h1 h2 h3
              have n1 : ¬ 9223372036854775807 < 1 + mn.size := by omega
              have n2 : ¬ 9223372036854775807 < 1 + mn.size + 1 := by omega
              have n3 : ¬ 9223372036854775807 < 1 + mn.size + 1 + q.size := by omega
              have n4 : ¬ 9223372036854775807 < t.size + (1 + mn.size + 1 + q.size) := by omega
              refine wp_region_held_drew (S := fun W' => Below w5.heap.size w5 W') (by kernel_rfl) (Below.refl _ _).drew (fun hHeld => ?_)
              refine wpAnyH_take (i := 0) (v := ?_) (by simp only [List.getElem?_toArray, List.getElem?_cons_succ, List.getElem?_cons_zero]; exact rfl) (by kernel_rfl) (by kernel_rfl) (by kernel_rfl) (by exact fun _ _ _ h => h) (Or.inl ⟨by rfl, ?_⟩) hHeld ?_
              rotate_left
              · intro wq hSw; go_simp; all_goals (with_reducible rfl)
              try simp only [Act.put, List.setIfInBounds_toArray, List.set_cons_zero, List.set_cons_succ]
              refine wpAnyH_take (i := 1) (v := ?_) (by simp only [List.getElem?_toArray, List.getElem?_cons_succ, List.getElem?_cons_zero]; exact rfl) (by kernel_rfl) (by kernel_rfl) (by kernel_rfl) (by exact fun _ _ _ h => h) (Or.inl ⟨by rfl, ?_⟩) hHeld ?_
              rotate_left
              · intro wq hSw; go_simp; all_goals (with_reducible rfl)
              try simp only [Act.put, List.setIfInBounds_toArray, List.set_cons_zero, List.set_cons_succ]
              refine wpAnyH_take (i := 2) (v := ?_) (by simp only [List.getElem?_toArray, List.getElem?_cons_succ, List.getElem?_cons_zero]; exact rfl) (by kernel_rfl) (by kernel_rfl) (by kernel_rfl) (by exact fun _ _ _ h => h) (Or.inl ⟨by rfl, ?_⟩) hHeld ?_
              rotate_left
              · intro wq hSw; go_simp; all_goals (with_reducible rfl)
              try simp only [Act.put, List.setIfInBounds_toArray, List.set_cons_zero, List.set_cons_succ]
              refine wpAnyH_take (i := 3) (v := ?_) (by simp only [List.getElem?_toArray, List.getElem?_cons_succ, List.getElem?_cons_zero]; exact rfl) (by kernel_rfl) (by kernel_rfl) (by kernel_rfl) (by exact fun _ _ _ h => h) (Or.inl ⟨by rfl, ?_⟩) hHeld ?_
              rotate_left
              · intro wq hSw; have x0 := (hSw.cell (p := ⟨wr.heap.size, 0, none⟩) hl5).trans (hblk5.cell 0); simp at x0; go_simp; all_goals (with_reducible rfl)
              try simp only [Act.put, List.setIfInBounds_toArray, List.set_cons_zero, List.set_cons_succ]
              refine wpAnyH_take (i := 4) (v := ?_) (by simp only [List.getElem?_toArray, List.getElem?_cons_succ, List.getElem?_cons_zero]; exact rfl) (by kernel_rfl) (by kernel_rfl) (by kernel_rfl) (by exact fun _ _ _ h => h) (Or.inl ⟨by rfl, ?_⟩) hHeld ?_
              rotate_left
              · intro wq hSw; go_simp; all_goals (with_reducible rfl)
              try simp only [Act.put, List.setIfInBounds_toArray, List.set_cons_zero, List.set_cons_succ]
              refine wpAnyH_take (i := 5) (v := ?_) (by simp only [List.getElem?_toArray, List.getElem?_cons_succ, List.getElem?_cons_zero]; exact rfl) (by kernel_rfl) (by kernel_rfl) (by kernel_rfl) (by exact fun _ _ _ h => h) (Or.inl ⟨by rfl, ?_⟩) hHeld ?_
              rotate_left
              · intro wq hSw; go_simp; all_goals (with_reducible rfl)
              try simp only [Act.put, List.setIfInBounds_toArray, List.set_cons_zero, List.set_cons_succ]
              refine wpAnyH_take (i := 6) (v := ?_) (by simp only [List.getElem?_toArray, List.getElem?_cons_succ, List.getElem?_cons_zero]; exact rfl) (by kernel_rfl) (by kernel_rfl) (by kernel_rfl) (by exact fun _ _ _ h => h) (Or.inl ⟨by rfl, ?_⟩) hHeld ?_
              rotate_left
              · intro wq hSw; go_simp; all_goals (with_reducible rfl)
              try simp only [Act.put, List.setIfInBounds_toArray, List.set_cons_zero, List.set_cons_succ]
              refine wpAnyH_take (i := 7) (v := ?_) (by simp only [List.getElem?_toArray, List.getElem?_cons_succ, List.getElem?_cons_zero]; exact rfl) (by kernel_rfl) (by kernel_rfl) (by kernel_rfl) (by exact fun _ _ _ h => h) (Or.inl ⟨by rfl, ?_⟩) hHeld ?_
              rotate_left
              · intro wq hSw; go_simp; all_goals (with_reducible rfl)
              try simp only [Act.put, List.setIfInBounds_toArray, List.set_cons_zero, List.set_cons_succ]
              refine wpAnyH_take (i := 8) (v := ?_) (by simp only [List.getElem?_toArray, List.getElem?_cons_succ, List.getElem?_cons_zero]; exact rfl) (by kernel_rfl) (by kernel_rfl) (by kernel_rfl) (by exact fun _ _ _ h => h) (Or.inl ⟨by rfl, ?_⟩) hHeld ?_
              rotate_left
              · intro wq hSw; have x1 := (hSw.cell (p := ⟨wr.heap.size, 1, none⟩) hl5).trans (hblk5.cell 1); simp at x1; go_simp; all_goals (with_reducible rfl)
              try simp only [Act.put, List.setIfInBounds_toArray, List.set_cons_zero, List.set_cons_succ]
              refine wpAnyH_ready (rs := [9]) (by kernel_rfl) (by simp) ?_
              refine AllReadyH.cons (by simp only [List.getElem?_toArray, List.getElem?_cons_succ, List.getElem?_cons_zero]; exact rfl) (fun K hK => ?_) ?_
              · go_simp
                refine (quote_is mv q HQ.out (by omega) _).mono ?_
                rintro e w6 ⟨rfl, hB6⟩
                show K _ _
                refine hK.out _ _ (hHeld.trans (hB6.mono hHeld.size)) (fun hHeld => ?_)
                clear hK K
                try simp only [Act.put, List.setIfInBounds_toArray, List.set_cons_zero, List.set_cons_succ]
                refine wpAnyH_take (i := 10) (v := ?_) (by simp only [List.getElem?_toArray, List.getElem?_cons_succ, List.getElem?_cons_zero]; exact rfl) (by kernel_rfl) (by kernel_rfl) (by kernel_rfl) (by exact fun _ _ _ h => h) (Or.inl ⟨by rfl, ?_⟩) hHeld ?_
                rotate_left
                · intro wq hSw; go_simp; all_goals (with_reducible rfl)
                try simp only [Act.put, List.setIfInBounds_toArray, List.set_cons_zero, List.set_cons_succ]
                refine wpAnyH_take (i := 11) (v := ?_) (by simp only [List.getElem?_toArray, List.getElem?_cons_succ, List.getElem?_cons_zero]; exact rfl) (by kernel_rfl) (by kernel_rfl) (by kernel_rfl) (by exact fun _ _ _ h => h) (Or.inl ⟨by rfl, ?_⟩) hHeld ?_
                rotate_left
                · intro wq hSw; go_simp; all_goals (with_reducible rfl)
                try simp only [Act.put, List.setIfInBounds_toArray, List.set_cons_zero, List.set_cons_succ]
                refine wpAnyH_take (i := 12) (v := ?_) (by simp only [List.getElem?_toArray, List.getElem?_cons_succ, List.getElem?_cons_zero]; exact rfl) (by kernel_rfl) (by kernel_rfl) (by kernel_rfl) (by exact fun _ _ _ h => h) (Or.inl ⟨by rfl, ?_⟩) hHeld ?_
                rotate_left
                · intro wq hSw; go_simp; all_goals (with_reducible rfl)
                try simp only [Act.put, List.setIfInBounds_toArray, List.set_cons_zero, List.set_cons_succ]
                refine wpAnyH_done (by kernel_rfl) ?_ _
                have hb7 := hb6.trans (hHeld.mono hb6.size)
                rw [HQ.out] at HPK
                go_wp2
                go_roundw
                case rel => exact ⟨k + 1, by omega, by rw [HST.out, HPK.out], by go_num, hb7⟩
                case measure => simp [intOf]; omega
              · exact AllReadyH.nil
          · by_cases hk0 : k = 0
            · have hd0 : ((k : Int) == 0) = true := by rw [beq_iff_eq]; omega
              have HPK := Lib.hid (show Sel.part k (mn, mv, true) = ⟨#[123]⟩ ++ mn ++ ⟨#[33, 61]⟩ ++ Sel.qB mv by unfold Sel.part Sel.btw; rw [if_pos hk0]; rfl)
              clear hk0
              have hb5 := (Below.refl wr.heap.size wr).alloc (Nat.le_refl _) (.cells #[.string mn, .string mv, .bool true] 45)
              have hblk5 := Mem.Blk.new wr 45 #[.string mn, .string mv, .bool true]
              have hl5 : wr.heap.size < (wr.alloc (.cells #[.string mn, .string mv, .bool true] 45)).heap.size := by simp
              have hb6 : Below w2.heap.size w2 (wr.alloc (.cells #[.string mn, .string mv, .bool true] 45)) := hb.alloc hbs _
              go_wp2
              generalize wr.alloc (.cells #[.string mn, .string mv, .bool true] 45) = w5 at hb5 hblk5 hl5 hb6 ⊢
              clear h1 h2 h3
              have n1 : ¬ 9223372036854775807 < 1 + mn.size := by omega
              have n2 : ¬ 9223372036854775807 < 1 + mn.size + 2 := by omega
              have n3 : ¬ 9223372036854775807 < 1 + mn.size + 2 + q.size := by omega
              have n4 : ¬ 9223372036854775807 < t.size + (1 + mn.size + 2 + q.size) := by omega
              refine wp_region_held_drew (S := fun W' => Below w5.heap.size w5 W') (by kernel_rfl) (Below.refl _ _).drew (fun hHeld => ?_)
              refine wpAnyH_take (i := 0) (v := ?_) (by simp only [List.getElem?_toArray, List.getElem?_cons_succ, List.getElem?_cons_zero]; exact rfl) (by kernel_rfl) (by kernel_rfl) (by kernel_rfl) (by exact fun _ _ _ h => h) (Or.inl ⟨by rfl, ?_⟩) hHeld ?_
              rotate_left
              · intro wq hSw; go_simp; all_goals (with_reducible rfl)
              try simp only [Act.put, List.setIfInBounds_toArray, List.set_cons_zero, List.set_cons_succ]
              refine wpAnyH_take (i := 1) (v := ?_) (by simp only [List.getElem?_toArray, List.getElem?_cons_succ, List.getElem?_cons_zero]; exact rfl) (by kernel_rfl) (by kernel_rfl) (by kernel_rfl) (by exact fun _ _ _ h => h) (Or.inl ⟨by rfl, ?_⟩) hHeld ?_
              rotate_left
              · intro wq hSw; go_simp; all_goals (with_reducible rfl)
              try simp only [Act.put, List.setIfInBounds_toArray, List.set_cons_zero, List.set_cons_succ]
              refine wpAnyH_take (i := 2) (v := ?_) (by simp only [List.getElem?_toArray, List.getElem?_cons_succ, List.getElem?_cons_zero]; exact rfl) (by kernel_rfl) (by kernel_rfl) (by kernel_rfl) (by exact fun _ _ _ h => h) (Or.inl ⟨by rfl, ?_⟩) hHeld ?_
              rotate_left
              · intro wq hSw; go_simp; all_goals (with_reducible rfl)
              try simp only [Act.put, List.setIfInBounds_toArray, List.set_cons_zero, List.set_cons_succ]
              refine wpAnyH_take (i := 3) (v := ?_) (by simp only [List.getElem?_toArray, List.getElem?_cons_succ, List.getElem?_cons_zero]; exact rfl) (by kernel_rfl) (by kernel_rfl) (by kernel_rfl) (by exact fun _ _ _ h => h) (Or.inl ⟨by rfl, ?_⟩) hHeld ?_
              rotate_left
              · intro wq hSw; have x0 := (hSw.cell (p := ⟨wr.heap.size, 0, none⟩) hl5).trans (hblk5.cell 0); simp at x0; go_simp; all_goals (with_reducible rfl)
              try simp only [Act.put, List.setIfInBounds_toArray, List.set_cons_zero, List.set_cons_succ]
              refine wpAnyH_take (i := 4) (v := ?_) (by simp only [List.getElem?_toArray, List.getElem?_cons_succ, List.getElem?_cons_zero]; exact rfl) (by kernel_rfl) (by kernel_rfl) (by kernel_rfl) (by exact fun _ _ _ h => h) (Or.inl ⟨by rfl, ?_⟩) hHeld ?_
              rotate_left
              · intro wq hSw; go_simp; all_goals (with_reducible rfl)
              try simp only [Act.put, List.setIfInBounds_toArray, List.set_cons_zero, List.set_cons_succ]
              refine wpAnyH_take (i := 5) (v := ?_) (by simp only [List.getElem?_toArray, List.getElem?_cons_succ, List.getElem?_cons_zero]; exact rfl) (by kernel_rfl) (by kernel_rfl) (by kernel_rfl) (by exact fun _ _ _ h => h) (Or.inl ⟨by rfl, ?_⟩) hHeld ?_
              rotate_left
              · intro wq hSw; go_simp; all_goals (with_reducible rfl)
              try simp only [Act.put, List.setIfInBounds_toArray, List.set_cons_zero, List.set_cons_succ]
              refine wpAnyH_take (i := 6) (v := ?_) (by simp only [List.getElem?_toArray, List.getElem?_cons_succ, List.getElem?_cons_zero]; exact rfl) (by kernel_rfl) (by kernel_rfl) (by kernel_rfl) (by exact fun _ _ _ h => h) (Or.inl ⟨by rfl, ?_⟩) hHeld ?_
              rotate_left
              · intro wq hSw; go_simp; all_goals (with_reducible rfl)
              try simp only [Act.put, List.setIfInBounds_toArray, List.set_cons_zero, List.set_cons_succ]
              refine wpAnyH_take (i := 7) (v := ?_) (by simp only [List.getElem?_toArray, List.getElem?_cons_succ, List.getElem?_cons_zero]; exact rfl) (by kernel_rfl) (by kernel_rfl) (by kernel_rfl) (by exact fun _ _ _ h => h) (Or.inl ⟨by rfl, ?_⟩) hHeld ?_
              rotate_left
              · intro wq hSw; go_simp; all_goals (with_reducible rfl)
              try simp only [Act.put, List.setIfInBounds_toArray, List.set_cons_zero, List.set_cons_succ]
              refine wpAnyH_take (i := 8) (v := ?_) (by simp only [List.getElem?_toArray, List.getElem?_cons_succ, List.getElem?_cons_zero]; exact rfl) (by kernel_rfl) (by kernel_rfl) (by kernel_rfl) (by exact fun _ _ _ h => h) (Or.inl ⟨by rfl, ?_⟩) hHeld ?_
              rotate_left
              · intro wq hSw; have x1 := (hSw.cell (p := ⟨wr.heap.size, 1, none⟩) hl5).trans (hblk5.cell 1); simp at x1; go_simp; all_goals (with_reducible rfl)
              try simp only [Act.put, List.setIfInBounds_toArray, List.set_cons_zero, List.set_cons_succ]
              refine wpAnyH_ready (rs := [9]) (by kernel_rfl) (by simp) ?_
              refine AllReadyH.cons (by simp only [List.getElem?_toArray, List.getElem?_cons_succ, List.getElem?_cons_zero]; exact rfl) (fun K hK => ?_) ?_
              · go_simp
                refine (quote_is mv q HQ.out (by omega) _).mono ?_
                rintro e w6 ⟨rfl, hB6⟩
                show K _ _
                refine hK.out _ _ (hHeld.trans (hB6.mono hHeld.size)) (fun hHeld => ?_)
                clear hK K
                try simp only [Act.put, List.setIfInBounds_toArray, List.set_cons_zero, List.set_cons_succ]
                refine wpAnyH_take (i := 10) (v := ?_) (by simp only [List.getElem?_toArray, List.getElem?_cons_succ, List.getElem?_cons_zero]; exact rfl) (by kernel_rfl) (by kernel_rfl) (by kernel_rfl) (by exact fun _ _ _ h => h) (Or.inl ⟨by rfl, ?_⟩) hHeld ?_
                rotate_left
                · intro wq hSw; go_simp; all_goals (with_reducible rfl)
                try simp only [Act.put, List.setIfInBounds_toArray, List.set_cons_zero, List.set_cons_succ]
                refine wpAnyH_take (i := 11) (v := ?_) (by simp only [List.getElem?_toArray, List.getElem?_cons_succ, List.getElem?_cons_zero]; exact rfl) (by kernel_rfl) (by kernel_rfl) (by kernel_rfl) (by exact fun _ _ _ h => h) (Or.inl ⟨by rfl, ?_⟩) hHeld ?_
                rotate_left
                · intro wq hSw; go_simp; all_goals (with_reducible rfl)
                try simp only [Act.put, List.setIfInBounds_toArray, List.set_cons_zero, List.set_cons_succ]
                refine wpAnyH_take (i := 12) (v := ?_) (by simp only [List.getElem?_toArray, List.getElem?_cons_succ, List.getElem?_cons_zero]; exact rfl) (by kernel_rfl) (by kernel_rfl) (by kernel_rfl) (by exact fun _ _ _ h => h) (Or.inl ⟨by rfl, ?_⟩) hHeld ?_
                rotate_left
                · intro wq hSw; go_simp; all_goals (with_reducible rfl)
                try simp only [Act.put, List.setIfInBounds_toArray, List.set_cons_zero, List.set_cons_succ]
                refine wpAnyH_done (by kernel_rfl) ?_ _
                have hb7 := hb6.trans (hHeld.mono hb6.size)
                rw [HQ.out] at HPK
                go_wp2
                go_roundw
                case rel => exact ⟨k + 1, by omega, by rw [HST.out, HPK.out], by go_num, hb7⟩
                case measure => simp [intOf]; omega
              · exact AllReadyH.nil
            · have hd0 : ((k : Int) == 0) = false := by rw [beq_eq_false_iff_ne]; omega
              have HPK := Lib.hid (show Sel.part k (mn, mv, true) = ⟨#[44]⟩ ++ mn ++ ⟨#[33, 61]⟩ ++ Sel.qB mv by unfold Sel.part Sel.btw; rw [if_neg hk0]; rfl)
              clear hk0
              have hb5 := (Below.refl wr.heap.size wr).alloc (Nat.le_refl _) (.cells #[.string mn, .string mv, .bool true] 45)
              have hblk5 := Mem.Blk.new wr 45 #[.string mn, .string mv, .bool true]
              have hl5 : wr.heap.size < (wr.alloc (.cells #[.string mn, .string mv, .bool true] 45)).heap.size := by simp
              have hb6 : Below w2.heap.size w2 (wr.alloc (.cells #[.string mn, .string mv, .bool true] 45)) := hb.alloc hbs _
              go_wp2
              generalize wr.alloc (.cells #[.string mn, .string mv, .bool true] 45) = w5 at hb5 hblk5 hl5 hb6 ⊢
              clear h1 h2 h3
              have n1 : ¬ 9223372036854775807 < 1 + mn.size := by omega
              have n2 : ¬ 9223372036854775807 < 1 + mn.size + 2 := by omega
              have n3 : ¬ 9223372036854775807 < 1 + mn.size + 2 + q.size := by omega
              have n4 : ¬ 9223372036854775807 < t.size + (1 + mn.size + 2 + q.size) := by omega
              refine wp_region_held_drew (S := fun W' => Below w5.heap.size w5 W') (by kernel_rfl) (Below.refl _ _).drew (fun hHeld => ?_)
              refine wpAnyH_take (i := 0) (v := ?_) (by simp only [List.getElem?_toArray, List.getElem?_cons_succ, List.getElem?_cons_zero]; exact rfl) (by kernel_rfl) (by kernel_rfl) (by kernel_rfl) (by exact fun _ _ _ h => h) (Or.inl ⟨by rfl, ?_⟩) hHeld ?_
              rotate_left
              · intro wq hSw; go_simp; all_goals (with_reducible rfl)
              try simp only [Act.put, List.setIfInBounds_toArray, List.set_cons_zero, List.set_cons_succ]
              refine wpAnyH_take (i := 1) (v := ?_) (by simp only [List.getElem?_toArray, List.getElem?_cons_succ, List.getElem?_cons_zero]; exact rfl) (by kernel_rfl) (by kernel_rfl) (by kernel_rfl) (by exact fun _ _ _ h => h) (Or.inl ⟨by rfl, ?_⟩) hHeld ?_
              rotate_left
              · intro wq hSw; go_simp; all_goals (with_reducible rfl)
              try simp only [Act.put, List.setIfInBounds_toArray, List.set_cons_zero, List.set_cons_succ]
              refine wpAnyH_take (i := 2) (v := ?_) (by simp only [List.getElem?_toArray, List.getElem?_cons_succ, List.getElem?_cons_zero]; exact rfl) (by kernel_rfl) (by kernel_rfl) (by kernel_rfl) (by exact fun _ _ _ h => h) (Or.inl ⟨by rfl, ?_⟩) hHeld ?_
              rotate_left
              · intro wq hSw; go_simp; all_goals (with_reducible rfl)
              try simp only [Act.put, List.setIfInBounds_toArray, List.set_cons_zero, List.set_cons_succ]
              refine wpAnyH_take (i := 3) (v := ?_) (by simp only [List.getElem?_toArray, List.getElem?_cons_succ, List.getElem?_cons_zero]; exact rfl) (by kernel_rfl) (by kernel_rfl) (by kernel_rfl) (by exact fun _ _ _ h => h) (Or.inl ⟨by rfl, ?_⟩) hHeld ?_
              rotate_left
              · intro wq hSw; have x0 := (hSw.cell (p := ⟨wr.heap.size, 0, none⟩) hl5).trans (hblk5.cell 0); simp at x0; go_simp; all_goals (with_reducible rfl)
              try simp only [Act.put, List.setIfInBounds_toArray, List.set_cons_zero, List.set_cons_succ]
              refine wpAnyH_take (i := 4) (v := ?_) (by simp only [List.getElem?_toArray, List.getElem?_cons_succ, List.getElem?_cons_zero]; exact rfl) (by kernel_rfl) (by kernel_rfl) (by kernel_rfl) (by exact fun _ _ _ h => h) (Or.inl ⟨by rfl, ?_⟩) hHeld ?_
              rotate_left
              · intro wq hSw; go_simp; all_goals (with_reducible rfl)
              try simp only [Act.put, List.setIfInBounds_toArray, List.set_cons_zero, List.set_cons_succ]
              refine wpAnyH_take (i := 5) (v := ?_) (by simp only [List.getElem?_toArray, List.getElem?_cons_succ, List.getElem?_cons_zero]; exact rfl) (by kernel_rfl) (by kernel_rfl) (by kernel_rfl) (by exact fun _ _ _ h => h) (Or.inl ⟨by rfl, ?_⟩) hHeld ?_
              rotate_left
              · intro wq hSw; go_simp; all_goals (with_reducible rfl)
              try simp only [Act.put, List.setIfInBounds_toArray, List.set_cons_zero, List.set_cons_succ]
              refine wpAnyH_take (i := 6) (v := ?_) (by simp only [List.getElem?_toArray, List.getElem?_cons_succ, List.getElem?_cons_zero]; exact rfl) (by kernel_rfl) (by kernel_rfl) (by kernel_rfl) (by exact fun _ _ _ h => h) (Or.inl ⟨by rfl, ?_⟩) hHeld ?_
              rotate_left
              · intro wq hSw; go_simp; all_goals (with_reducible rfl)
              try simp only [Act.put, List.setIfInBounds_toArray, List.set_cons_zero, List.set_cons_succ]
              refine wpAnyH_take (i := 7) (v := ?_) (by simp only [List.getElem?_toArray, List.getElem?_cons_succ, List.getElem?_cons_zero]; exact rfl) (by kernel_rfl) (by kernel_rfl) (by kernel_rfl) (by exact fun _ _ _ h => h) (Or.inl ⟨by rfl, ?_⟩) hHeld ?_
              rotate_left
              · intro wq hSw; go_simp; all_goals (with_reducible rfl)
              try simp only [Act.put, List.setIfInBounds_toArray, List.set_cons_zero, List.set_cons_succ]
              refine wpAnyH_take (i := 8) (v := ?_) (by simp only [List.getElem?_toArray, List.getElem?_cons_succ, List.getElem?_cons_zero]; exact rfl) (by kernel_rfl) (by kernel_rfl) (by kernel_rfl) (by exact fun _ _ _ h => h) (Or.inl ⟨by rfl, ?_⟩) hHeld ?_
              rotate_left
              · intro wq hSw; have x1 := (hSw.cell (p := ⟨wr.heap.size, 1, none⟩) hl5).trans (hblk5.cell 1); simp at x1; go_simp; all_goals (with_reducible rfl)
              try simp only [Act.put, List.setIfInBounds_toArray, List.set_cons_zero, List.set_cons_succ]
              refine wpAnyH_ready (rs := [9]) (by kernel_rfl) (by simp) ?_
              refine AllReadyH.cons (by simp only [List.getElem?_toArray, List.getElem?_cons_succ, List.getElem?_cons_zero]; exact rfl) (fun K hK => ?_) ?_
              · go_simp
                refine (quote_is mv q HQ.out (by omega) _).mono ?_
                rintro e w6 ⟨rfl, hB6⟩
                show K _ _
                refine hK.out _ _ (hHeld.trans (hB6.mono hHeld.size)) (fun hHeld => ?_)
                clear hK K
                try simp only [Act.put, List.setIfInBounds_toArray, List.set_cons_zero, List.set_cons_succ]
                refine wpAnyH_take (i := 10) (v := ?_) (by simp only [List.getElem?_toArray, List.getElem?_cons_succ, List.getElem?_cons_zero]; exact rfl) (by kernel_rfl) (by kernel_rfl) (by kernel_rfl) (by exact fun _ _ _ h => h) (Or.inl ⟨by rfl, ?_⟩) hHeld ?_
                rotate_left
                · intro wq hSw; go_simp; all_goals (with_reducible rfl)
                try simp only [Act.put, List.setIfInBounds_toArray, List.set_cons_zero, List.set_cons_succ]
                refine wpAnyH_take (i := 11) (v := ?_) (by simp only [List.getElem?_toArray, List.getElem?_cons_succ, List.getElem?_cons_zero]; exact rfl) (by kernel_rfl) (by kernel_rfl) (by kernel_rfl) (by exact fun _ _ _ h => h) (Or.inl ⟨by rfl, ?_⟩) hHeld ?_
                rotate_left
                · intro wq hSw; go_simp; all_goals (with_reducible rfl)
                try simp only [Act.put, List.setIfInBounds_toArray, List.set_cons_zero, List.set_cons_succ]
                refine wpAnyH_take (i := 12) (v := ?_) (by simp only [List.getElem?_toArray, List.getElem?_cons_succ, List.getElem?_cons_zero]; exact rfl) (by kernel_rfl) (by kernel_rfl) (by kernel_rfl) (by exact fun _ _ _ h => h) (Or.inl ⟨by rfl, ?_⟩) hHeld ?_
                rotate_left
                · intro wq hSw; go_simp; all_goals (with_reducible rfl)
                try simp only [Act.put, List.setIfInBounds_toArray, List.set_cons_zero, List.set_cons_succ]
                refine wpAnyH_done (by kernel_rfl) ?_ _
                have hb7 := hb6.trans (hHeld.mono hb6.size)
                rw [HQ.out] at HPK
                go_wp2
                go_roundw
                case rel => exact ⟨k + 1, by omega, by rw [HST.out, HPK.out], by go_num, hb7⟩
                case measure => simp [intOf]; omega
              · exact AllReadyH.nil
        · obtain rfl : k = n := by omega
          have hdk : decide (k < k) = false := decide_eq_false (by omega)
          obtain ⟨t, ht⟩ : ∃ t, Sel.textTo nm ms k = t := ⟨_, rfl⟩
          rw [ht] at hts HF ⊢
          have hns : ¬ 9223372036854775807 < t.size + (⟨#[125]⟩ : ByteArray).size := by
            show ¬ 9223372036854775807 < t.size + 1
            omega
          have hns2 : ¬ 9223372036854775807 < t.size + 1 := by omega
          clear ht
          go_wp2
          go_ret
          exact ⟨by rw [HF.out]; rfl, hB⟩
end Go.Proofs.YtbdochcajpempaaDoor
