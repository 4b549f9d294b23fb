/- The walk of the reference's Print. -/
import Derived.Test.YtbdochcajpempaaDoorSelJ
namespace Go.Proofs.YtbdochcajpempaaDoor
open Go.RowKit
set_option linter.unusedSimpArgs false
set_option linter.unusedVariables false

theorem Sel.two_ne (q : ByteArray) : (⟨#[33]⟩ : ByteArray) ++ (⟨#[61]⟩ ++ q) = ⟨#[33, 61]⟩ ++ q := by
  rw [← ByteArray.append_assoc]
  rfl

set_option maxRecDepth 100000 in
set_option maxHeartbeats 8000000 in
theorem rPrint_any (nm : ByteArray) (hnms : nm.size ≤ 9223372036854775807) (A : Option Addr) (n c : Nat) (ms : List Lab.Mt) (w : World) (hm : Mts w w.heap.size A n c ms) :
    Calls Tryd.prog 35 #[.agg #[.string nm, .slice A n c]] w fun e w' => e = .returned (.string (Sel.print nm ms)) ∧ Below w.heap.size w w' := by
  have HM := Lib.hid hm
  have hcap := Nat.le_trans hm.1.2.1 hm.1.2.2.1
  have HL := Lib.hid hm.len
  clear hm
  rcases hs : Lab.selSane nm ms with _ | _
  · have HS := Lib.hid hs
    have HF := Lib.hid (show Sel.print nm ms = ⟨#[]⟩ by unfold Sel.print; rw [hs]; rfl)
    clear hs
    go_enter Tryd.func35, Tryd.ntmps35
    go_wp2_with fail
    have hB1 := (Below.refl w.heap.size w).alloc (Nat.le_refl _) (.cells #[.string nm, .slice A n c] 24)
    have hblk := (Mem.Blk.new w 24 #[.string nm, .slice A n c])
    have hlt1 : w.heap.size < (w.alloc (.cells #[.string nm, .slice A n c] 24)).heap.size := by simp
    have hsz1 : w.heap.size ≤ (w.alloc (.cells #[.string nm, .slice A n c] 24)).heap.size := by simp
    obtain ⟨W1, hW1⟩ : ∃ W1, W1 = w.alloc (.cells #[.string nm, .slice A n c] 24) := ⟨_, rfl⟩
    rw [← hW1] at hB1 hblk hlt1 hsz1 ⊢
    clear hW1
    have HBLK := Lib.hid hblk
    clear hblk
    have u0 : W1.cell? ⟨w.heap.size, 0, none⟩ = some (.string nm) := HBLK.out.cell 0
    have u1 : W1.cell? ⟨w.heap.size, 1, none⟩ = some (.slice A n c) := HBLK.out.cell 1
    have HM1 := Lib.hid ((HM.out.below hB1).more hsz1)
    have hx := rSelSane_any nm hnms A n c ms W1 HM1.out
    rw [HS.out] at hx
    refine hx.mono ?_
    rintro e w2 ⟨rfl, hb2⟩
    have HB2 := Lib.hid (hB1.trans (hb2.mono hsz1))
    have u0 := (hb2.cell (p := ⟨w.heap.size, 0, none⟩) hlt1).trans u0
    have u1 := (hb2.cell (p := ⟨w.heap.size, 1, none⟩) hlt1).trans u1
    have hlt2 := Nat.lt_of_lt_of_le hlt1 hb2.size
    have HM2 := Lib.hid (HM1.out.later hb2)
    clear hb2
    go_wp2
    go_ret
    exact ⟨by rw [HF.out]; rfl, HB2.out⟩
  · have HS := Lib.hid hs
    have h8 := (Sel.sane_nm hs).2.2.1
    rw [HL.out] at h8
    have HF := Lib.hid (show Sel.print nm ms = if n = 0 then nm else Sel.textTo nm ms n ++ Sel.clS by unfold Sel.print; rw [hs, HL.out, if_pos rfl])
    clear hs
    go_enter Tryd.func35, Tryd.ntmps35
    go_wp2_with fail
    have hB1 := (Below.refl w.heap.size w).alloc (Nat.le_refl _) (.cells #[.string nm, .slice A n c] 24)
    have hblk := (Mem.Blk.new w 24 #[.string nm, .slice A n c])
    have hlt1 : w.heap.size < (w.alloc (.cells #[.string nm, .slice A n c] 24)).heap.size := by simp
    have hsz1 : w.heap.size ≤ (w.alloc (.cells #[.string nm, .slice A n c] 24)).heap.size := by simp
    obtain ⟨W1, hW1⟩ : ∃ W1, W1 = w.alloc (.cells #[.string nm, .slice A n c] 24) := ⟨_, rfl⟩
    rw [← hW1] at hB1 hblk hlt1 hsz1 ⊢
    clear hW1
    have HBLK := Lib.hid hblk
    clear hblk
    have u0 : W1.cell? ⟨w.heap.size, 0, none⟩ = some (.string nm) := HBLK.out.cell 0
    have u1 : W1.cell? ⟨w.heap.size, 1, none⟩ = some (.slice A n c) := HBLK.out.cell 1
    have HM1 := Lib.hid ((HM.out.below hB1).more hsz1)
    have hx := rSelSane_any nm hnms A n c ms W1 HM1.out
    rw [HS.out] at hx
    refine hx.mono ?_
    rintro e w2 ⟨rfl, hb2⟩
    have HB2 := Lib.hid (hB1.trans (hb2.mono hsz1))
    have u0 := (hb2.cell (p := ⟨w.heap.size, 0, none⟩) hlt1).trans u0
    have u1 := (hb2.cell (p := ⟨w.heap.size, 1, none⟩) hlt1).trans u1
    have hlt2 := Nat.lt_of_lt_of_le hlt1 hb2.size
    have HM2 := Lib.hid (HM1.out.later hb2)
    clear hb2
    go_wp2
    have U1 := Lib.hid u1
    clear u0 u1
    go_loopw [3, 4] (fun v i wr => ∃ k : Nat, k ≤ n ∧ v = .string (Sel.textTo nm ms k) ∧ i = .int .i64 (k : Nat) ∧ Below w2.heap.size w2 wr) (fun _ i _ => n - (intOf i).toNat)
    case atStart => exact ⟨0, Nat.zero_le _, rfl, rfl, Below.refl _ _⟩
    case round =>
      obtain ⟨k, hk, rfl, rfl, hb⟩ := hrel
      have hB := HB2.out.trans (hb.mono HB2.out.size)
      have hbs := hb.size
      have hBs := hB.size
      have hts := Sel.textTo_size HS.out k
      have u1 := (hb.cell (p := ⟨w.heap.size, 1, none⟩) hlt2).trans U1.out
      by_cases hlt : k < n
      · have hdk : decide (k < n) = true := decide_eq_true hlt
        obtain ⟨b, off, rfl, hbB, hcell⟩ := HM2.out.at_ hlt
        obtain ⟨m, hp⟩ : ∃ m, ms[k]? = some m := ⟨_, List.getElem?_eq_getElem (by rw [HL.out]; exact hlt)⟩
        have h1 := (hb.cell (p := ⟨b, off + k * 3, none⟩) hbB).trans (hcell k m hp).1
        have h2 := (hb.cell (p := ⟨b, off + k * 3 + 1, none⟩) hbB).trans (hcell k m hp).2.1
        have h3 := (hb.cell (p := ⟨b, off + k * 3 + 2, none⟩) hbB).trans (hcell k m hp).2.2
        obtain ⟨hm1, hm2, hm3, -⟩ := Sel.sane_at HS.out hp
        have HST := Lib.hid (Sel.textTo_step (nm := nm) hp)
        have hqs := Sel.qB_size m.2.1
        obtain ⟨mn, mv, mb⟩ := m
        simp only at h1 h2 h3 hm1 hm2 hm3 hqs
        obtain ⟨t, ht⟩ : ∃ t, Sel.textTo nm ms k = t := ⟨_, rfl⟩
        rw [ht] at hts HST ⊢
        obtain ⟨q, hq⟩ : ∃ q, Sel.qB mv = q := ⟨_, rfl⟩
        rw [hq] at hqs
        have HQ := Lib.hid hq
        clear hcell hp ht hq
        rcases mb with _ | _
        · by_cases hk0 : k = 0
          · have hd0 : ((k : Int) == 0) = true := by rw [beq_iff_eq]; omega
            have HPK := Lib.hid (show Sel.part k (mn, mv, false) = ⟨#[123]⟩ ++ mn ++ ⟨#[61]⟩ ++ Sel.qB mv by unfold Sel.part Sel.btw; rw [if_pos hk0]; rfl)
            clear hk0
            rw [HQ.out] at HPK
            have n1 : ¬ 9223372036854775807 < t.size + 1 := by omega
            have n2 : ¬ 9223372036854775807 < t.size + 1 + mn.size := by omega
            have n3 : ¬ 9223372036854775807 < t.size + 1 + mn.size + 1 := by omega
            have n4 : ¬ 9223372036854775807 < t.size + 1 + mn.size + 1 + 1 := by omega
            have n5 : ¬ 9223372036854775807 < t.size + 1 + mn.size + 1 + q.size := by omega
            have n6 : ¬ 9223372036854775807 < t.size + 1 + mn.size + 1 + 1 + q.size := by omega
            go_wp2_with fail
            refine (rQuote_is mv q HQ.out (by omega) _).mono ?_
            rintro e w6 ⟨rfl, hB6⟩
            have hb7 := hb.trans (hB6.mono hbs)
            clear h1 h2 h3 u1
            go_wp2
            go_roundw
            case rel => exact ⟨k + 1, by omega, by rw [HST.out, HPK.out]; simp only [ByteArray.append_assoc, Sel.two_ne], by go_num, hb7⟩
            case measure => simp [intOf]; omega
          · have hd0 : ((k : Int) == 0) = false := by rw [beq_eq_false_iff_ne]; omega
            have HPK := Lib.hid (show Sel.part k (mn, mv, false) = ⟨#[44]⟩ ++ mn ++ ⟨#[61]⟩ ++ Sel.qB mv by unfold Sel.part Sel.btw; rw [if_neg hk0]; rfl)
            clear hk0
            rw [HQ.out] at HPK
            have n1 : ¬ 9223372036854775807 < t.size + 1 := by omega
            have n2 : ¬ 9223372036854775807 < t.size + 1 + mn.size := by omega
            have n3 : ¬ 9223372036854775807 < t.size + 1 + mn.size + 1 := by omega
            have n4 : ¬ 9223372036854775807 < t.size + 1 + mn.size + 1 + 1 := by omega
            have n5 : ¬ 9223372036854775807 < t.size + 1 + mn.size + 1 + q.size := by omega
            have n6 : ¬ 9223372036854775807 < t.size + 1 + mn.size + 1 + 1 + q.size := by omega
            go_wp2_with fail
            refine (rQuote_is mv q HQ.out (by omega) _).mono ?_
            rintro e w6 ⟨rfl, hB6⟩
            have hb7 := hb.trans (hB6.mono hbs)
            clear h1 h2 h3 u1
            go_wp2
            go_roundw
            case rel => exact ⟨k + 1, by omega, by rw [HST.out, HPK.out]; simp only [ByteArray.append_assoc, Sel.two_ne], by go_num, hb7⟩
            case measure => simp [intOf]; omega
        · by_cases hk0 : k = 0
          · have hd0 : ((k : Int) == 0) = true := by rw [beq_iff_eq]; omega
            have HPK := Lib.hid (show Sel.part k (mn, mv, true) = ⟨#[123]⟩ ++ mn ++ ⟨#[33, 61]⟩ ++ Sel.qB mv by unfold Sel.part Sel.btw; rw [if_pos hk0]; rfl)
            clear hk0
            rw [HQ.out] at HPK
            have n1 : ¬ 9223372036854775807 < t.size + 1 := by omega
            have n2 : ¬ 9223372036854775807 < t.size + 1 + mn.size := by omega
            have n3 : ¬ 9223372036854775807 < t.size + 1 + mn.size + 1 := by omega
            have n4 : ¬ 9223372036854775807 < t.size + 1 + mn.size + 1 + 1 := by omega
            have n5 : ¬ 9223372036854775807 < t.size + 1 + mn.size + 1 + q.size := by omega
            have n6 : ¬ 9223372036854775807 < t.size + 1 + mn.size + 1 + 1 + q.size := by omega
            go_wp2_with fail
            refine (rQuote_is mv q HQ.out (by omega) _).mono ?_
            rintro e w6 ⟨rfl, hB6⟩
            have hb7 := hb.trans (hB6.mono hbs)
            clear h1 h2 h3 u1
            go_wp2
            go_roundw
            case rel => exact ⟨k + 1, by omega, by rw [HST.out, HPK.out]; simp only [ByteArray.append_assoc, Sel.two_ne], by go_num, hb7⟩
            case measure => simp [intOf]; omega
          · have hd0 : ((k : Int) == 0) = false := by rw [beq_eq_false_iff_ne]; omega
            have HPK := Lib.hid (show Sel.part k (mn, mv, true) = ⟨#[44]⟩ ++ mn ++ ⟨#[33, 61]⟩ ++ Sel.qB mv by unfold Sel.part Sel.btw; rw [if_neg hk0]; rfl)
            clear hk0
            rw [HQ.out] at HPK
            have n1 : ¬ 9223372036854775807 < t.size + 1 := by omega
            have n2 : ¬ 9223372036854775807 < t.size + 1 + mn.size := by omega
            have n3 : ¬ 9223372036854775807 < t.size + 1 + mn.size + 1 := by omega
            have n4 : ¬ 9223372036854775807 < t.size + 1 + mn.size + 1 + 1 := by omega
            have n5 : ¬ 9223372036854775807 < t.size + 1 + mn.size + 1 + q.size := by omega
            have n6 : ¬ 9223372036854775807 < t.size + 1 + mn.size + 1 + 1 + q.size := by omega
            go_wp2_with fail
            refine (rQuote_is mv q HQ.out (by omega) _).mono ?_
            rintro e w6 ⟨rfl, hB6⟩
            have hb7 := hb.trans (hB6.mono hbs)
            clear h1 h2 h3 u1
            go_wp2
            go_roundw
            case rel => exact ⟨k + 1, by omega, by rw [HST.out, HPK.out]; simp only [ByteArray.append_assoc, Sel.two_ne], by go_num, hb7⟩
            case measure => simp [intOf]; omega
      · obtain rfl : k = n := by omega
        have hdk : decide (k < k) = false := decide_eq_false (by omega)
        by_cases hk0 : k = 0
        · have hF2 := HF.out
          rw [if_pos hk0] at hF2
          have HF2 := Lib.hid (show Sel.print nm ms = Sel.textTo nm ms k by rw [hF2, hk0]; rfl)
          have hdz : decide (0 < k) = false := decide_eq_false (by omega)
          obtain ⟨t, ht⟩ : ∃ t, Sel.textTo nm ms k = t := ⟨_, rfl⟩
          rw [ht] at hts HF2 ⊢
          clear ht hk0 hF2
          go_wp2
          go_ret
          exact ⟨by rw [HF2.out]; rfl, hB⟩
        · have hF2 := HF.out
          rw [if_neg hk0] at hF2
          have HF2 := Lib.hid hF2
          have hdz : decide (0 < k) = true := decide_eq_true (by omega)
          obtain ⟨t, ht⟩ : ∃ t, Sel.textTo nm ms k = t := ⟨_, rfl⟩
          rw [ht] at hts HF2 ⊢
          have hns2 : ¬ 9223372036854775807 < t.size + 1 := by omega
          clear ht hk0 hF2
          go_wp2
          go_ret
          exact ⟨by rw [HF2.out]; rfl, hB⟩
end Go.Proofs.YtbdochcajpempaaDoor
