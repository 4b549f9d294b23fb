/- The walks of sel's Fits and of the reference's Fits. -/
import Derived.Test.YtidfiiogjfpfmaaSelG
namespace Go.Proofs.Ytidfiiogjfpfmaa
open Go.RowKit
set_option linter.unusedSimpArgs false
set_option linter.unusedVariables false

namespace Sel
def nameL : ByteArray := ⟨#[95, 95, 110, 97, 109, 101, 95, 95]⟩
/-- does a label's value stand as it is asked? -/
def okV (v : ByteArray) (m : Mt) : Bool := !((v.toList == m.2.1.toList) == m.2.2)
def fitAt (l : List Lab.Pr) (ms : List Mt) (k : Nat) : Bool :=
  match ms[k]? with
  | none => true
  | some m => okV ((Lab.get l m.1).getD ⟨#[]⟩) m
def headFit (nm : ByteArray) (l : List Lab.Pr) : Bool :=
  match Lab.get l nameL with
  | none => false
  | some v => v.toList == nm.toList
/-- do labels fit? -/
def fits (nm : ByteArray) (ms : List Mt) (l : List Lab.Pr) : Bool := Lab.selSane nm ms && Lab.sane l && headFit nm l && Lab.allTo (fitAt l ms) ms.length
theorem fitAt_is {l : List Lab.Pr} {ms : List Mt} {k : Nat} {m : Mt} (h : ms[k]? = some m) : fitAt l ms k = okV ((Lab.get l m.1).getD ⟨#[]⟩) m := by
  unfold fitAt
  rw [h]
end Sel

set_option maxRecDepth 100000 in
set_option maxHeartbeats 8000000 in
theorem fits_any (nm : ByteArray) (hnms : nm.size ≤ 9223372036854775807) (A : Option Addr) (n c : Nat) (ms : List Lab.Mt) (B : Option Addr) (n2 c2 : Nat) (l : List Lab.Pr) (w : World) (hm : Mts w w.heap.size A n c ms) (hp : Prs w w.heap.size B n2 c2 l) :
    Calls Try.prog 20 #[.agg #[.string nm, .slice A n c], .slice B n2 c2] w fun e w' => e = .returned (.bool (Sel.fits nm ms l)) ∧ Below w.heap.size w w' := by
  have HM := Lib.hid hm
  have HP := Lib.hid hp
  have hcap := Nat.le_trans hm.1.2.1 hm.1.2.2.1
  have HL := Lib.hid hm.len
  clear hm hp
  rcases hs : Lab.selSane nm ms with _ | _
  · have HS := Lib.hid hs
    have HF := Lib.hid (show Sel.fits nm ms l = false by unfold Sel.fits; rw [hs]; rfl)
    clear hs
    go_enter Try.func20, Try.ntmps20
    go_wp2_with fail
    have hB1 := (Below.refl w.heap.size w).alloc (Nat.le_refl _) (.cells #[.string nm, .slice A n c] 43)
    have hblk := (Mem.Blk.new w 43 #[.string nm, .slice A n c])
    have hlt1 : w.heap.size < (w.alloc (.cells #[.string nm, .slice A n c] 43)).heap.size := by simp
    have hsz1 : w.heap.size ≤ (w.alloc (.cells #[.string nm, .slice A n c] 43)).heap.size := by simp
    obtain ⟨W1, hW1⟩ : ∃ W1, W1 = w.alloc (.cells #[.string nm, .slice A n c] 43) := ⟨_, rfl⟩
    rw [← hW1] at hB1 hblk hlt1 hsz1 ⊢
    clear hW1
    have HBLK := Lib.hid hblk
    clear hblk
    have u0 : W1.cell? ⟨w.heap.size, 0, none⟩ = some (.string nm) := HBLK.out.cell 0
    have u1 : W1.cell? ⟨w.heap.size, 1, none⟩ = some (.slice A n c) := HBLK.out.cell 1
    have HM1 := Lib.hid ((HM.out.below hB1).more hsz1)
    have HP1 := Lib.hid ((HP.out.below hB1).more hsz1)
    go_wp2_with fail
    have hx := selSane_any nm A n c ms W1 HM1.out
    rw [HS.out] at hx
    refine hx.mono ?_
    rintro e w2 ⟨rfl, hb2⟩
    have HB2 := Lib.hid (hB1.trans (hb2.mono hsz1))
    have u0 := (hb2.cell (p := ⟨w.heap.size, 0, none⟩) hlt1).trans u0
    have u1 := (hb2.cell (p := ⟨w.heap.size, 1, none⟩) hlt1).trans u1
    have hlt2 := Nat.lt_of_lt_of_le hlt1 hb2.size
    have HP2 := Lib.hid (HP1.out.later hb2)
    have HM2 := Lib.hid (HM1.out.later hb2)
    clear hb2
    go_wp2
    go_ret
    exact ⟨by rw [HF.out]; rfl, HB2.out⟩
  · rcases hs2 : Lab.sane l with _ | _
    · have HS := Lib.hid hs
      have HS2 := Lib.hid hs2
      have HF := Lib.hid (show Sel.fits nm ms l = false by unfold Sel.fits; rw [hs, hs2]; rfl)
      clear hs hs2
      go_enter Try.func20, Try.ntmps20
      go_wp2_with fail
      have hB1 := (Below.refl w.heap.size w).alloc (Nat.le_refl _) (.cells #[.string nm, .slice A n c] 43)
      have hblk := (Mem.Blk.new w 43 #[.string nm, .slice A n c])
      have hlt1 : w.heap.size < (w.alloc (.cells #[.string nm, .slice A n c] 43)).heap.size := by simp
      have hsz1 : w.heap.size ≤ (w.alloc (.cells #[.string nm, .slice A n c] 43)).heap.size := by simp
      obtain ⟨W1, hW1⟩ : ∃ W1, W1 = w.alloc (.cells #[.string nm, .slice A n c] 43) := ⟨_, rfl⟩
      rw [← hW1] at hB1 hblk hlt1 hsz1 ⊢
      clear hW1
      have HBLK := Lib.hid hblk
      clear hblk
      have u0 : W1.cell? ⟨w.heap.size, 0, none⟩ = some (.string nm) := HBLK.out.cell 0
      have u1 : W1.cell? ⟨w.heap.size, 1, none⟩ = some (.slice A n c) := HBLK.out.cell 1
      have HM1 := Lib.hid ((HM.out.below hB1).more hsz1)
      have HP1 := Lib.hid ((HP.out.below hB1).more hsz1)
      go_wp2_with fail
      have hx := selSane_any nm A n c ms W1 HM1.out
      rw [HS.out] at hx
      refine hx.mono ?_
      rintro e w2 ⟨rfl, hb2⟩
      have HB2 := Lib.hid (hB1.trans (hb2.mono hsz1))
      have u0 := (hb2.cell (p := ⟨w.heap.size, 0, none⟩) hlt1).trans u0
      have u1 := (hb2.cell (p := ⟨w.heap.size, 1, none⟩) hlt1).trans u1
      have hlt2 := Nat.lt_of_lt_of_le hlt1 hb2.size
      have HP2 := Lib.hid (HP1.out.later hb2)
      have HM2 := Lib.hid (HM1.out.later hb2)
      clear hb2
      go_wp2_with fail
      have hx := labSane_any B n2 c2 l w2 HP2.out
      rw [HS2.out] at hx
      refine hx.mono ?_
      rintro e w3 ⟨rfl, hb3⟩
      have HB3 := Lib.hid (HB2.out.trans (hb3.mono HB2.out.size))
      have u0 := (hb3.cell (p := ⟨w.heap.size, 0, none⟩) hlt2).trans u0
      have u1 := (hb3.cell (p := ⟨w.heap.size, 1, none⟩) hlt2).trans u1
      have hlt3 := Nat.lt_of_lt_of_le hlt2 hb3.size
      have HP3 := Lib.hid (HP2.out.later hb3)
      have HM3 := Lib.hid (HM2.out.later hb3)
      clear hb3
      go_wp2
      go_ret
      exact ⟨by rw [HF.out]; rfl, HB3.out⟩
    · have HS := Lib.hid hs
      have HS2 := Lib.hid hs2
      rcases hx : Lab.get l Sel.nameL with _ | v
      · have HX := Lib.hid hx
        have HF := Lib.hid (show Sel.fits nm ms l = false by unfold Sel.fits Sel.headFit; rw [hs, hs2, hx]; rfl)
        clear hs hs2 hx
        go_enter Try.func20, Try.ntmps20
        go_wp2_with fail
        have hB1 := (Below.refl w.heap.size w).alloc (Nat.le_refl _) (.cells #[.string nm, .slice A n c] 43)
        have hblk := (Mem.Blk.new w 43 #[.string nm, .slice A n c])
        have hlt1 : w.heap.size < (w.alloc (.cells #[.string nm, .slice A n c] 43)).heap.size := by simp
        have hsz1 : w.heap.size ≤ (w.alloc (.cells #[.string nm, .slice A n c] 43)).heap.size := by simp
        obtain ⟨W1, hW1⟩ : ∃ W1, W1 = w.alloc (.cells #[.string nm, .slice A n c] 43) := ⟨_, rfl⟩
        rw [← hW1] at hB1 hblk hlt1 hsz1 ⊢
        clear hW1
        have HBLK := Lib.hid hblk
        clear hblk
        have u0 : W1.cell? ⟨w.heap.size, 0, none⟩ = some (.string nm) := HBLK.out.cell 0
        have u1 : W1.cell? ⟨w.heap.size, 1, none⟩ = some (.slice A n c) := HBLK.out.cell 1
        have HM1 := Lib.hid ((HM.out.below hB1).more hsz1)
        have HP1 := Lib.hid ((HP.out.below hB1).more hsz1)
        go_wp2_with fail
        have hx := selSane_any nm A n c ms W1 HM1.out
        rw [HS.out] at hx
        refine hx.mono ?_
        rintro e w2 ⟨rfl, hb2⟩
        have HB2 := Lib.hid (hB1.trans (hb2.mono hsz1))
        have u0 := (hb2.cell (p := ⟨w.heap.size, 0, none⟩) hlt1).trans u0
        have u1 := (hb2.cell (p := ⟨w.heap.size, 1, none⟩) hlt1).trans u1
        have hlt2 := Nat.lt_of_lt_of_le hlt1 hb2.size
        have HP2 := Lib.hid (HP1.out.later hb2)
        have HM2 := Lib.hid (HM1.out.later hb2)
        clear hb2
        go_wp2_with fail
        have hx := labSane_any B n2 c2 l w2 HP2.out
        rw [HS2.out] at hx
        refine hx.mono ?_
        rintro e w3 ⟨rfl, hb3⟩
        have HB3 := Lib.hid (HB2.out.trans (hb3.mono HB2.out.size))
        have u0 := (hb3.cell (p := ⟨w.heap.size, 0, none⟩) hlt2).trans u0
        have u1 := (hb3.cell (p := ⟨w.heap.size, 1, none⟩) hlt2).trans u1
        have hlt3 := Nat.lt_of_lt_of_le hlt2 hb3.size
        have HP3 := Lib.hid (HP2.out.later hb3)
        have HM3 := Lib.hid (HM2.out.later hb3)
        clear hb3
        go_wp2_with fail
        refine (get_is B n2 c2 l Sel.nameL none HX.out w3 HP3.out).mono ?_
        rintro e w4 ⟨rfl, hb4⟩
        have HB4 := Lib.hid (HB3.out.trans (hb4.mono HB3.out.size))
        have u0 := (hb4.cell (p := ⟨w.heap.size, 0, none⟩) hlt3).trans u0
        have u1 := (hb4.cell (p := ⟨w.heap.size, 1, none⟩) hlt3).trans u1
        have hlt4 := Nat.lt_of_lt_of_le hlt3 hb4.size
        have HP4 := Lib.hid (HP3.out.later hb4)
        have HM4 := Lib.hid (HM3.out.later hb4)
        clear hb4
        simp only [getV, Option.getD, Option.isSome]
        go_wp2
        go_ret
        exact ⟨by rw [HF.out]; rfl, HB4.out⟩
      · have HX := Lib.hid hx
        rcases he : (v.toList == nm.toList) with _ | _
        · have HF := Lib.hid (show Sel.fits nm ms l = false by unfold Sel.fits Sel.headFit; rw [hs, hs2, hx]; simp only [he]; rfl)
          clear hs hs2 hx
          go_enter Try.func20, Try.ntmps20
          go_wp2_with fail
          have hB1 := (Below.refl w.heap.size w).alloc (Nat.le_refl _) (.cells #[.string nm, .slice A n c] 43)
          have hblk := (Mem.Blk.new w 43 #[.string nm, .slice A n c])
          have hlt1 : w.heap.size < (w.alloc (.cells #[.string nm, .slice A n c] 43)).heap.size := by simp
          have hsz1 : w.heap.size ≤ (w.alloc (.cells #[.string nm, .slice A n c] 43)).heap.size := by simp
          obtain ⟨W1, hW1⟩ : ∃ W1, W1 = w.alloc (.cells #[.string nm, .slice A n c] 43) := ⟨_, rfl⟩
          rw [← hW1] at hB1 hblk hlt1 hsz1 ⊢
          clear hW1
          have HBLK := Lib.hid hblk
          clear hblk
          have u0 : W1.cell? ⟨w.heap.size, 0, none⟩ = some (.string nm) := HBLK.out.cell 0
          have u1 : W1.cell? ⟨w.heap.size, 1, none⟩ = some (.slice A n c) := HBLK.out.cell 1
          have HM1 := Lib.hid ((HM.out.below hB1).more hsz1)
          have HP1 := Lib.hid ((HP.out.below hB1).more hsz1)
          go_wp2_with fail
          have hx := selSane_any nm A n c ms W1 HM1.out
          rw [HS.out] at hx
          refine hx.mono ?_
          rintro e w2 ⟨rfl, hb2⟩
          have HB2 := Lib.hid (hB1.trans (hb2.mono hsz1))
          have u0 := (hb2.cell (p := ⟨w.heap.size, 0, none⟩) hlt1).trans u0
          have u1 := (hb2.cell (p := ⟨w.heap.size, 1, none⟩) hlt1).trans u1
          have hlt2 := Nat.lt_of_lt_of_le hlt1 hb2.size
          have HP2 := Lib.hid (HP1.out.later hb2)
          have HM2 := Lib.hid (HM1.out.later hb2)
          clear hb2
          go_wp2_with fail
          have hx := labSane_any B n2 c2 l w2 HP2.out
          rw [HS2.out] at hx
          refine hx.mono ?_
          rintro e w3 ⟨rfl, hb3⟩
          have HB3 := Lib.hid (HB2.out.trans (hb3.mono HB2.out.size))
          have u0 := (hb3.cell (p := ⟨w.heap.size, 0, none⟩) hlt2).trans u0
          have u1 := (hb3.cell (p := ⟨w.heap.size, 1, none⟩) hlt2).trans u1
          have hlt3 := Nat.lt_of_lt_of_le hlt2 hb3.size
          have HP3 := Lib.hid (HP2.out.later hb3)
          have HM3 := Lib.hid (HM2.out.later hb3)
          clear hb3
          go_wp2_with fail
          refine (get_is B n2 c2 l Sel.nameL (some v) HX.out w3 HP3.out).mono ?_
          rintro e w4 ⟨rfl, hb4⟩
          have HB4 := Lib.hid (HB3.out.trans (hb4.mono HB3.out.size))
          have u0 := (hb4.cell (p := ⟨w.heap.size, 0, none⟩) hlt3).trans u0
          have u1 := (hb4.cell (p := ⟨w.heap.size, 1, none⟩) hlt3).trans u1
          have hlt4 := Nat.lt_of_lt_of_le hlt3 hb4.size
          have HP4 := Lib.hid (HP3.out.later hb4)
          have HM4 := Lib.hid (HM3.out.later hb4)
          clear hb4
          simp only [getV, Option.getD, Option.isSome]
          go_wp2
          go_ret
          exact ⟨by rw [HF.out]; rfl, HB4.out⟩
        · have HF := Lib.hid (show Sel.fits nm ms l = Lab.allTo (Sel.fitAt l ms) ms.length by unfold Sel.fits Sel.headFit; rw [hs, hs2, hx]; simp only [he]; rfl)
          clear hs hs2 hx
          go_enter Try.func20, Try.ntmps20
          go_wp2_with fail
          have hB1 := (Below.refl w.heap.size w).alloc (Nat.le_refl _) (.cells #[.string nm, .slice A n c] 43)
          have hblk := (Mem.Blk.new w 43 #[.string nm, .slice A n c])
          have hlt1 : w.heap.size < (w.alloc (.cells #[.string nm, .slice A n c] 43)).heap.size := by simp
          have hsz1 : w.heap.size ≤ (w.alloc (.cells #[.string nm, .slice A n c] 43)).heap.size := by simp
          obtain ⟨W1, hW1⟩ : ∃ W1, W1 = w.alloc (.cells #[.string nm, .slice A n c] 43) := ⟨_, rfl⟩
          rw [← hW1] at hB1 hblk hlt1 hsz1 ⊢
          clear hW1
          have HBLK := Lib.hid hblk
          clear hblk
          have u0 : W1.cell? ⟨w.heap.size, 0, none⟩ = some (.string nm) := HBLK.out.cell 0
          have u1 : W1.cell? ⟨w.heap.size, 1, none⟩ = some (.slice A n c) := HBLK.out.cell 1
          have HM1 := Lib.hid ((HM.out.below hB1).more hsz1)
          have HP1 := Lib.hid ((HP.out.below hB1).more hsz1)
          go_wp2_with fail
          have hx := selSane_any nm A n c ms W1 HM1.out
          rw [HS.out] at hx
          refine hx.mono ?_
          rintro e w2 ⟨rfl, hb2⟩
          have HB2 := Lib.hid (hB1.trans (hb2.mono hsz1))
          have u0 := (hb2.cell (p := ⟨w.heap.size, 0, none⟩) hlt1).trans u0
          have u1 := (hb2.cell (p := ⟨w.heap.size, 1, none⟩) hlt1).trans u1
          have hlt2 := Nat.lt_of_lt_of_le hlt1 hb2.size
          have HP2 := Lib.hid (HP1.out.later hb2)
          have HM2 := Lib.hid (HM1.out.later hb2)
          clear hb2
          go_wp2_with fail
          have hx := labSane_any B n2 c2 l w2 HP2.out
          rw [HS2.out] at hx
          refine hx.mono ?_
          rintro e w3 ⟨rfl, hb3⟩
          have HB3 := Lib.hid (HB2.out.trans (hb3.mono HB2.out.size))
          have u0 := (hb3.cell (p := ⟨w.heap.size, 0, none⟩) hlt2).trans u0
          have u1 := (hb3.cell (p := ⟨w.heap.size, 1, none⟩) hlt2).trans u1
          have hlt3 := Nat.lt_of_lt_of_le hlt2 hb3.size
          have HP3 := Lib.hid (HP2.out.later hb3)
          have HM3 := Lib.hid (HM2.out.later hb3)
          clear hb3
          go_wp2_with fail
          refine (get_is B n2 c2 l Sel.nameL (some v) HX.out w3 HP3.out).mono ?_
          rintro e w4 ⟨rfl, hb4⟩
          have HB4 := Lib.hid (HB3.out.trans (hb4.mono HB3.out.size))
          have u0 := (hb4.cell (p := ⟨w.heap.size, 0, none⟩) hlt3).trans u0
          have u1 := (hb4.cell (p := ⟨w.heap.size, 1, none⟩) hlt3).trans u1
          have hlt4 := Nat.lt_of_lt_of_le hlt3 hb4.size
          have HP4 := Lib.hid (HP3.out.later hb4)
          have HM4 := Lib.hid (HM3.out.later hb4)
          clear hb4
          simp only [getV, Option.getD, Option.isSome]
          go_wp2
          clear u0 u1
          go_loopw [35] (fun i wr => ∃ k : Nat, k ≤ n ∧ i = .int .i64 (k : Nat) ∧ Lab.allTo (Sel.fitAt l ms) k = true ∧ Below w4.heap.size w4 wr) (fun i _ => n - (intOf i).toNat)
          case atStart => exact ⟨0, Nat.zero_le _, rfl, rfl, Below.refl _ _⟩
          case round =>
            obtain ⟨k, hk, rfl, hall, hb⟩ := hrel
            have HALL := Lib.hid hall
            clear hall
            have hB := HB4.out.trans (hb.mono HB4.out.size)
            have hbs := hb.size
            have hBs := hB.size
            by_cases hlt : k < n
            · have hdk : decide (k < n) = true := decide_eq_true hlt
              obtain ⟨b, off, rfl, hbB, hcell⟩ := HM4.out.at_ hlt
              obtain ⟨m, hp⟩ : ∃ m, ms[k]? = some m := ⟨_, List.getElem?_eq_getElem (by rw [HL.out]; exact hlt)⟩
              have h1 := (hb.cell (p := ⟨b, off + k * 3, none⟩) hbB).trans (hcell k m hp).1
              have h2 := (hb.cell (p := ⟨b, off + k * 3 + 1, none⟩) hbB).trans (hcell k m hp).2.1
              have h3 := (hb.cell (p := ⟨b, off + k * 3 + 2, none⟩) hbB).trans (hcell k m hp).2.2
              have hat := Sel.fitAt_is (l := l) hp
              obtain ⟨x, hx⟩ : ∃ x, Lab.get l m.1 = x := ⟨_, rfl⟩
              obtain ⟨y, hy⟩ : ∃ y, x.getD ⟨#[]⟩ = y := ⟨_, rfl⟩
              rw [hx, hy] at hat
              have HGX := Lib.hid hx
              have HY := Lib.hid hy
              have HPL := Lib.hid (HP4.out.later hb)
              have HAT := Lib.hid hat
              clear hcell hp hx hy hat
              go_wp2_with fail
              have hb5 := (Below.refl wr.heap.size wr).alloc (Nat.le_refl _) (.cells #[.string m.1, .string m.2.1, .bool m.2.2] 59)
              have hblk5 := Mem.Blk.new wr 59 #[.string m.1, .string m.2.1, .bool m.2.2]
              have hl5 : wr.heap.size < (wr.alloc (.cells #[.string m.1, .string m.2.1, .bool m.2.2] 59)).heap.size := by simp
              refine (get_is B n2 c2 l m.1 x HGX.out _ (HPL.out.later hb5)).mono ?_
              rintro e w5 ⟨rfl, hb6⟩
              have y1 := (hb6.cell (p := ⟨wr.heap.size, 1, none⟩) hl5).trans (hblk5.cell 1)
              have y2 := (hb6.cell (p := ⟨wr.heap.size, 2, none⟩) hl5).trans (hblk5.cell 2)
              simp at y1 y2
              have hb7 : Below w4.heap.size w4 w5 := hb.trans ((hb5.mono hbs).trans (hb6.mono (by simp; omega)))
              have hB7 := HB4.out.trans (hb7.mono HB4.out.size)
              clear hb5 hblk5 hb6 h1 h2 h3
              simp only [getV, HY.out]
              rcases hc : Sel.okV y m with _ | _
              · have hq : ((y.toList == m.2.1.toList) == m.2.2) = true := by unfold Sel.okV at hc; simpa using hc
                have HF2 := Lib.hid (show Sel.fits nm ms l = false by rw [HF.out]; exact Lab.allTo_bad (by rw [HL.out]; exact hlt) (by rw [HAT.out, hc]))
                clear hc
                go_wp2
                go_ret
                exact ⟨by rw [HF2.out]; rfl, hB7⟩
              · have hq : ((y.toList == m.2.1.toList) == m.2.2) = false := by unfold Sel.okV at hc; simpa using hc
                have HS5 := Lib.hid (Lab.allTo_step HALL.out (show Sel.fitAt l ms k = true by rw [HAT.out, hc]))
                clear hc
                go_wp2
                go_roundw
                case rel => exact ⟨k + 1, by omega, by go_num, HS5.out, hb7⟩
                case measure => simp [intOf]; omega
            · obtain rfl : k = n := by omega
              have hdk : decide (k < k) = false := decide_eq_false (by omega)
              go_wp2
              go_ret
              exact ⟨by rw [HF.out, HL.out, HALL.out]; rfl, hB⟩

end Go.Proofs.Ytidfiiogjfpfmaa
