/- The walk of the law SchedAll. -/
import Derived.Test.YthjnhifaejoigaaSchI
namespace Go.Proofs.Ythjnhifaejoigaa
open Go.RowKit
set_option linter.unusedSimpArgs false
set_option linter.unusedVariables false

namespace Sch
theorem orderTo_pre (gs : List Lab.Gr) (ls : List Int) (now : Int) (k d : Nat) : ∃ t, orderTo gs ls now (k + d) = orderTo gs ls now k ++ t := by
  induction d with
  | zero => exact ⟨[], by simp⟩
  | succ d ih =>
    obtain ⟨t, ht⟩ := ih
    rcases hd : dueAt gs ls now (k + d) with _ | _
    · exact ⟨t, by rw [← Nat.add_assoc, orderTo_no hd, ht]⟩
    · exact ⟨t ++ [((k + d : Nat) : Int)], by rw [← Nat.add_assoc, orderTo_yes hd, ht, List.append_assoc]⟩
theorem orderTo_at {gs : List Lab.Gr} {ls : List Int} {now : Int} {k n : Nat} (hk : k < n) (h : dueAt gs ls now k = true) : (orderTo gs ls now n)[(orderTo gs ls now k).length]? = some (k : Int) := by
  obtain ⟨t, ht⟩ := orderTo_pre gs ls now (k + 1) (n - (k + 1))
  rw [show k + 1 + (n - (k + 1)) = n by omega, orderTo_yes h] at ht
  rw [ht, List.append_assoc, List.getElem?_append_right (Nat.le_refl _), Nat.sub_self]
  rfl
end Sch

set_option maxRecDepth 100000 in
set_option maxHeartbeats 16000000 in
theorem schedAll_any (A : Option Addr) (n c : Nat) (gs : List Lab.Gr) (LA : Option Addr) (Ln Lc : Nat) (ls : List Int) (now : Int) (w : World) (h : FiIn w w.heap.size A n c gs) (hL : Recs intCells 1 w w.heap.size LA Ln Lc ls) :
    Calls Try.prog 8 #[.slice A n c, .slice LA Ln Lc, .int .i64 now] w (LawR w) := by
  have HH := Lib.hid h
  have HLS := Lib.hid hL
  have hl := h.1.1
  have hll := hL.1
  have hncap := Nat.le_trans h.1.2.1 h.1.2.2.1
  have hlcap := Nat.le_trans hL.2.1 hL.2.2.1
  have HL := Lib.hid hl
  have HLL := Lib.hid hll
  clear h hL hl hll
  go_enter Try.func8, Try.ntmps8
  go_wp2_with fail
  refine (awake_any w).mono ?_
  rintro e w1 ⟨rfl, hb1⟩
  go_wp2_with fail
  refine (few11_any A n c gs w1 (HH.out.later hb1)).mono ?_
  rintro e w2 ⟨few, rfl, hb2⟩
  have hB2 := hb1.trans (hb2.mono hb1.size)
  rcases few with _ | _
  · go_wp2
    go_ret
    exact ⟨rfl, hB2⟩
  go_wp2_with fail
  rcases hs : Lab.fiSane gs with _ | _
  · refine (fiSane_is A n c gs _ hs w2 (HH.out.later hB2)).mono ?_
    rintro e w3 ⟨rfl, hb3⟩
    go_wp2
    go_ret
    exact ⟨rfl, hB2.trans (hb3.mono hB2.size)⟩
  refine (fiSane_is A n c gs _ hs w2 (HH.out.later hB2)).mono ?_
  rintro e w3 ⟨rfl, hb3⟩
  have hB3 := hB2.trans (hb3.mono hB2.size)
  by_cases h100 : 100 < Ln
  · have hd : decide (100 < Ln) = true := decide_eq_true h100
    go_wp2
    go_ret
    exact ⟨rfl, hB3⟩
  have hd : decide (100 < Ln) = false := decide_eq_false h100
  go_wp2_with fail
  refine (order_any A n c gs LA Ln Lc ls now w3 (HH.out.later hB3) (HLS.out.later hB3)).mono ?_
  rintro e w4 ⟨OA, On, Oc, rfl, hO4, hb4⟩
  have HON := Lib.hid (show Sch.order gs ls now = Sch.orderTo gs ls now n by unfold Sch.order; rw [hs, if_pos rfl, HL.out])
  have hn16 : n ≤ 16 := by
    unfold Lab.fiSane at hs
    rw [HL.out, Bool.and_eq_true, decide_eq_true_eq] at hs
    exact hs.1
  rw [HON.out] at hO4
  have hOb := hO4.1
  have hOl := Sch.orderTo_len gs ls now n
  rw [hOb] at hOl
  have HOB := Lib.hid hOb
  have hO := Lib.hid hO4
  have hB4 := hB3.trans (hb4.mono hB3.size)
  clear hO4 hOb hs
  go_wp2
  go_loopw [9, 10] (fun s9 s10 wr => ∃ (k j : Nat), k ≤ n ∧ (Sch.orderTo gs ls now k).length = j ∧ s10 = .int .i64 (k : Nat) ∧ s9 = .int .i64 (j : Nat) ∧ Below w4.heap.size w4 wr) (fun _ s10 _ => n - (intOf s10).toNat)
  case atStart => exact ⟨0, 0, Nat.zero_le _, rfl, rfl, rfl, Below.refl _ _⟩
  case round =>
    obtain ⟨k, j, hk, hj, rfl, rfl, hbr⟩ := hrel
    have HJ := Lib.hid hj
    have hjk := Sch.orderTo_len gs ls now k
    rw [hj] at hjk
    clear hj
    have hbw := hB4.trans (hbr.mono hB4.size)
    by_cases hlt : k < n
    · have hdk : decide (k < n) = true := decide_eq_true hlt
      obtain ⟨b, off, rfl, hbB, hcell⟩ := HH.out.1.at_ (show 0 < n by omega)
      obtain ⟨r, hp⟩ : ∃ r, gs[k]? = some r := ⟨_, List.getElem?_eq_getElem (by rw [HL.out]; exact hlt)⟩
      have c0 := (hbw.cell (p := ⟨b, off + k * 4, none⟩) hbB).trans (hcell k r hp 0 _ rfl)
      have c1 := (hbw.cell (p := ⟨b, off + k * 4 + 1, none⟩) hbB).trans (hcell k r hp 1 _ rfl)
      have c2 := (hbw.cell (p := ⟨b, off + k * 4 + 2, none⟩) hbB).trans (hcell k r hp 2 _ rfl)
      have c3 := (hbw.cell (p := ⟨b, off + k * 4 + 3, none⟩) hbB).trans (hcell k r hp 3 _ rfl)
      have HGI := Lib.hid ((HH.out.2 r (List.mem_of_getElem? hp)).below hbw)
      have hat := Sch.dueAt_is (ls := ls) (now := now) hp
      have hws : w.heap.size ≤ wr.heap.size := hbw.size
      clear hcell hp
      have hcase : (∃ x, decide (k < Ln) = true ∧ Sch.lastAt ls k = x ∧ ∃ lb lo, LA = some ⟨lb, lo, none⟩ ∧ lb < w.heap.size ∧ w.cell? ⟨lb, lo + k, none⟩ = some (.int .i64 x)) ∨ (decide (k < Ln) = false ∧ Sch.lastAt ls k = -1) := by
        by_cases hkl : k < Ln
        · obtain ⟨x, hx, hxe⟩ := lastAt_in (ls := ls) (k := k) (by rw [HLL.out]; exact hkl)
          obtain ⟨lb, lo, e, hlb, hc⟩ := HLS.out.at_ (show 0 < Ln by omega)
          refine .inl ⟨x, decide_eq_true hkl, hxe, lb, lo, e, hlb, ?_⟩
          have := hc k x hx 0 _ rfl
          rwa [Nat.mul_one, Nat.add_zero] at this
        · exact .inr ⟨decide_eq_false hkl, lastAt_out (by rw [HLL.out]; exact hkl)⟩
      rcases hcase with ⟨x, hdl, hxe, lb, lo, rfl, hlb, hcx⟩ | ⟨hdl, hxe⟩
      · have hkl : k < Ln := of_decide_eq_true hdl
        have hx1 := (hbw.cell (p := ⟨lb, lo + k, none⟩) hlb).trans hcx
        rw [hxe] at hat
        obtain ⟨res, hres⟩ : ∃ d, Sch.dueG r x now = d := ⟨_, rfl⟩
        rw [hres] at hat
        have HDUE := Lib.hid (fun w h => due_is r x now res hres w h)
        have HAT := Lib.hid hat
        clear hat hres hxe hcx
        go_wp2_with fail
        refine (HDUE.out wr ((HGI.out).more hws)).mono ?_
        rintro e w5 ⟨rfl, hb5⟩
        have hb := hbr.trans (hb5.mono hbr.size)
        clear c0 c1 c2 c3
        rcases res with _ | ⟨t, q⟩
        · have HN := Lib.hid (show Sch.orderTo gs ls now (k + 1) = Sch.orderTo gs ls now k from Sch.orderTo_no (by rw [HAT.out]; rfl))
          go_wp2
          go_roundw
          case rel => exact ⟨k + 1, j, by omega, by rw [HN.out]; exact HJ.out, by go_num, rfl, hb⟩
          case measure => simp [intOf]; omega
        · have hdu : Sch.dueAt gs ls now k = true := by rw [HAT.out]; rfl
          have HN := Lib.hid (show Sch.orderTo gs ls now (k + 1) = Sch.orderTo gs ls now k ++ [(k : Int)] from Sch.orderTo_yes hdu)
          have hoj := Sch.orderTo_at (gs := gs) (ls := ls) (now := now) hlt hdu
          rw [HJ.out] at hoj
          have hjn : j < On := by
            have := (List.getElem?_eq_some_iff.1 hoj).1
            rwa [hO.out.1] at this
          have hdj : decide (On ≤ j) = false := decide_eq_false (by omega)
          obtain ⟨ob, oo, rfl, hob, hoc⟩ := hO.out.at_ (show 0 < On by omega)
          have hcj0 := hoc j _ hoj 0 _ rfl
          rw [Nat.mul_one, Nat.add_zero] at hcj0
          have hcj := (hb.cell (p := ⟨ob, oo + j, none⟩) hob).trans hcj0
          have hjw : IntKind.i64.wrap ((j : Int) + 1) = ((j + 1 : Nat) : Int) := by rw [show (j : Int) + 1 = ((j + 1 : Nat) : Int) by omega]; exact IntWalk.i64_in _ (by omega)
          clear hoj hoc hdu
          go_wp2
          go_roundw
          case rel => exact ⟨k + 1, j + 1, by omega, by rw [HN.out, List.length_append, HJ.out]; rfl, by go_num, by go_num, hb⟩
          case measure => simp [intOf]; omega
      · rw [hxe] at hat
        obtain ⟨res, hres⟩ : ∃ d, Sch.dueG r (-1) now = d := ⟨_, rfl⟩
        rw [hres] at hat
        have HDUE := Lib.hid (fun w h => due_is r (-1) now res hres w h)
        have HAT := Lib.hid hat
        clear hat hres hxe
        go_wp2_with fail
        refine (HDUE.out wr ((HGI.out).more hws)).mono ?_
        rintro e w5 ⟨rfl, hb5⟩
        have hb := hbr.trans (hb5.mono hbr.size)
        clear c0 c1 c2 c3
        rcases res with _ | ⟨t, q⟩
        · have HN := Lib.hid (show Sch.orderTo gs ls now (k + 1) = Sch.orderTo gs ls now k from Sch.orderTo_no (by rw [HAT.out]; rfl))
          go_wp2
          go_roundw
          case rel => exact ⟨k + 1, j, by omega, by rw [HN.out]; exact HJ.out, by go_num, rfl, hb⟩
          case measure => simp [intOf]; omega
        · have hdu : Sch.dueAt gs ls now k = true := by rw [HAT.out]; rfl
          have HN := Lib.hid (show Sch.orderTo gs ls now (k + 1) = Sch.orderTo gs ls now k ++ [(k : Int)] from Sch.orderTo_yes hdu)
          have hoj := Sch.orderTo_at (gs := gs) (ls := ls) (now := now) hlt hdu
          rw [HJ.out] at hoj
          have hjn : j < On := by
            have := (List.getElem?_eq_some_iff.1 hoj).1
            rwa [hO.out.1] at this
          have hdj : decide (On ≤ j) = false := decide_eq_false (by omega)
          obtain ⟨ob, oo, rfl, hob, hoc⟩ := hO.out.at_ (show 0 < On by omega)
          have hcj0 := hoc j _ hoj 0 _ rfl
          rw [Nat.mul_one, Nat.add_zero] at hcj0
          have hcj := (hb.cell (p := ⟨ob, oo + j, none⟩) hob).trans hcj0
          have hjw : IntKind.i64.wrap ((j : Int) + 1) = ((j + 1 : Nat) : Int) := by rw [show (j : Int) + 1 = ((j + 1 : Nat) : Int) by omega]; exact IntWalk.i64_in _ (by omega)
          clear hoj hoc hdu
          go_wp2
          go_roundw
          case rel => exact ⟨k + 1, j + 1, by omega, by rw [HN.out, List.length_append, HJ.out]; rfl, by go_num, by go_num, hb⟩
          case measure => simp [intOf]; omega
    · have hdk : decide (k < n) = false := decide_eq_false hlt
      have HE := Lib.hid (show j = On by rw [← HJ.out, ← HOB.out, show k = n by omega])
      clear hlt
      have hdj : ((j : Int) == (On : Int)) = true := by rw [HE.out, beq_iff_eq]
      have hdj2 : decide (j = On) = true := decide_eq_true HE.out
      go_wp2
      go_ret
      exact ⟨rfl, hbw⟩
end Go.Proofs.Ythjnhifaejoigaa
