/- The walk of the reference's Order. -/
import Derived.Test.YthjnhifaejoigaaSchH
namespace Go.Proofs.Ythjnhifaejoigaa
open Go.RowKit
set_option linter.unusedSimpArgs false
set_option linter.unusedVariables false

set_option maxRecDepth 100000 in
set_option maxHeartbeats 16000000 in
theorem rOrder_some (A0 : Option Addr) (n c : Nat) (gs : List Lab.Gr) (LA : Option Addr) (Ln Lc : Nat) (ls : List Int) (now : Int) (hs : Lab.fiSane gs = true) (w : World) (h : FiIn w w.heap.size A0 n c gs) (hL : Recs intCells 1 w w.heap.size LA Ln Lc ls) :
    Calls Try.prog 17 #[.slice A0 n c, .slice LA Ln Lc, .int .i64 now] w (IntsR w (Sch.order gs ls now)) := by
  have HHA := Lib.hid h
  have HLS := Lib.hid hL
  have hl := h.1.1
  have hll := hL.1
  have HL := Lib.hid hl
  have HLL := Lib.hid hll
  obtain ⟨i0, hi, hz0, hz1, hz2⟩ := info_parts infoInt
  have HS := Lib.hid hs
  have HR := Lib.hid (show Sch.order gs ls now = Sch.orderTo gs ls now gs.length by unfold Sch.order; rw [hs, if_pos rfl])
  have hn16 : n ≤ 16 := by
    unfold Lab.fiSane at hs
    rw [hl, Bool.and_eq_true, decide_eq_true_eq] at hs
    exact hs.1
  clear hs h hL hl hll
  go_enter Try.func17, Try.ntmps17
  go_wp2
  go_loopw [7, 8] (fun s7 s8 wr => ∃ (k : Nat), k ≤ n ∧ s8 = .int .i64 (k : Nat) ∧ wr.ownsRow w.heap.size 3 1 s7 (Sch.orderTo gs ls now k).length ((Sch.orderTo gs ls now k).flatMap intCells) ∧ Below w.heap.size w wr) (fun _ s8 _ => n - (intOf s8).toNat)
  case atStart => exact ⟨0, Nat.zero_le _, rfl, ⟨rfl, .inl ⟨rfl, rfl⟩⟩, Below.refl _ _⟩
  case round =>
    obtain ⟨k, hk, rfl, hown, hbr⟩ := hrel
    have HO := Lib.hid hown
    have hxl := Sch.orderTo_len gs ls now k
    clear hown
    have hbw := hbr
    by_cases hlt : k < n
    · have hdk : decide (k < n) = true := decide_eq_true hlt
      obtain ⟨b, off, hA0, hbB, hcell0⟩ := HHA.out.1.at_ (show 0 < n by omega)
      subst hA0
      have hcell := Lib.hid hcell0
      obtain ⟨r, hp⟩ : ∃ r, gs[k]? = some r := ⟨_, List.getElem?_eq_getElem (by rw [HL.out]; exact hlt)⟩
      have HP := Lib.hid hp
      have HGI := Lib.hid (HHA.out.2 r (List.mem_of_getElem? hp))
      have hat := Sch.dueAt_is (ls := ls) (now := now) hp
      clear hcell0 hp
      have hcase : (∃ x, decide (k < Ln) = true ∧ Sch.lastAt ls k = x ∧ ∃ lb lo, LA = some ⟨lb, lo, none⟩ ∧ lb < w.heap.size ∧ w.cell? ⟨lb, lo + k, none⟩ = some (.int .i64 x)) ∨ (decide (k < Ln) = false ∧ Sch.lastAt ls k = -1) := by
        by_cases hkl : k < Ln
        · obtain ⟨x, hx, hxe⟩ := lastAt_in (ls := ls) (k := k) (by rw [HLL.out]; exact hkl)
          obtain ⟨lb, lo, e, hlb, hc⟩ := HLS.out.at_ (show 0 < Ln by omega)
          refine .inl ⟨x, decide_eq_true hkl, hxe, lb, lo, e, hlb, ?_⟩
          have := hc k x hx 0 _ rfl
          rwa [Nat.mul_one, Nat.add_zero] at this
        · exact .inr ⟨decide_eq_false hkl, lastAt_out (by rw [HLL.out]; exact hkl)⟩
      rcases hcase with ⟨x, hdl, hxe, lb, lo, rfl, hlb, hcx⟩ | ⟨hdl, hxe⟩
      · have hkl : k < Ln := of_decide_eq_true hdl
        have HCX := Lib.hid hcx
        rw [hxe] at hat
        obtain ⟨res, hres⟩ : ∃ d, Sch.dueG r x now = d := ⟨_, rfl⟩
        rw [hres] at hat
        have HDUE := Lib.hid (fun w h => rDue_is r x now res hres w h)
        have HAT := Lib.hid hat
        clear hat hres hxe hcx
        go_wp2_with fail
        refine (rFiSane_is _ n c gs true HS.out wr (HHA.out.later hbw)).mono ?_
        rintro e w4 ⟨rfl, hb4⟩
        have hbw4 := hbw.trans (hb4.mono hbw.size)
        have HO := Lib.hid (own_below HO.out hb4)
        have c0 := (hbw4.cell (p := ⟨b, off + k * 4, none⟩) hbB).trans (hcell.out k r HP.out 0 _ rfl)
        have c1 := (hbw4.cell (p := ⟨b, off + k * 4 + 1, none⟩) hbB).trans (hcell.out k r HP.out 1 _ rfl)
        have c2 := (hbw4.cell (p := ⟨b, off + k * 4 + 2, none⟩) hbB).trans (hcell.out k r HP.out 2 _ rfl)
        have c3 := (hbw4.cell (p := ⟨b, off + k * 4 + 3, none⟩) hbB).trans (hcell.out k r HP.out 3 _ rfl)
        have hx1 := (hbw4.cell (p := ⟨lb, lo + k, none⟩) hlb).trans HCX.out
        go_wp2_with fail
        refine (HDUE.out w4 ((HGI.out).later hbw4)).mono ?_
        rintro e w5 ⟨rfl, hb5⟩
        have hb := (hbr.trans (hb4.mono hbr.size)).trans (hb5.mono (hbr.trans (hb4.mono hbr.size)).size)
        have HO := Lib.hid (own_below HO.out hb5)
        clear c0 c1 c2 c3
        rcases res with _ | ⟨t, q⟩
        · have HN := Lib.hid (show Sch.orderTo gs ls now (k + 1) = Sch.orderTo gs ls now k from Sch.orderTo_no (by rw [HAT.out]; rfl))
          go_wp2
          go_roundw
          case rel => exact ⟨k + 1, by omega, by go_num, by rw [HN.out]; exact HO.out, hb⟩
          case measure => simp [intOf]; omega
        · have HN := Lib.hid (show Sch.orderTo gs ls now (k + 1) = Sch.orderTo gs ls now k ++ [(k : Int)] from Sch.orderTo_yes (by rw [HAT.out]; rfl))
          go_wp2_with (at_builtin; refine wpList_append_own _ rfl _ _ 26 rfl w.heap.size 3 i0 (.int .i64 0) 1 8 Try.underlying26 hi hz0 hz1 hz2 rfl (by decide) _ _ _ rfl (HO.out.alloc _) ⟨w5.heap.size, 0, none⟩ 1 1 [.int .i64 (k : Int)] rfl rfl ?c1 ?c2 ?c3 ?c4 ?c5 ?_)
          case c1 =>
            intro j u hj
            match j, hj with
            | 0, hj => simp at hj; subst hj; simp [Addr.add]
          case c2 => intro u hu; simp at hu; subst hu; rfl
          case c3 => unfold maxLen; omega
          case c4 => omega
          case c5 => have := hb.size; simp; omega
          intro v' w5 hown' hgrow _
          have hb5 := (hb.alloc hb.size (.cells #[.int .i64 (k : Int)] 3)).grown hgrow (by have := hb.size; simp; omega) (fun g e => (HO.out.lt g e).1)
          have HOW := Lib.hid hown'
          clear hown'
          go_wp2
          go_roundw
          case rel =>
            refine ⟨k + 1, by omega, by go_num, ?_, hb5⟩
            rw [HN.out, List.length_append, List.flatMap_append]
            exact HOW.out
          case measure => simp [intOf]; omega
      · rw [hxe] at hat
        obtain ⟨res, hres⟩ : ∃ d, Sch.dueG r (-1) now = d := ⟨_, rfl⟩
        rw [hres] at hat
        have HDUE := Lib.hid (fun w h => rDue_is r (-1) now res hres w h)
        have HAT := Lib.hid hat
        clear hat hres hxe
        go_wp2_with fail
        refine (rFiSane_is _ n c gs true HS.out wr (HHA.out.later hbw)).mono ?_
        rintro e w4 ⟨rfl, hb4⟩
        have hbw4 := hbw.trans (hb4.mono hbw.size)
        have HO := Lib.hid (own_below HO.out hb4)
        have c0 := (hbw4.cell (p := ⟨b, off + k * 4, none⟩) hbB).trans (hcell.out k r HP.out 0 _ rfl)
        have c1 := (hbw4.cell (p := ⟨b, off + k * 4 + 1, none⟩) hbB).trans (hcell.out k r HP.out 1 _ rfl)
        have c2 := (hbw4.cell (p := ⟨b, off + k * 4 + 2, none⟩) hbB).trans (hcell.out k r HP.out 2 _ rfl)
        have c3 := (hbw4.cell (p := ⟨b, off + k * 4 + 3, none⟩) hbB).trans (hcell.out k r HP.out 3 _ rfl)
        have hx1 := hbw4
        go_wp2_with fail
        refine (HDUE.out w4 ((HGI.out).later hbw4)).mono ?_
        rintro e w5 ⟨rfl, hb5⟩
        have hb := (hbr.trans (hb4.mono hbr.size)).trans (hb5.mono (hbr.trans (hb4.mono hbr.size)).size)
        have HO := Lib.hid (own_below HO.out hb5)
        clear c0 c1 c2 c3
        rcases res with _ | ⟨t, q⟩
        · have HN := Lib.hid (show Sch.orderTo gs ls now (k + 1) = Sch.orderTo gs ls now k from Sch.orderTo_no (by rw [HAT.out]; rfl))
          go_wp2
          go_roundw
          case rel => exact ⟨k + 1, by omega, by go_num, by rw [HN.out]; exact HO.out, hb⟩
          case measure => simp [intOf]; omega
        · have HN := Lib.hid (show Sch.orderTo gs ls now (k + 1) = Sch.orderTo gs ls now k ++ [(k : Int)] from Sch.orderTo_yes (by rw [HAT.out]; rfl))
          go_wp2_with (at_builtin; refine wpList_append_own _ rfl _ _ 26 rfl w.heap.size 3 i0 (.int .i64 0) 1 8 Try.underlying26 hi hz0 hz1 hz2 rfl (by decide) _ _ _ rfl (HO.out.alloc _) ⟨w5.heap.size, 0, none⟩ 1 1 [.int .i64 (k : Int)] rfl rfl ?c1 ?c2 ?c3 ?c4 ?c5 ?_)
          case c1 =>
            intro j u hj
            match j, hj with
            | 0, hj => simp at hj; subst hj; simp [Addr.add]
          case c2 => intro u hu; simp at hu; subst hu; rfl
          case c3 => unfold maxLen; omega
          case c4 => omega
          case c5 => have := hb.size; simp; omega
          intro v' w5 hown' hgrow _
          have hb5 := (hb.alloc hb.size (.cells #[.int .i64 (k : Int)] 3)).grown hgrow (by have := hb.size; simp; omega) (fun g e => (HO.out.lt g e).1)
          have HOW := Lib.hid hown'
          clear hown'
          go_wp2
          go_roundw
          case rel =>
            refine ⟨k + 1, by omega, by go_num, ?_, hb5⟩
            rw [HN.out, List.length_append, List.flatMap_append]
            exact HOW.out
          case measure => simp [intOf]; omega
    · have hdk : decide (k < n) = false := decide_eq_false hlt
      have hkn : k = n := by omega
      have HKN := Lib.hid hkn
      clear hkn hlt
      go_wp2
      go_ret
      obtain ⟨A5, c5, rfl, hrec⟩ := Recs.of_own (f := intCells) (sz := 1) intCells_len (by decide) HO.out
      refine ⟨A5, _, c5, rfl, ?_, hbw⟩
      rw [HR.out, HL.out, ← HKN.out]
      exact hrec
end Go.Proofs.Ythjnhifaejoigaa
