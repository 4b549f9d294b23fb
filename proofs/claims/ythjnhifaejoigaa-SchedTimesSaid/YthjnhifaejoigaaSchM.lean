/- The walk of the law SchedWalk. -/
import Derived.Test.YthjnhifaejoigaaSchI
namespace Go.Proofs.Ythjnhifaejoigaa
open Go.RowKit
set_option linter.unusedSimpArgs false
set_option linter.unusedVariables false

namespace Sch
theorem cnt_none {I O : Nat} {last now : Int} (h : due I O last now = none) : cnt I O now ≤ cnt I O last := by
  unfold due at h
  split at h
  · assumption
  · cases h
theorem cnt_some {I O : Nat} (h : Good I O) {last now : Int} {T n : Nat} (hd : due I O last now = some (T, n)) :
    cnt I O last + n + 1 = cnt I O now ∧ last < (T : Int) ∧ (T : Int) ≤ now ∧ cnt I O (T : Int) = cnt I O now := by
  unfold due at hd
  split at hd
  · cases hd
  · rename_i hc
    simp only [Option.some.injEq, Prod.mk.injEq] at hd
    obtain ⟨hT, hn⟩ := hd
    have hl := cnt_last h (n := now) (by omega)
    rw [hT] at hl
    have hlt : last < (T : Int) := by
      rcases Int.lt_or_le last (T : Int) with h1 | h1
      · exact h1
      · have := (lt_cnt h (cnt I O now - 1) last).2 ⟨by rw [hT]; exact h1, by rw [hT]; exact hl.2⟩
        omega
    have h1 := (lt_cnt h (cnt I O now - 1) (T : Int)).2 ⟨by rw [hT]; omega, by rw [hT]; exact hl.2⟩
    have h2 := cnt_mono h hl.1
    exact ⟨by omega, hlt, hl.1, by omega⟩
end Sch

set_option maxRecDepth 100000 in
set_option maxHeartbeats 16000000 in
theorem schedWalk_any (g : Lab.Gr) (CA : Option Addr) (Cn Cc : Nat) (cs : List Int) (w : World) (h : GrIn w w.heap.size g) (hC : Recs intCells 1 w w.heap.size CA Cn Cc cs) :
    Calls Try.prog 5 #[.agg #[.string g.nm, .int .i64 g.iv, .int .i64 g.off, .slice g.RA g.Rn g.Rc], .slice CA Cn Cc] w (LawR w) := by
  have HH := Lib.hid h
  have HC := Lib.hid hC
  have hll := hC.1
  have hlcap := Nat.le_trans hC.2.1 hC.2.2.1
  have HLL := Lib.hid hll
  clear h hC hll
  go_enter Try.func5, Try.ntmps5
  go_wp2_with fail
  have hB1 := (Below.refl w.heap.size w).alloc (Nat.le_refl _) (.cells #[.string g.nm, .int .i64 g.iv, .int .i64 g.off, .slice g.RA g.Rn g.Rc] 24)
  have hblk := (Mem.Blk.new w 24 #[.string g.nm, .int .i64 g.iv, .int .i64 g.off, .slice g.RA g.Rn g.Rc])
  have hlt1 : w.heap.size < (w.alloc (.cells #[.string g.nm, .int .i64 g.iv, .int .i64 g.off, .slice g.RA g.Rn g.Rc] 24)).heap.size := by simp
  have hsz1 : w.heap.size ≤ (w.alloc (.cells #[.string g.nm, .int .i64 g.iv, .int .i64 g.off, .slice g.RA g.Rn g.Rc] 24)).heap.size := by simp
  obtain ⟨W1, hW1⟩ : ∃ W1, W1 = w.alloc (.cells #[.string g.nm, .int .i64 g.iv, .int .i64 g.off, .slice g.RA g.Rn g.Rc] 24) := ⟨_, rfl⟩
  rw [← hW1] at hB1 hblk hlt1 hsz1 ⊢
  clear hW1
  have HBLK := Lib.hid hblk
  clear hblk
  have HG := Lib.hid (show GBox W1 w.heap.size g from ⟨HBLK.out.cell 0, HBLK.out.cell 1, HBLK.out.cell 2, HBLK.out.cell 3, hlt1⟩)
  obtain ⟨v0, v1, v2, v3, _⟩ := HG.out
  refine (awake_any W1).mono ?_
  rintro e w2 ⟨rfl, hb2⟩
  have hB2 := hB1.trans (hb2.mono hB1.size)
  clear v0 v1 v2 v3
  have HG := Lib.hid (HG.out.later hb2)
  obtain ⟨v0, v1, v2, v3, hlt2⟩ := HG.out
  go_wp2_with fail
  refine (few_one g w2 (HH.out.later hB2)).mono ?_
  rintro e w3 ⟨few, rfl, hb3⟩
  have hB3 := hB2.trans (hb3.mono hB2.size)
  clear v0 v1 v2 v3
  have HG := Lib.hid (HG.out.later hb3)
  obtain ⟨v0, v1, v2, v3, hlt3⟩ := HG.out
  rcases few with _ | _
  · go_wp2
    go_ret
    exact ⟨rfl, hB3⟩
  go_wp2_with fail
  rcases hs : Lab.grSane g with _ | _
  · refine (sane_one g false hs w3 (HH.out.later hB3)).mono ?_
    rintro e w4 ⟨rfl, hb4⟩
    have hB4 := hB3.trans (hb4.mono hB3.size)
    clear v0 v1 v2 v3
    have HG := Lib.hid (HG.out.later hb4)
    obtain ⟨v0, v1, v2, v3, hlt4⟩ := HG.out
    go_wp2
    go_ret
    exact ⟨rfl, hB4⟩
  refine (sane_one g true hs w3 (HH.out.later hB3)).mono ?_
  rintro e w4 ⟨rfl, hb4⟩
  have hB4 := hB3.trans (hb4.mono hB3.size)
  clear v0 v1 v2 v3
  have HG := Lib.hid (HG.out.later hb4)
  obtain ⟨v0, v1, v2, v3, hlt4⟩ := HG.out
  by_cases h100 : 100 < Cn
  · have hd : decide (100 < Cn) = true := decide_eq_true h100
    go_wp2
    go_ret
    exact ⟨rfl, hB4⟩
  have hd : decide (100 < Cn) = false := decide_eq_false h100
  obtain ⟨I, O, hI, hO, hg⟩ := good_of hs
  have HDG := Lib.hid (fun a b => Sch.dueG_is hs hI hO a b)
  clear hs hI hO
  go_wp2
  clear v0 v1 v2 v3
  go_loopw [6, 7, 8, 9] (fun s6 s7 s8 s9 wr => ∃ (k C : Nat) (L N : Int), k ≤ Cn ∧ s9 = .int .i64 (k : Nat) ∧ s6 = .int .i64 L ∧ s7 = .int .i64 (C : Nat) ∧ s8 = .int .i64 N ∧ Sch.cnt I O L = C ∧ Sch.cnt I O N = C ∧ Below w4.heap.size w4 wr) (fun _ _ _ s9 _ => Cn - (intOf s9).toNat)
  case atStart => exact ⟨0, 0, -1, -1, Nat.zero_le _, rfl, rfl, rfl, rfl, Sch.cnt_neg _ (by omega), Sch.cnt_neg _ (by omega), Below.refl _ _⟩
  case round =>
    obtain ⟨k, C, L, N, hk, rfl, rfl, rfl, rfl, hcl, hcn, hbr⟩ := hrel
    have HCL := Lib.hid hcl
    have HCN := Lib.hid hcn
    clear hcl hcn
    have hbw := hB4.trans (hbr.mono hB4.size)
    have HGR := Lib.hid (HG.out.later hbr)
    obtain ⟨v0, v1, v2, v3, hltr⟩ := HGR.out
    by_cases hlt : k < Cn
    · have hdk : decide (k < Cn) = true := decide_eq_true hlt
      obtain ⟨b, off, rfl, hbB, hcell⟩ := HC.out.at_ (show 0 < Cn by omega)
      obtain ⟨x, hp⟩ : ∃ x, cs[k]? = some x := ⟨_, List.getElem?_eq_getElem (by rw [HLL.out]; exact hlt)⟩
      have hcx0 := hcell k x hp 0 _ rfl
      rw [Nat.mul_one, Nat.add_zero] at hcx0
      have hcx := (hbw.cell (p := ⟨b, off + k, none⟩) hbB).trans hcx0
      clear hcell hp hcx0
      by_cases hNx : N < x
      · have hmx : max N x = x := by omega
        have hmd : decide (N < x) = true := decide_eq_true hNx
        have hmono := Sch.cnt_mono hg (show N ≤ x by omega)
        obtain ⟨res, hres⟩ : ∃ d, Sch.due I O L (x) = d := ⟨_, rfl⟩
        have HDUE := Lib.hid (fun w h => due_is g L (x) res ((HDG.out L (x)).trans hres) w h)
        have HR := Lib.hid hres
        clear hres
        go_wp2_with fail
        refine (HDUE.out wr (HH.out.later hbw)).mono ?_
        rintro e w7 ⟨rfl, hb7⟩
        have hb := hbr.trans (hb7.mono hbr.size)
        clear v0 v1 v2 v3 hcx
        rcases res with _ | ⟨t, q⟩
        · have hc := Sch.cnt_none HR.out
          have HN := Lib.hid (show Sch.cnt I O (x) = C by have := HCN.out; have := HCL.out; omega)
          clear hc hmono
          go_wp2
          go_roundw
          case rel => exact ⟨k + 1, C, L, x, by omega, by go_num, rfl, rfl, rfl, HCL.out, HN.out, hb⟩
          case measure => simp [intOf]; omega
        · obtain ⟨hc1, hc2, hc3, hc4⟩ := Sch.cnt_some hg HR.out
          have hcb := Sch.cnt_bound hg (x)
          have hcb2 : Sch.cnt I O (x) ≤ 9007199254740993 := hcb
          have hC1 : C + q + 1 = Sch.cnt I O (x) := by have := HCL.out; omega
          have hdt : decide ((t : Int) ≤ L) = false := decide_eq_false (by omega)
          have HX := Lib.hid (show Sch.cnt I O (t : Int) = C + q + 1 by rw [hC1]; exact hc4)
          have HY := Lib.hid (show Sch.cnt I O (x) = C + q + 1 from hC1.symm)
          have hs1 : IntKind.i64.wrap ((C : Int) + (q : Int)) = (C : Int) + (q : Int) := IntWalk.i64_in _ (by omega)
          have hs2 : IntKind.i64.wrap ((C : Int) + (q : Int) + 1) = ((C + q + 1 : Nat) : Int) := by rw [show (C : Int) + (q : Int) + 1 = ((C + q + 1 : Nat) : Int) by omega]; exact IntWalk.i64_in _ (by omega)
          rw [show Sch.d1 (some (t, q)) = (t : Int) from rfl, show Sch.d2 (some (t, q)) = (q : Int) from rfl]
          clear hc1 hc2 hc3 hc4 hcb hcb2 hC1 hmono
          go_wp2
          go_roundw
          case rel => exact ⟨k + 1, C + q + 1, t, x, by omega, by go_num, rfl, rfl, rfl, HX.out, HY.out, hb⟩
          case measure => simp [intOf]; omega
      · have hmx : max N x = N := by omega
        have hmd : decide (N < x) = false := decide_eq_false hNx
        have hmono := Sch.cnt_mono hg (show N ≤ N by omega)
        obtain ⟨res, hres⟩ : ∃ d, Sch.due I O L (N) = d := ⟨_, rfl⟩
        have HDUE := Lib.hid (fun w h => due_is g L (N) res ((HDG.out L (N)).trans hres) w h)
        have HR := Lib.hid hres
        clear hres
        go_wp2_with fail
        refine (HDUE.out wr (HH.out.later hbw)).mono ?_
        rintro e w7 ⟨rfl, hb7⟩
        have hb := hbr.trans (hb7.mono hbr.size)
        clear v0 v1 v2 v3 hcx
        rcases res with _ | ⟨t, q⟩
        · have hc := Sch.cnt_none HR.out
          have HN := Lib.hid (show Sch.cnt I O (N) = C by have := HCN.out; have := HCL.out; omega)
          clear hc hmono
          go_wp2
          go_roundw
          case rel => exact ⟨k + 1, C, L, N, by omega, by go_num, rfl, rfl, rfl, HCL.out, HN.out, hb⟩
          case measure => simp [intOf]; omega
        · obtain ⟨hc1, hc2, hc3, hc4⟩ := Sch.cnt_some hg HR.out
          have hcb := Sch.cnt_bound hg (N)
          have hcb2 : Sch.cnt I O (N) ≤ 9007199254740993 := hcb
          have hC1 : C + q + 1 = Sch.cnt I O (N) := by have := HCL.out; omega
          have hdt : decide ((t : Int) ≤ L) = false := decide_eq_false (by omega)
          have HX := Lib.hid (show Sch.cnt I O (t : Int) = C + q + 1 by rw [hC1]; exact hc4)
          have HY := Lib.hid (show Sch.cnt I O (N) = C + q + 1 from hC1.symm)
          have hs1 : IntKind.i64.wrap ((C : Int) + (q : Int)) = (C : Int) + (q : Int) := IntWalk.i64_in _ (by omega)
          have hs2 : IntKind.i64.wrap ((C : Int) + (q : Int) + 1) = ((C + q + 1 : Nat) : Int) := by rw [show (C : Int) + (q : Int) + 1 = ((C + q + 1 : Nat) : Int) by omega]; exact IntWalk.i64_in _ (by omega)
          rw [show Sch.d1 (some (t, q)) = (t : Int) from rfl, show Sch.d2 (some (t, q)) = (q : Int) from rfl]
          clear hc1 hc2 hc3 hc4 hcb hcb2 hC1 hmono
          go_wp2
          go_roundw
          case rel => exact ⟨k + 1, C + q + 1, t, N, by omega, by go_num, rfl, rfl, rfl, HX.out, HY.out, hb⟩
          case measure => simp [intOf]; omega
    · have hdk : decide (k < Cn) = false := decide_eq_false hlt
      clear hlt
      obtain ⟨res, hres⟩ : ∃ d, Sch.due I O (-1) N = d := ⟨_, rfl⟩
      have HDUE := Lib.hid (fun w h => due_is g (-1) N res ((HDG.out (-1) N).trans hres) w h)
      have HR := Lib.hid hres
      clear hres
      go_wp2_with fail
      refine (HDUE.out wr (HH.out.later hbw)).mono ?_
      rintro e w7 ⟨rfl, hb7⟩
      have hb := hbw.trans (hb7.mono hbw.size)
      clear v0 v1 v2 v3
      have hm1 : Sch.cnt I O (-1) = 0 := Sch.cnt_neg _ (by omega)
      rcases res with _ | ⟨t, q⟩
      · have hc := Sch.cnt_none HR.out
        have hC0 : C = 0 := by have := HCN.out; omega
        clear hm1 hc HCL HCN
        subst hC0
        go_wp2
        go_ret
        exact ⟨rfl, hb⟩
      · obtain ⟨hc1, hc2, hc3, hc4⟩ := Sch.cnt_some hg HR.out
        have hcb := Sch.cnt_bound hg N
        have hcb2 : Sch.cnt I O N ≤ 9007199254740993 := hcb
        have hCq : C = q + 1 := by have := HCN.out; omega
        have hqb : q ≤ 9007199254740993 := by omega
        clear hm1 hc1 hc2 hc3 hc4 hcb hcb2 HCL HCN
        subst hCq
        have hs1 : IntKind.i64.wrap ((q : Int) + 1) = ((q + 1 : Nat) : Int) := by rw [show (q : Int) + 1 = ((q + 1 : Nat) : Int) by omega]; exact IntWalk.i64_in _ (by omega)
        rw [show Sch.d1 (some (t, q)) = (t : Int) from rfl, show Sch.d2 (some (t, q)) = (q : Int) from rfl]
        go_wp2
        go_ret
        exact ⟨rfl, hb⟩
end Go.Proofs.Ythjnhifaejoigaa
