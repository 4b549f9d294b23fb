/- The walk of the reference's Times. -/
import Derived.Test.YthjnhifaejoigaaSchQ
namespace Go.Proofs.Ythjnhifaejoigaa
open Go.RowKit
set_option linter.unusedSimpArgs false
set_option linter.unusedVariables false

set_option maxRecDepth 100000 in
set_option maxHeartbeats 16000000 in
theorem rTimes_some (nm : ByteArray) (I O : Nat) (RA : Option Addr) (Rn Rc : Nat) (rs : List Lab.Ru) (hs : Lab.grSane ⟨nm, (I : Int), (O : Int), RA, Rn, Rc, rs⟩ = true) (hg : Sch.Good I O) (last now : Int) (w : World) (h : GrIn w w.heap.size ⟨nm, (I : Int), (O : Int), RA, Rn, Rc, rs⟩) :
    Calls Try.prog 19 #[.agg #[.string nm, .int .i64 (I : Int), .int .i64 (O : Int), .slice RA Rn Rc], .int .i64 last, .int .i64 now] w (IntsR w (Sch.times I O last now)) := by
  have HH := Lib.hid h
  have HS := Lib.hid hs
  obtain ⟨i0, hi, hz0, hz1, hz2⟩ := info_parts infoInt
  obtain ⟨cl, hcl⟩ : ∃ cl, cl = Sch.cnt I O last := ⟨_, rfl⟩
  obtain ⟨cn, hcn⟩ : ∃ cn, cn = Sch.cnt I O now := ⟨_, rfl⟩
  obtain ⟨N, hN⟩ : ∃ N, N = min 200 (cn - cl) := ⟨_, rfl⟩
  have HRES := Lib.hid (show Sch.times I O last now = (List.range N).map (fun i => ((O + (cl + i) * I : Nat) : Int)) by rw [hN, hcn, hcl]; rfl)
  have HCL := Lib.hid hcl.symm
  have HCN := Lib.hid hcn.symm
  have HN := Lib.hid hN
  have HGD := Lib.hid hg
  have hcb := Sch.cnt_bound hg last
  have hcb2 : Sch.cnt I O last ≤ 9007199254740993 := hcb
  have HCB := Lib.hid (show cl ≤ 9007199254740993 by omega)
  have HBEL := Lib.hid (fun w => below_is ⟨nm, (I : Int), (O : Int), RA, Rn, Rc, rs⟩ I O rfl rfl hg now cn hcn.symm w)
  have HBEL2 := Lib.hid (fun w => below_is ⟨nm, (I : Int), (O : Int), RA, Rn, Rc, rs⟩ I O rfl rfl hg last cl hcl.symm w)
  have hneg := fun h => Sch.cnt_neg (I := I) (O := O) last h
  rw [← hcl] at hneg
  have HNEG := Lib.hid hneg
  clear h hs hg hcl hcn hN hcb hcb2 hneg
  go_enter Try.func19, Try.ntmps19
  go_wp2_with fail
  have hB1 := (Below.refl w.heap.size w).alloc (Nat.le_refl _) (.cells #[.string nm, .int .i64 (I : Int), .int .i64 (O : Int), .slice RA Rn Rc] 24)
  have hblk := (Mem.Blk.new w 24 #[.string nm, .int .i64 (I : Int), .int .i64 (O : Int), .slice RA Rn Rc])
  have hlt1 : w.heap.size < (w.alloc (.cells #[.string nm, .int .i64 (I : Int), .int .i64 (O : Int), .slice RA Rn Rc] 24)).heap.size := by simp
  have hsz1 : w.heap.size ≤ (w.alloc (.cells #[.string nm, .int .i64 (I : Int), .int .i64 (O : Int), .slice RA Rn Rc] 24)).heap.size := by simp
  obtain ⟨W1, hW1⟩ : ∃ W1, W1 = w.alloc (.cells #[.string nm, .int .i64 (I : Int), .int .i64 (O : Int), .slice RA Rn Rc] 24) := ⟨_, rfl⟩
  rw [← hW1] at hB1 hblk hlt1 hsz1 ⊢
  clear hW1
  have HBLK := Lib.hid hblk
  clear hblk
  have HG := Lib.hid (show GBox W1 w.heap.size ⟨nm, (I : Int), (O : Int), RA, Rn, Rc, rs⟩ from ⟨HBLK.out.cell 0, HBLK.out.cell 1, HBLK.out.cell 2, HBLK.out.cell 3, hlt1⟩)
  obtain ⟨v0, v1, v2, v3, _⟩ := HG.out
  refine (has_is ⟨nm, (I : Int), (O : Int), RA, Rn, Rc, rs⟩ true HS.out W1 (HH.out.later hB1)).mono ?_
  rintro e w3 ⟨rfl, hb3⟩
  have hB3 := hB1.trans (hb3.mono hB1.size)
  clear v0 v1 v2 v3
  have HG := Lib.hid (HG.out.later hb3)
  obtain ⟨v0, v1, v2, v3, hlt3⟩ := HG.out
  simp only at v0 v1 v2 v3
  by_cases hl0 : 0 ≤ last
  · have hd0 : decide (0 ≤ last) = true := decide_eq_true hl0
    go_wp2_with fail
    refine (HBEL2.out w3).mono ?_
    rintro e w2 ⟨rfl, hb2⟩
    have hB2 := hB3.trans (hb2.mono hB3.size)
    clear v0 v1 v2 v3
    have HG := Lib.hid (HG.out.later hb2)
    obtain ⟨v0, v1, v2, v3, hlt2⟩ := HG.out
    simp only at v0 v1 v2 v3
    go_wp2
    clear v0 v1 v2 v3
    go_loopw [7, 8] (fun s7 s8 wr => ∃ (j kk : Nat) (xs : List Int), j ≤ N ∧ kk = cl + j ∧ xs.length = j ∧ s8 = .int .i64 (kk : Nat) ∧ xs = (List.range j).map (fun i => ((O + (cl + i) * I : Nat) : Int)) ∧ wr.ownsRow w2.heap.size 3 1 s7 xs.length (xs.flatMap intCells) ∧ Below w2.heap.size w2 wr) (fun _ s8 _ => N + cl - (intOf s8).toNat)
    case atStart => exact ⟨0, cl, [], Nat.zero_le _, rfl, rfl, rfl, rfl, ⟨rfl, .inl ⟨rfl, rfl⟩⟩, Below.refl _ _⟩
    case round =>
      obtain ⟨j, kk, xs, hjN, hkk, hxl, rfl, hxs, hown, hbr⟩ := hrel
      obtain ⟨A7, c7, hu7, hrec7⟩ := Recs.of_own (f := intCells) (sz := 1) intCells_len (by decide) hown
      subst hu7
      clear hrec7
      have HO := Lib.hid hown
      have HXS := Lib.hid hxs
      have HXL := Lib.hid hxl
      have HKK := Lib.hid hkk
      clear hown hxs hkk
      have HGR := Lib.hid (HG.out.later hbr)
      obtain ⟨v0, v1, v2, v3, hltr⟩ := HGR.out
      simp only at v0 v1 v2 v3
      by_cases hj : j < 200
      · have hd1 : decide ((xs.length : Int) < 200) = true := decide_eq_true (by omega)
        clear hxl
        go_wp2_with fail
        refine (HBEL.out wr).mono ?_
        rintro e w5 ⟨rfl, hb5⟩
        have hb := hbr.trans (hb5.mono hbr.size)
        have HO := Lib.hid (own_below HO.out hb5)
        clear v0 v1 v2 v3
        have HG5 := Lib.hid (HGR.out.later hb5)
        obtain ⟨v0, v1, v2, v3, hlt5⟩ := HG5.out
        simp only at v0 v1 v2 v3
        by_cases hkc : kk < cn
        · have hd2 : decide (kk < cn) = true := decide_eq_true hkc
          have hjn : j < N := by have := HN.out; have := HKK.out; omega
          have htm := ((Sch.lt_cnt HGD.out kk now).1 (by rw [HCN.out]; exact hkc)).2
          obtain ⟨p, hp⟩ : ∃ p, p = kk * I := ⟨_, rfl⟩
          have hpO : O + p ≤ 9007199254740992 := by rw [hp]; exact htm
          have hpi : (kk : Int) * (I : Int) = (p : Int) := by rw [hp, Int.natCast_mul]
          have hw1 : IntKind.i64.wrap (p : Int) = (p : Int) := IntWalk.i64_in _ (by omega)
          have hw2 : IntKind.i64.wrap ((O : Int) + (p : Int)) = (O : Int) + (p : Int) := IntWalk.i64_in _ (by omega)
          have hkb : kk ≤ 9007199254741200 := by have := HN.out; have := HKK.out; have := HCB.out; omega
          have hw3 : IntKind.i64.wrap ((kk : Int) + 1) = ((kk + 1 : Nat) : Int) := by rw [show (kk : Int) + 1 = ((kk + 1 : Nat) : Int) by omega]; exact IntWalk.i64_in _ (by omega)
          have HP := Lib.hid hp
          clear hp htm
          have hxb : xs.length ≤ 200 := by rw [HXL.out]; omega
          go_wp2_with (at_builtin; refine wpList_append_own _ rfl _ _ 26 rfl w2.heap.size 3 i0 (.int .i64 0) 1 8 Try.underlying26 hi hz0 hz1 hz2 rfl (by decide) _ _ _ rfl (HO.out.alloc _) ⟨w5.heap.size, 0, none⟩ 1 1 [.int .i64 ((O : Int) + (p : Int))] rfl rfl ?c1 ?c2 ?c3 ?c4 ?c5 ?_)
          case c1 =>
            intro j u hj
            match j, hj with
            | 0, hj => simp at hj; subst hj; simp [Addr.add]
          case c2 => intro u hu; simp at hu; subst hu; rfl
          case c3 => unfold maxLen; omega
          case c4 => omega
          case c5 => have := hb.size; simp; omega
          intro v' w5 hown' hgrow _
          have hb5 := (hb.alloc hb.size (.cells #[.int .i64 ((O : Int) + (p : Int))] 3)).grown hgrow (by have := hb.size; simp; omega) (fun g e => (HO.out.lt g e).1)
          have HOW := Lib.hid hown'
          clear hown'
          go_wp2
          go_roundw
          case rel =>
            refine ⟨j + 1, kk + 1, xs ++ [(O : Int) + (p : Int)], by omega, by rw [HKK.out]; rfl, by rw [List.length_append, HXL.out]; rfl, by go_num, ?_, ?_, hb5⟩
            · rw [List.range_succ, List.map_append, ← HXS.out, List.map_cons, List.map_nil, ← HKK.out, ← HP.out]
              rfl
            · have := HOW.out
              rw [List.length_append, List.flatMap_append]
              exact this
          case measure => have := HKK.out; simp [intOf]; omega
        · have hd2 : decide (kk < cn) = false := decide_eq_false hkc
          have HJN := Lib.hid (show j = N by have := HN.out; have := HKK.out; omega)
          clear hkc hj hjN
          go_wp2
          go_ret
          obtain ⟨A5, c5, he5, hrec⟩ := Recs.of_own (f := intCells) (sz := 1) intCells_len (by decide) HO.out
          cases he5
          refine ⟨_, _, _, rfl, ?_, hB2.trans (hb.mono hB2.size)⟩
          rw [HRES.out, ← HJN.out, ← HXS.out]
          exact hrec
      · have hd1 : decide ((xs.length : Int) < 200) = false := decide_eq_false (by omega)
        have HJN := Lib.hid (show j = N by have := HN.out; omega)
        clear hj hjN hxl
        go_wp2
        go_ret
        obtain ⟨A5, c5, he5, hrec⟩ := Recs.of_own (f := intCells) (sz := 1) intCells_len (by decide) HO.out
        cases he5
        refine ⟨_, _, _, rfl, ?_, hB2.trans (hbr.mono hB2.size)⟩
        rw [HRES.out, ← HJN.out, ← HXS.out]
        exact hrec
  · have hd0 : decide (0 ≤ last) = false := decide_eq_false hl0
    go_wp2
    clear v0 v1 v2 v3
    go_loopw [7, 8] (fun s7 s8 wr => ∃ (j kk : Nat) (xs : List Int), j ≤ N ∧ kk = cl + j ∧ xs.length = j ∧ s8 = .int .i64 (kk : Nat) ∧ xs = (List.range j).map (fun i => ((O + (cl + i) * I : Nat) : Int)) ∧ wr.ownsRow w3.heap.size 3 1 s7 xs.length (xs.flatMap intCells) ∧ Below w3.heap.size w3 wr) (fun _ s8 _ => N + cl - (intOf s8).toNat)
    case atStart => exact ⟨0, cl, [], Nat.zero_le _, rfl, rfl, (HNEG.out (by omega)) ▸ rfl, rfl, ⟨rfl, .inl ⟨rfl, rfl⟩⟩, Below.refl _ _⟩
    case round =>
      obtain ⟨j, kk, xs, hjN, hkk, hxl, rfl, hxs, hown, hbr⟩ := hrel
      obtain ⟨A7, c7, hu7, hrec7⟩ := Recs.of_own (f := intCells) (sz := 1) intCells_len (by decide) hown
      subst hu7
      clear hrec7
      have HO := Lib.hid hown
      have HXS := Lib.hid hxs
      have HXL := Lib.hid hxl
      have HKK := Lib.hid hkk
      clear hown hxs hkk
      have HGR := Lib.hid (HG.out.later hbr)
      obtain ⟨v0, v1, v2, v3, hltr⟩ := HGR.out
      simp only at v0 v1 v2 v3
      by_cases hj : j < 200
      · have hd1 : decide ((xs.length : Int) < 200) = true := decide_eq_true (by omega)
        clear hxl
        go_wp2_with fail
        refine (HBEL.out wr).mono ?_
        rintro e w5 ⟨rfl, hb5⟩
        have hb := hbr.trans (hb5.mono hbr.size)
        have HO := Lib.hid (own_below HO.out hb5)
        clear v0 v1 v2 v3
        have HG5 := Lib.hid (HGR.out.later hb5)
        obtain ⟨v0, v1, v2, v3, hlt5⟩ := HG5.out
        simp only at v0 v1 v2 v3
        by_cases hkc : kk < cn
        · have hd2 : decide (kk < cn) = true := decide_eq_true hkc
          have hjn : j < N := by have := HN.out; have := HKK.out; omega
          have htm := ((Sch.lt_cnt HGD.out kk now).1 (by rw [HCN.out]; exact hkc)).2
          obtain ⟨p, hp⟩ : ∃ p, p = kk * I := ⟨_, rfl⟩
          have hpO : O + p ≤ 9007199254740992 := by rw [hp]; exact htm
          have hpi : (kk : Int) * (I : Int) = (p : Int) := by rw [hp, Int.natCast_mul]
          have hw1 : IntKind.i64.wrap (p : Int) = (p : Int) := IntWalk.i64_in _ (by omega)
          have hw2 : IntKind.i64.wrap ((O : Int) + (p : Int)) = (O : Int) + (p : Int) := IntWalk.i64_in _ (by omega)
          have hkb : kk ≤ 9007199254741200 := by have := HN.out; have := HKK.out; have := HCB.out; omega
          have hw3 : IntKind.i64.wrap ((kk : Int) + 1) = ((kk + 1 : Nat) : Int) := by rw [show (kk : Int) + 1 = ((kk + 1 : Nat) : Int) by omega]; exact IntWalk.i64_in _ (by omega)
          have HP := Lib.hid hp
          clear hp htm
          have hxb : xs.length ≤ 200 := by rw [HXL.out]; omega
          go_wp2_with (at_builtin; refine wpList_append_own _ rfl _ _ 26 rfl w3.heap.size 3 i0 (.int .i64 0) 1 8 Try.underlying26 hi hz0 hz1 hz2 rfl (by decide) _ _ _ rfl (HO.out.alloc _) ⟨w5.heap.size, 0, none⟩ 1 1 [.int .i64 ((O : Int) + (p : Int))] rfl rfl ?c1 ?c2 ?c3 ?c4 ?c5 ?_)
          case c1 =>
            intro j u hj
            match j, hj with
            | 0, hj => simp at hj; subst hj; simp [Addr.add]
          case c2 => intro u hu; simp at hu; subst hu; rfl
          case c3 => unfold maxLen; omega
          case c4 => omega
          case c5 => have := hb.size; simp; omega
          intro v' w5 hown' hgrow _
          have hb5 := (hb.alloc hb.size (.cells #[.int .i64 ((O : Int) + (p : Int))] 3)).grown hgrow (by have := hb.size; simp; omega) (fun g e => (HO.out.lt g e).1)
          have HOW := Lib.hid hown'
          clear hown'
          go_wp2
          go_roundw
          case rel =>
            refine ⟨j + 1, kk + 1, xs ++ [(O : Int) + (p : Int)], by omega, by rw [HKK.out]; rfl, by rw [List.length_append, HXL.out]; rfl, by go_num, ?_, ?_, hb5⟩
            · rw [List.range_succ, List.map_append, ← HXS.out, List.map_cons, List.map_nil, ← HKK.out, ← HP.out]
              rfl
            · have := HOW.out
              rw [List.length_append, List.flatMap_append]
              exact this
          case measure => have := HKK.out; simp [intOf]; omega
        · have hd2 : decide (kk < cn) = false := decide_eq_false hkc
          have HJN := Lib.hid (show j = N by have := HN.out; have := HKK.out; omega)
          clear hkc hj hjN
          go_wp2
          go_ret
          obtain ⟨A5, c5, he5, hrec⟩ := Recs.of_own (f := intCells) (sz := 1) intCells_len (by decide) HO.out
          cases he5
          refine ⟨_, _, _, rfl, ?_, hB3.trans (hb.mono hB3.size)⟩
          rw [HRES.out, ← HJN.out, ← HXS.out]
          exact hrec
      · have hd1 : decide ((xs.length : Int) < 200) = false := decide_eq_false (by omega)
        have HJN := Lib.hid (show j = N by have := HN.out; omega)
        clear hj hjN hxl
        go_wp2
        go_ret
        obtain ⟨A5, c5, he5, hrec⟩ := Recs.of_own (f := intCells) (sz := 1) intCells_len (by decide) HO.out
        cases he5
        refine ⟨_, _, _, rfl, ?_, hB3.trans (hbr.mono hB3.size)⟩
        rw [HRES.out, ← HJN.out, ← HXS.out]
        exact hrec
end Go.Proofs.Ythjnhifaejoigaa
