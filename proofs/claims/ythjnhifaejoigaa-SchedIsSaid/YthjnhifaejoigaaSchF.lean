/- The walks of sched's Order, and of Ints. -/
import Derived.Test.YthjnhifaejoigaaSchE
namespace Go.Proofs.Ythjnhifaejoigaa
open Go.RowKit
set_option linter.unusedSimpArgs false
set_option linter.unusedVariables false

namespace Sch
def lastAt (ls : List Int) (k : Nat) : Int := if k < ls.length then ls.getD k 0 else -1
def dueAt (gs : List Lab.Gr) (ls : List Int) (now : Int) (k : Nat) : Bool :=
  match gs[k]? with
  | none => false
  | some g => (dueG g (lastAt ls k) now).isSome
/-- the places of those that are due, of the first so many -/
def orderTo (gs : List Lab.Gr) (ls : List Int) (now : Int) : Nat → List Int
  | 0 => []
  | k + 1 => if dueAt gs ls now k = true then orderTo gs ls now k ++ [(k : Int)] else orderTo gs ls now k
def order (gs : List Lab.Gr) (ls : List Int) (now : Int) : List Int := if Lab.fiSane gs = true then orderTo gs ls now gs.length else []
theorem orderTo_len (gs : List Lab.Gr) (ls : List Int) (now : Int) (k : Nat) : (orderTo gs ls now k).length ≤ k := by
  induction k with
  | zero => exact Nat.le_refl _
  | succ k ih =>
    unfold orderTo
    split
    · rw [List.length_append]; simp; exact ih
    · omega
theorem dueAt_is {gs : List Lab.Gr} {ls : List Int} {now : Int} {k : Nat} {g : Lab.Gr} (h : gs[k]? = some g) : dueAt gs ls now k = (dueG g (lastAt ls k) now).isSome := by
  unfold dueAt
  rw [h]
theorem orderTo_yes {gs : List Lab.Gr} {ls : List Int} {now : Int} {k : Nat} (h : dueAt gs ls now k = true) : orderTo gs ls now (k + 1) = orderTo gs ls now k ++ [(k : Int)] := by
  conv => lhs; unfold orderTo
  rw [if_pos h]
theorem orderTo_no {gs : List Lab.Gr} {ls : List Int} {now : Int} {k : Nat} (h : dueAt gs ls now k = false) : orderTo gs ls now (k + 1) = orderTo gs ls now k := by
  conv => lhs; unfold orderTo
  rw [if_neg (by rw [h]; decide)]
end Sch
theorem own_below {w w' : World} {B e size n : Nat} {v : Value} {xs : List Value} (h : w.ownsRow B e size v n xs) (hb : Below w.heap.size w w') : w'.ownsRow B e size v n xs := by
  rcases h.2 with ⟨h1, h2⟩ | ⟨g, cap, cur, h1, hbg, hg, hnc, hcm, hcs, htk⟩
  · exact ⟨h.1, .inl ⟨h1, h2⟩⟩
  · exact ⟨h.1, .inr ⟨g, cap, cur, h1, hbg, (hb.block g (Array.getElem?_eq_some_iff.1 hg).1).trans hg, hnc, hcm, hcs, htk⟩⟩
theorem lastAt_in {ls : List Int} {k : Nat} (h : k < ls.length) : ∃ x, ls[k]? = some x ∧ Sch.lastAt ls k = x := by
  refine ⟨ls[k], List.getElem?_eq_getElem h, ?_⟩
  unfold Sch.lastAt
  rw [if_pos h, List.getD, List.getElem?_eq_getElem h]
  rfl
theorem lastAt_out {ls : List Int} {k : Nat} (h : ¬ k < ls.length) : Sch.lastAt ls k = -1 := by
  unfold Sch.lastAt
  rw [if_neg h]

set_option maxRecDepth 100000 in
set_option maxHeartbeats 16000000 in
theorem order_any (A : Option Addr) (n c : Nat) (gs : List Lab.Gr) (LA : Option Addr) (Ln Lc : Nat) (ls : List Int) (now : Int) (w : World) (h : FiIn w w.heap.size A n c gs) (hL : Recs intCells 1 w w.heap.size LA Ln Lc ls) :
    Calls Try.prog 16 #[.slice A n c, .slice LA Ln Lc, .int .i64 now] w (IntsR w (Sch.order gs ls now)) := by
  have HH := Lib.hid h
  have HLS := Lib.hid hL
  have hl := h.1.1
  have hll := hL.1
  have HL := Lib.hid hl
  have HLL := Lib.hid hll
  obtain ⟨i0, hi, hz0, hz1, hz2⟩ := info_parts infoInt
  rcases hs : Lab.fiSane gs with _ | _
  · have HS := Lib.hid hs
    have HR := Lib.hid (show Sch.order gs ls now = [] by unfold Sch.order; rw [hs, if_neg (by decide)])
    clear hs h hL hl hll
    go_enter Try.func16, Try.ntmps16
    go_wp2_with fail
    refine (fiSane_is A n c gs _ HS.out w HH.out).mono ?_
    rintro e w1 ⟨rfl, hb1⟩
    go_wp2
    go_ret
    refine ⟨none, 0, 0, rfl, ?_, hb1⟩
    rw [HR.out]
    exact Recs.none_ _ _
  · have HS := Lib.hid hs
    have HR := Lib.hid (show Sch.order gs ls now = Sch.orderTo gs ls now gs.length by unfold Sch.order; rw [hs, if_pos rfl])
    have hn16 : n ≤ 16 := by
      unfold Lab.fiSane at hs
      rw [hl, Bool.and_eq_true, decide_eq_true_eq] at hs
      exact hs.1
    clear hs h hL hl hll
    go_enter Try.func16, Try.ntmps16
    go_wp2_with fail
    refine (fiSane_is A n c gs _ HS.out w HH.out).mono ?_
    rintro e w1 ⟨rfl, hb1⟩
    go_wp2
    go_loopw [7, 19] (fun s7 s19 wr => ∃ (k : Nat), k ≤ n ∧ s19 = .int .i64 (k : Nat) ∧ wr.ownsRow w1.heap.size 3 1 s7 (Sch.orderTo gs ls now k).length ((Sch.orderTo gs ls now k).flatMap intCells) ∧ Below w1.heap.size w1 wr) (fun _ s19 _ => n - (intOf s19).toNat)
    case atStart => exact ⟨0, Nat.zero_le _, rfl, ⟨rfl, .inl ⟨rfl, rfl⟩⟩, Below.refl _ _⟩
    case round =>
      obtain ⟨k, hk, rfl, hown, hbr⟩ := hrel
      have HO := Lib.hid hown
      have hxl := Sch.orderTo_len gs ls now k
      clear hown
      have hbw := hb1.trans (hbr.mono hb1.size)
      by_cases hlt : k < n
      · have hdk : decide (k < n) = true := decide_eq_true hlt
        obtain ⟨b, off, rfl, hbB, hcell⟩ := HH.out.1.at_ (show 0 < n by omega)
        obtain ⟨r, hp⟩ : ∃ r, gs[k]? = some r := ⟨_, List.getElem?_eq_getElem (by rw [HL.out]; exact hlt)⟩
        have c0 := (hbw.cell (p := ⟨b, off + k * 4, none⟩) hbB).trans (hcell k r hp 0 _ rfl)
        have c1 := (hbw.cell (p := ⟨b, off + k * 4 + 1, none⟩) hbB).trans (hcell k r hp 1 _ rfl)
        have c2 := (hbw.cell (p := ⟨b, off + k * 4 + 2, none⟩) hbB).trans (hcell k r hp 2 _ rfl)
        have c3 := (hbw.cell (p := ⟨b, off + k * 4 + 3, none⟩) hbB).trans (hcell k r hp 3 _ rfl)
        have HGI := Lib.hid ((HH.out.2 r (List.mem_of_getElem? hp)).below hbw)
        have hat := Sch.dueAt_is (ls := ls) (now := now) hp
        have hws : w.heap.size ≤ wr.heap.size := hbw.size
        clear hcell hp
        have hcase : (∃ x, decide (k < Ln) = true ∧ Sch.lastAt ls k = x ∧ ∃ lb lo, LA = some ⟨lb, lo, none⟩ ∧ lb < w.heap.size ∧ w.cell? ⟨lb, lo + k, none⟩ = some (.int .i64 x)) ∨ (decide (k < Ln) = false ∧ Sch.lastAt ls k = -1) := by
          by_cases hkl : k < Ln
          · obtain ⟨x, hx, hxe⟩ := lastAt_in (ls := ls) (k := k) (by rw [HLL.out]; exact hkl)
            obtain ⟨lb, lo, e, hlb, hc⟩ := HLS.out.at_ (show 0 < Ln by omega)
            refine .inl ⟨x, decide_eq_true hkl, hxe, lb, lo, e, hlb, ?_⟩
            have := hc k x hx 0 _ rfl
            rwa [Nat.mul_one, Nat.add_zero] at this
          · exact .inr ⟨decide_eq_false hkl, lastAt_out (by rw [HLL.out]; exact hkl)⟩
        rcases hcase with ⟨x, hdl, hxe, lb, lo, rfl, hlb, hcx⟩ | ⟨hdl, hxe⟩
        · have hkl : k < Ln := of_decide_eq_true hdl
          have hx1 : ∀ o, (wr.alloc o).cell? ⟨lb, lo + k, none⟩ = some (.int .i64 x) := fun o => (World.cell?_alloc_lt wr o _ (show lb < wr.heap.size by omega)).trans ((hbw.cell (p := ⟨lb, lo + k, none⟩) hlb).trans hcx)
          rw [hxe] at hat
          obtain ⟨res, hres⟩ : ∃ d, Sch.dueG r x now = d := ⟨_, rfl⟩
          rw [hres] at hat
          have HDUE := Lib.hid (fun w h => due_is r x now res hres w h)
          have HAT := Lib.hid hat
          clear hat hres hxe hcx
          go_wp2_with fail
          have hblk2 := Lib.hid (Mem.Blk.new wr 24 #[.string r.nm, .int .i64 r.iv, .int .i64 r.off, .slice r.RA r.Rn r.Rc])
          refine (HDUE.out _ ((HGI.out.below ((Below.refl w.heap.size wr).alloc hws _)).more (by have := hws; simp; omega))).mono ?_
          rintro e w5 ⟨rfl, hb5⟩
          have hB2 := hbr.alloc hbr.size (.cells #[.string r.nm, .int .i64 r.iv, .int .i64 r.off, .slice r.RA r.Rn r.Rc] 24)
          have hb := hB2.trans (hb5.mono hB2.size)
          have HO := Lib.hid (own_below (HO.out.alloc (.cells #[.string r.nm, .int .i64 r.iv, .int .i64 r.off, .slice r.RA r.Rn r.Rc] 24)) hb5)
          clear c0 c1 c2 c3
          rcases res with _ | ⟨t, q⟩
          · have HN := Lib.hid (show Sch.orderTo gs ls now (k + 1) = Sch.orderTo gs ls now k from Sch.orderTo_no (by rw [HAT.out]; rfl))
            go_wp2
            go_roundw
            case rel => exact ⟨k + 1, by omega, by go_num, by rw [HN.out]; exact HO.out, hb⟩
            case measure => simp [intOf]; omega
          · have HN := Lib.hid (show Sch.orderTo gs ls now (k + 1) = Sch.orderTo gs ls now k ++ [(k : Int)] from Sch.orderTo_yes (by rw [HAT.out]; rfl))
            go_wp2_with (at_builtin; refine wpList_append_own _ rfl _ _ 26 rfl w1.heap.size 3 i0 (.int .i64 0) 1 8 Try.underlying26 hi hz0 hz1 hz2 rfl (by decide) _ _ _ rfl (HO.out.alloc _) ⟨w5.heap.size, 0, none⟩ 1 1 [.int .i64 (k : Int)] rfl rfl ?c1 ?c2 ?c3 ?c4 ?c5 ?_)
            case c1 =>
              intro j u hj
              match j, hj with
              | 0, hj => simp at hj; subst hj; simp [Addr.add]
            case c2 => intro u hu; simp at hu; subst hu; rfl
            case c3 => unfold maxLen; omega
            case c4 => omega
            case c5 => have := hb.size; simp; omega
            intro v' w5 hown' hgrow _
            have hb5 := (hb.alloc hb.size (.cells #[.int .i64 (k : Int)] 3)).grown hgrow (by have := hb.size; simp; omega) (fun g e => (HO.out.lt g e).1)
            have HOW := Lib.hid hown'
            clear hown'
            go_wp2
            go_roundw
            case rel =>
              refine ⟨k + 1, by omega, by go_num, ?_, hb5⟩
              rw [HN.out, List.length_append, List.flatMap_append]
              exact HOW.out
            case measure => simp [intOf]; omega
        · rw [hxe] at hat
          obtain ⟨res, hres⟩ : ∃ d, Sch.dueG r (-1) now = d := ⟨_, rfl⟩
          rw [hres] at hat
          have HDUE := Lib.hid (fun w h => due_is r (-1) now res hres w h)
          have HAT := Lib.hid hat
          clear hat hres hxe
          go_wp2_with fail
          have hblk2 := Lib.hid (Mem.Blk.new wr 24 #[.string r.nm, .int .i64 r.iv, .int .i64 r.off, .slice r.RA r.Rn r.Rc])
          refine (HDUE.out _ ((HGI.out.below ((Below.refl w.heap.size wr).alloc hws _)).more (by have := hws; simp; omega))).mono ?_
          rintro e w5 ⟨rfl, hb5⟩
          have hB2 := hbr.alloc hbr.size (.cells #[.string r.nm, .int .i64 r.iv, .int .i64 r.off, .slice r.RA r.Rn r.Rc] 24)
          have hb := hB2.trans (hb5.mono hB2.size)
          have HO := Lib.hid (own_below (HO.out.alloc (.cells #[.string r.nm, .int .i64 r.iv, .int .i64 r.off, .slice r.RA r.Rn r.Rc] 24)) hb5)
          clear c0 c1 c2 c3
          rcases res with _ | ⟨t, q⟩
          · have HN := Lib.hid (show Sch.orderTo gs ls now (k + 1) = Sch.orderTo gs ls now k from Sch.orderTo_no (by rw [HAT.out]; rfl))
            go_wp2
            go_roundw
            case rel => exact ⟨k + 1, by omega, by go_num, by rw [HN.out]; exact HO.out, hb⟩
            case measure => simp [intOf]; omega
          · have HN := Lib.hid (show Sch.orderTo gs ls now (k + 1) = Sch.orderTo gs ls now k ++ [(k : Int)] from Sch.orderTo_yes (by rw [HAT.out]; rfl))
            go_wp2_with (at_builtin; refine wpList_append_own _ rfl _ _ 26 rfl w1.heap.size 3 i0 (.int .i64 0) 1 8 Try.underlying26 hi hz0 hz1 hz2 rfl (by decide) _ _ _ rfl (HO.out.alloc _) ⟨w5.heap.size, 0, none⟩ 1 1 [.int .i64 (k : Int)] rfl rfl ?c1 ?c2 ?c3 ?c4 ?c5 ?_)
            case c1 =>
              intro j u hj
              match j, hj with
              | 0, hj => simp at hj; subst hj; simp [Addr.add]
            case c2 => intro u hu; simp at hu; subst hu; rfl
            case c3 => unfold maxLen; omega
            case c4 => omega
            case c5 => have := hb.size; simp; omega
            intro v' w5 hown' hgrow _
            have hb5 := (hb.alloc hb.size (.cells #[.int .i64 (k : Int)] 3)).grown hgrow (by have := hb.size; simp; omega) (fun g e => (HO.out.lt g e).1)
            have HOW := Lib.hid hown'
            clear hown'
            go_wp2
            go_roundw
            case rel =>
              refine ⟨k + 1, by omega, by go_num, ?_, hb5⟩
              rw [HN.out, List.length_append, List.flatMap_append]
              exact HOW.out
            case measure => simp [intOf]; omega
      · have hdk : decide (k < n) = false := decide_eq_false hlt
        have hkn : k = n := by omega
        have HKN := Lib.hid hkn
        clear hkn hlt
        go_wp2
        go_ret
        obtain ⟨A5, c5, rfl, hrec⟩ := Recs.of_own (f := intCells) (sz := 1) intCells_len (by decide) HO.out
        refine ⟨A5, _, c5, rfl, ?_, hbw⟩
        rw [HR.out, HL.out, ← HKN.out]
        exact hrec

set_option maxRecDepth 100000 in
set_option maxHeartbeats 8000000 in
theorem ints_any (A : Option Addr) (n c : Nat) (xs : List Int) (B : Option Addr) (m d : Nat) (ys : List Int) (w : World) (h : Recs intCells 1 w w.heap.size A n c xs) (h2 : Recs intCells 1 w w.heap.size B m d ys) :
    Calls Try.prog 15 #[.slice A n c, .slice B m d] w fun e w' => e = .returned (.bool (decide (xs = ys))) ∧ Below w.heap.size w w' := by
  have hl := h.1
  have hl2 := h2.1
  have hcap := Nat.le_trans h.2.1 h.2.2.1
  have HH := Lib.hid h
  have HH2 := Lib.hid h2
  have HL := Lib.hid hl
  have HL2 := Lib.hid hl2
  clear h h2 hl hl2
  by_cases hnm : n = m
  · have hd : ((n : Int) != (m : Int)) = false := by rw [hnm]; simp
    have HNM := Lib.hid hnm
    have hnm1 : n ≤ m := by omega
    have hnm2 : m ≤ n := by omega
    clear hnm
    go_enter Try.func15, Try.ntmps15
    go_wp2
    go_loopw [5] (fun s5 wr => ∃ (k : Nat), k ≤ n ∧ s5 = .int .i64 (k : Nat) ∧ xs.take k = ys.take k ∧ Below w.heap.size w wr) (fun s5 _ => n - (intOf s5).toNat)
    case atStart => exact ⟨0, Nat.zero_le _, rfl, rfl, Below.refl _ _⟩
    case round =>
      obtain ⟨k, hk, rfl, htk, hb⟩ := hrel
      have HTK := Lib.hid htk
      clear htk
      by_cases hlt : k < n
      · have hdk : decide (k < n) = true := decide_eq_true hlt
        obtain ⟨b, off, rfl, hbB, hcell⟩ := HH.out.at_ (show 0 < n by omega)
        obtain ⟨b2, off2, rfl, hbB2, hcell2⟩ := HH2.out.at_ (show 0 < m by omega)
        obtain ⟨x, hx⟩ : ∃ x, xs[k]? = some x := ⟨_, List.getElem?_eq_getElem (by rw [HL.out]; exact hlt)⟩
        obtain ⟨y, hy⟩ : ∃ x, ys[k]? = some x := ⟨_, List.getElem?_eq_getElem (by rw [HL2.out]; omega)⟩
        have q1 := (hb.cell (p := ⟨b, off + k * 1 + 0, none⟩) hbB).trans (hcell k x hx 0 _ rfl)
        have q2 := (hb.cell (p := ⟨b2, off2 + k * 1 + 0, none⟩) hbB2).trans (hcell2 k y hy 0 _ rfl)
        rw [Nat.mul_one, Nat.add_zero] at q1 q2
        have HX := Lib.hid hx
        have HY := Lib.hid hy
        clear hcell hcell2 hx hy
        by_cases hxy : x = y
        · have hd2 : (x != y) = false := by rw [hxy]; simp
          have HT2 := Lib.hid (show xs.take (k + 1) = ys.take (k + 1) by rw [List.take_add_one, List.take_add_one, HTK.out, HX.out, HY.out, hxy])
          clear hxy
          go_wp2
          go_quiet (fail)
          go_wp2
          go_roundw
          case rel => exact ⟨k + 1, by omega, by go_num, HT2.out, (by repeat (first | assumption | exact Below.refl _ _ | apply Mem.below_drewN | apply Below.drew | refine Below.alloc ?_ (by first | assumption | omega | (simp; done) | (simp; omega)) _ | refine Below.setCell ?_ (by first | assumption | omega | (simp; done) | (simp; omega)) _))⟩
          case measure => simp [intOf]; omega
        · have hd2 : (x != y) = true := by rw [bne_iff_ne]; exact hxy
          have HB := Lib.hid (show decide (xs = ys) = false from decide_eq_false (fun e => hxy (by have := HX.out; rw [e, HY.out] at this; exact (Option.some.inj this).symm)))
          clear hxy
          go_wp2
          go_quiet (fail)
          go_wp2
          go_ret
          exact ⟨by rw [HB.out]; rfl, (by repeat (first | assumption | exact Below.refl _ _ | apply Mem.below_drewN | apply Below.drew | refine Below.alloc ?_ (by first | assumption | omega | (simp; done) | (simp; omega)) _ | refine Below.setCell ?_ (by first | assumption | omega | (simp; done) | (simp; omega)) _))⟩
      · have hdk : decide (k < n) = false := decide_eq_false hlt
        have HB := Lib.hid (show decide (xs = ys) = true from decide_eq_true (by
          have := HTK.out
          rwa [List.take_of_length_le (by rw [HL.out]; omega), List.take_of_length_le (by rw [HL2.out]; omega)] at this))
        go_wp2
        go_ret
        exact ⟨by rw [HB.out]; rfl, hb⟩
  · have hd : ((n : Int) != (m : Int)) = true := by rw [bne_iff_ne]; omega
    have HB := Lib.hid (show decide (xs = ys) = false from decide_eq_false (fun e => hnm (by rw [← HL.out, ← HL2.out, e])))
    clear hnm
    go_enter Try.func15, Try.ntmps15
    go_wp2
    go_ret
    exact ⟨by rw [HB.out]; rfl, Below.refl _ _⟩
end Go.Proofs.Ythjnhifaejoigaa
