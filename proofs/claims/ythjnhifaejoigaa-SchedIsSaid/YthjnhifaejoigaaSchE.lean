/- The walk of sched's Times. -/
import Derived.Test.YthjnhifaejoigaaSchD
import Derived.Test.YthjnhifaejoigaaSchPlain2
import Derived.Laws.AppendOwn
namespace Go.Proofs.Ythjnhifaejoigaa
open Go.RowKit
set_option linter.unusedSimpArgs false
set_option linter.unusedVariables false

def intCells (x : Int) : List Value := [.int .i64 x]
theorem intCells_len (x : Int) : (intCells x).length = 1 := rfl
theorem infoInt : (Try.prog.info? 3).map (fun i => (i.zero, i.size, i.bytes)) = some (some (.int .i64 0), 1, 8) := by kernel_rfl
/-- it hands back numbers, in a slice that reads so -/
def IntsR (w : World) (xs : List Int) (e : Ending) (w' : World) : Prop := ∃ A n c, e = .returned (.slice A n c) ∧ Recs intCells 1 w' w'.heap.size A n c xs ∧ Below w.heap.size w w'
namespace Sch
def timesG (g : Lab.Gr) (last now : Int) : List Int := if Lab.grSane g = true then times g.iv.toNat g.off.toNat last now else []
theorem times_nil {I O : Nat} {last now : Int} (h : cnt I O now ≤ cnt I O last) : times I O last now = [] := by
  unfold times
  rw [show cnt I O now - cnt I O last = 0 by omega]
  rfl
end Sch

set_option maxRecDepth 100000 in
set_option maxHeartbeats 8000000 in
/-- no time between -/
theorem times_none (g : Lab.Gr) (last now : Int) (res : Int) (hres : Sch.nextG g last = res) (hn : res < 0 ∨ min now 9007199254740992 < res) (w : World) (h : GrIn w w.heap.size g) :
    Calls Try.prog 18 #[.agg #[.string g.nm, .int .i64 g.iv, .int .i64 g.off, .slice g.RA g.Rn g.Rc], .int .i64 last, .int .i64 now] w (IntsR w []) := by
  have HH := Lib.hid h
  have HN := Lib.hid (fun w h => next_is g last res hres w h)
  clear h hres
  by_cases hr0 : res < 0
  · have hd0 : decide (res < 0) = true := decide_eq_true hr0
    clear hn
    by_cases hbig : (9007199254740992 : Int) < now
    · go_enter Try.func18, Try.ntmps18
      go_wp2_with fail
      have hB1 := (Below.refl w.heap.size w).alloc (Nat.le_refl _) (.cells #[.string g.nm, .int .i64 g.iv, .int .i64 g.off, .slice g.RA g.Rn g.Rc] 24)
      have hblk := (Mem.Blk.new w 24 #[.string g.nm, .int .i64 g.iv, .int .i64 g.off, .slice g.RA g.Rn g.Rc])
      have hlt1 : w.heap.size < (w.alloc (.cells #[.string g.nm, .int .i64 g.iv, .int .i64 g.off, .slice g.RA g.Rn g.Rc] 24)).heap.size := by simp
      have hsz1 : w.heap.size ≤ (w.alloc (.cells #[.string g.nm, .int .i64 g.iv, .int .i64 g.off, .slice g.RA g.Rn g.Rc] 24)).heap.size := by simp
      obtain ⟨W1, hW1⟩ : ∃ W1, W1 = w.alloc (.cells #[.string g.nm, .int .i64 g.iv, .int .i64 g.off, .slice g.RA g.Rn g.Rc] 24) := ⟨_, rfl⟩
      rw [← hW1] at hB1 hblk hlt1 hsz1 ⊢
      clear hW1
      have HBLK := Lib.hid hblk
      clear hblk
      refine (HN.out W1 ((HH.out.below hB1).more hsz1)).mono ?_
      rintro e w2 ⟨rfl, hb2⟩
      go_wp2
      go_ret
      exact ⟨none, 0, 0, rfl, Recs.none_ _ _, hB1.trans (hb2.mono hB1.size)⟩
    · go_enter Try.func18, Try.ntmps18
      go_wp2_with fail
      have hB1 := (Below.refl w.heap.size w).alloc (Nat.le_refl _) (.cells #[.string g.nm, .int .i64 g.iv, .int .i64 g.off, .slice g.RA g.Rn g.Rc] 24)
      have hblk := (Mem.Blk.new w 24 #[.string g.nm, .int .i64 g.iv, .int .i64 g.off, .slice g.RA g.Rn g.Rc])
      have hlt1 : w.heap.size < (w.alloc (.cells #[.string g.nm, .int .i64 g.iv, .int .i64 g.off, .slice g.RA g.Rn g.Rc] 24)).heap.size := by simp
      have hsz1 : w.heap.size ≤ (w.alloc (.cells #[.string g.nm, .int .i64 g.iv, .int .i64 g.off, .slice g.RA g.Rn g.Rc] 24)).heap.size := by simp
      obtain ⟨W1, hW1⟩ : ∃ W1, W1 = w.alloc (.cells #[.string g.nm, .int .i64 g.iv, .int .i64 g.off, .slice g.RA g.Rn g.Rc] 24) := ⟨_, rfl⟩
      rw [← hW1] at hB1 hblk hlt1 hsz1 ⊢
      clear hW1
      have HBLK := Lib.hid hblk
      clear hblk
      refine (HN.out W1 ((HH.out.below hB1).more hsz1)).mono ?_
      rintro e w2 ⟨rfl, hb2⟩
      go_wp2
      go_ret
      exact ⟨none, 0, 0, rfl, Recs.none_ _ _, hB1.trans (hb2.mono hB1.size)⟩
  · have hd0 : decide (res < 0) = false := decide_eq_false hr0
    have hn2 : min now 9007199254740992 < res := hn.resolve_left hr0
    by_cases hbig : (9007199254740992 : Int) < now
    · have hd2 : decide ((9007199254740992 : Int) < res) = true := decide_eq_true (by omega)
      clear hn hn2
      go_enter Try.func18, Try.ntmps18
      go_wp2_with fail
      have hB1 := (Below.refl w.heap.size w).alloc (Nat.le_refl _) (.cells #[.string g.nm, .int .i64 g.iv, .int .i64 g.off, .slice g.RA g.Rn g.Rc] 24)
      have hblk := (Mem.Blk.new w 24 #[.string g.nm, .int .i64 g.iv, .int .i64 g.off, .slice g.RA g.Rn g.Rc])
      have hlt1 : w.heap.size < (w.alloc (.cells #[.string g.nm, .int .i64 g.iv, .int .i64 g.off, .slice g.RA g.Rn g.Rc] 24)).heap.size := by simp
      have hsz1 : w.heap.size ≤ (w.alloc (.cells #[.string g.nm, .int .i64 g.iv, .int .i64 g.off, .slice g.RA g.Rn g.Rc] 24)).heap.size := by simp
      obtain ⟨W1, hW1⟩ : ∃ W1, W1 = w.alloc (.cells #[.string g.nm, .int .i64 g.iv, .int .i64 g.off, .slice g.RA g.Rn g.Rc] 24) := ⟨_, rfl⟩
      rw [← hW1] at hB1 hblk hlt1 hsz1 ⊢
      clear hW1
      have HBLK := Lib.hid hblk
      clear hblk
      refine (HN.out W1 ((HH.out.below hB1).more hsz1)).mono ?_
      rintro e w2 ⟨rfl, hb2⟩
      go_wp2
      go_ret
      exact ⟨none, 0, 0, rfl, Recs.none_ _ _, hB1.trans (hb2.mono hB1.size)⟩
    · have hd2 : decide (now < res) = true := decide_eq_true (by omega)
      clear hn hn2
      go_enter Try.func18, Try.ntmps18
      go_wp2_with fail
      have hB1 := (Below.refl w.heap.size w).alloc (Nat.le_refl _) (.cells #[.string g.nm, .int .i64 g.iv, .int .i64 g.off, .slice g.RA g.Rn g.Rc] 24)
      have hblk := (Mem.Blk.new w 24 #[.string g.nm, .int .i64 g.iv, .int .i64 g.off, .slice g.RA g.Rn g.Rc])
      have hlt1 : w.heap.size < (w.alloc (.cells #[.string g.nm, .int .i64 g.iv, .int .i64 g.off, .slice g.RA g.Rn g.Rc] 24)).heap.size := by simp
      have hsz1 : w.heap.size ≤ (w.alloc (.cells #[.string g.nm, .int .i64 g.iv, .int .i64 g.off, .slice g.RA g.Rn g.Rc] 24)).heap.size := by simp
      obtain ⟨W1, hW1⟩ : ∃ W1, W1 = w.alloc (.cells #[.string g.nm, .int .i64 g.iv, .int .i64 g.off, .slice g.RA g.Rn g.Rc] 24) := ⟨_, rfl⟩
      rw [← hW1] at hB1 hblk hlt1 hsz1 ⊢
      clear hW1
      have HBLK := Lib.hid hblk
      clear hblk
      refine (HN.out W1 ((HH.out.below hB1).more hsz1)).mono ?_
      rintro e w2 ⟨rfl, hb2⟩
      go_wp2
      go_ret
      exact ⟨none, 0, 0, rfl, Recs.none_ _ _, hB1.trans (hb2.mono hB1.size)⟩

set_option maxRecDepth 100000 in
set_option maxHeartbeats 16000000 in
theorem times_some (g : Lab.Gr) (I O F m : Nat) (hI : g.iv = (I : Int)) (hO : g.off = (O : Int)) (hI0 : 0 < I) (last now : Int) (hF : Sch.nextG g last = (F : Int)) (hm : min now 9007199254740992 = (m : Int)) (hFm : F ≤ m) (w : World) (h : GrIn w w.heap.size g) :
    Calls Try.prog 18 #[.agg #[.string g.nm, .int .i64 g.iv, .int .i64 g.off, .slice g.RA g.Rn g.Rc], .int .i64 last, .int .i64 now] w (IntsR w ((List.range (min 200 ((m - F) / I + 1))).map (fun j => ((F + j * I : Nat) : Int)))) := by
  obtain ⟨nm, iv, off, RA, Rn, Rc, rs⟩ := g
  simp only at hI hO
  subst hI hO
  have HH := Lib.hid h
  have HN := Lib.hid (fun w h => next_is ⟨nm, (I : Int), (O : Int), RA, Rn, Rc, rs⟩ last (F : Int) hF w h)
  clear h hF
  obtain ⟨i0, hi, hz0, hz1, hz2⟩ := info_parts infoInt
  have hmb : m ≤ 9007199254740992 := by omega
  obtain ⟨d, hd⟩ : ∃ d, d = m - F := ⟨_, rfl⟩
  obtain ⟨q, hq⟩ : ∃ q, q = d / I := ⟨_, rfl⟩
  have hq1 : Int.tdiv (d : Int) (I : Int) = (q : Int) := by rw [hq]; rfl
  have hq2 : (d : Int) / (I : Int) = (q : Int) := by rw [hq]; rfl
  have hqb : q ≤ 9007199254740992 := by rw [hq]; exact Nat.le_trans (Nat.div_le_self _ _) (by omega)
  have hqm : q * I ≤ 9007199254740992 := by
    have := Nat.div_mul_le_self d I
    rw [hq]
    omega
  have HQM := Lib.hid hqm
  obtain ⟨N, hN⟩ : ∃ N, N = min 200 (q + 1) := ⟨_, rfl⟩
  have hN200 : N ≤ 200 := by omega
  have hNq : N ≤ q + 1 := by omega
  have HRES := Lib.hid (show (List.range (min 200 ((m - F) / I + 1))).map (fun j => ((F + j * I : Nat) : Int)) = (List.range N).map (fun j => ((F + j * I : Nat) : Int)) by rw [← hd, ← hq, ← hN])
  have hIz : ¬ I = 0 := by omega
  by_cases hbig : (9007199254740992 : Int) < now
  · have hm2 : m = 9007199254740992 := by omega
    have hdi : (9007199254740992 : Int) - (F : Int) = (d : Int) := by omega
    have hd0 : decide ((F : Int) < 0) = false := decide_eq_false (by omega)
    have hd1 : decide ((9007199254740992 : Int) < (F : Int)) = false := decide_eq_false (by omega)
    by_cases hN2 : q + 1 < 200
    · have hdn : decide ((q : Int) + 1 < 200) = true := decide_eq_true (by omega)
      have hNe : (N : Int) = (q : Int) + 1 := by omega
      have hNq1 : N = q + 1 := by omega
      have HNE := Lib.hid hNq1
      have hNle : q + 1 ≤ N := by omega
      clear hNe hNq1
      clear hm hd hq hqm hN hm2
      go_enter Try.func18, Try.ntmps18
      go_wp2_with fail
      have hB1 := (Below.refl w.heap.size w).alloc (Nat.le_refl _) (.cells #[.string nm, .int .i64 (I : Int), .int .i64 (O : Int), .slice RA Rn Rc] 24)
      have hblk := (Mem.Blk.new w 24 #[.string nm, .int .i64 (I : Int), .int .i64 (O : Int), .slice RA Rn Rc])
      have hlt1 : w.heap.size < (w.alloc (.cells #[.string nm, .int .i64 (I : Int), .int .i64 (O : Int), .slice RA Rn Rc] 24)).heap.size := by simp
      have hsz1 : w.heap.size ≤ (w.alloc (.cells #[.string nm, .int .i64 (I : Int), .int .i64 (O : Int), .slice RA Rn Rc] 24)).heap.size := by simp
      obtain ⟨W1, hW1⟩ : ∃ W1, W1 = w.alloc (.cells #[.string nm, .int .i64 (I : Int), .int .i64 (O : Int), .slice RA Rn Rc] 24) := ⟨_, rfl⟩
      rw [← hW1] at hB1 hblk hlt1 hsz1 ⊢
      clear hW1
      have HBLK := Lib.hid hblk
      clear hblk
      refine (HN.out W1 ((HH.out.below hB1).more hsz1)).mono ?_
      rintro e w2 ⟨rfl, hb2⟩
      have v0 : w2.cell? ⟨w.heap.size, 0, none⟩ = some (.string nm) := (hb2.cell (p := ⟨w.heap.size, 0, none⟩) hlt1).trans (HBLK.out.cell 0)
      have v1 : w2.cell? ⟨w.heap.size, 1, none⟩ = some (.int .i64 (I : Int)) := (hb2.cell (p := ⟨w.heap.size, 1, none⟩) hlt1).trans (HBLK.out.cell 1)
      have v2 : w2.cell? ⟨w.heap.size, 2, none⟩ = some (.int .i64 (O : Int)) := (hb2.cell (p := ⟨w.heap.size, 2, none⟩) hlt1).trans (HBLK.out.cell 2)
      have v3 : w2.cell? ⟨w.heap.size, 3, none⟩ = some (.slice RA Rn Rc) := (hb2.cell (p := ⟨w.heap.size, 3, none⟩) hlt1).trans (HBLK.out.cell 3)
      have V1 := Lib.hid v1
      have hlt2 := Nat.lt_of_lt_of_le hlt1 hb2.size
      have hB2 := hB1.trans (hb2.mono hB1.size)
      go_wp2
      clear v0 v1 v2 v3
      go_loopw [8, 30] (fun s8 s30 wr => ∃ (i : Nat) (xs : List Int), i ≤ N ∧ xs.length = i ∧ s30 = .int .i64 (i : Nat) ∧ xs = (List.range i).map (fun j => ((F + j * I : Nat) : Int)) ∧ wr.ownsRow w2.heap.size 3 1 s8 xs.length (xs.flatMap intCells) ∧ Below w2.heap.size w2 wr) (fun _ s30 _ => N - (intOf s30).toNat)
      case atStart => exact ⟨0, [], Nat.zero_le _, rfl, rfl, rfl, ⟨rfl, .inl ⟨rfl, rfl⟩⟩, Below.refl _ _⟩
      case round =>
        obtain ⟨i, xs, hiN0, hxl, rfl, hxs, hown, hb⟩ := hrel
        have HO := Lib.hid hown
        have HXS := Lib.hid hxs
        have HXL := Lib.hid hxl
        clear hown hxs
        have y1 := (hb.cell (p := ⟨w.heap.size, 1, none⟩) hlt2).trans V1.out
        by_cases hiN : i < N
        · have hd : decide ((i : Int) < (q : Int) + 1) = true := decide_eq_true (by omega)
          obtain ⟨p, hp⟩ : ∃ p, p = i * I := ⟨_, rfl⟩
          have hpi : (i : Int) * (I : Int) = (p : Int) := by rw [hp, Int.natCast_mul]
          have hpb : p ≤ 9007199254740992 := by
            have h1 : i * I ≤ q * I := Nat.mul_le_mul_right _ (by omega)
            have h2 := HQM.out
            omega
          have HP := Lib.hid hp
          clear hp hxl
          have hxb : xs.length ≤ 200 := by rw [HXL.out]; omega
          go_wp2_with (at_builtin; refine wpList_append_own _ rfl _ _ 26 rfl w2.heap.size 3 i0 (.int .i64 0) 1 8 Try.underlying26 hi hz0 hz1 hz2 rfl (by decide) _ _ _ rfl (HO.out.alloc _) ⟨wr.heap.size, 0, none⟩ 1 1 [.int .i64 ((F : Int) + (p : Int))] rfl rfl ?c1 ?c2 ?c3 ?c4 ?c5 ?_)
          case c1 =>
            intro j u hj
            match j, hj with
            | 0, hj => simp at hj; subst hj; simp [Addr.add]
          case c2 => intro u hu; simp at hu; subst hu; rfl
          case c3 => unfold maxLen; omega
          case c4 => omega
          case c5 => have := hb.size; simp; omega
          intro v' w5 hown' hgrow _
          have hb5 := (hb.alloc hb.size (.cells #[.int .i64 ((F : Int) + (p : Int))] 3)).grown hgrow (by have := hb.size; simp; omega) (fun g e => (HO.out.lt g e).1)
          have HOW := Lib.hid hown'
          clear hown'
          go_wp2
          go_roundw
          case rel =>
            refine ⟨i + 1, xs ++ [(F : Int) + (p : Int)], by omega, by rw [List.length_append, HXL.out]; rfl, by go_num, ?_, ?_, hb5⟩
            · rw [List.range_succ, List.map_append, ← HXS.out, List.map_cons, List.map_nil, ← HP.out]
              rfl
            · have := HOW.out
              rw [List.length_append, List.flatMap_append]
              exact this
          case measure => simp [intOf]; omega
        · have hd : decide ((i : Int) < (q : Int) + 1) = false := decide_eq_false (by omega)
          have hiN2 : i = N := by omega
          have HIN := Lib.hid hiN2
          clear hxl hiN hiN2
          go_wp2
          go_ret
          obtain ⟨A5, c5, rfl, hrec⟩ := Recs.of_own (f := intCells) (sz := 1) intCells_len (by decide) HO.out
          refine ⟨A5, _, c5, rfl, ?_, hB2.trans (hb.mono hB2.size)⟩
          rw [HRES.out, ← HIN.out, ← HXS.out]
          exact hrec
    · have hdn : decide ((q : Int) + 1 < 200) = false := decide_eq_false (by omega)
      have hNle : 200 ≤ N := by omega
      clear hm hd hq hqm hN hm2
      go_enter Try.func18, Try.ntmps18
      go_wp2_with fail
      have hB1 := (Below.refl w.heap.size w).alloc (Nat.le_refl _) (.cells #[.string nm, .int .i64 (I : Int), .int .i64 (O : Int), .slice RA Rn Rc] 24)
      have hblk := (Mem.Blk.new w 24 #[.string nm, .int .i64 (I : Int), .int .i64 (O : Int), .slice RA Rn Rc])
      have hlt1 : w.heap.size < (w.alloc (.cells #[.string nm, .int .i64 (I : Int), .int .i64 (O : Int), .slice RA Rn Rc] 24)).heap.size := by simp
      have hsz1 : w.heap.size ≤ (w.alloc (.cells #[.string nm, .int .i64 (I : Int), .int .i64 (O : Int), .slice RA Rn Rc] 24)).heap.size := by simp
      obtain ⟨W1, hW1⟩ : ∃ W1, W1 = w.alloc (.cells #[.string nm, .int .i64 (I : Int), .int .i64 (O : Int), .slice RA Rn Rc] 24) := ⟨_, rfl⟩
      rw [← hW1] at hB1 hblk hlt1 hsz1 ⊢
      clear hW1
      have HBLK := Lib.hid hblk
      clear hblk
      refine (HN.out W1 ((HH.out.below hB1).more hsz1)).mono ?_
      rintro e w2 ⟨rfl, hb2⟩
      have v0 : w2.cell? ⟨w.heap.size, 0, none⟩ = some (.string nm) := (hb2.cell (p := ⟨w.heap.size, 0, none⟩) hlt1).trans (HBLK.out.cell 0)
      have v1 : w2.cell? ⟨w.heap.size, 1, none⟩ = some (.int .i64 (I : Int)) := (hb2.cell (p := ⟨w.heap.size, 1, none⟩) hlt1).trans (HBLK.out.cell 1)
      have v2 : w2.cell? ⟨w.heap.size, 2, none⟩ = some (.int .i64 (O : Int)) := (hb2.cell (p := ⟨w.heap.size, 2, none⟩) hlt1).trans (HBLK.out.cell 2)
      have v3 : w2.cell? ⟨w.heap.size, 3, none⟩ = some (.slice RA Rn Rc) := (hb2.cell (p := ⟨w.heap.size, 3, none⟩) hlt1).trans (HBLK.out.cell 3)
      have V1 := Lib.hid v1
      have hlt2 := Nat.lt_of_lt_of_le hlt1 hb2.size
      have hB2 := hB1.trans (hb2.mono hB1.size)
      go_wp2
      clear v0 v1 v2 v3
      go_loopw [8, 30] (fun s8 s30 wr => ∃ (i : Nat) (xs : List Int), i ≤ N ∧ xs.length = i ∧ s30 = .int .i64 (i : Nat) ∧ xs = (List.range i).map (fun j => ((F + j * I : Nat) : Int)) ∧ wr.ownsRow w2.heap.size 3 1 s8 xs.length (xs.flatMap intCells) ∧ Below w2.heap.size w2 wr) (fun _ s30 _ => N - (intOf s30).toNat)
      case atStart => exact ⟨0, [], Nat.zero_le _, rfl, rfl, rfl, ⟨rfl, .inl ⟨rfl, rfl⟩⟩, Below.refl _ _⟩
      case round =>
        obtain ⟨i, xs, hiN0, hxl, rfl, hxs, hown, hb⟩ := hrel
        have HO := Lib.hid hown
        have HXS := Lib.hid hxs
        have HXL := Lib.hid hxl
        clear hown hxs
        have y1 := (hb.cell (p := ⟨w.heap.size, 1, none⟩) hlt2).trans V1.out
        by_cases hiN : i < N
        · have hd : decide ((i : Int) < (200 : Int)) = true := decide_eq_true (by omega)
          obtain ⟨p, hp⟩ : ∃ p, p = i * I := ⟨_, rfl⟩
          have hpi : (i : Int) * (I : Int) = (p : Int) := by rw [hp, Int.natCast_mul]
          have hpb : p ≤ 9007199254740992 := by
            have h1 : i * I ≤ q * I := Nat.mul_le_mul_right _ (by omega)
            have h2 := HQM.out
            omega
          have HP := Lib.hid hp
          clear hp hxl
          have hxb : xs.length ≤ 200 := by rw [HXL.out]; omega
          go_wp2_with (at_builtin; refine wpList_append_own _ rfl _ _ 26 rfl w2.heap.size 3 i0 (.int .i64 0) 1 8 Try.underlying26 hi hz0 hz1 hz2 rfl (by decide) _ _ _ rfl (HO.out.alloc _) ⟨wr.heap.size, 0, none⟩ 1 1 [.int .i64 ((F : Int) + (p : Int))] rfl rfl ?c1 ?c2 ?c3 ?c4 ?c5 ?_)
          case c1 =>
            intro j u hj
            match j, hj with
            | 0, hj => simp at hj; subst hj; simp [Addr.add]
          case c2 => intro u hu; simp at hu; subst hu; rfl
          case c3 => unfold maxLen; omega
          case c4 => omega
          case c5 => have := hb.size; simp; omega
          intro v' w5 hown' hgrow _
          have hb5 := (hb.alloc hb.size (.cells #[.int .i64 ((F : Int) + (p : Int))] 3)).grown hgrow (by have := hb.size; simp; omega) (fun g e => (HO.out.lt g e).1)
          have HOW := Lib.hid hown'
          clear hown'
          go_wp2
          go_roundw
          case rel =>
            refine ⟨i + 1, xs ++ [(F : Int) + (p : Int)], by omega, by rw [List.length_append, HXL.out]; rfl, by go_num, ?_, ?_, hb5⟩
            · rw [List.range_succ, List.map_append, ← HXS.out, List.map_cons, List.map_nil, ← HP.out]
              rfl
            · have := HOW.out
              rw [List.length_append, List.flatMap_append]
              exact this
          case measure => simp [intOf]; omega
        · have hd : decide ((i : Int) < (200 : Int)) = false := decide_eq_false (by omega)
          have hiN2 : i = N := by omega
          have HIN := Lib.hid hiN2
          clear hxl hiN hiN2
          go_wp2
          go_ret
          obtain ⟨A5, c5, rfl, hrec⟩ := Recs.of_own (f := intCells) (sz := 1) intCells_len (by decide) HO.out
          refine ⟨A5, _, c5, rfl, ?_, hB2.trans (hb.mono hB2.size)⟩
          rw [HRES.out, ← HIN.out, ← HXS.out]
          exact hrec
  · have hm2 : now = (m : Int) := by omega
    have hdi : now - (F : Int) = (d : Int) := by omega
    have hd0 : decide ((F : Int) < 0) = false := decide_eq_false (by omega)
    have hd1 : decide (now < (F : Int)) = false := decide_eq_false (by omega)
    have hnb : now ≤ 9007199254740992 := by omega
    by_cases hN2 : q + 1 < 200
    · have hdn : decide ((q : Int) + 1 < 200) = true := decide_eq_true (by omega)
      have hNe : (N : Int) = (q : Int) + 1 := by omega
      have hNq1 : N = q + 1 := by omega
      have HNE := Lib.hid hNq1
      have hNle : q + 1 ≤ N := by omega
      clear hNe hNq1
      clear hm hd hq hqm hN hm2
      go_enter Try.func18, Try.ntmps18
      go_wp2_with fail
      have hB1 := (Below.refl w.heap.size w).alloc (Nat.le_refl _) (.cells #[.string nm, .int .i64 (I : Int), .int .i64 (O : Int), .slice RA Rn Rc] 24)
      have hblk := (Mem.Blk.new w 24 #[.string nm, .int .i64 (I : Int), .int .i64 (O : Int), .slice RA Rn Rc])
      have hlt1 : w.heap.size < (w.alloc (.cells #[.string nm, .int .i64 (I : Int), .int .i64 (O : Int), .slice RA Rn Rc] 24)).heap.size := by simp
      have hsz1 : w.heap.size ≤ (w.alloc (.cells #[.string nm, .int .i64 (I : Int), .int .i64 (O : Int), .slice RA Rn Rc] 24)).heap.size := by simp
      obtain ⟨W1, hW1⟩ : ∃ W1, W1 = w.alloc (.cells #[.string nm, .int .i64 (I : Int), .int .i64 (O : Int), .slice RA Rn Rc] 24) := ⟨_, rfl⟩
      rw [← hW1] at hB1 hblk hlt1 hsz1 ⊢
      clear hW1
      have HBLK := Lib.hid hblk
      clear hblk
      refine (HN.out W1 ((HH.out.below hB1).more hsz1)).mono ?_
      rintro e w2 ⟨rfl, hb2⟩
      have v0 : w2.cell? ⟨w.heap.size, 0, none⟩ = some (.string nm) := (hb2.cell (p := ⟨w.heap.size, 0, none⟩) hlt1).trans (HBLK.out.cell 0)
      have v1 : w2.cell? ⟨w.heap.size, 1, none⟩ = some (.int .i64 (I : Int)) := (hb2.cell (p := ⟨w.heap.size, 1, none⟩) hlt1).trans (HBLK.out.cell 1)
      have v2 : w2.cell? ⟨w.heap.size, 2, none⟩ = some (.int .i64 (O : Int)) := (hb2.cell (p := ⟨w.heap.size, 2, none⟩) hlt1).trans (HBLK.out.cell 2)
      have v3 : w2.cell? ⟨w.heap.size, 3, none⟩ = some (.slice RA Rn Rc) := (hb2.cell (p := ⟨w.heap.size, 3, none⟩) hlt1).trans (HBLK.out.cell 3)
      have V1 := Lib.hid v1
      have hlt2 := Nat.lt_of_lt_of_le hlt1 hb2.size
      have hB2 := hB1.trans (hb2.mono hB1.size)
      go_wp2
      clear v0 v1 v2 v3
      go_loopw [8, 30] (fun s8 s30 wr => ∃ (i : Nat) (xs : List Int), i ≤ N ∧ xs.length = i ∧ s30 = .int .i64 (i : Nat) ∧ xs = (List.range i).map (fun j => ((F + j * I : Nat) : Int)) ∧ wr.ownsRow w2.heap.size 3 1 s8 xs.length (xs.flatMap intCells) ∧ Below w2.heap.size w2 wr) (fun _ s30 _ => N - (intOf s30).toNat)
      case atStart => exact ⟨0, [], Nat.zero_le _, rfl, rfl, rfl, ⟨rfl, .inl ⟨rfl, rfl⟩⟩, Below.refl _ _⟩
      case round =>
        obtain ⟨i, xs, hiN0, hxl, rfl, hxs, hown, hb⟩ := hrel
        have HO := Lib.hid hown
        have HXS := Lib.hid hxs
        have HXL := Lib.hid hxl
        clear hown hxs
        have y1 := (hb.cell (p := ⟨w.heap.size, 1, none⟩) hlt2).trans V1.out
        by_cases hiN : i < N
        · have hd : decide ((i : Int) < (q : Int) + 1) = true := decide_eq_true (by omega)
          obtain ⟨p, hp⟩ : ∃ p, p = i * I := ⟨_, rfl⟩
          have hpi : (i : Int) * (I : Int) = (p : Int) := by rw [hp, Int.natCast_mul]
          have hpb : p ≤ 9007199254740992 := by
            have h1 : i * I ≤ q * I := Nat.mul_le_mul_right _ (by omega)
            have h2 := HQM.out
            omega
          have HP := Lib.hid hp
          clear hp hxl
          have hxb : xs.length ≤ 200 := by rw [HXL.out]; omega
          go_wp2_with (at_builtin; refine wpList_append_own _ rfl _ _ 26 rfl w2.heap.size 3 i0 (.int .i64 0) 1 8 Try.underlying26 hi hz0 hz1 hz2 rfl (by decide) _ _ _ rfl (HO.out.alloc _) ⟨wr.heap.size, 0, none⟩ 1 1 [.int .i64 ((F : Int) + (p : Int))] rfl rfl ?c1 ?c2 ?c3 ?c4 ?c5 ?_)
          case c1 =>
            intro j u hj
            match j, hj with
            | 0, hj => simp at hj; subst hj; simp [Addr.add]
          case c2 => intro u hu; simp at hu; subst hu; rfl
          case c3 => unfold maxLen; omega
          case c4 => omega
          case c5 => have := hb.size; simp; omega
          intro v' w5 hown' hgrow _
          have hb5 := (hb.alloc hb.size (.cells #[.int .i64 ((F : Int) + (p : Int))] 3)).grown hgrow (by have := hb.size; simp; omega) (fun g e => (HO.out.lt g e).1)
          have HOW := Lib.hid hown'
          clear hown'
          go_wp2
          go_roundw
          case rel =>
            refine ⟨i + 1, xs ++ [(F : Int) + (p : Int)], by omega, by rw [List.length_append, HXL.out]; rfl, by go_num, ?_, ?_, hb5⟩
            · rw [List.range_succ, List.map_append, ← HXS.out, List.map_cons, List.map_nil, ← HP.out]
              rfl
            · have := HOW.out
              rw [List.length_append, List.flatMap_append]
              exact this
          case measure => simp [intOf]; omega
        · have hd : decide ((i : Int) < (q : Int) + 1) = false := decide_eq_false (by omega)
          have hiN2 : i = N := by omega
          have HIN := Lib.hid hiN2
          clear hxl hiN hiN2
          go_wp2
          go_ret
          obtain ⟨A5, c5, rfl, hrec⟩ := Recs.of_own (f := intCells) (sz := 1) intCells_len (by decide) HO.out
          refine ⟨A5, _, c5, rfl, ?_, hB2.trans (hb.mono hB2.size)⟩
          rw [HRES.out, ← HIN.out, ← HXS.out]
          exact hrec
    · have hdn : decide ((q : Int) + 1 < 200) = false := decide_eq_false (by omega)
      have hNle : 200 ≤ N := by omega
      clear hm hd hq hqm hN hm2
      go_enter Try.func18, Try.ntmps18
      go_wp2_with fail
      have hB1 := (Below.refl w.heap.size w).alloc (Nat.le_refl _) (.cells #[.string nm, .int .i64 (I : Int), .int .i64 (O : Int), .slice RA Rn Rc] 24)
      have hblk := (Mem.Blk.new w 24 #[.string nm, .int .i64 (I : Int), .int .i64 (O : Int), .slice RA Rn Rc])
      have hlt1 : w.heap.size < (w.alloc (.cells #[.string nm, .int .i64 (I : Int), .int .i64 (O : Int), .slice RA Rn Rc] 24)).heap.size := by simp
      have hsz1 : w.heap.size ≤ (w.alloc (.cells #[.string nm, .int .i64 (I : Int), .int .i64 (O : Int), .slice RA Rn Rc] 24)).heap.size := by simp
      obtain ⟨W1, hW1⟩ : ∃ W1, W1 = w.alloc (.cells #[.string nm, .int .i64 (I : Int), .int .i64 (O : Int), .slice RA Rn Rc] 24) := ⟨_, rfl⟩
      rw [← hW1] at hB1 hblk hlt1 hsz1 ⊢
      clear hW1
      have HBLK := Lib.hid hblk
      clear hblk
      refine (HN.out W1 ((HH.out.below hB1).more hsz1)).mono ?_
      rintro e w2 ⟨rfl, hb2⟩
      have v0 : w2.cell? ⟨w.heap.size, 0, none⟩ = some (.string nm) := (hb2.cell (p := ⟨w.heap.size, 0, none⟩) hlt1).trans (HBLK.out.cell 0)
      have v1 : w2.cell? ⟨w.heap.size, 1, none⟩ = some (.int .i64 (I : Int)) := (hb2.cell (p := ⟨w.heap.size, 1, none⟩) hlt1).trans (HBLK.out.cell 1)
      have v2 : w2.cell? ⟨w.heap.size, 2, none⟩ = some (.int .i64 (O : Int)) := (hb2.cell (p := ⟨w.heap.size, 2, none⟩) hlt1).trans (HBLK.out.cell 2)
      have v3 : w2.cell? ⟨w.heap.size, 3, none⟩ = some (.slice RA Rn Rc) := (hb2.cell (p := ⟨w.heap.size, 3, none⟩) hlt1).trans (HBLK.out.cell 3)
      have V1 := Lib.hid v1
      have hlt2 := Nat.lt_of_lt_of_le hlt1 hb2.size
      have hB2 := hB1.trans (hb2.mono hB1.size)
      go_wp2
      clear v0 v1 v2 v3
      go_loopw [8, 30] (fun s8 s30 wr => ∃ (i : Nat) (xs : List Int), i ≤ N ∧ xs.length = i ∧ s30 = .int .i64 (i : Nat) ∧ xs = (List.range i).map (fun j => ((F + j * I : Nat) : Int)) ∧ wr.ownsRow w2.heap.size 3 1 s8 xs.length (xs.flatMap intCells) ∧ Below w2.heap.size w2 wr) (fun _ s30 _ => N - (intOf s30).toNat)
      case atStart => exact ⟨0, [], Nat.zero_le _, rfl, rfl, rfl, ⟨rfl, .inl ⟨rfl, rfl⟩⟩, Below.refl _ _⟩
      case round =>
        obtain ⟨i, xs, hiN0, hxl, rfl, hxs, hown, hb⟩ := hrel
        have HO := Lib.hid hown
        have HXS := Lib.hid hxs
        have HXL := Lib.hid hxl
        clear hown hxs
        have y1 := (hb.cell (p := ⟨w.heap.size, 1, none⟩) hlt2).trans V1.out
        by_cases hiN : i < N
        · have hd : decide ((i : Int) < (200 : Int)) = true := decide_eq_true (by omega)
          obtain ⟨p, hp⟩ : ∃ p, p = i * I := ⟨_, rfl⟩
          have hpi : (i : Int) * (I : Int) = (p : Int) := by rw [hp, Int.natCast_mul]
          have hpb : p ≤ 9007199254740992 := by
            have h1 : i * I ≤ q * I := Nat.mul_le_mul_right _ (by omega)
            have h2 := HQM.out
            omega
          have HP := Lib.hid hp
          clear hp hxl
          have hxb : xs.length ≤ 200 := by rw [HXL.out]; omega
          go_wp2_with (at_builtin; refine wpList_append_own _ rfl _ _ 26 rfl w2.heap.size 3 i0 (.int .i64 0) 1 8 Try.underlying26 hi hz0 hz1 hz2 rfl (by decide) _ _ _ rfl (HO.out.alloc _) ⟨wr.heap.size, 0, none⟩ 1 1 [.int .i64 ((F : Int) + (p : Int))] rfl rfl ?c1 ?c2 ?c3 ?c4 ?c5 ?_)
          case c1 =>
            intro j u hj
            match j, hj with
            | 0, hj => simp at hj; subst hj; simp [Addr.add]
          case c2 => intro u hu; simp at hu; subst hu; rfl
          case c3 => unfold maxLen; omega
          case c4 => omega
          case c5 => have := hb.size; simp; omega
          intro v' w5 hown' hgrow _
          have hb5 := (hb.alloc hb.size (.cells #[.int .i64 ((F : Int) + (p : Int))] 3)).grown hgrow (by have := hb.size; simp; omega) (fun g e => (HO.out.lt g e).1)
          have HOW := Lib.hid hown'
          clear hown'
          go_wp2
          go_roundw
          case rel =>
            refine ⟨i + 1, xs ++ [(F : Int) + (p : Int)], by omega, by rw [List.length_append, HXL.out]; rfl, by go_num, ?_, ?_, hb5⟩
            · rw [List.range_succ, List.map_append, ← HXS.out, List.map_cons, List.map_nil, ← HP.out]
              rfl
            · have := HOW.out
              rw [List.length_append, List.flatMap_append]
              exact this
          case measure => simp [intOf]; omega
        · have hd : decide ((i : Int) < (200 : Int)) = false := decide_eq_false (by omega)
          have hiN2 : i = N := by omega
          have HIN := Lib.hid hiN2
          clear hxl hiN hiN2
          go_wp2
          go_ret
          obtain ⟨A5, c5, rfl, hrec⟩ := Recs.of_own (f := intCells) (sz := 1) intCells_len (by decide) HO.out
          refine ⟨A5, _, c5, rfl, ?_, hB2.trans (hb.mono hB2.size)⟩
          rw [HRES.out, ← HIN.out, ← HXS.out]
          exact hrec
end Go.Proofs.Ythjnhifaejoigaa
