/- The walk of series.Append. -/
import Derived.Test.YtidfiiogjfpfmaaSerG
import Derived.Deep.RegionHeld3
namespace Go.Proofs.Ytidfiiogjfpfmaa.SerW
open Go.RowKit Go.Shelf

set_option linter.unusedSimpArgs false
set_option linter.unusedVariables false

attribute [local go_sem] Oper.semAt_some

/-- what Append's body knows -/
def ApI (w : World) (sv : Value) (x : Int × Int) (rv : Value) (er : Int) (W : World) : Prop :=
  (((Mem.Blk W w.heap.size 33 #[sv] ∧ Mem.Blk W (w.heap.size + 1) 25 #[.int .i64 x.1, .int .i64 x.2]) ∧ Mem.Blk W (w.heap.size + 1 + 1) 33 #[rv]) ∧ Mem.Blk W (w.heap.size + 1 + 1 + 1) 29 #[.int .i64 er]) ∧ Below w.heap.size w W
theorem apI_own {β : Type} (w : World) (sv : Value) (x : Int × Int) (rv : Value) (er : Int) (B : Nat) (hB : w.heap.size ≤ B) : OwnFrom B (fun (_ : β) W => ApI w sv x rv er W) :=
  OwnFrom.and (OwnFrom.and (OwnFrom.and (OwnFrom.and (Own.from (blk_own _ _ _) _) (Own.from (blk_own _ _ _) _)) (Own.from (blk_own _ _ _) _)) (Own.from (blk_own _ _ _) _)) (ownFrom_below (Nat.le_refl _) hB)
theorem ApI.alloc {w W : World} {sv rv : Value} {x : Int × Int} {er : Int} (h : ApI w sv x rv er W) (o : Obj) : ApI w sv x rv er (W.alloc o) :=
  ⟨⟨⟨⟨h.1.1.1.1.alloc _, h.1.1.1.2.alloc _⟩, h.1.1.2.alloc _⟩, h.1.2.alloc _⟩, h.2.alloc h.2.size _⟩
theorem ApI.result {w W : World} {sv rv : Value} {x : Int × Int} {er : Int} (h : ApI w sv x rv er W) (rv' : Value) (er' : Int) :
    ApI w sv x rv' er' ((W.setCell ⟨w.heap.size + 1 + 1, 0, none⟩ rv').setCell ⟨w.heap.size + 1 + 1 + 1, 0, none⟩ (.int .i64 er')) := by
  refine ⟨⟨⟨⟨?_, ?_⟩, ?_⟩, ?_⟩, ?_⟩
  · exact (h.1.1.1.1.far (by simp; omega) _).far (by simp; omega) _
  · exact (h.1.1.1.2.far (by simp) _).far (by simp) _
  · exact (h.1.1.2.set_ 0 _).far (by simp) _
  · exact (h.1.2.far (by simp) _).set_ 0 _
  · exact (h.2.setCell (by simp; omega) _).setCell (by simp; omega) _
theorem ap_results {w W : World} {sv rv : Value} {x : Int × Int} {er : Int} (h : ApI w sv x rv er W) (tmps : Array Value) (h4 : tmps[4]?.getD undef = .pointer (some ⟨w.heap.size + 1 + 1, 0, none⟩)) (h5 : tmps[5]?.getD undef = .pointer (some ⟨w.heap.size + 1 + 1 + 1, 0, none⟩)) :
    (results Try.f14 tmps).run Try.prog W = .ok (.tuple #[rv, .int .i64 er]) W := by
  have c4 := h.1.1.2.cell 0
  have c5 := h.1.2.cell 0
  simp at c4 c5
  simp [results, Try.results14, h4, h5, go_sem, c4, c5]
theorem ApI.drew {w W : World} {sv rv : Value} {x : Int × Int} {er : Int} (h : ApI w sv x rv er W) : ApI w sv x rv er W.drew := ⟨h.1, h.2.drew⟩
theorem ApI.later {w W W' : World} {sv rv : Value} {x : Int × Int} {er : Int} (h : ApI w sv x rv er W) (hb : Below W.heap.size W W') : ApI w sv x rv er W' :=
  ⟨⟨⟨⟨h.1.1.1.1.below hb h.1.1.1.1.lt, h.1.1.1.2.below hb h.1.1.1.2.lt⟩, h.1.1.2.below hb h.1.1.2.lt⟩, h.1.2.below hb h.1.2.lt⟩, h.2.trans (hb.mono h.2.size)⟩
theorem ApI.grown {w W W' : World} {sv rv : Value} {x : Int × Int} {er : Int} {row : Option Nat} (h : ApI w sv x rv er W) (hg : W.grownBy W' row) (hr : ∀ k, row = some k → w.heap.size + 4 ≤ k) : ApI w sv x rv er W' := by
  refine ⟨⟨⟨⟨h.1.1.1.1.grown hg ?_, h.1.1.1.2.grown hg ?_⟩, h.1.1.2.grown hg ?_⟩, h.1.2.grown hg ?_⟩, h.2.grown hg h.2.size (fun k e => by have := hr k e; omega)⟩
  all_goals intro e; have := hr _ e.symm; omega
theorem ApI.reset {w W : World} {sv rv : Value} {x : Int × Int} {er : Int} (h : ApI w sv x rv er W) (u : Value) : ApI w u x rv er (W.setCell ⟨w.heap.size, 0, none⟩ u) := by
  refine ⟨⟨⟨⟨h.1.1.1.1.set_ 0 _, ?_⟩, ?_⟩, ?_⟩, h.2.setCell (Nat.le_refl _) _⟩
  · exact h.1.1.1.2.far (by simp) _
  · exact h.1.1.2.far (by simp; omega) _
  · exact h.1.2.far (by simp; omega) _
theorem Smp.tail {W : World} {B n c b off : Nat} {xs : List (Int × Int)} (h : Smp W B (some ⟨b, off, none⟩) n c xs) (hn : 1 ≤ n) : Smp W B (some ⟨b, off + 2, none⟩) (n - 1) (c - 1) xs.tail := by
  refine ⟨by rw [List.length_tail, h.1], by have := h.2.1; omega, by have := h.2.2.1; omega, fun h0 => ?_⟩
  obtain ⟨b', off', e, hb, hc⟩ := h.2.2.2 (by omega)
  cases e
  refine ⟨b, off + 2, rfl, hb, fun j hj => ?_⟩
  have := hc (j + 1) (by omega)
  have e1 : Ser.tAt xs.tail j = Ser.tAt xs (j + 1) := by unfold Ser.tAt; rw [List.getElem?_tail]
  have e2 : Ser.vAt xs.tail j = Ser.vAt xs (j + 1) := by unfold Ser.vAt; rw [List.getElem?_tail]
  rw [e1, e2, show off + 2 + j * 2 = off + (j + 1) * 2 by omega]
  exact this
theorem drew_size (W : World) : W.drew.heap.size = W.heap.size := rfl
theorem keeps2 (W : World) (a b : Addr) (u v : Value) (B : Nat) : KeepsFrom B W ((W.setCell a u).setCell b v) := ((KeepsOthers.setCell _ _ _).trans (KeepsOthers.setCell _ _ _)).from _
/-- how Append's body leaves -/
def ApX (w : World) (sv : Value) (x y : Int × Int) (cd : Code) (W : World) : Prop :=
  (cd = .ret ∧ x.1 ≤ y.1 ∧ ApI w sv x sv 9 W) ∨ (cd = .exit 0 ∧ ¬ x.1 ≤ y.1 ∧ ApI w sv x (.slice none 0 0) 0 W)
/-- what Append hands back -/
def ApR (w : World) (xs : List (Int × Int)) (x : Int × Int) (e : Ending) (w' : World) : Prop :=
  ∃ A n c, e = .returned (.tuple #[.slice A n c, .int .i64 (Ser.append xs x).2]) ∧ Smp w' w'.heap.size A n c (Ser.append xs x).1 ∧ Below w.heap.size w w'

theorem ap_finish {w w6 : World} {sv rv : Value} {x : Int × Int} {er : Int} {xs ys : List (Int × Int)} {base gg n cap D : Nat} (hI6 : ApI w sv x rv er w6)
    (hown : w6.ownsRow base 25 2 (.slice (some ⟨gg, 0, none⟩) (n + 1) cap) (n + 1) ((Ser.cells ys).map (Value.int .i64) ++ [.int .i64 x.1, .int .i64 x.2])) (hb : w.heap.size + 4 ≤ base)
    (hK : w6.heap[D]? = some (.deferred (some []))) (hD : w.heap.size + 4 ≤ D) (he : Ser.append xs x = (ys ++ [x], 0)) (tmps : Array Value)
    (h4 : tmps[4]?.getD undef = .pointer (some ⟨w.heap.size + 1 + 1, 0, none⟩)) (h5 : tmps[5]?.getD undef = .pointer (some ⟨w.heap.size + 1 + 1 + 1, 0, none⟩)) :
    bodyPostM Fence.wide 10 Try.prog Try.f14 (ApR w xs x) .ret { tmps := tmps, defers := [{ target := Target.collected D, args := #[] }] }
      ((w6.setCell ⟨w.heap.size + 1 + 1, 0, none⟩ (.slice (some ⟨gg, 0, none⟩) (n + 1) cap)).setCell ⟨w.heap.size + 1 + 1 + 1, 0, none⟩ (.int .i64 0)) := by
  have hgg : base ≤ gg := own_ge (k := gg) hown rfl
  have hK2 := ((KeepsOthers.setCell w6 ⟨w.heap.size + 1 + 1, 0, none⟩ (.slice (some ⟨gg, 0, none⟩) (n + 1) cap)).trans (KeepsOthers.setCell _ ⟨w.heap.size + 1 + 1 + 1, 0, none⟩ (.int .i64 0))).same D _ hK rfl
  refine ⟨by simp, .inl ⟨_, _, rfl, run_takeDeferred hK2, ?_⟩⟩
  have hI7 := (apI_own (β := Unit) w _ _ _ _ _ (Nat.le_refl _)).putObj (s := ()) (.deferred none) (hI6.result (.slice (some ⟨gg, 0, none⟩) (n + 1) cap) 0) (by omega) hK2 rfl
  have ho1 := hown.kept (grownBy_setCell' w6 (w.heap.size + 1 + 1) (.slice (some ⟨gg, 0, none⟩) (n + 1) cap)) (.inr (by simp [Value.ownBlock]; omega))
  have ho2 := ho1.kept (grownBy_setCell' _ (w.heap.size + 1 + 1 + 1) (.int .i64 0)) (.inr (by simp [Value.ownBlock]; omega))
  have ho3 := ownsRow_putObj ho2 (.deferred none) hK2 rfl
  have e : (Ser.cells ys).map (Value.int .i64) ++ [.int .i64 x.1, .int .i64 x.2] = (Ser.cells (ys ++ [x])).map (Value.int .i64) := by rw [Ser.cells_snoc, List.map_append]; rfl
  rw [e] at ho3
  obtain ⟨A, c, hv, hs⟩ := Smp.of_own ho3
  refine ⟨_, ap_results hI7 _ h4 h5, A, n + 1, c, ?_, ?_, hI7.2⟩
  · rw [he, hv]
  · rw [he]; exact hs

set_option maxRecDepth 100000 in
set_option maxHeartbeats 2000000 in
theorem append_any (A : Option Addr) (m c : Nat) (xs : List (Int × Int)) (x : Int × Int) (w : World) (h : Smp w w.heap.size A m c xs) :
    Calls Try.prog 14 #[.slice A m c, .agg #[.int .i64 x.1, .int .i64 x.2]] w (ApR w xs x) := by
  obtain ⟨i0, hi0, hz0, hz1, hz2⟩ := info_parts smpInfo
  refine (callsIn_wide (n := 10)).1 ?_
  have hro : Fence.wide.round = none := rfl
  refine callsIn_of_wp_marks Try.func14 rfl trivial ?_ hro
  simp only [Try.ntmps14, List.size_toArray, List.length_cons, List.length_nil, Nat.reduceAdd, Nat.reduceSub, Array.replicate_succ, Array.replicate_zero, List.push_toArray, List.append_toArray, List.nil_append, List.cons_append]
  gi_wp2_with fail
  have b2 := (((Mem.Blk.new w 33 #[.slice A m c]).alloc (.cells #[.int .i64 x.1, .int .i64 x.2] 25)).alloc (.cells #[.slice none 0 0] 33)).alloc (.cells #[.int .i64 0] 29)
  have b3 := ((Mem.Blk.new (w.alloc (.cells #[.slice A m c] 33)) 25 #[.int .i64 x.1, .int .i64 x.2]).alloc (.cells #[.slice none 0 0] 33)).alloc (.cells #[.int .i64 0] 29)
  have b4 := (Mem.Blk.new ((w.alloc (.cells #[.slice A m c] 33)).alloc (.cells #[.int .i64 x.1, .int .i64 x.2] 25)) 33 #[.slice none 0 0]).alloc (.cells #[.int .i64 0] 29)
  have b5 := Mem.Blk.new (((w.alloc (.cells #[.slice A m c] 33)).alloc (.cells #[.int .i64 x.1, .int .i64 x.2] 25)).alloc (.cells #[.slice none 0 0] 33)) 29 #[.int .i64 0]
  have hB0 : Below w.heap.size w ((((w.alloc (.cells #[.slice A m c] 33)).alloc (.cells #[.int .i64 x.1, .int .i64 x.2] 25)).alloc (.cells #[.slice none 0 0] 33)).alloc (.cells #[.int .i64 0] 29)) := (by repeat (first | assumption | exact Below.refl _ _ | apply Mem.below_drewN | apply Below.drew | refine Below.alloc ?_ (by first | assumption | omega | (simp; done) | (simp; omega)) _ | refine Below.setCell ?_ (by first | assumption | omega | (simp; done) | (simp; omega)) _))
  simp only [World.size_alloc] at b2 b3 b4 b5
  have hsz : ((((w.alloc (.cells #[.slice A m c] 33)).alloc (.cells #[.int .i64 x.1, .int .i64 x.2] 25)).alloc (.cells #[.slice none 0 0] 33)).alloc (.cells #[.int .i64 0] 29)).heap.size = w.heap.size + 4 := by simp
  obtain ⟨W0, hW0⟩ : ∃ W0, (((w.alloc (.cells #[.slice A m c] 33)).alloc (.cells #[.int .i64 x.1, .int .i64 x.2] 25)).alloc (.cells #[.slice none 0 0] 33)).alloc (.cells #[.int .i64 0] 29) = W0 := ⟨_, rfl⟩
  rw [hW0] at b2 b3 b4 b5 hB0 hsz ⊢
  clear hW0
  refine ⟨trivial, ?_⟩
  refine (callsIn_wide.2 (counted_any w.heap.size A m c xs W0 (by omega) (h.below hB0))).mono ?_
  rintro e w1 ⟨A', n', c', rfl, hS1, hB1⟩
  have hz1' := hB1.size
  have hlen64 : n' ≤ 64 := by rw [← hS1.1]; exact Ser.counted_length xs
  have hI1 : ApI w (.slice A' n' c') x (.slice none 0 0) 0 (w1.setCell ⟨w.heap.size, 0, none⟩ (.slice A' n' c')) := by
    refine ⟨⟨⟨⟨(b2.below hB1 b2.lt).set_ 0 _, ?_⟩, ?_⟩, ?_⟩, ?_⟩
    · exact (b3.below hB1 b3.lt).far (by simp) _
    · exact (b4.below hB1 b4.lt).far (by simp; omega) _
    · exact (b5.below hB1 b5.lt).far (by simp; omega) _
    · exact (hB0.trans (hB1.mono (by omega))).setCell (Nat.le_refl _) _
  have hS2 : Smp (w1.setCell ⟨w.heap.size, 0, none⟩ (.slice A' n' c')) w.heap.size A' n' c' (Ser.counted xs) := hS1.setCell (Nat.le_refl _) _
  have c2 := (b2.below hB1 b2.lt).cell 0
  have f2 := (b2.below hB1 b2.lt).frozen 0
  have c3 := (b3.below hB1 b3.lt).cell 0
  have c3' := (b3.below hB1 b3.lt).cell 1
  simp at c2 c3 c3'
  obtain ⟨W1, hW1⟩ : ∃ W1, w1.setCell ⟨w.heap.size, 0, none⟩ (.slice A' n' c') = W1 := ⟨_, rfl⟩
  rw [hW1] at hI1 hS2
  have HW1 := Lib.hid hW1
  clear hW1 b2 b3 b4 b5 hB1 hB0 hS1 hsz
  gi_wp2_with fail
  rw [HW1.out]
  have k2 := hI1.1.1.1.1.cell 0
  have k3 := hI1.1.1.1.2.cell 0
  have k3' := hI1.1.1.1.2.cell 1
  have k4 := hI1.1.1.2.cell 0
  have k5 := hI1.1.2.cell 0
  have g2 := hI1.1.1.1.1.frozen 0
  have g4 := hI1.1.1.2.frozen 0
  have g5 := hI1.1.2.frozen 0
  simp at k2 k3 k3' k4 k5
  have HI := Lib.hid hI1
  have HS := Lib.hid hS2
  have HH := Lib.hid h
  clear hI1 hS2 h c2 f2 c3 c3'
  by_cases ht : Ser.isTime x.1 = true
  · by_cases hv : Ser.isNum x.2 = true
    · gi_wp2_with (first | (first | (refine ⟨trivial, ?_⟩; gi_at_call 30; refine (callsIn_wide.2 (time_any _ _)).mono ?_; rintro e w' ⟨rfl, rfl⟩) | (refine ⟨trivial, ?_⟩; gi_at_call 31; refine (callsIn_wide.2 (numSane_any _ _)).mono ?_; rintro e w' ⟨rfl, rfl⟩)) | (refine ⟨trivial, ?_⟩; gi_at_call 32; refine (bk_in Fence.wide 9 trivial hro _ _ _ _).mono ?_; rintro e w' ⟨rfl, rfl⟩))
      have hW1s := HI.out.2.size
      have hI0 := HI.out.alloc (.cells #[.slice A' n' c'] 33)
      refine wpIn_rangeFunc_ownH (n := 10) hro (by decide) (gf := 46) (lb := #[.pointer (some ⟨W1.heap.size, 0, none⟩)]) rfl trivial (enters_of Try.func46 (by kernel_rfl) rfl)
        (bk_stops Fence.wide 9 trivial hro (by decide) W1.heap.size w.heap.size n' c' A' (Ser.counted xs) _ (by simp) (by simp; omega) (Boxed.new W1 33 (.slice A' n' c')).cell (HS.out.alloc (by omega) _)) KB.trans (kb_b (by simp; omega) (by simp)) (Below.refl _ _) (fun _ => by rfl)
        (fun pre W => (ApI w (.slice A' n' c') x (.slice none 0 0) 0 W ∧ Mem.Blk W W1.heap.size 33 #[.slice A' n' c']) ∧ pre = [])
        (fun cd pre W => ∃ y, pre = [y] ∧ ApX w (.slice A' n' c') x y cd W)
        (OwnFrom.and (OwnFrom.and (apI_own _ _ _ _ _ _ (by simp; omega)) (Own.from (blk_own _ _ _) _)) (own_pure (fun pre : List (Int × Int) => pre = []) _))
        (fun cd pre X Y row hs hg hr => by
          obtain ⟨y, e, hX⟩ := hs
          refine ⟨y, e, ?_⟩
          rcases hX with ⟨a, b, hI⟩ | ⟨a, b, hI⟩
          · exact .inl ⟨a, b, apI_own w _ _ _ _ _ (by simp; omega) () X Y row hI hg hr⟩
          · exact .inr ⟨a, b, apI_own w _ _ _ _ _ (by simp; omega) () X Y row hI hg hr⟩)
        ⟨⟨hI0, Mem.Blk.new W1 _ _⟩, rfl⟩
        (fun y a' W => ∃ By, W1.heap.size < By ∧ Mem.Blk W By 25 #[.int .i64 y.1, .int .i64 y.2] ∧ a' = { tmps := #[.slice A m c, .agg #[.int .i64 x.1, .int .i64 x.2], .pointer (some ⟨w.heap.size, 0, none⟩), .pointer (some ⟨w.heap.size + 1, 0, none⟩), .pointer (some ⟨w.heap.size + 1 + 1, 0, none⟩), .pointer (some ⟨w.heap.size + 1 + 1 + 1, 0, none⟩), .pointer (some ⟨By, 0, none⟩), .slice A m c, .slice A' n' c', .pointer (some ⟨w.heap.size + 1, 0, none⟩), .int .i64 x.1, .bool true, .bool false, .bool false, .pointer (some ⟨w.heap.size + 1, 1, none⟩), .int .i64 x.2, .bool true, .bool false, .bool false, undef, .slice A' n' c', .func (.func 46) #[] #[.pointer (some ⟨W1.heap.size, 0, none⟩)], .agg #[.int .i64 y.1, .int .i64 y.2], undef, undef, undef, undef, undef, undef, undef, undef, undef, undef, undef, undef, undef, undef, undef, undef], defers := [] })
        (fun y a' _ X Y row hs hg hr => by obtain ⟨By, h1, h2, h3⟩ := hs; exact ⟨By, h1, blk_own By 25 (fun (_ : Unit) => #[.int .i64 y.1, .int .i64 y.2]) () X Y row h2 hg (fun r e => (hr r e).2), h3⟩)
        ?assign ?body ?done ?stop
      case assign =>
        rintro l pre y W K ⟨⟨hI, hBk⟩, hpre⟩ hK
        have hlt := hBk.lt
        have hIs := hI.2.size
        simp only [encS]
        gi_wp2
        refine hK _ _ ((KeepsOthers.alloc _ _).from _) (kb_alloc (by omega) hlt _) ⟨⟨hI.alloc _, hBk.alloc _⟩, hpre⟩ ⟨W.heap.size, hlt, Mem.Blk.new W _ _, rfl⟩
      case body =>
        rintro l pre y a' W hl ⟨r, hr⟩ ⟨⟨hI, hBk⟩, rfl⟩ ⟨By, hBy, bY, rfl⟩ hlt
        have c3 := hI.1.1.1.2.cell 0
        have c2 := hI.1.1.1.1.cell 0
        have c4 := hI.1.1.2.cell 0
        have f4 := hI.1.1.2.frozen 0
        have c5 := hI.1.2.cell 0
        have f5 := hI.1.2.frozen 0
        have cy := bY.cell 0
        have HIb := Lib.hid hI
        clear hI k2 k3 k3' k4 k5 g2 g4 g5
        simp at c2 c3 c4 c5 cy
        gi_wp2
        · have hx : x.1 ≤ y.1 := by assumption
          exact ⟨keeps2 _ _ _ _ _ _, ⟨y, rfl, .inl ⟨rfl, hx, HIb.out.result _ _⟩⟩⟩
        · have hx : y.1 < x.1 := by assumption
          exact ⟨KeepsFrom.refl _ _, ⟨y, rfl, .inr ⟨rfl, by omega, HIb.out⟩⟩⟩
      case done =>
        rintro D ys W hD rfl ⟨⟨hI, hBk⟩, hnil⟩ hK
        have hnil' : Ser.counted xs = [] := by simpa using hnil
        have hn0 : n' = 0 := by have := HS.out.1; rw [hnil'] at this; simpa using this.symm
        subst hn0
        have hSW := HS.out.keep (W' := W) (fun b o hb => (hI.2.cell (p := ⟨b, o, none⟩) hb).trans (HI.out.2.cell (p := ⟨b, o, none⟩) hb).symm)
        have c2 := hI.1.1.1.1.cell 0
        have f2 := hI.1.1.1.1.frozen 0
        have c3 := hI.1.1.1.2.cell 0
        have c3' := hI.1.1.1.2.cell 1
        have c4 := hI.1.1.2.cell 0
        have f4 := hI.1.1.2.frozen 0
        have c5 := hI.1.2.cell 0
        have f5 := hI.1.2.frozen 0
        have HIW := Lib.hid hI
        have HSW := Lib.hid hSW
        clear hI hSW k2 k3 k3' k4 k5 g2 g4 g5
        simp at c2 c3 c3' c4 c5
        have hlW := HIW.out.1.2.lt
        have hl1 := HI.out.1.2.lt
        have he : Ser.append xs x = (Ser.counted xs ++ [x], 0) := by rw [Ser.append_first ht hv hnil', hnil']; rfl
        have HE := Lib.hid he
        clear he hnil hnil'
        gi_wp2
        refine wpIn_wide.2 ?_
        go_region_held3 (fun w' => w'.cell? ⟨w.heap.size, 0, none⟩ = some (.slice A' 0 c') ∧ w'.cell? ⟨w.heap.size + 1, 0, none⟩ = some (.int .i64 x.1) ∧ w'.cell? ⟨w.heap.size + 1, 1, none⟩ = some (.int .i64 x.2))
          (first | (have a2 := hI6.1.1.1.1.cell 0; have a3 := hI6.1.1.1.2.cell 0; have a3' := hI6.1.1.1.2.cell 1; simp at a2 a3 a3'; first | exact ⟨a2, a3, a3'⟩ | exact ⟨(World.cell?_setCell_other _ _ _ _ (by simp)).trans a2, (World.cell?_setCell_other _ _ _ _ (by simp)).trans a3, (World.cell?_setCell_other _ _ _ _ (by simp)).trans a3'⟩ | exact ⟨(World.cell?_setCell_other _ _ _ _ (by simp)).trans ((World.cell?_setCell_other _ _ _ _ (by simp)).trans a2), (World.cell?_setCell_other _ _ _ _ (by simp)).trans ((World.cell?_setCell_other _ _ _ _ (by simp)).trans a3), (World.cell?_setCell_other _ _ _ _ (by simp)).trans ((World.cell?_setCell_other _ _ _ _ (by simp)).trans a3')⟩) | (have a2 := hI5.1.1.1.1.cell 0; have a3 := hI5.1.1.1.2.cell 0; have a3' := hI5.1.1.1.2.cell 1; simp at a2 a3 a3'; exact ⟨a2, a3, a3'⟩) | go_keep)
          (first | (go_at_call 33; refine (clone_any A' 0 c' (Ser.counted xs) _ ?_ (by omega)).mono ?_; (first | (exact HSW.out.more HIW.out.2.size) | (exact (HSW.out.alloc HIW.out.2.size _).more (by simp [drew_size]; omega))); rintro e w5 ⟨v5, rfl, hown5, hb5⟩; have hI5 : ApI w (.slice A' 0 c') x (.slice none 0 0) 0 w5 := (by first | exact HIW.out.later hb5 | exact HIW.out.drew.later hb5 | exact (HIW.out.alloc _).later hb5 | exact (HIW.out.drew.alloc _).later hb5 | exact (HIW.out.alloc _).drew.later hb5); have hvo := fun {k} => own_ge (k := k) hown5; have hb5s := hb5.size; simp only [drew_size, World.size_alloc] at hvo hb5s) | (refine step_append_lies _ (by rfl) _ _ _ (by rfl) _ 25 i0 _ 2 16 Try.underlying33 hi0 hz0 hz1 hz2 rfl (by omega) v5 0 _ (by rfl) (hown5.alloc _) ⟨w5.heap.size, 0, none⟩ 1 1 [.int .i64 x.1, .int .i64 x.2] (by rfl) (by rfl) (World.news_of_block (cs := #[.int .i64 x.1, .int .i64 x.2]) (t := 25) (fr := (0, 0)) (heap_alloc_new w5 _)) (by simp [Value.oneCell']) (by omega) (by unfold maxLen; omega) (by omega) (by simp [drew_size]; omega) (w5.heap.size + 1) (by simp) ?_; intro gg cap w6 hown6 hgrow6 hat6 hlt6; have hI6 := (hI5.alloc _).grown hgrow6 (fun k e => by have := hvo e; omega); have d4 := hI6.1.1.2.cell 0; have e4 := hI6.1.1.2.frozen 0; have d5 := hI6.1.2.cell 0; have e5 := hI6.1.2.frozen 0; simp at d4 d5) | (refine step_append_lies _ (by rfl) _ _ _ (by rfl) _ 25 i0 _ 2 16 Try.underlying33 hi0 hz0 hz1 hz2 rfl (by omega) v5 0 _ (by rfl) hown5 ⟨W.heap.size, 0, none⟩ 1 1 [.int .i64 x.1, .int .i64 x.2] (by rfl) (by rfl) (World.news_of_block (cs := #[.int .i64 x.1, .int .i64 x.2]) (t := 25) (fr := (0, 0)) ((Mem.Blk.new W 25 #[.int .i64 x.1, .int .i64 x.2]).drew.below hb5 (by simp [drew_size]))) (by simp [Value.oneCell']) (by omega) (by unfold maxLen; omega) (by omega) (by simp [drew_size]; omega) w5.heap.size (by simp) ?_; intro gg cap w6 hown6 hgrow6 hat6 hlt6; have hI6 := hI5.grown hgrow6 (fun k e => by have := hvo e; omega); have d4 := hI6.1.1.2.cell 0; have e4 := hI6.1.1.2.frozen 0; have d5 := hI6.1.2.cell 0; have e5 := hI6.1.2.frozen 0; simp at d4 d5))
        all_goals
          gi_wp2
          have hK5 : w5.heap[D]? = some (.deferred (some [])) := by
            first
              | exact (hb5.block D (by simp [drew_size]; exact (Array.getElem?_eq_some_iff.1 hK).1)).trans hK
              | exact (hb5.block D (by simp [drew_size]; have := (Array.getElem?_eq_some_iff.1 hK).1; omega)).trans ((Below.heap_alloc W _ D (Array.getElem?_eq_some_iff.1 hK).1).trans hK)
          have hDW := (Array.getElem?_eq_some_iff.1 hK).1
          have hK6 : w6.heap[D]? = some (.deferred (some [])) := by
            first
              | exact (hgrow6.block D (by simp; omega) (fun e => by have := hvo e.symm; omega)).trans ((Below.heap_alloc w5 _ D (by omega)).trans hK5)
              | exact (hgrow6.block D (by omega) (fun e => by have := hvo e.symm; omega)).trans hK5
          exact ap_finish hI6 hown6 (by simp [drew_size]; omega) hK6 (by simp at hD; omega) (HE.out) _ rfl rfl
      case stop =>
        rintro D cd pre W hD hpf ⟨y, rfl, hX⟩ hK
        rcases hX with ⟨rfl, hx, hI⟩ | ⟨rfl, hx, hI⟩
        · gi_wp2
          refine ⟨by simp, .inl ⟨_, _, rfl, run_takeDeferred hK, ?_⟩⟩
          have hI3 := (apI_own (β := Unit) w _ _ _ _ _ (Nat.le_refl _)).putObj (s := ()) (.deferred none) hI (by simp at hD; omega) hK rfl
          refine ⟨_, ap_results hI3 _ rfl rfl, A', n', c', ?_, ?_, hI3.2⟩
          · rw [Ser.append_late ht hv hpf hx]
          · rw [Ser.append_late ht hv hpf hx]
            exact (HS.out.keep (fun b o hb => (hI3.2.cell (p := ⟨b, o, none⟩) hb).trans (HI.out.2.cell (p := ⟨b, o, none⟩) hb).symm)).more hI3.2.size
        · have hSW := HS.out.keep (W' := W) (fun b o hb => (hI.2.cell (p := ⟨b, o, none⟩) hb).trans (HI.out.2.cell (p := ⟨b, o, none⟩) hb).symm)
          have c2 := hI.1.1.1.1.cell 0
          have f2 := hI.1.1.1.1.frozen 0
          have c3 := hI.1.1.1.2.cell 0
          have c3' := hI.1.1.1.2.cell 1
          have c4 := hI.1.1.2.cell 0
          have f4 := hI.1.1.2.frozen 0
          have c5 := hI.1.2.cell 0
          have f5 := hI.1.2.frozen 0
          have HIW := Lib.hid hI
          have HSW := Lib.hid hSW
          clear hI hSW k2 k3 k3' k4 k5 g2 g4 g5
          simp at c2 c3 c3' c4 c5
          have hlW := HIW.out.1.2.lt
          have hl1 := HI.out.1.2.lt
          have HX := Lib.hid hx
          clear hx
          by_cases h64 : n' < 64
          · have he : Ser.append xs x = (Ser.counted xs ++ [x], 0) := by rw [Ser.append_ok ht hv hpf (by have := HX.out; omega), Ser.kept_short (by have := HSW.out.1; omega)]
            have HE := Lib.hid he
            clear he
            gi_wp2
            refine wpIn_wide.2 ?_
            go_region_held3 (fun w' => w'.cell? ⟨w.heap.size, 0, none⟩ = some (.slice A' n' c') ∧ w'.cell? ⟨w.heap.size + 1, 0, none⟩ = some (.int .i64 x.1) ∧ w'.cell? ⟨w.heap.size + 1, 1, none⟩ = some (.int .i64 x.2))
              (first | (have a2 := hI6.1.1.1.1.cell 0; have a3 := hI6.1.1.1.2.cell 0; have a3' := hI6.1.1.1.2.cell 1; simp at a2 a3 a3'; first | exact ⟨a2, a3, a3'⟩ | exact ⟨(World.cell?_setCell_other _ _ _ _ (by simp)).trans a2, (World.cell?_setCell_other _ _ _ _ (by simp)).trans a3, (World.cell?_setCell_other _ _ _ _ (by simp)).trans a3'⟩ | exact ⟨(World.cell?_setCell_other _ _ _ _ (by simp)).trans ((World.cell?_setCell_other _ _ _ _ (by simp)).trans a2), (World.cell?_setCell_other _ _ _ _ (by simp)).trans ((World.cell?_setCell_other _ _ _ _ (by simp)).trans a3), (World.cell?_setCell_other _ _ _ _ (by simp)).trans ((World.cell?_setCell_other _ _ _ _ (by simp)).trans a3')⟩) | (have a2 := hI5.1.1.1.1.cell 0; have a3 := hI5.1.1.1.2.cell 0; have a3' := hI5.1.1.1.2.cell 1; simp at a2 a3 a3'; exact ⟨a2, a3, a3'⟩) | go_keep)
              (first | (go_at_call 33; refine (clone_any A' n' c' (Ser.counted xs) _ ?_ (by omega)).mono ?_; (first | (exact HSW.out.more HIW.out.2.size) | (exact (HSW.out.alloc HIW.out.2.size _).more (by simp [drew_size]; omega))); rintro e w5 ⟨v5, rfl, hown5, hb5⟩; have hI5 : ApI w (.slice A' n' c') x (.slice none 0 0) 0 w5 := (by first | exact HIW.out.later hb5 | exact HIW.out.drew.later hb5 | exact (HIW.out.alloc _).later hb5 | exact (HIW.out.drew.alloc _).later hb5 | exact (HIW.out.alloc _).drew.later hb5); have hvo := fun {k} => own_ge (k := k) hown5; have hb5s := hb5.size; simp only [drew_size, World.size_alloc] at hvo hb5s) | (refine step_append_lies _ (by rfl) _ _ _ (by rfl) _ 25 i0 _ 2 16 Try.underlying33 hi0 hz0 hz1 hz2 rfl (by omega) v5 n' _ (by rfl) (hown5.alloc _) ⟨w5.heap.size, 0, none⟩ 1 1 [.int .i64 x.1, .int .i64 x.2] (by rfl) (by rfl) (World.news_of_block (cs := #[.int .i64 x.1, .int .i64 x.2]) (t := 25) (fr := (0, 0)) (heap_alloc_new w5 _)) (by simp [Value.oneCell']) (by omega) (by unfold maxLen; omega) (by omega) (by simp [drew_size]; omega) (w5.heap.size + 1) (by simp) ?_; intro gg cap w6 hown6 hgrow6 hat6 hlt6; have hI6 := (hI5.alloc _).grown hgrow6 (fun k e => by have := hvo e; omega); have d4 := hI6.1.1.2.cell 0; have e4 := hI6.1.1.2.frozen 0; have d5 := hI6.1.2.cell 0; have e5 := hI6.1.2.frozen 0; simp at d4 d5) | (refine step_append_lies _ (by rfl) _ _ _ (by rfl) _ 25 i0 _ 2 16 Try.underlying33 hi0 hz0 hz1 hz2 rfl (by omega) v5 n' _ (by rfl) hown5 ⟨W.heap.size, 0, none⟩ 1 1 [.int .i64 x.1, .int .i64 x.2] (by rfl) (by rfl) (World.news_of_block (cs := #[.int .i64 x.1, .int .i64 x.2]) (t := 25) (fr := (0, 0)) ((Mem.Blk.new W 25 #[.int .i64 x.1, .int .i64 x.2]).drew.below hb5 (by simp [drew_size]))) (by simp [Value.oneCell']) (by omega) (by unfold maxLen; omega) (by omega) (by simp [drew_size]; omega) w5.heap.size (by simp) ?_; intro gg cap w6 hown6 hgrow6 hat6 hlt6; have hI6 := hI5.grown hgrow6 (fun k e => by have := hvo e; omega); have d4 := hI6.1.1.2.cell 0; have e4 := hI6.1.1.2.frozen 0; have d5 := hI6.1.2.cell 0; have e5 := hI6.1.2.frozen 0; simp at d4 d5))
            all_goals
              gi_wp2
              have hK5 : w5.heap[D]? = some (.deferred (some [])) := by
                first
                  | exact (hb5.block D (by simp [drew_size]; exact (Array.getElem?_eq_some_iff.1 hK).1)).trans hK
                  | exact (hb5.block D (by simp [drew_size]; have := (Array.getElem?_eq_some_iff.1 hK).1; omega)).trans ((Below.heap_alloc W _ D (Array.getElem?_eq_some_iff.1 hK).1).trans hK)
              have hDW := (Array.getElem?_eq_some_iff.1 hK).1
              have hK6 : w6.heap[D]? = some (.deferred (some [])) := by
                first
                  | exact (hgrow6.block D (by simp; omega) (fun e => by have := hvo e.symm; omega)).trans ((Below.heap_alloc w5 _ D (by omega)).trans hK5)
                  | exact (hgrow6.block D (by omega) (fun e => by have := hvo e.symm; omega)).trans hK5
              exact ap_finish hI6 hown6 (by simp [drew_size]; omega) hK6 (by simp at hD; omega) (HE.out) _ rfl rfl
          · obtain ⟨b, off, hA, hbB, hcell⟩ := HSW.out.at_ (k := 0) (by omega)
            subst hA
            have hcc := HSW.out.2.1
            clear hcell
            gi_wp2
            have he : Ser.append xs x = ((Ser.counted xs).tail ++ [x], 0) := by rw [Ser.append_ok ht hv hpf (by have := HX.out; omega), Ser.kept_long (by have := HSW.out.1; omega)]
            have HE := Lib.hid he
            have hI2 := HIW.out.reset (.slice (some ⟨b, off + 2, none⟩) (n' - 1) (c' - 1))
            have hS2 : Smp (W.setCell ⟨w.heap.size, 0, none⟩ (.slice (some ⟨b, off + 2, none⟩) (n' - 1) (c' - 1))) w.heap.size (some ⟨b, off + 2, none⟩) (n' - 1) (c' - 1) (Ser.counted xs).tail := (HSW.out.tail (by omega)).setCell (Nat.le_refl _) _
            have hK2 := (KeepsOthers.setCell W ⟨w.heap.size, 0, none⟩ (.slice (some ⟨b, off + 2, none⟩) (n' - 1) (c' - 1))).same D _ hK rfl
            clear he HIW HSW hK c2 f2 c3 c3' c4 f4 c5 f5 hlW hpf
            obtain ⟨W', hW'⟩ : ∃ W', W.setCell ⟨w.heap.size, 0, none⟩ (.slice (some ⟨b, off + 2, none⟩) (n' - 1) (c' - 1)) = W' := ⟨_, rfl⟩
            rw [hW'] at hI2 hS2 hK2 ⊢
            clear hW'
            clear W
            rename World => W
            have c2 := hI2.1.1.1.1.cell 0
            have c3 := hI2.1.1.1.2.cell 0
            have c3' := hI2.1.1.1.2.cell 1
            have HIW := Lib.hid hI2
            have HSW := Lib.hid hS2
            have hK := hK2
            clear hI2 hS2 hK2
            simp at c2 c3 c3'
            have hlW := HIW.out.1.2.lt
            obtain ⟨q, rfl⟩ : ∃ q, n' = q + 1 := ⟨n' - 1, by omega⟩
            obtain ⟨d, rfl⟩ : ∃ d, c' = d + 1 := ⟨c' - 1, by omega⟩
            simp only [Nat.add_sub_cancel] at c2 HIW HSW ⊢
            refine wpIn_wide.2 ?_
            go_region_held3 (fun w' => w'.cell? ⟨w.heap.size, 0, none⟩ = some (.slice (some ⟨b, off + 2, none⟩) q d) ∧ w'.cell? ⟨w.heap.size + 1, 0, none⟩ = some (.int .i64 x.1) ∧ w'.cell? ⟨w.heap.size + 1, 1, none⟩ = some (.int .i64 x.2))
              (first | (have a2 := hI6.1.1.1.1.cell 0; have a3 := hI6.1.1.1.2.cell 0; have a3' := hI6.1.1.1.2.cell 1; simp at a2 a3 a3'; first | exact ⟨a2, a3, a3'⟩ | exact ⟨(World.cell?_setCell_other _ _ _ _ (by simp)).trans a2, (World.cell?_setCell_other _ _ _ _ (by simp)).trans a3, (World.cell?_setCell_other _ _ _ _ (by simp)).trans a3'⟩ | exact ⟨(World.cell?_setCell_other _ _ _ _ (by simp)).trans ((World.cell?_setCell_other _ _ _ _ (by simp)).trans a2), (World.cell?_setCell_other _ _ _ _ (by simp)).trans ((World.cell?_setCell_other _ _ _ _ (by simp)).trans a3), (World.cell?_setCell_other _ _ _ _ (by simp)).trans ((World.cell?_setCell_other _ _ _ _ (by simp)).trans a3')⟩) | (have a2 := hI5.1.1.1.1.cell 0; have a3 := hI5.1.1.1.2.cell 0; have a3' := hI5.1.1.1.2.cell 1; simp at a2 a3 a3'; exact ⟨a2, a3, a3'⟩) | go_keep)
              (first | (go_at_call 33; refine (clone_any (some ⟨b, off + 2, none⟩) q d ((Ser.counted xs).tail) _ ?_ (by omega)).mono ?_; (first | (exact HSW.out.more HIW.out.2.size) | (exact (HSW.out.alloc HIW.out.2.size _).more (by simp [drew_size]; omega))); rintro e w5 ⟨v5, rfl, hown5, hb5⟩; have hI5 : ApI w (.slice (some ⟨b, off + 2, none⟩) q d) x (.slice none 0 0) 0 w5 := (by first | exact HIW.out.later hb5 | exact HIW.out.drew.later hb5 | exact (HIW.out.alloc _).later hb5 | exact (HIW.out.drew.alloc _).later hb5 | exact (HIW.out.alloc _).drew.later hb5); have hvo := fun {k} => own_ge (k := k) hown5; have hb5s := hb5.size; simp only [drew_size, World.size_alloc] at hvo hb5s) | (refine step_append_lies _ (by rfl) _ _ _ (by rfl) _ 25 i0 _ 2 16 Try.underlying33 hi0 hz0 hz1 hz2 rfl (by omega) v5 q _ (by rfl) (hown5.alloc _) ⟨w5.heap.size, 0, none⟩ 1 1 [.int .i64 x.1, .int .i64 x.2] (by rfl) (by rfl) (World.news_of_block (cs := #[.int .i64 x.1, .int .i64 x.2]) (t := 25) (fr := (0, 0)) (heap_alloc_new w5 _)) (by simp [Value.oneCell']) (by omega) (by unfold maxLen; omega) (by omega) (by simp [drew_size]; omega) (w5.heap.size + 1) (by simp) ?_; intro gg cap w6 hown6 hgrow6 hat6 hlt6; have hI6 := (hI5.alloc _).grown hgrow6 (fun k e => by have := hvo e; omega); have d4 := hI6.1.1.2.cell 0; have e4 := hI6.1.1.2.frozen 0; have d5 := hI6.1.2.cell 0; have e5 := hI6.1.2.frozen 0; simp at d4 d5) | (refine step_append_lies _ (by rfl) _ _ _ (by rfl) _ 25 i0 _ 2 16 Try.underlying33 hi0 hz0 hz1 hz2 rfl (by omega) v5 q _ (by rfl) hown5 ⟨W.heap.size, 0, none⟩ 1 1 [.int .i64 x.1, .int .i64 x.2] (by rfl) (by rfl) (World.news_of_block (cs := #[.int .i64 x.1, .int .i64 x.2]) (t := 25) (fr := (0, 0)) ((Mem.Blk.new W 25 #[.int .i64 x.1, .int .i64 x.2]).drew.below hb5 (by simp [drew_size]))) (by simp [Value.oneCell']) (by omega) (by unfold maxLen; omega) (by omega) (by simp [drew_size]; omega) w5.heap.size (by simp) ?_; intro gg cap w6 hown6 hgrow6 hat6 hlt6; have hI6 := hI5.grown hgrow6 (fun k e => by have := hvo e; omega); have d4 := hI6.1.1.2.cell 0; have e4 := hI6.1.1.2.frozen 0; have d5 := hI6.1.2.cell 0; have e5 := hI6.1.2.frozen 0; simp at d4 d5))
            all_goals
              gi_wp2
              have hK5 : w5.heap[D]? = some (.deferred (some [])) := by
                first
                  | exact (hb5.block D (by simp [drew_size]; exact (Array.getElem?_eq_some_iff.1 hK).1)).trans hK
                  | exact (hb5.block D (by simp [drew_size]; have := (Array.getElem?_eq_some_iff.1 hK).1; omega)).trans ((Below.heap_alloc W _ D (Array.getElem?_eq_some_iff.1 hK).1).trans hK)
              have hDW := (Array.getElem?_eq_some_iff.1 hK).1
              have hK6 : w6.heap[D]? = some (.deferred (some [])) := by
                first
                  | exact (hgrow6.block D (by simp; omega) (fun e => by have := hvo e.symm; omega)).trans ((Below.heap_alloc w5 _ D (by omega)).trans hK5)
                  | exact (hgrow6.block D (by omega) (fun e => by have := hvo e.symm; omega)).trans hK5
              exact ap_finish hI6 hown6 (by simp [drew_size]; omega) hK6 (by simp at hD; omega) (HE.out) _ rfl rfl
    · have hv' : Ser.isNum x.2 = false := by simpa using hv
      clear hv
      gi_wp2_with (first | (refine ⟨trivial, ?_⟩; gi_at_call 30; refine (callsIn_wide.2 (time_any _ _)).mono ?_; rintro e w' ⟨rfl, rfl⟩) | (refine ⟨trivial, ?_⟩; gi_at_call 31; refine (callsIn_wide.2 (numSane_any _ _)).mono ?_; rintro e w' ⟨rfl, rfl⟩))
      refine ⟨_, ap_results (HI.out.result (.slice A' n' c') 2) _ rfl rfl, A', n', c', ?_, ?_, (HI.out.result _ _).2⟩
      · rw [Ser.append_range (by simp [hv'])]
      · rw [Ser.append_range (by simp [hv'])]
        exact ((HS.out.setCell (by simp; omega) _).setCell (by simp; omega) _).more (HI.out.result (.slice A' n' c') 2).2.size
  · have ht' : Ser.isTime x.1 = false := by simpa using ht
    clear ht
    gi_wp2_with (first | (refine ⟨trivial, ?_⟩; gi_at_call 30; refine (callsIn_wide.2 (time_any _ _)).mono ?_; rintro e w' ⟨rfl, rfl⟩) | (refine ⟨trivial, ?_⟩; gi_at_call 31; refine (callsIn_wide.2 (numSane_any _ _)).mono ?_; rintro e w' ⟨rfl, rfl⟩))
    refine ⟨trivial, ?_⟩
    gi_wp2
    refine ⟨_, ap_results (HI.out.result (.slice A' n' c') 2) _ rfl rfl, A', n', c', ?_, ?_, (HI.out.result _ _).2⟩
    · rw [Ser.append_range (by simp [ht'])]
    · rw [Ser.append_range (by simp [ht'])]
      exact ((HS.out.setCell (by simp; omega) _).setCell (by simp; omega) _).more (HI.out.result (.slice A' n' c') 2).2.size
end Go.Proofs.Ytidfiiogjfpfmaa.SerW
