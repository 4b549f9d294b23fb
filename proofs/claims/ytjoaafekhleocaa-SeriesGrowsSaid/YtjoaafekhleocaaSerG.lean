/- The walk of series.Between. -/
import Derived.Test.YtjoaafekhleocaaSerF
namespace Go.Proofs.Ytjoaafekhleocaa
open Go.RowKit Go.Shelf

attribute [local go_sem] Oper.semAt_some

/-- what Between's body knows between two rounds -/
def BtI (w : World) (a b : Int) (v : Value) (zs : List (Int × Int)) (W : World) : Prop :=
  (((Mem.Blk W w.heap.size 3 #[.int .i64 a] ∧ Mem.Blk W (w.heap.size + 1) 3 #[.int .i64 b]) ∧ Boxed W (w.heap.size + 1 + 1) 22 v) ∧ W.ownsRow w.heap.size 24 2 v zs.length ((Ser.cells zs).map (Value.int .i64))) ∧ Below w.heap.size w W
theorem btI_own {β : Type} (w : World) (a b : Int) (zs : β → List (Int × Int)) (B : Nat) (hB : w.heap.size ≤ B) : OwnFrom B (fun (s : β) W => ∃ v, BtI w a b v (zs s) W) := by
  intro s X Y row ⟨v, ⟨⟨⟨h1, h2⟩, h3⟩, h4⟩, h5⟩ hg hr
  have hr' : ∀ r, row = some r → ∃ o : Obj, X.heap[r]? = some o ∧ o.isCells = false := fun r e => (hr r e).2
  obtain ⟨v', k3, k4, _⟩ := holdsRow_own w.heap.size (w.heap.size + 1 + 1) 22 24 2 (fun (_ : Unit) => (zs s).length) (fun _ => (Ser.cells (zs s)).map (Value.int .i64)) (fun _ u => u = v) () X Y row ⟨v, h3, h4, rfl⟩ hg hr'
  exact ⟨v', ⟨⟨⟨blk_own _ _ (fun (_ : Unit) => #[.int .i64 a]) () X Y row h1 hg hr', blk_own _ _ (fun (_ : Unit) => #[.int .i64 b]) () X Y row h2 hg hr'⟩, k3⟩, k4⟩, ownFrom_below (Nat.le_refl _) hB () X Y row h5 hg hr⟩
theorem BtI.alloc {w W : World} {a b : Int} {v : Value} {zs : List (Int × Int)} (h : BtI w a b v zs W) (o : Obj) : BtI w a b v zs (W.alloc o) :=
  ⟨⟨⟨⟨h.1.1.1.1.alloc _, h.1.1.1.2.alloc _⟩, h.1.1.2.alloc _⟩, h.1.2.alloc _⟩, h.2.alloc h.2.size _⟩

theorem own_ne_obj {W : World} {base e size n D : Nat} {v : Value} {xs : List Value} {o : Obj} (h : W.ownsRow base e size v n xs) (hD : W.heap[D]? = some o) (ho : o.isCells = false) : some D ≠ v.ownBlock := by
  rcases h.2 with ⟨rfl, _⟩ | ⟨g, cap, cur, rfl, _, hh, _⟩
  · simp [Value.ownBlock]
  · intro e'
    have : D = g := by simpa [Value.ownBlock] using e'
    subst this
    rw [hD] at hh
    cases hh
    cases ho
theorem own_ge {W : World} {base e size n k : Nat} {v : Value} {xs : List Value} (h : W.ownsRow base e size v n xs) (hk : v.ownBlock = some k) : base ≤ k := by
  rcases h.2 with ⟨rfl, _⟩ | ⟨g, cap, cur, rfl, hb, _⟩
  · simp [Value.ownBlock] at hk
  · simp [Value.ownBlock] at hk; omega

set_option maxRecDepth 100000 in
set_option maxHeartbeats 2000000 in
theorem between_any (A : Option Addr) (m c : Nat) (xs : List (Int × Int)) (a b : Int) (w : World) (h : Smp w w.heap.size A m c xs) :
    Calls Try.prog 17 #[.slice A m c, .int .i64 a, .int .i64 b] w fun e w' => ∃ v, e = .returned v ∧ w'.ownsRow w.heap.size 24 2 v (Ser.between xs a b).length ((Ser.cells (Ser.between xs a b)).map (Value.int .i64)) ∧ Below w.heap.size w w' := by
  have hxl := h.1
  obtain ⟨i0, hi0, hz0, hz1, hz2⟩ := info_parts smpInfo
  refine (callsIn_wide (n := 10)).1 ?_
  have hro : Fence.wide.round = none := rfl
  refine callsIn_of_wp_marks Try.func17 rfl trivial ?_ hro
  simp only [Try.ntmps17, List.size_toArray, List.length_cons, List.length_nil, Nat.reduceAdd, Nat.reduceSub, Array.replicate_succ, Array.replicate_zero, List.push_toArray, List.append_toArray, List.nil_append, List.cons_append]
  gi_wp2_with fail
  have b4 := ((Mem.Blk.new w 3 #[.int .i64 a]).alloc (.cells #[.int .i64 b] 3)).alloc (.cells #[.slice none 0 0] 22)
  have b5 := (Mem.Blk.new (w.alloc (.cells #[.int .i64 a] 3)) 3 #[.int .i64 b]).alloc (.cells #[.slice none 0 0] 22)
  have b7 := Mem.Blk.new ((w.alloc (.cells #[.int .i64 a] 3)).alloc (.cells #[.int .i64 b] 3)) 22 #[.slice none 0 0]
  have hB0 : Below w.heap.size w (((w.alloc (.cells #[.int .i64 a] 3)).alloc (.cells #[.int .i64 b] 3)).alloc (.cells #[.slice none 0 0] 22)) := (by repeat (first | assumption | exact Below.refl _ _ | apply Mem.below_drewN | apply Below.drew | refine Below.alloc ?_ (by first | assumption | omega | (simp; done) | (simp; omega)) _ | refine Below.setCell ?_ (by first | assumption | omega | (simp; done) | (simp; omega)) _))
  simp only [World.size_alloc] at b4 b5 b7
  have hsz : (((w.alloc (.cells #[.int .i64 a] 3)).alloc (.cells #[.int .i64 b] 3)).alloc (.cells #[.slice none 0 0] 22)).heap.size = w.heap.size + 3 := by simp
  obtain ⟨W0, hW0⟩ : ∃ W0, ((w.alloc (.cells #[.int .i64 a] 3)).alloc (.cells #[.int .i64 b] 3)).alloc (.cells #[.slice none 0 0] 22) = W0 := ⟨_, rfl⟩
  rw [hW0] at b4 b5 b7 hB0 hsz ⊢
  clear hW0
  refine ⟨trivial, ?_⟩
  refine (callsIn_wide.2 (counted_any w.heap.size A m c xs W0 (by omega) (h.below hB0))).mono ?_
  rintro e w1 ⟨A', n', c', rfl, hS1, hB1⟩
  have hz1' := hB1.size
  have hlen64 : n' ≤ 64 := by rw [← hS1.1]; exact Ser.counted_length xs
  gi_wp2_with (refine ⟨trivial, ?_⟩; gi_at_call 22; refine (bk_in Fence.wide 9 trivial hro _ _ _ _).mono ?_; rintro e w' ⟨rfl, rfl⟩)
  have hI0 : BtI w a b (.slice none 0 0) [] (w1.alloc (.cells #[.slice A' n' c'] 22)) :=
    ⟨⟨⟨⟨(b4.below hB1 b4.lt).alloc _, (b5.below hB1 b5.lt).alloc _⟩, (b7.below hB1 b7.lt).alloc _⟩, World.ownsRow_nil _ _ _ _⟩, (hB0.trans (hB1.mono (by omega))).alloc (by omega) _⟩
  refine wpIn_rangeFunc_ownH (n := 10) hro (by decide) (gf := 28) (lb := #[.pointer (some ⟨w1.heap.size, 0, none⟩)]) rfl trivial (enters_of Try.func28 (by kernel_rfl) rfl)
    (bk_stops Fence.wide 9 trivial hro (by decide) w1.heap.size w.heap.size n' c' A' (Ser.counted xs) _ (by simp) (by simp; omega) (Boxed.new w1 22 (.slice A' n' c')).cell (hS1.alloc (by omega) _)) KB.trans (kb_b (by simp; omega) (by simp)) (Below.refl _ _) (fun _ => by rfl)
    (fun pre W => (∃ v, BtI w a b v (pre.filter (Ser.inside a b)) W) ∧ Mem.Blk W w1.heap.size 22 #[.slice A' n' c'])
    (fun _ _ _ => False)
    (OwnFrom.and (btI_own w a b (fun pre : List (Int × Int) => pre.filter (Ser.inside a b)) _ (by simp; omega)) (Own.from (blk_own _ _ _) _))
    (fun _ _ _ _ _ hs _ _ => hs)
    ⟨⟨_, hI0⟩, Mem.Blk.new w1 _ _⟩
    (fun x a' W => ∃ Bx, w1.heap.size < Bx ∧ Mem.Blk W Bx 24 #[.int .i64 x.1, .int .i64 x.2] ∧ a' = { tmps := #[.slice A m c, .int .i64 a, .int .i64 b, undef, .pointer (some ⟨w.heap.size, 0, none⟩), .pointer (some ⟨w.heap.size + 1, 0, none⟩), .slice none 0 0, .pointer (some ⟨w.heap.size + 1 + 1, 0, none⟩), .pointer (some ⟨Bx, 0, none⟩), .slice A m c, .slice A' n' c', .func (.func 28) #[] #[.pointer (some ⟨w1.heap.size, 0, none⟩)], .agg #[.int .i64 x.1, .int .i64 x.2], undef, undef, undef, undef, undef, undef, undef, undef, undef, undef, undef, undef, undef, undef, undef, undef, undef], defers := [] })
    (fun x a' _ X Y row hs hg hr => by obtain ⟨Bx, h1, h2, h3⟩ := hs; exact ⟨Bx, h1, blk_own Bx 24 (fun (_ : Unit) => #[.int .i64 x.1, .int .i64 x.2]) () X Y row h2 hg (fun r e => (hr r e).2), h3⟩)
    ?assign ?body ?done ?stop
  case assign =>
    rintro l pre x W K ⟨⟨v, hI⟩, hBk⟩ hK
    have hlt := hBk.lt
    have hIs := hI.2.size
    simp only [encS]
    gi_wp2
    refine hK _ _ ((KeepsOthers.alloc _ _).from _) (kb_alloc (by omega) hlt _) ⟨⟨v, hI.alloc _⟩, hBk.alloc _⟩ ⟨W.heap.size, hlt, Mem.Blk.new W _ _, rfl⟩
  case body =>
    rintro l pre x a' W hl ⟨r, hr⟩ ⟨⟨v, hI⟩, hBk⟩ ⟨Bx, hBx, bX, rfl⟩ hlt
    have hlt' := hBk.lt
    have hIs := hI.2.size
    have hB := hI.2
    have hv := hI.1.1.2
    have hrow := hI.1.2
    have c4 := hI.1.1.1.1.cell 0
    have c5 := hI.1.1.1.2.cell 0
    have c7 := hv.cell
    have cx0 := bX.cell 0
    have cx1 := bX.cell 1
    have HI := Lib.hid hI
    clear hI
    simp at c4 c5 cx0 cx1
    have hpl : (pre.filter (Ser.inside a b)).length ≤ pre.length := List.length_filter_le _ _
    gi_wp2_with (gi_at_builtin; refine wpListIn_append_own _ rfl _ _ 22 rfl w.heap.size 24 i0 _ 2 16 Try.underlying22 hi0 hz0 hz1 hz2 rfl (by decide) _ _ _ rfl (hrow.alloc _) ⟨W.heap.size, 0, none⟩ 1 1 [.int .i64 x.1, .int .i64 x.2] rfl rfl (World.news_of_block (cs := #[.int .i64 x.1, .int .i64 x.2]) (t := 24) (fr := (0, 0)) (heap_alloc_new W _)) (by simp [Value.oneCell']) (by unfold maxLen; omega) (by omega) (by simp; omega) ?_; intro v' w2 hown' hgrow _; obtain ⟨g', cap', rfl⟩ := ownsRow_succ hown'; obtain ⟨hv1, hv2, hr2, hk2, hb2⟩ := hv.appended (by decide) hrow hB.size (by omega) hown' hgrow; have hc1 := hv1.cell; have hf1 := hv1.frozen)
    · have hx1 : a ≤ x.1 := by assumption
      have hx2 : x.1 ≤ b := by assumption
      have hin : Ser.inside a b x = true := by simp [Ser.inside, hx1, hx2]
      have hBk2 : Mem.Blk (w2.setCell ⟨w.heap.size + 1 + 1, 0, none⟩ (.slice (some ⟨g', 0, none⟩) ((pre.filter (Ser.inside a b)).length + 1) cap')) w1.heap.size 22 #[.slice A' n' c'] :=
        ((hBk.alloc _).grown hgrow (fun e => Mem.own_blk_ne hrow hBk (by decide) e.symm)).far (by simp; omega) _
      refine ⟨hk2.from _, ⟨hb2, hBk2.trans hBk.symm⟩, ⟨_, ⟨⟨⟨⟨?_, ?_⟩, hv2⟩, ?_⟩, hB.trans hb2⟩⟩, hBk2⟩
      · exact ((HI.out.1.1.1.1.alloc _).grown hgrow (fun e => Mem.own_blk_ne hrow HI.out.1.1.1.1 (by decide) e.symm)).far (by simp; omega) _
      · exact ((HI.out.1.1.1.2.alloc _).grown hgrow (fun e => Mem.own_blk_ne hrow HI.out.1.1.1.2 (by decide) e.symm)).far (by simp) _
      · rw [Ser.filter_hit hin, List.length_append, Ser.cells_snoc, List.map_append]
        exact hr2
    · have hx2 : b < x.1 := by assumption
      have hin : Ser.inside a b x = false := by simp [Ser.inside]; omega
      exact ⟨KeepsFrom.refl _ _, KB.refl _ _ _, ⟨v, by rw [Ser.filter_miss hin]; exact HI.out⟩, hBk⟩
    · have hx2 : x.1 < a := by assumption
      have hin : Ser.inside a b x = false := by simp [Ser.inside]; omega
      exact ⟨KeepsFrom.refl _ _, KB.refl _ _ _, ⟨v, by rw [Ser.filter_miss hin]; exact HI.out⟩, hBk⟩
  case done =>
    rintro D ys W hD rfl ⟨⟨v, hI⟩, hBk⟩ hK
    have hv := hI.1.1.2
    have hrow := hI.1.2
    have hB := hI.2
    have c7 := hv.cell
    have HI := Lib.hid hI
    clear hI
    gi_wp2_with (refine ⟨trivial, ?_⟩; gi_at_call 27; refine (callsIn_wide.2 (rev_any w.heap.size _ v _ _ hrow)).mono ?_; rintro e w2 ⟨rfl, hown2, hg2⟩; have hv2 := hv.kept hg2 (hv.not_row (by decide) hrow); have c72 := hv2.cell)
    have hK2 : w2.heap[D]? = some (.deferred (some [])) := (hg2.block D (Array.getElem?_eq_some_iff.1 hK).1 (own_ne_obj hrow hK rfl)).trans hK
    refine ⟨by simp, .inl ⟨_, _, rfl, run_takeDeferred hK2, ?_⟩⟩
    refine ⟨_, results_tmp rfl _ _ _, v, rfl, ?_, ?_⟩
    · have h2 := ownsRow_putObj hown2 (.deferred none) hK2 rfl
      rw [Ser.between_rev] at h2
      have hl : (Ser.between xs a b).length = ((Ser.counted xs).reverse.filter (Ser.inside a b)).length := by rw [← Ser.between_rev, List.length_reverse]
      rw [hl]
      exact h2
    · have hsz2 : W.heap.size ≤ w2.heap.size := hg2.size
      have hle : w.heap.size ≤ w1.heap.size + 1 := by omega
      have hD' : w1.heap.size + 1 ≤ D := by simpa using hD
      exact (hB.grown hg2 hB.size (fun k e => own_ge hrow e)).trans (belowK_b (w := w) (Nat.le_refl _) w2 D _ _ (by omega) hK2 rfl rfl)
  case stop =>
    rintro D cd pre W _ _ h _
    exact h.elim
end Go.Proofs.Ytjoaafekhleocaa
