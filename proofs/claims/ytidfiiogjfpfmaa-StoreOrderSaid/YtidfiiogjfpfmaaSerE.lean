/- The walk of series.At. -/
import Derived.Test.YtidfiiogjfpfmaaSerD
namespace Go.Proofs.Ytidfiiogjfpfmaa.SerW
open Go.RowKit Go.Shelf

attribute [local go_sem] Oper.semAt_some

theorem blk_own {β : Type} (B : Nat) (t : TypeId) (f : β → Array Value) : Own (fun s W => Mem.Blk W B t (f s)) := fun s X Y row hs hg hrow =>
  Mem.Blk.grown hs hg (fun e' => by obtain ⟨o, ho, hc⟩ := hrow B e'.symm; rw [show X.heap[B]? = _ from hs] at ho; cases ho; cases hc)
theorem own_pure {β : Type} (p : β → Prop) (B : Nat) : OwnFrom B (fun (s : β) (_ : World) => p s) := fun _ _ _ _ hs _ _ => hs

/-- what At's body knows between two rounds -/
def AtI (w : World) (t window : Int) (z : Int × Int) (b : Bool) (W : World) : Prop :=
  (((Mem.Blk W w.heap.size 3 #[.int .i64 t] ∧ Mem.Blk W (w.heap.size + 1) 3 #[.int .i64 window]) ∧ Mem.Blk W (w.heap.size + 1 + 1) 25 #[.int .i64 z.1, .int .i64 z.2]) ∧ Mem.Blk W (w.heap.size + 1 + 1 + 1) 4 #[.bool b]) ∧ Below w.heap.size w W
def AtX (w : World) (t window : Int) (x : Int × Int) (cd : Code) (W : World) : Prop :=
  (cd = .ret ∧ wrap64 (t - x.1) < window ∧ AtI w t window x true W) ∨ (cd = .exit 0 ∧ ¬ wrap64 (t - x.1) < window ∧ AtI w t window (0, 0) false W)
theorem atI_own {β : Type} (w : World) (t window : Int) (z : β → Int × Int) (b : β → Bool) (B : Nat) (hB : w.heap.size ≤ B) : OwnFrom B (fun (s : β) W => AtI w t window (z s) (b s) W) :=
  OwnFrom.and (OwnFrom.and (OwnFrom.and (OwnFrom.and (Own.from (blk_own _ _ _) _) (Own.from (blk_own _ _ _) _)) (Own.from (blk_own _ _ (fun s => #[.int .i64 (z s).1, .int .i64 (z s).2])) _)) (Own.from (blk_own _ _ (fun s => #[.bool (b s)])) _)) (ownFrom_below (Nat.le_refl _) hB)

theorem AtI.alloc {w W : World} {t window : Int} {z : Int × Int} {b : Bool} (h : AtI w t window z b W) (o : Obj) : AtI w t window z b (W.alloc o) :=
  ⟨⟨⟨⟨h.1.1.1.1.alloc _, h.1.1.1.2.alloc _⟩, h.1.1.2.alloc _⟩, h.1.2.alloc _⟩, h.2.alloc h.2.size _⟩
theorem AtI.result {w W : World} {t window : Int} {z : Int × Int} {b : Bool} (h : AtI w t window z b W) (x : Int × Int) (d : Bool) :
    AtI w t window x d (((W.setCell ⟨w.heap.size + 1 + 1, 0, none⟩ (.int .i64 x.1)).setCell ⟨w.heap.size + 1 + 1, 1, none⟩ (.int .i64 x.2)).setCell ⟨w.heap.size + 1 + 1 + 1, 0, none⟩ (.bool d)) := by
  refine ⟨⟨⟨⟨?_, ?_⟩, ?_⟩, ?_⟩, ?_⟩
  · exact ((h.1.1.1.1.far (by simp; omega) _).far (by simp; omega) _).far (by simp; omega) _
  · exact ((h.1.1.1.2.far (by simp) _).far (by simp) _).far (by simp) _
  · exact ((h.1.1.2.set_ 0 _).set_ 1 _).far (by simp) _
  · exact ((h.1.2.far (by simp) _).far (by simp) _).set_ 0 _
  · exact ((h.2.setCell (by simp; omega) _).setCell (by simp; omega) _).setCell (by simp; omega) _
theorem keeps3 (W : World) (a b c : Addr) (u v x : Value) (B : Nat) : KeepsFrom B W (((W.setCell a u).setCell b v).setCell c x) :=
  (((KeepsOthers.setCell _ _ _).trans (KeepsOthers.setCell _ _ _)).trans (KeepsOthers.setCell _ _ _)).from _
theorem kb_alloc {n₀ Bs : Nat} {W : World} (hn : n₀ ≤ W.heap.size) (hB : Bs < W.heap.size) (o : Obj) : KB n₀ Bs W (W.alloc o) := ⟨(Below.refl _ _).alloc hn _, Below.heap_alloc W o Bs hB⟩

theorem at_results {w W : World} {t window : Int} {z : Int × Int} {b : Bool} (h : AtI w t window z b W) (tmps : Array Value) (h6 : tmps[6]?.getD undef = .pointer (some ⟨w.heap.size + 1 + 1, 0, none⟩)) (h7 : tmps[7]?.getD undef = .pointer (some ⟨w.heap.size + 1 + 1 + 1, 0, none⟩)) :
    (results Try.f19 tmps).run Try.prog W = .ok (.tuple #[.agg #[.int .i64 z.1, .int .i64 z.2], .bool b]) W := by
  have c6 := h.1.1.2.cell 0
  have c6' := h.1.1.2.cell 1
  have c7 := h.1.2.cell 0
  simp at c6 c6' c7
  simp [results, Try.results19, h6, h7, go_sem, c6, c6', c7]

set_option maxRecDepth 100000 in
set_option maxHeartbeats 2000000 in
theorem at_any (A : Option Addr) (m c : Nat) (xs : List (Int × Int)) (t window : Int) (w : World) (ht : t ≤ 9223372036854775807) (h : Smp w w.heap.size A m c xs) :
    Calls Try.prog 19 #[.slice A m c, .int .i64 t, .int .i64 window] w fun e w' => e = .returned (.tuple #[.agg #[.int .i64 (Ser.atP xs t window).1.1, .int .i64 (Ser.atP xs t window).1.2], .bool (Ser.atP xs t window).2]) ∧ Below w.heap.size w w' := by
  have HT := Lib.hid ht
  clear ht
  refine (callsIn_wide (n := 10)).1 ?_
  have hro : Fence.wide.round = none := rfl
  refine callsIn_of_wp_marks Try.func19 rfl trivial ?_ hro
  simp only [Try.ntmps19, List.size_toArray, List.length_cons, List.length_nil, Nat.reduceAdd, Nat.reduceSub, Array.replicate_succ, Array.replicate_zero, List.push_toArray, List.append_toArray, List.nil_append, List.cons_append]
  gi_wp2_with fail
  have b4 := (((Mem.Blk.new w 3 #[.int .i64 t]).alloc (.cells #[.int .i64 window] 3)).alloc (.cells #[.int .i64 0, .int .i64 0] 25)).alloc (.cells #[.bool false] 4)
  have b5 := ((Mem.Blk.new (w.alloc (.cells #[.int .i64 t] 3)) 3 #[.int .i64 window]).alloc (.cells #[.int .i64 0, .int .i64 0] 25)).alloc (.cells #[.bool false] 4)
  have b6 := (Mem.Blk.new ((w.alloc (.cells #[.int .i64 t] 3)).alloc (.cells #[.int .i64 window] 3)) 25 #[.int .i64 0, .int .i64 0]).alloc (.cells #[.bool false] 4)
  have b7 := Mem.Blk.new (((w.alloc (.cells #[.int .i64 t] 3)).alloc (.cells #[.int .i64 window] 3)).alloc (.cells #[.int .i64 0, .int .i64 0] 25)) 4 #[.bool false]
  have hB0 : Below w.heap.size w ((((w.alloc (.cells #[.int .i64 t] 3)).alloc (.cells #[.int .i64 window] 3)).alloc (.cells #[.int .i64 0, .int .i64 0] 25)).alloc (.cells #[.bool false] 4)) := (by repeat (first | assumption | exact Below.refl _ _ | apply Mem.below_drewN | apply Below.drew | refine Below.alloc ?_ (by first | assumption | omega | (simp; done) | (simp; omega)) _ | refine Below.setCell ?_ (by first | assumption | omega | (simp; done) | (simp; omega)) _))
  simp only [World.size_alloc] at b4 b5 b6 b7
  have hsz : ((((w.alloc (.cells #[.int .i64 t] 3)).alloc (.cells #[.int .i64 window] 3)).alloc (.cells #[.int .i64 0, .int .i64 0] 25)).alloc (.cells #[.bool false] 4)).heap.size = w.heap.size + 4 := by simp
  obtain ⟨W0, hW0⟩ : ∃ W0, (((w.alloc (.cells #[.int .i64 t] 3)).alloc (.cells #[.int .i64 window] 3)).alloc (.cells #[.int .i64 0, .int .i64 0] 25)).alloc (.cells #[.bool false] 4) = W0 := ⟨_, rfl⟩
  rw [hW0] at b4 b5 b6 b7 hB0 hsz ⊢
  clear hW0
  refine ⟨trivial, ?_⟩
  refine (callsIn_wide.2 (counted_any w.heap.size A m c xs W0 (by omega) (h.below hB0))).mono ?_
  rintro e w1 ⟨A', n', c', rfl, hS1, hB1⟩
  have hz1 := hB1.size
  gi_wp2_with (refine ⟨trivial, ?_⟩; gi_at_call 32; refine (bk_in Fence.wide 9 trivial hro _ _ _ _).mono ?_; rintro e w' ⟨rfl, rfl⟩)
  have hI0 : AtI w t window (0, 0) false (w1.alloc (.cells #[.slice A' n' c'] 33)) :=
    ⟨⟨⟨⟨(b4.below hB1 b4.lt).alloc _, (b5.below hB1 b5.lt).alloc _⟩, (b6.below hB1 b6.lt).alloc _⟩, (b7.below hB1 b7.lt).alloc _⟩, (hB0.trans (hB1.mono (by omega))).alloc (by omega) _⟩
  refine wpIn_rangeFunc_ownH (n := 10) hro (by decide) (gf := 46) (lb := #[.pointer (some ⟨w1.heap.size, 0, none⟩)]) rfl trivial (enters_of Try.func46 (by kernel_rfl) rfl)
    (bk_stops Fence.wide 9 trivial hro (by decide) w1.heap.size w.heap.size n' c' A' (Ser.counted xs) _ (by simp) (by simp; omega) (Boxed.new w1 33 (.slice A' n' c')).cell (hS1.alloc (by omega) _)) KB.trans (kb_b (by simp; omega) (by simp)) (Below.refl _ _) (fun _ => by rfl)
    (fun pre W => (AtI w t window (0, 0) false W ∧ Mem.Blk W w1.heap.size 33 #[.slice A' n' c']) ∧ ∀ x ∈ pre, t < x.1)
    (fun cd pre W => ∃ pre' x, pre = pre' ++ [x] ∧ (∀ y ∈ pre', t < y.1) ∧ x.1 ≤ t ∧ AtX w t window x cd W)
    (OwnFrom.and (OwnFrom.and (atI_own w t window (fun _ => (0, 0)) (fun _ => false) _ (by simp; omega)) (Own.from (blk_own _ _ _) _)) (own_pure (fun pre : List (Int × Int) => ∀ x ∈ pre, t < x.1) _))
    (fun cd pre X Y row hs hg hr => by
      obtain ⟨pre', x, e, h1, h2, hX⟩ := hs
      refine ⟨pre', x, e, h1, h2, ?_⟩
      rcases hX with ⟨a, b, hI⟩ | ⟨a, b, hI⟩
      · exact .inl ⟨a, b, atI_own w t window (fun (_ : Unit) => x) (fun _ => true) _ (by simp; omega) () X Y row hI hg hr⟩
      · exact .inr ⟨a, b, atI_own w t window (fun (_ : Unit) => (0, 0)) (fun _ => false) _ (by simp; omega) () X Y row hI hg hr⟩)
    ⟨⟨hI0, Mem.Blk.new w1 _ _⟩, by simp⟩
    (fun x a' W => ∃ Bx, w1.heap.size < Bx ∧ Mem.Blk W Bx 25 #[.int .i64 x.1, .int .i64 x.2] ∧ a' = { tmps := #[.slice A m c, .int .i64 t, .int .i64 window, undef, .pointer (some ⟨w.heap.size, 0, none⟩), .pointer (some ⟨w.heap.size + 1, 0, none⟩), .pointer (some ⟨w.heap.size + 1 + 1, 0, none⟩), .pointer (some ⟨w.heap.size + 1 + 1 + 1, 0, none⟩), .pointer (some ⟨Bx, 0, none⟩), .slice A m c, .slice A' n' c', .func (.func 46) #[] #[.pointer (some ⟨w1.heap.size, 0, none⟩)], .agg #[.int .i64 x.1, .int .i64 x.2], undef, undef, undef, undef, undef, undef, undef, undef, undef, undef, undef, undef], defers := [] })
    (fun x a' _ X Y row hs hg hr => by obtain ⟨Bx, h1, h2, h3⟩ := hs; exact ⟨Bx, h1, blk_own Bx 25 (fun (_ : Unit) => #[.int .i64 x.1, .int .i64 x.2]) () X Y row h2 hg (fun r e => (hr r e).2), h3⟩)
    ?assign ?body ?done ?stop
  case assign =>
    rintro l pre x W K ⟨⟨hI, hBk⟩, hpre⟩ hK
    have hlt := hBk.lt
    have hIs := hI.2.size
    simp only [encS]
    gi_wp2
    refine hK _ _ ((KeepsOthers.alloc _ _).from _) (kb_alloc (by omega) hlt _) ⟨⟨hI.alloc _, hBk.alloc _⟩, hpre⟩ ⟨W.heap.size, hlt, Mem.Blk.new W _ _, rfl⟩
  case body =>
    rintro l pre x a' W hl ⟨r, hr⟩ ⟨⟨hI, hBk⟩, hpre⟩ ⟨Bx, hBx, bX, rfl⟩ hlt
    have hlt := hBk.lt
    have hIs := hI.2.size
    have c4 := hI.1.1.1.1.cell 0
    have c5 := hI.1.1.1.2.cell 0
    have cx0 := bX.cell 0
    have cx1 := bX.cell 1
    have c6 := hI.1.1.2.cell 0
    have c6' := hI.1.1.2.cell 1
    have f6 := hI.1.1.2.frozen 0
    have f6' := hI.1.1.2.frozen 1
    have c7 := hI.1.2.cell 0
    have f7 := hI.1.2.frozen 0
    have HI := Lib.hid hI
    have HP := Lib.hid hpre
    clear hI hpre
    simp at c4 c5 cx0 cx1 c6 c6' c7
    gi_wp2
    · have hx : t < x.1 := by assumption
      exact ⟨KeepsFrom.refl _ _, KB.refl _ _ _, ⟨⟨HI.out, hBk⟩, fun y hy => by
        rcases List.mem_append.1 hy with h | h
        · exact HP.out y h
        · rw [List.mem_singleton.1 h]; exact hx⟩⟩
    · have hx : x.1 ≤ t := by assumption
      have hw : wrap64 (t - x.1) < window := by assumption
      exact ⟨keeps3 _ _ _ _ _ _ _ _, ⟨pre, x, rfl, HP.out, hx, .inl ⟨rfl, hw, HI.out.result x true⟩⟩⟩
    · have hx : x.1 ≤ t := by assumption
      have hw : window ≤ wrap64 (t - x.1) := by assumption
      exact ⟨KeepsFrom.refl _ _, ⟨pre, x, rfl, HP.out, hx, .inr ⟨rfl, by omega, HI.out⟩⟩⟩
  case done =>
    rintro D ys W hD rfl ⟨⟨hI, hBk⟩, hpre⟩ hK
    have c6 := hI.1.1.2.cell 0
    have c6' := hI.1.1.2.cell 1
    have f6 := hI.1.1.2.frozen 0
    have f6' := hI.1.1.2.frozen 1
    have c7 := hI.1.2.cell 0
    have f7 := hI.1.2.frozen 0
    have HI := Lib.hid hI
    have HP := Lib.hid hpre
    clear hI hpre
    simp at c6 c6' c7
    gi_wp2
    have hI2 := HI.out.result (0, 0) false
    have hK2 := (((KeepsOthers.setCell W ⟨w.heap.size + 1 + 1, 0, none⟩ (.int .i64 0)).trans (KeepsOthers.setCell _ ⟨w.heap.size + 1 + 1, 1, none⟩ (.int .i64 0))).trans (KeepsOthers.setCell _ ⟨w.heap.size + 1 + 1 + 1, 0, none⟩ (.bool false))).same D _ hK rfl
    refine ⟨by simp, .inl ⟨_, _, rfl, run_takeDeferred hK2, ?_⟩⟩
    have hI3 := (atI_own w t window (fun (_ : Unit) => (0, 0)) (fun _ => false) _ (Nat.le_refl _)).putObj (s := ()) (.deferred none) hI2 (by simp at hD; omega) hK2 rfl
    refine ⟨_, at_results hI3 _ rfl rfl, ?_⟩
    rw [Ser.atP_none HP.out]
    exact ⟨rfl, hI3.2⟩
  case stop =>
    rintro D cd pre W hD hpf ⟨pre', x, rfl, hpre', hx, hX⟩ hK
    have hb := Ser.counted_time (Ser.lastTo_of_rev hpf hpre' hx).1
    have hwr : wrap64 (t - x.1) = t - x.1 := IntWalk.wrap64_in _ (by have := HT.out; omega)
    rcases hX with ⟨rfl, hw, hI⟩ | ⟨rfl, hw, hI⟩
    · gi_wp2
      refine ⟨by simp, .inl ⟨_, _, rfl, run_takeDeferred hK, ?_⟩⟩
      have hI3 := (atI_own w t window (fun (_ : Unit) => x) (fun _ => true) _ (Nat.le_refl _)).putObj (s := ()) (.deferred none) hI (by simp at hD; omega) hK rfl
      refine ⟨_, at_results hI3 _ rfl rfl, ?_⟩
      rw [Ser.atP_of_rev hpf hpre' hx, if_pos (by rw [← hwr]; exact hw)]
      exact ⟨rfl, hI3.2⟩
    · have c6 := hI.1.1.2.cell 0
      have c6' := hI.1.1.2.cell 1
      have f6 := hI.1.1.2.frozen 0
      have f6' := hI.1.1.2.frozen 1
      have c7 := hI.1.2.cell 0
      have f7 := hI.1.2.frozen 0
      have HI := Lib.hid hI
      have HP := Lib.hid hpre'
      have HW := Lib.hid hwr
      clear hI hpre' hwr
      simp at c6 c6' c7
      gi_wp2
      have hI2 := HI.out.result (0, 0) false
      have hK2 := (((KeepsOthers.setCell W ⟨w.heap.size + 1 + 1, 0, none⟩ (.int .i64 0)).trans (KeepsOthers.setCell _ ⟨w.heap.size + 1 + 1, 1, none⟩ (.int .i64 0))).trans (KeepsOthers.setCell _ ⟨w.heap.size + 1 + 1 + 1, 0, none⟩ (.bool false))).same D _ hK rfl
      refine ⟨by simp, .inl ⟨_, _, rfl, run_takeDeferred hK2, ?_⟩⟩
      have hI3 := (atI_own w t window (fun (_ : Unit) => (0, 0)) (fun _ => false) _ (Nat.le_refl _)).putObj (s := ()) (.deferred none) hI2 (by simp at hD; omega) hK2 rfl
      refine ⟨_, at_results hI3 _ rfl rfl, ?_⟩
      rw [Ser.atP_of_rev hpf HP.out hx, if_neg (by rw [← HW.out]; omega)]
      exact ⟨rfl, hI3.2⟩
end Go.Proofs.Ytidfiiogjfpfmaa.SerW
