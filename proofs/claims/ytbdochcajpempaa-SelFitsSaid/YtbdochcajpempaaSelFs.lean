/- The state of a statement that copies matches, with one more behind them, into a selector of its own, in whatever order. -/
import Derived.Test.YtbdochcajpempaaSelZ
import Derived.Deep.RegionLaw
import Derived.Deep.CutRange
namespace Go.Proofs.Ytbdochcajpempaa
open Go.RowKit
set_option linter.unusedSimpArgs false
set_option linter.unusedVariables false

theorem mt_one (L : List Lab.Mt) : ∀ u ∈ L.flatMap mtCells, u.oneCell' = true := by
  intro u hu
  obtain ⟨t, _, ht⟩ := List.mem_flatMap.1 hu
  simp only [mtCells, List.mem_cons, List.not_mem_nil, or_false] at ht
  rcases ht with rfl | rfl | rfl <;> rfl
theorem fits_is (nm : ByteArray) (hnms : nm.size ≤ 9223372036854775807) (A : Option Addr) (n c : Nat) (ms : List Lab.Mt) (B : Option Addr) (n2 c2 : Nat) (l : List Lab.Pr) (b : Bool) (hb : Sel.fits nm ms l = b) (w : World) (hm : Mts w w.heap.size A n c ms) (hp : Prs w w.heap.size B n2 c2 l) :
    Calls Try.prog 19 #[.agg #[.string nm, .slice A n c], .slice B n2 c2] w fun e w' => e = .returned (.bool b) ∧ Below w.heap.size w w' := by
  subst hb
  exact fits_any nm hnms A n c ms B n2 c2 l w hm hp
theorem own_at {W W' : World} {base : Nat} {e : TypeId} {sz n : Nat} {v : Value} {xs : List Value} (h : W.ownsRow base e sz v n xs) (hb : ∀ g, v.ownBlock = some g → W'.heap[g]? = W.heap[g]?) : W'.ownsRow base e sz v n xs := by
  obtain ⟨h1, h2⟩ := h
  refine ⟨h1, ?_⟩
  rcases h2 with h0 | ⟨g, cap, cur, hv, hbg, hg, rest⟩
  · exact .inl h0
  · exact .inr ⟨g, cap, cur, hv, hbg, (hb g (by rw [hv]; rfl)).trans hg, rest⟩
def mcells (m : Lab.Mt) : Array Value := #[.string m.1, .string m.2.1, .bool m.2.2]
structure FSt (w5 : World) (m : Lab.Mt) (W : World) (oc : Option (Value × List Lab.Mt)) (ob : Option Nat) (oa : Option (Nat × Array Value)) : Prop where
  low : Below w5.heap.size w5 W
  own : ∀ v xs, oc = some (v, xs) → W.ownsRow w5.heap.size 45 3 v xs.length (xs.flatMap mtCells)
  bb : ∀ g, ob = some g → w5.heap.size ≤ g ∧ Mem.Blk W g 45 (mcells m)
  ba : ∀ g cs, oa = some (g, cs) → w5.heap.size ≤ g ∧ Mem.Blk W g 24 cs
  ne : ∀ v xs g, oc = some (v, xs) → ob = some g → v.ownBlock ≠ some g
section
variable {w5 W w' : World} {m : Lab.Mt} {oc : Option (Value × List Lab.Mt)} {ob : Option Nat} {oa : Option (Nat × Array Value)} {v v' : Value} {xs xs' : List Lab.Mt}
theorem FSt.start (w5 : World) (m : Lab.Mt) : FSt w5 m w5 none none none := ⟨Below.refl _ _, nofun, nofun, nofun, nofun⟩
theorem FSt.drew (h : FSt w5 m W oc ob oa) : FSt w5 m W.drew oc ob oa := ⟨h.low.drew, h.own, h.bb, h.ba, h.ne⟩
theorem FSt.bs1 (h : FSt w5 m W none ob oa) : FSt w5 m (W.alloc (.cells #[] 45)) (some (.slice (some ⟨W.heap.size, 0, none⟩) 0 0, [])) ob oa :=
  ⟨h.low.alloc h.low.size _, fun v xs e => by
    cases e
    exact ⟨by simp, .inr ⟨W.heap.size, 0, #[], rfl, h.low.size, heap_alloc_new W _, Nat.le_refl _, by unfold maxLen; omega, rfl, rfl⟩⟩,
   fun g e => ⟨(h.bb g e).1, (h.bb g e).2.alloc _⟩, fun g cs e => ⟨(h.ba g cs e).1, (h.ba g cs e).2.alloc _⟩, fun v xs g e e2 => by
    cases e
    have := (h.bb g e2).2.lt
    simp [Value.ownBlock]
    omega⟩
theorem FSt.bs2 (h : FSt w5 m W oc none oa) : FSt w5 m (W.alloc (.cells #[.string m.1, .string m.2.1, .bool m.2.2] 45)) oc (some W.heap.size) oa :=
  ⟨h.low.alloc h.low.size _, fun v xs e => (h.own v xs e).alloc _, fun g e => by
    cases e
    exact ⟨h.low.size, Mem.Blk.new W _ _⟩, fun g cs e => ⟨(h.ba g cs e).1, (h.ba g cs e).2.alloc _⟩, fun v xs g e e2 => by
    cases e2
    intro e3
    have := ((h.own v xs e).lt _ e3).2
    omega⟩
theorem FSt.al (h : FSt w5 m W oc ob none) : FSt w5 m (W.alloc (.cells #[.string ⟨#[]⟩, .slice none 0 0] 24)) oc ob (some (W.heap.size, #[.string ⟨#[]⟩, .slice none 0 0])) :=
  ⟨h.low.alloc h.low.size _, fun v xs e => (h.own v xs e).alloc _, fun g e => ⟨(h.bb g e).1, (h.bb g e).2.alloc _⟩, fun g cs e => by
    cases e
    exact ⟨h.low.size, Mem.Blk.new W _ _⟩, h.ne⟩
theorem FSt.app (h : FSt w5 m W (some (v, xs)) ob oa) (hg : W.grownBy w' v.ownBlock) (hown : w'.ownsRow w5.heap.size 45 3 v' xs'.length (xs'.flatMap mtCells)) (hv : v'.ownBlock = v.ownBlock ∨ v'.ownBlock = some W.heap.size) : FSt w5 m w' (some (v', xs')) ob oa := by
  have ho := h.own v xs rfl
  refine ⟨h.low.grown hg h.low.size (fun k e => (ho.lt k e).1), fun v2 xs2 e => by cases e; exact hown, fun g e => ?_, fun g cs e => ?_, fun v2 xs2 g e e2 => ?_⟩
  · exact ⟨(h.bb g e).1, (h.bb g e).2.grown hg (fun e2 => h.ne v xs g rfl e e2.symm)⟩
  · exact ⟨(h.ba g cs e).1, (h.ba g cs e).2.grown hg (fun e2 => Mem.own_blk_ne ho (h.ba g cs e).2 (by decide) e2.symm)⟩
  · cases e
    have hb := h.bb g e2
    rcases hv with hv | hv
    · rw [hv]
      exact h.ne v xs g rfl e2
    · rw [hv]
      have := hb.2.lt
      simp
      omega
theorem FSt.reads (h : FSt w5 m W oc ob oa) {A : Option Addr} {n c : Nat} {ms : List Lab.Mt} (hM : Mts w5 w5.heap.size A n c ms) : Mem.Reads W w5.heap.size 3 A n (ms.flatMap mtCells) := Recs.reads mtCells_len (by decide) (hM.1.below h.low)
theorem FSt.last {g : Nat} (h : FSt w5 m W oc (some g) oa) : Mem.Reads W W.heap.size 3 (some ⟨g, 0, none⟩) 1 ([m].flatMap mtCells) := by
  refine ⟨rfl, fun _ => ⟨⟨g, 0, none⟩, rfl, (h.bb g rfl).2.lt, fun j u hu => ?_⟩⟩
  have hc := (h.bb g rfl).2.cell j
  rw [show (Addr.mk g 0 none).add j = ⟨g, j, none⟩ by unfold Addr.add; split <;> simp_all]
  rw [hc]
  match j, hu with
  | 0, hu => exact hu
  | 1, hu => exact hu
  | 2, hu => exact hu
/-- at the end: the selector's own block, and its matches -/
theorem FSt.st {g : Nat} {cs : Array Value} {nm : ByteArray} (h : FSt w5 m W (some (v, xs)) ob (some (g, cs))) (hcs : cs = #[.string ⟨#[]⟩, .slice none 0 0]) (hsz : ∀ p ∈ xs, p.1.size ≤ 9223372036854775807 ∧ p.2.1.size ≤ 9223372036854775807) :
    ∃ A2 c9, v = .slice A2 xs.length c9 ∧ w5.heap.size ≤ g ∧ Mem.Blk ((W.setCell ⟨g, 0, none⟩ (.string nm)).setCell ⟨g, 1, none⟩ v) g 24 #[.string nm, v] ∧
      Mts ((W.setCell ⟨g, 0, none⟩ (.string nm)).setCell ⟨g, 1, none⟩ v) ((W.setCell ⟨g, 0, none⟩ (.string nm)).setCell ⟨g, 1, none⟩ v).heap.size A2 xs.length c9 xs ∧
      Below w5.heap.size w5 ((W.setCell ⟨g, 0, none⟩ (.string nm)).setCell ⟨g, 1, none⟩ v) := by
  obtain ⟨hg, hb⟩ := h.ba g cs rfl
  have ho := h.own v xs rfl
  have hne : v.ownBlock ≠ some g := Mem.own_blk_ne ho hb (by decide)
  have ho2 : ((W.setCell ⟨g, 0, none⟩ (.string nm)).setCell ⟨g, 1, none⟩ v).ownsRow w5.heap.size 45 3 v xs.length (xs.flatMap mtCells) := own_at ho (fun k e => by
    have hk : k ≠ g := fun e2 => hne (by rw [← e2]; exact e)
    exact (Below.heap_setCell _ _ _ _ hk).trans (Below.heap_setCell _ _ _ _ hk))
  obtain ⟨A2, c9, e, hrec⟩ := Recs.of_own mtCells_len (by decide) ho2
  subst hcs
  exact ⟨A2, c9, e, hg, by simpa using (hb.set_ 0 (.string nm)).set_ 1 v, ⟨hrec, hsz⟩, (h.low.setCell hg _).setCell hg _⟩
theorem FSt.fin {g N c8 : Nat} {A8 : Option Addr} {nm : ByteArray} (h : FSt w5 m W (some (.slice A8 N c8, xs)) ob (some (g, #[.string ⟨#[]⟩, .slice none 0 0]))) (hN : xs.length = N) (hsz : ∀ p ∈ xs, p.1.size ≤ 9223372036854775807 ∧ p.2.1.size ≤ 9223372036854775807) :
    w5.heap.size ≤ g ∧ Mem.Blk ((W.setCell ⟨g, 0, none⟩ (.string nm)).setCell ⟨g, 1, none⟩ (.slice A8 N c8)) g 24 #[.string nm, .slice A8 N c8] ∧
      Mts ((W.setCell ⟨g, 0, none⟩ (.string nm)).setCell ⟨g, 1, none⟩ (.slice A8 N c8)) ((W.setCell ⟨g, 0, none⟩ (.string nm)).setCell ⟨g, 1, none⟩ (.slice A8 N c8)).heap.size A8 N c8 xs ∧
      Below w5.heap.size w5 ((W.setCell ⟨g, 0, none⟩ (.string nm)).setCell ⟨g, 1, none⟩ (.slice A8 N c8)) ∧
      W.frozen? ⟨g, 0, none⟩ = false ∧ W.frozen? ⟨g, 1, none⟩ = false ∧ W.cell? ⟨g, 0, none⟩ = some (.string ⟨#[]⟩) ∧ W.cell? ⟨g, 1, none⟩ = some (.slice none 0 0) := by
  obtain ⟨A2, c9, e, h1, h2, h3, h4⟩ := h.st (nm := nm) rfl hsz
  injection e with e1 e2 e3
  subst e1 e3 hN
  have hb := (h.ba _ _ rfl).2
  exact ⟨h1, h2, h3, h4, hb.frozen 0, hb.frozen 1, hb.cell 0, hb.cell 1⟩
theorem FSt.app1 {ys : List Lab.Mt} (h : FSt w5 m W (some (v, ys)) ob oa) (hg : W.grownBy w' v.ownBlock) (hown : w'.ownsRow w5.heap.size 45 3 v' (ys.length + 1) (ys.flatMap mtCells ++ [m].flatMap mtCells)) (hv : v'.ownBlock = v.ownBlock ∨ v'.ownBlock = some W.heap.size) :
    ∃ A8 c8, v' = .slice A8 (ys.length + 1) c8 ∧ FSt w5 m w' (some (.slice A8 (ys.length + 1) c8, ys ++ [m])) ob oa := by
  have hown2 : w'.ownsRow w5.heap.size 45 3 v' (ys ++ [m]).length ((ys ++ [m]).flatMap mtCells) := by
    rw [List.length_append, List.flatMap_append]
    exact hown
  obtain ⟨A8, c8, rfl, -⟩ := Recs.of_own mtCells_len (by decide) hown2
  refine ⟨A8, c8, by simp, ?_⟩
  have := h.app hg hown2 hv
  rwa [show (ys ++ [m]).length = ys.length + 1 by simp] at this
end
end Go.Proofs.Ytbdochcajpempaa
