/- The walk of series.Between. -/
import Derived.Test.YtidfiiogjfpfmaaSerF
namespace Go.Proofs.Ytidfiiogjfpfmaa.SerW
open Go.RowKit Go.Shelf

attribute [local go_sem] Oper.semAt_some

/-- what Between's body knows between two rounds -/
def BtI (w : World) (a b : Int) (v : Value) (zs : List (Int × Int)) (W : World) : Prop :=
  (((Mem.Blk W w.heap.size 3 #[.int .i64 a] ∧ Mem.Blk W (w.heap.size + 1) 3 #[.int .i64 b]) ∧ Boxed W (w.heap.size + 1 + 1) 33 v) ∧ W.ownsRow w.heap.size 25 2 v zs.length ((Ser.cells zs).map (Value.int .i64))) ∧ Below w.heap.size w W
theorem btI_own {β : Type} (w : World) (a b : Int) (zs : β → List (Int × Int)) (B : Nat) (hB : w.heap.size ≤ B) : OwnFrom B (fun (s : β) W => ∃ v, BtI w a b v (zs s) W) := by
  intro s X Y row ⟨v, ⟨⟨⟨h1, h2⟩, h3⟩, h4⟩, h5⟩ hg hr
  have hr' : ∀ r, row = some r → ∃ o : Obj, X.heap[r]? = some o ∧ o.isCells = false := fun r e => (hr r e).2
  obtain ⟨v', k3, k4, _⟩ := holdsRow_own w.heap.size (w.heap.size + 1 + 1) 33 25 2 (fun (_ : Unit) => (zs s).length) (fun _ => (Ser.cells (zs s)).map (Value.int .i64)) (fun _ u => u = v) () X Y row ⟨v, h3, h4, rfl⟩ hg hr'
  exact ⟨v', ⟨⟨⟨blk_own _ _ (fun (_ : Unit) => #[.int .i64 a]) () X Y row h1 hg hr', blk_own _ _ (fun (_ : Unit) => #[.int .i64 b]) () X Y row h2 hg hr'⟩, k3⟩, k4⟩, ownFrom_below (Nat.le_refl _) hB () X Y row h5 hg hr⟩
theorem BtI.alloc {w W : World} {a b : Int} {v : Value} {zs : List (Int × Int)} (h : BtI w a b v zs W) (o : Obj) : BtI w a b v zs (W.alloc o) :=
  ⟨⟨⟨⟨h.1.1.1.1.alloc _, h.1.1.1.2.alloc _⟩, h.1.1.2.alloc _⟩, h.1.2.alloc _⟩, h.2.alloc h.2.size _⟩

theorem own_ne_obj {W : World} {base e size n D : Nat} {v : Value} {xs : List Value} {o : Obj} (h : W.ownsRow base e size v n xs) (hD : W.heap[D]? = some o) (ho : o.isCells = false) : some D ≠ v.ownBlock := by
  rcases h.2 with ⟨rfl, _⟩ | ⟨g, cap, cur, rfl, _, hh, _⟩
  · simp [Value.ownBlock]
  · intro e'
    have : D = g := by simpa [Value.ownBlock] using e'
    subst this
    rw [hD] at hh
    cases hh
    cases ho
theorem own_ge {W : World} {base e size n k : Nat} {v : Value} {xs : List Value} (h : W.ownsRow base e size v n xs) (hk : v.ownBlock = some k) : base ≤ k := by
  rcases h.2 with ⟨rfl, _⟩ | ⟨g, cap, cur, rfl, hb, _⟩
  · simp [Value.ownBlock] at hk
  · simp [Value.ownBlock] at hk; omega

end Go.Proofs.Ytidfiiogjfpfmaa.SerW
