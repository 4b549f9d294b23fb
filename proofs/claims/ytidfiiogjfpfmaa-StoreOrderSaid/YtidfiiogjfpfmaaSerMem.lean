/- How a slice of samples lies in memory. -/
import Derived.Test.YtidfiiogjfpfmaaSerPlain
import Derived.Test.YtidfiiogjfpfmaaMem
import Derived.WalkKit
namespace Go.Proofs.Ytidfiiogjfpfmaa.SerW
open Go.RowKit

/-- the slice value '.slice A n c' reads as the samples xs; its cells lie below block B -/
def Smp (W : World) (B : Nat) (A : Option Addr) (n c : Nat) (xs : List (Int × Int)) : Prop :=
  xs.length = n ∧ n ≤ c ∧ c ≤ 9223372036854775807 ∧ (0 < n → ∃ b off, A = some ⟨b, off, none⟩ ∧ b < B ∧ ∀ j, j < n →
    W.cell? ⟨b, off + j * 2, none⟩ = some (.int .i64 (Ser.tAt xs j)) ∧ W.cell? ⟨b, off + j * 2 + 1, none⟩ = some (.int .i64 (Ser.vAt xs j)))

section
variable {W W' : World} {B B' n c : Nat} {A : Option Addr} {xs : List (Int × Int)}
theorem Smp.len (h : Smp W B A n c xs) : xs.length = n := h.1
theorem Smp.none_ (W : World) (B : Nat) : Smp W B none 0 0 [] := ⟨rfl, Nat.le_refl _, by omega, fun h => absurd h (by omega)⟩
theorem Smp.keep (h : Smp W B A n c xs) (hk : ∀ b o, b < B → W'.cell? ⟨b, o, none⟩ = W.cell? ⟨b, o, none⟩) : Smp W' B A n c xs :=
  ⟨h.1, h.2.1, h.2.2.1, fun hn => by
    obtain ⟨b, off, e, hb, hc⟩ := h.2.2.2 hn
    exact ⟨b, off, e, hb, fun j hj => ⟨(hk _ _ hb).trans (hc j hj).1, (hk _ _ hb).trans (hc j hj).2⟩⟩⟩
theorem Smp.more (h : Smp W B A n c xs) (hB : B ≤ B') : Smp W B' A n c xs :=
  ⟨h.1, h.2.1, h.2.2.1, fun hn => by
    obtain ⟨b, off, e, hb, hc⟩ := h.2.2.2 hn
    exact ⟨b, off, e, by omega, hc⟩⟩
theorem Smp.below (h : Smp W B A n c xs) (hb : Below B W W') : Smp W' B A n c xs := h.keep fun b o hlt => hb.cell (p := ⟨b, o, none⟩) hlt
/-- behind a call that kept all that lay -/
theorem Smp.later (h : Smp W W.heap.size A n c xs) (hb : Below W.heap.size W W') : Smp W' W'.heap.size A n c xs := (h.below hb).more hb.size
theorem Smp.alloc (h : Smp W B A n c xs) (hB : B ≤ W.heap.size) (o : Obj) : Smp (W.alloc o) B A n c xs := h.keep fun b o' hlt => World.cell?_alloc_lt W o ⟨b, o', none⟩ (show b < W.heap.size by omega)
theorem Smp.setCell (h : Smp W B A n c xs) {p : Addr} (hB : B ≤ p.block) (u : Value) : Smp (W.setCell p u) B A n c xs := h.keep fun b o hlt => World.cell?_setCell_other W p ⟨b, o, none⟩ u (fun e => by subst e; simp at hB; omega)
theorem Smp.at_ (h : Smp W B A n c xs) {k : Nat} (hk : k < n) : ∃ b off, A = some ⟨b, off, none⟩ ∧ b < B ∧ ∀ j, j < n →
    W.cell? ⟨b, off + j * 2, none⟩ = some (.int .i64 (Ser.tAt xs j)) ∧ W.cell? ⟨b, off + j * 2 + 1, none⟩ = some (.int .i64 (Ser.vAt xs j)) := h.2.2.2 (by omega)
theorem cells_length (xs : List (Int × Int)) : (Ser.cells xs).length = xs.length * 2 := by
  induction xs with
  | nil => rfl
  | cons x xs ih => simp only [Ser.cells, List.flatMap_cons, List.length_append, List.length_cons, List.length_nil] at *; omega
theorem cells_at (xs : List (Int × Int)) {j : Nat} (hj : j < xs.length) : (Ser.cells xs)[j * 2]? = some (Ser.tAt xs j) ∧ (Ser.cells xs)[j * 2 + 1]? = some (Ser.vAt xs j) := by
  induction xs generalizing j with
  | nil => simp at hj
  | cons x xs ih =>
    cases j with
    | zero => simp [Ser.cells, Ser.tAt, Ser.vAt]
    | succ j =>
      have := @ih j (by simpa using hj)
      simp only [Ser.cells, Ser.tAt, Ser.vAt, List.flatMap_cons, List.cons_append, List.nil_append, show (j + 1) * 2 = j * 2 + 1 + 1 by omega, List.getElem?_cons_succ] at *
      exact this
theorem Smp.reads (h : Smp W B A n c xs) : Mem.Reads W B 2 A n ((Ser.cells xs).map (Value.int .i64)) := by
  refine ⟨by rw [List.length_map, cells_length, h.1], fun hn => ?_⟩
  obtain ⟨b, off, e, hb, hc⟩ := h.at_ hn
  refine ⟨⟨b, off, none⟩, e, hb, fun j u hu => ?_⟩
  have hlen := h.1
  have hj : j < n * 2 := by
    have := (List.getElem?_eq_some_iff.1 hu).1
    rw [List.length_map, cells_length] at this; omega
  have hadd : (Addr.mk b off none).add j = ⟨b, off + j, none⟩ := by unfold Addr.add; split <;> simp_all
  rw [hadd]
  rw [List.getElem?_map] at hu
  rcases Nat.mod_two_eq_zero_or_one j with hm | hm
  · have hj2 : j = (j / 2) * 2 := by omega
    rw [hj2, (cells_at xs (by omega)).1] at hu
    rw [hj2, (hc (j / 2) (by omega)).1]; exact hu
  · have hj2 : j = (j / 2) * 2 + 1 := by omega
    rw [hj2, (cells_at xs (by omega)).2] at hu
    rw [hj2, ← Nat.add_assoc, (hc (j / 2) (by omega)).2]; exact hu
theorem Smp.of_reads (hR : Mem.Reads W B 2 A n ((Ser.cells xs).map (Value.int .i64))) (hA : ∀ ad, A = some ad → 0 < n → ∃ b off, ad = ⟨b, off, none⟩) (hn : n ≤ c) (hc : c ≤ 9223372036854775807) : Smp W B A n c xs := by
  have hl : xs.length = n := by have := hR.1; rw [List.length_map, cells_length] at this; omega
  refine ⟨hl, hn, hc, fun h0 => ?_⟩
  obtain ⟨ad, e, hb, hcell⟩ := hR.2 h0
  obtain ⟨b, off, rfl⟩ := hA ad e h0
  refine ⟨b, off, e, hb, fun j hj => ?_⟩
  have hadd : ∀ i, (Addr.mk b off none).add i = ⟨b, off + i, none⟩ := fun i => by unfold Addr.add; split <;> simp_all
  obtain ⟨h1, h2⟩ := cells_at xs (j := j) (by omega)
  have c1 := hcell (j * 2) (.int .i64 (Ser.tAt xs j)) (by rw [List.getElem?_map, h1]; rfl)
  have c2 := hcell (j * 2 + 1) (.int .i64 (Ser.vAt xs j)) (by rw [List.getElem?_map, h2]; rfl)
  rw [hadd] at c1 c2
  exact ⟨c1, by rw [Nat.add_assoc]; exact c2⟩
/-- what the call owns reads -/
theorem Smp.of_own {base e : Nat} {v : Value} (h : W.ownsRow base e 2 v n ((Ser.cells xs).map (Value.int .i64))) : ∃ A c, v = .slice A n c ∧ Smp W W.heap.size A n c xs := by
  rcases h.2 with ⟨rfl, rfl⟩ | ⟨g, cap, cur, rfl, hb, hh, hn, hc, _, _⟩
  · have hx : xs = [] := by
      have := h.1; rw [List.length_map, cells_length] at this
      exact List.eq_nil_of_length_eq_zero (by omega)
    subst hx
    exact ⟨none, 0, rfl, Smp.none_ _ _⟩
  · exact ⟨some ⟨g, 0, none⟩, cap, rfl, Smp.of_reads (Mem.Reads.of_own h) (fun ad e _ => by cases e; exact ⟨g, 0, rfl⟩) hn (by unfold maxLen at hc; exact hc)⟩
end
end Go.Proofs.Ytidfiiogjfpfmaa.SerW
