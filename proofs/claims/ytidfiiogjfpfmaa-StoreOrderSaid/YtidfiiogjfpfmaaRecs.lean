/- A slice of records (structs of one-cell fields) in memory. -/
import Derived.Test.YtidfiiogjfpfmaaMem
import Derived.WalkKit
namespace Go.Proofs.Ytidfiiogjfpfmaa
open Go.RowKit

/-- the slice value '.slice A n c' reads as the records xs, each in the cells f x, sz of them; its cells lie below block B -/
def Recs {α : Type} (f : α → List Value) (sz : Nat) (W : World) (B : Nat) (A : Option Addr) (n c : Nat) (xs : List α) : Prop :=
  xs.length = n ∧ n ≤ c ∧ c ≤ 9223372036854775807 ∧ (0 < n → ∃ b off, A = some ⟨b, off, none⟩ ∧ b < B ∧ ∀ j x, xs[j]? = some x → ∀ i u, (f x)[i]? = some u → W.cell? ⟨b, off + j * sz + i, none⟩ = some u)

section
variable {α : Type} {f : α → List Value} {sz : Nat} {W W' : World} {B B' n c : Nat} {A : Option Addr} {xs : List α}
theorem Recs.none_ (W : World) (B : Nat) : Recs f sz W B none 0 0 [] := ⟨rfl, Nat.le_refl _, by omega, fun h => absurd h (by omega)⟩
theorem Recs.keep (h : Recs f sz W B A n c xs) (hk : ∀ b o, b < B → W'.cell? ⟨b, o, none⟩ = W.cell? ⟨b, o, none⟩) : Recs f sz W' B A n c xs :=
  ⟨h.1, h.2.1, h.2.2.1, fun hn => by
    obtain ⟨b, off, e, hb, hc⟩ := h.2.2.2 hn
    exact ⟨b, off, e, hb, fun j x hj i u hu => (hk _ _ hb).trans (hc j x hj i u hu)⟩⟩
theorem Recs.more (h : Recs f sz W B A n c xs) (hB : B ≤ B') : Recs f sz W B' A n c xs :=
  ⟨h.1, h.2.1, h.2.2.1, fun hn => by
    obtain ⟨b, off, e, hb, hc⟩ := h.2.2.2 hn
    exact ⟨b, off, e, by omega, hc⟩⟩
theorem Recs.below (h : Recs f sz W B A n c xs) (hb : Below B W W') : Recs f sz W' B A n c xs := h.keep fun b o hlt => hb.cell (p := ⟨b, o, none⟩) hlt
/-- behind a call that kept all that lay -/
theorem Recs.later (h : Recs f sz W W.heap.size A n c xs) (hb : Below W.heap.size W W') : Recs f sz W' W'.heap.size A n c xs := (h.below hb).more hb.size
theorem Recs.alloc (h : Recs f sz W B A n c xs) (hB : B ≤ W.heap.size) (o : Obj) : Recs f sz (W.alloc o) B A n c xs := h.keep fun b o' hlt => World.cell?_alloc_lt W o ⟨b, o', none⟩ (show b < W.heap.size by omega)
theorem Recs.setCell (h : Recs f sz W B A n c xs) {p : Addr} (hB : B ≤ p.block) (u : Value) : Recs f sz (W.setCell p u) B A n c xs := h.keep fun b o hlt => World.cell?_setCell_other W p ⟨b, o, none⟩ u (fun e => by subst e; simp at hB; omega)
theorem Recs.drew (h : Recs f sz W B A n c xs) : Recs f sz W.drew B A n c xs := h
theorem Recs.at_ (h : Recs f sz W B A n c xs) (hn : 0 < n) : ∃ b off, A = some ⟨b, off, none⟩ ∧ b < B ∧ ∀ j x, xs[j]? = some x → ∀ i u, (f x)[i]? = some u → W.cell? ⟨b, off + j * sz + i, none⟩ = some u := h.2.2.2 hn
theorem recs_length (hf : ∀ x, (f x).length = sz) (xs : List α) : (xs.flatMap f).length = xs.length * sz := by
  induction xs with
  | nil => simp
  | cons x xs ih => rw [List.flatMap_cons, List.length_append, ih, hf, List.length_cons, Nat.succ_mul, Nat.add_comm]
theorem recs_at (hf : ∀ x, (f x).length = sz) (xs : List α) {j i : Nat} {x : α} (hj : xs[j]? = some x) (hi : i < sz) : (xs.flatMap f)[j * sz + i]? = (f x)[i]? := by
  induction xs generalizing j with
  | nil => simp at hj
  | cons y xs ih =>
    cases j with
    | zero =>
      simp only [List.getElem?_cons_zero, Option.some.injEq] at hj
      subst hj
      rw [List.flatMap_cons, List.getElem?_append_left (by rw [hf]; omega), Nat.zero_mul, Nat.zero_add]
    | succ j =>
      rw [List.getElem?_cons_succ] at hj
      rw [List.flatMap_cons, List.getElem?_append_right (by rw [hf, Nat.succ_mul]; omega), hf, show (j + 1) * sz + i - sz = j * sz + i by rw [Nat.succ_mul]; omega]
      exact ih hj
theorem Recs.reads (hf : ∀ x, (f x).length = sz) (hz : 0 < sz) (h : Recs f sz W B A n c xs) : Mem.Reads W B sz A n (xs.flatMap f) := by
  refine ⟨by rw [recs_length hf, h.1], fun hn => ?_⟩
  obtain ⟨b, off, e, hb, hc⟩ := h.at_ hn
  refine ⟨⟨b, off, none⟩, e, hb, fun j u hu => ?_⟩
  have hj : j < n * sz := by
    have := (List.getElem?_eq_some_iff.1 hu).1
    rw [recs_length hf, h.1] at this; exact this
  have hadd : (Addr.mk b off none).add j = ⟨b, off + j, none⟩ := by unfold Addr.add; split <;> simp_all
  rw [hadd]
  have hq : j / sz < xs.length := by rw [h.1]; exact Nat.div_lt_of_lt_mul (by rw [Nat.mul_comm]; exact hj)
  have hj2 : j = (j / sz) * sz + j % sz := by rw [Nat.mul_comm]; exact (Nat.div_add_mod j sz).symm
  have hx : xs[j / sz]? = some xs[j / sz] := List.getElem?_eq_getElem hq
  rw [hj2, recs_at hf xs hx (Nat.mod_lt _ hz)] at hu
  rw [hj2, ← Nat.add_assoc]
  exact hc _ _ hx _ _ hu
theorem Recs.of_reads (hf : ∀ x, (f x).length = sz) (hz : 0 < sz) (hR : Mem.Reads W B sz A n (xs.flatMap f)) (hA : ∀ ad, A = some ad → 0 < n → ∃ b off, ad = ⟨b, off, none⟩) (hn : n ≤ c) (hc : c ≤ 9223372036854775807) : Recs f sz W B A n c xs := by
  have hl : xs.length = n := by
    have := hR.1
    rw [recs_length hf] at this
    exact Nat.eq_of_mul_eq_mul_right hz this
  refine ⟨hl, hn, hc, fun h0 => ?_⟩
  obtain ⟨ad, e, hb, hcell⟩ := hR.2 h0
  obtain ⟨b, off, rfl⟩ := hA ad e h0
  refine ⟨b, off, e, hb, fun j x hj i u hu => ?_⟩
  have hadd : ∀ i, (Addr.mk b off none).add i = ⟨b, off + i, none⟩ := fun i => by unfold Addr.add; split <;> simp_all
  have hi : i < sz := by have := (List.getElem?_eq_some_iff.1 hu).1; rw [hf] at this; exact this
  have := hcell (j * sz + i) u (by rw [recs_at hf xs hj hi]; exact hu)
  rw [hadd] at this
  rw [Nat.add_assoc]
  exact this
/-- what the call owns reads -/
theorem Recs.of_own (hf : ∀ x, (f x).length = sz) (hz : 0 < sz) {base e : Nat} {v : Value} (h : W.ownsRow base e sz v n (xs.flatMap f)) : ∃ A c, v = .slice A n c ∧ Recs f sz W W.heap.size A n c xs := by
  rcases h.2 with ⟨rfl, rfl⟩ | ⟨g, cap, cur, rfl, hb, hh, hn, hc, _, _⟩
  · have hx : xs = [] := by
      have := h.1
      rw [recs_length hf] at this
      have := Nat.eq_of_mul_eq_mul_right hz this
      exact List.eq_nil_of_length_eq_zero this
    subst hx
    exact ⟨none, 0, rfl, Recs.none_ _ _⟩
  · exact ⟨some ⟨g, 0, none⟩, cap, rfl, Recs.of_reads hf hz (Mem.Reads.of_own h) (fun ad e _ => by cases e; exact ⟨g, 0, rfl⟩) hn (by unfold maxLen at hc; exact hc)⟩
/-- the part from k on -/
theorem Recs.drop {b off : Nat} (h : Recs f sz W B (some ⟨b, off, none⟩) n c xs) {k : Nat} (hk : k ≤ n) : Recs f sz W B (some ⟨b, off + k * sz, none⟩) (n - k) (c - k) (xs.drop k) := by
  refine ⟨by rw [List.length_drop, h.1], by have := h.2.1; omega, by have := h.2.2.1; omega, fun hn => ?_⟩
  obtain ⟨b', off', e, hb, hc⟩ := h.at_ (by omega)
  injection e with e
  injection e with e1 e2
  subst e1 e2
  refine ⟨b, off + k * sz, rfl, hb, fun j x hj i u hu => ?_⟩
  rw [List.getElem?_drop] at hj
  have := hc (k + j) x hj i u hu
  rw [show off + k * sz + j * sz + i = off + (k + j) * sz + i by rw [Nat.add_mul]; omega]
  exact this
/-- the first k -/
theorem Recs.take (h : Recs f sz W B A n c xs) {k : Nat} (hk : k ≤ n) : Recs f sz W B A k c (xs.take k) := by
  refine ⟨by rw [List.length_take, h.1]; omega, by have := h.2.1; omega, h.2.2.1, fun hn => ?_⟩
  obtain ⟨b', off', e, hb, hc⟩ := h.at_ (by omega)
  refine ⟨b', off', e, hb, fun j x hj i u hu => ?_⟩
  rw [List.getElem?_take] at hj
  split at hj
  · exact hc j x hj i u hu
  · cases hj
end
end Go.Proofs.Ytidfiiogjfpfmaa
