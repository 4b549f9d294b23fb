/- The plain laws of a store: where labels stand is one place; what is put there keeps the order. -/
import Derived.Test.YtidfiiogjfpfmaaStoQ
namespace Go.Proofs.Ytidfiiogjfpfmaa
set_option linter.unusedSimpArgs false
set_option linter.unusedVariables false

namespace Sto
/-- stands before -/
def Bf (e f : E) : Prop := Lab.cmpL (Lab.counted e.1) (Lab.counted f.1) < 0
theorem Cut.uniq {es : List E} {l : List Lab.Pr} {p q : Nat} (h : Cut es l p) (g : Cut es l q) : p = q := by
  rcases Nat.lt_trichotomy p q with h1 | h1 | h1
  · exact absurd (g.lo p h1) (h.hi p (Nat.le_refl _) (Nat.lt_of_lt_of_le h1 g.le))
  · exact h1
  · exact absurd (h.lo q h1) (g.hi q (Nat.le_refl _) (Nat.lt_of_lt_of_le h1 h.le))
theorem sane_pairs {es : List E} (h : sane es = true) : es.Pairwise Bf := by
  rw [List.pairwise_iff_getElem]
  intro i j hi hj hij
  exact lt_of h hij (List.getElem?_eq_getElem hi) (List.getElem?_eq_getElem hj)
theorem pairs_sane {es : List E} (hl : es.length ≤ 32) (ho : ∀ e ∈ es, okE e = true) (hp : es.Pairwise Bf) : sane es = true := by
  unfold sane
  rw [Bool.and_eq_true]
  refine ⟨decide_eq_true hl, Lab.allTo_iff.2 fun i hi => ?_⟩
  rw [okAt_is (List.getElem?_eq_getElem hi), ho _ (List.getElem_mem hi), Bool.true_and]
  cases i with
  | zero => rfl
  | succ k =>
    rw [behind_succ (List.getElem?_eq_getElem (by omega : k < es.length))]
    exact decide_eq_true (List.pairwise_iff_getElem.1 hp k (k + 1) (by omega) hi (by omega))
theorem sane_ok {es : List E} (h : sane es = true) : ∀ e ∈ es, okE e = true := by
  intro e he
  obtain ⟨i, hi⟩ := List.mem_iff_getElem?.1 he
  exact okE_at h hi
/-- those ahead of the place stand before the labels -/
theorem cut_before {es : List E} {l : List Lab.Pr} {p : Nat} (h : Cut es l p) : ∀ e ∈ es.take p, Lab.cmpL (Lab.counted e.1) l < 0 := by
  intro e he
  obtain ⟨i, hi, rfl⟩ := List.mem_iff_getElem.1 he
  rw [List.length_take] at hi
  rw [List.getElem_take]
  have := h.lo i (by omega)
  rw [cmpAt_is (List.getElem?_eq_getElem (by omega : i < es.length))] at this
  have h2 := Lab.cmpL_anti l (Lab.counted (es[i]'(by omega)).1)
  omega
theorem cut_behind {es : List E} {l : List Lab.Pr} {p : Nat} (hs : sane es = true) (h : Cut es l p) (ht : there es l p = false) : ∀ e ∈ es.drop p, Lab.cmpL l (Lab.counted e.1) < 0 := by
  intro e he
  obtain ⟨i, hi, rfl⟩ := List.mem_iff_getElem.1 he
  rw [List.length_drop] at hi
  rw [List.getElem_drop]
  have hp : p < es.length := by omega
  have h0 := h.hi p (Nat.le_refl _) hp
  rw [there_is hp, beq_eq_false_iff_ne] at ht
  have h1 : cmpAt es l p < 0 := by omega
  rw [cmpAt_is (List.getElem?_eq_getElem hp)] at h1
  cases i with
  | zero => exact h1
  | succ k => exact Lab.cmpL_ord.trans _ _ _ h1 (lt_of hs (by omega : p < p + (k + 1)) (List.getElem?_eq_getElem hp) (List.getElem?_eq_getElem (by omega)))
theorem named_counted {l : List Lab.Pr} (h : named l = true) : Lab.counted l = l := by
  unfold named at h
  rw [Bool.and_eq_true] at h
  unfold Lab.counted
  rw [if_pos h.2]
/-- put at its place it is a store -/
theorem insE_sane {es : List E} {l : List Lab.Pr} {p : Nat} {s : List (Int × Int)} (hs : sane es = true) (hn : okE (l, s) = true) (h : Cut es (Lab.counted l) p) (ht : there es (Lab.counted l) p = false) (hf : es.length < 32) : sane (insE es p (l, s)) = true := by
  have hpw := sane_pairs hs
  rw [← List.take_append_drop p es] at hpw
  rw [List.pairwise_append] at hpw
  refine pairs_sane ?_ ?_ ?_
  · have := h.le
    unfold insE
    simp only [List.length_append, List.length_take, List.length_drop, List.length_cons, List.length_nil]
    omega
  · intro e he
    unfold insE at he
    simp only [List.mem_append, List.mem_cons, List.not_mem_nil, or_false] at he
    rcases he with (he | rfl) | he
    · exact sane_ok hs e (List.mem_of_mem_take he)
    · exact hn
    · exact sane_ok hs e (List.mem_of_mem_drop he)
  · unfold insE
    rw [List.append_assoc, List.pairwise_append]
    refine ⟨hpw.1, ?_, ?_⟩
    · rw [List.singleton_append, List.pairwise_cons]
      exact ⟨fun e he => cut_behind hs h ht e he, hpw.2.1⟩
    · intro a ha b hb
      rw [List.singleton_append, List.mem_cons] at hb
      rcases hb with rfl | hb
      · exact cut_before h a ha
      · exact hpw.2.2 a ha b hb
theorem insE_at {es : List E} {p : Nat} (hp : p ≤ es.length) (e : E) : (insE es p e)[p]? = some e := by
  unfold insE
  rw [List.append_assoc, List.getElem?_append_right (by rw [List.length_take]; omega), List.length_take, Nat.min_eq_left hp, Nat.sub_self]
  rfl
theorem insE_lo {es : List E} {p i : Nat} (hp : p ≤ es.length) (hi : i < p) (e : E) : (insE es p e)[i]? = es[i]? := by
  unfold insE
  rw [List.append_assoc, List.getElem?_append_left (by rw [List.length_take]; omega), List.getElem?_take_of_lt hi]
/-- the place of an entry's own labels -/
theorem cut_own {es : List E} {p : Nat} {e : E} (hs : sane es = true) (he : es[p]? = some e) : Cut es (Lab.counted e.1) p ∧ there es (Lab.counted e.1) p = true := by
  have hp := (List.getElem?_eq_some_iff.1 he).1
  refine ⟨⟨by omega, fun k hk => ?_, fun k hk hkl => ?_⟩, ?_⟩
  · obtain ⟨f, hf⟩ : ∃ f, es[k]? = some f := ⟨_, List.getElem?_eq_getElem (by omega)⟩
    rw [cmpAt_is hf]
    have h1 := lt_of hs hk hf he
    have h2 := Lab.cmpL_anti (Lab.counted f.1) (Lab.counted e.1)
    omega
  · obtain ⟨f, hf⟩ : ∃ f, es[k]? = some f := ⟨_, List.getElem?_eq_getElem hkl⟩
    rw [cmpAt_is hf]
    rcases Nat.lt_or_ge p k with h | h
    · have := lt_of hs h he hf
      omega
    · obtain rfl : p = k := by omega
      rw [he] at hf
      cases hf
      rw [Lab.cmpL_ord.self]
      omega
  · rw [there_is hp, cmpAt_is he, Lab.cmpL_ord.self]
    rfl
theorem oldAt_own {es : List E} {p : Nat} {e : E} (hs : sane es = true) (he : es[p]? = some e) : oldAt es (Lab.counted e.1) p = e.2 := by
  unfold oldAt
  rw [(cut_own hs he).2, if_pos rfl, he]
  rfl
end Sto
end Go.Proofs.Ytidfiiogjfpfmaa
