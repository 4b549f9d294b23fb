/- The plain law of StoreOrder: two samples of unlike labels come to the same store in either order. -/
import Derived.Test.YtidfiiogjfpfmaaStoW
namespace Go.Proofs.Ytidfiiogjfpfmaa
set_option linter.unusedSimpArgs false
set_option linter.unusedVariables false

namespace Sto
theorem isAt_iff {o : List Lab.Pr} {e : E} (h : okE e = true) : isAt o e = true ↔ o = e.1 := by
  unfold isAt
  rw [beq_iff_eq, Lab.cmpL_ord.eq, named_counted (ok_named h).1]
/-- a store's entry is what its labels look up -/
theorem look_mem {es : List E} (hs : sane es = true) {e : E} (he : e ∈ es) : look es e.1 = e.2 := by
  have hok := sane_ok hs e he
  obtain ⟨i, hi⟩ := List.mem_iff_getElem?.1 he
  have hc := (cut_own hs hi).1
  rw [named_counted (ok_named hok).1] at hc
  rw [← oldAt_look hs hc]
  have := oldAt_own hs hi
  rw [named_counted (ok_named hok).1] at this
  exact this
theorem look_is {es : List E} (hs : sane es = true) {o : List Lab.Pr} (h : look es o ≠ []) : (o, look es o) ∈ es := by
  unfold look at h ⊢
  rcases hf : es.find? (isAt o) with _ | e
  · rw [hf] at h; exact absurd rfl h
  · have hm := List.mem_of_find?_eq_some hf
    have hp := List.find?_some hf
    have ho := (isAt_iff (sane_ok hs e hm)).1 hp
    subst ho
    exact hm
theorem same_mem {α : Type} {R : α → α → Prop} (hirr : ∀ a, ¬ R a a) (has : ∀ a b, R a b → ¬ R b a) : ∀ {xs ys : List α}, xs.Pairwise R → ys.Pairwise R → (∀ a, a ∈ xs ↔ a ∈ ys) → xs = ys
  | [], [], _, _, _ => rfl
  | [], y :: ys, _, _, h => by have := (h y).2 (List.mem_cons_self ..); cases this
  | x :: xs, [], _, _, h => by have := (h x).1 (List.mem_cons_self ..); cases this
  | x :: xs, y :: ys, hx, hy, h => by
    rw [List.pairwise_cons] at hx hy
    have hxy : x = y := by
      rcases List.mem_cons.1 ((h x).1 (List.mem_cons_self ..)) with e | e
      · exact e
      · rcases List.mem_cons.1 ((h y).2 (List.mem_cons_self ..)) with e2 | e2
        · exact e2.symm
        · exact absurd (hy.1 x e) (has _ _ (hx.1 y e2))
    subst hxy
    have : xs = ys := same_mem hirr has hx.2 hy.2 fun a => by
      constructor
      · intro ha
        rcases List.mem_cons.1 ((h a).1 (List.mem_cons_of_mem _ ha)) with e | e
        · subst e; exact absurd (hx.1 a ha) (hirr a)
        · exact e
      · intro ha
        rcases List.mem_cons.1 ((h a).2 (List.mem_cons_of_mem _ ha)) with e | e
        · subst e; exact absurd (hy.1 a ha) (hirr a)
        · exact e
    rw [this]
/-- stores that look up alike are one -/
theorem look_ext {es fs : List E} (hs : sane es = true) (ht : sane fs = true) (h : ∀ o, look es o = look fs o) : es = fs := by
  refine same_mem (R := Bf) (fun a ha => ?_) (fun a b ha hb => ?_) (sane_pairs hs) (sane_pairs ht) fun e => ?_
  · have := (Lab.cmpL_ord.eq (Lab.counted a.1) (Lab.counted a.1)).2 rfl
    unfold Bf at ha
    omega
  · have := Lab.cmpL_anti (Lab.counted a.1) (Lab.counted b.1)
    unfold Bf at ha hb
    omega
  · constructor
    · intro he
      have h1 := look_mem hs he
      have h2 := (ok_named (sane_ok hs e he)).2.1
      rw [h] at h1
      have := look_is ht (o := e.1) (by rw [h1]; exact h2)
      rw [h1] at this
      exact this
    · intro he
      have h1 := look_mem ht he
      have h2 := (ok_named (sane_ok ht e he)).2.1
      rw [← h] at h1
      have := look_is hs (o := e.1) (by rw [h1]; exact h2)
      rw [h1] at this
      exact this
theorem went_look {es : List E} {l o : List Lab.Pr} {x : Int × Int} {a : List E} {p : Nat} {s : List (Int × Int)} (hes : sane es = true) (h : Went es l x a p s) (ho : o ≠ l) : look a o = look es o := by
  have hia : ∀ t, isAt o (l, t) = false := fun t => by
    unfold isAt
    rw [beq_eq_false_iff_ne]
    intro e
    have := (Lab.cmpL_ord.eq _ _).1 e
    rw [show ((l, t) : E).1 = l from rfl, named_counted h.named] at this
    exact ho this
  rcases h.is with ⟨ht, ha⟩ | ⟨ht, _, ha⟩
  · rw [counted_id hes] at ht ha
    obtain ⟨s0, hs0⟩ := there_at hes h.named ht
    obtain ⟨hpl, hpe⟩ := List.getElem?_eq_some_iff.1 hs0
    have h1 : es = es.take p ++ [(l, s0)] ++ es.drop (p + 1) := by
      conv => lhs; rw [← List.take_append_drop p es, List.drop_eq_getElem_cons hpl, hpe]
      simp
    have h2 : a = es.take p ++ [(l, s)] ++ es.drop (p + 1) := by
      rw [ha, List.set_eq_take_append_cons_drop, if_pos hpl]
      simp
    rw [h2, look_skip (hia s)]
    conv => rhs; rw [h1, look_skip (hia s0)]
  · rw [counted_id hes] at ha
    rw [ha]
    unfold insE
    rw [look_skip (hia s), List.take_append_drop]
/-- what an Add does, said of what is looked up -/
structure Did (es : List E) (l : List Lab.Pr) (x : Int × Int) (a : List E) (e : Int) : Prop where
  sane : sane a = true
  len : a.length ≤ es.length + 1
  bad : named l = false → a = es ∧ e = 7
  err : named l = true → e = (Ser.append (look es l) x).2
  look : ∀ o, look a o = if e = 0 ∧ o = l then (Ser.append (Sto.look es l) x).1 else Sto.look es o
theorem add_did {es : List E} {l : List Lab.Pr} {x : Int × Int} {a : List E} {e : Int} (hes : Sto.sane es = true) (hlen : es.length ≤ 31) (h : AddR es l x (a, e)) : Did es l x a e := by
  by_cases hn : Sto.named l = true
  · have h' := h
    unfold AddR at h'
    rw [if_pos hn, counted_id hes, named_counted hn] at h'
    obtain ⟨p, hc, h'⟩ := h'
    have hol := oldAt_look hes hc
    by_cases he : e = 0
    · subst he
      obtain ⟨q, s, hw⟩ := add_ok h
      have hcq := hw.cut
      have happ := hw.app
      rw [counted_id hes] at hcq happ
      rw [oldAt_look hes hcq] at happ
      refine ⟨hw.sane, ?_, fun hf => (by rw [hn] at hf; cases hf), fun _ => by rw [happ], fun o => ?_⟩
      · rcases hw.is with ⟨_, ha⟩ | ⟨_, _, ha⟩
        · rw [ha, List.length_set, counted_id hes]; omega
        · rw [ha, counted_id hes]
          unfold insE
          simp only [List.length_append, List.length_take, List.length_drop, List.length_cons, List.length_nil]
          omega
      · by_cases ho : o = l
        · subst ho
          rw [if_pos ⟨rfl, rfl⟩, happ]
          exact look_mem hw.sane (List.mem_of_getElem? hw.at_)
        · rw [if_neg (fun hh => ho hh.2)]
          exact went_look hes hw ho
    · have ha := add_bad hes h he
      refine ⟨by rw [ha]; exact hes, by rw [ha]; omega, fun hf => (by rw [hn] at hf; cases hf), fun _ => ?_, fun o => ?_⟩
      · unfold addAt at h'
        rw [named_counted hn, hol] at h'
        split at h'
        · injection h'
        · split at h'
          · injection h' with _ h'; exact absurd h' he
          · rw [if_neg (by omega)] at h'
            injection h' with _ h'; exact absurd h' he
      · rw [if_neg (fun hh => he hh.1), ha]
  · have hf : Sto.named l = false := by simpa using hn
    unfold AddR at h
    rw [if_neg hn, counted_id hes, Prod.mk.injEq] at h
    obtain ⟨rfl, rfl⟩ := h
    exact ⟨hes, by omega, fun _ => ⟨rfl, rfl⟩, fun hh => absurd hh hn, fun o => by rw [if_neg (fun hh => absurd hh.1 (by decide))]⟩
theorem err_eq {es fs : List E} {l : List Lab.Pr} {x : Int × Int} {a b : List E} {e f : Int} (h : Did es l x a e) (g : Did fs l x b f) (hl : Sto.look es l = Sto.look fs l) : e = f := by
  by_cases hn : Sto.named l = true
  · rw [h.err hn, g.err hn, hl]
  · have hf : Sto.named l = false := by simpa using hn
    rw [(h.bad hf).2, (g.bad hf).2]
theorem order {es : List E} {l m : List Lab.Pr} {x y : Int × Int} {a b c d : List E} {e f g h : Int} (hes : Sto.sane es = true) (hlen : es.length ≤ 30) (hne : l ≠ m) (h1 : AddR es l x (a, e)) (h2 : AddR a m y (b, f)) (h3 : AddR es m y (c, g)) (h4 : AddR c l x (d, h)) : b = d ∧ e = h ∧ f = g := by
  have d1 := add_did hes (by omega) h1
  have d2 := add_did d1.sane (by have := d1.len; omega) h2
  have d3 := add_did hes (by omega) h3
  have d4 := add_did d3.sane (by have := d3.len; omega) h4
  have k1 : Sto.look a m = Sto.look es m := by rw [d1.look, if_neg (fun hh => hne hh.2.symm)]
  have k2 : Sto.look c l = Sto.look es l := by rw [d3.look, if_neg (fun hh => hne hh.2)]
  have e1 := err_eq d1 d4 k2.symm
  have e2 := err_eq d2 d3 k1
  refine ⟨look_ext d2.sane d4.sane fun o => ?_, e1, e2⟩
  rw [d2.look o, d4.look o, k1, k2, d1.look o, d3.look o, e1, e2]
  by_cases o1 : o = l
  · have o2 : ¬ o = m := fun hh => hne (o1.symm.trans hh)
    simp [o1, hne]
  · simp [o1]
end Sto
end Go.Proofs.Ytidfiiogjfpfmaa
