/- The plain laws of Add that went well. -/
import Derived.Test.YtidfiiogjfpfmaaStoT
import Derived.Test.YtidfiiogjfpfmaaSerPlain7
namespace Go.Proofs.Ytidfiiogjfpfmaa
set_option linter.unusedSimpArgs false
set_option linter.unusedVariables false

theorem Ser.append_is {y : List (Int × Int)} {x : Int × Int} {s : List (Int × Int)} (hy : Ser.sane y = true) (h : Ser.append y x = (s, 0)) : s = Ser.kept y ++ [x] ∧ Ser.sane s = true ∧ Ser.isTime x.1 = true ∧ Ser.isNum x.2 = true := by
  rcases Ser.append_cases (x := x) hy with ⟨h1, _⟩ | ⟨h1, _⟩ | ⟨h1, h2, h3, h4⟩
  · rw [h1] at h; cases h
  · rw [h1] at h; cases h
  · rw [h1] at h
    injection h with h _
    subst h
    exact ⟨rfl, (Ser.grows hy h2 h3 h4).1, h2, h3⟩
theorem Ser.late_is {ys : List (Int × Int)} {x z : Int × Int} (hs : Ser.sane (ys ++ [x]) = true) (ht : Ser.isTime z.1 = true) (hv : Ser.isNum z.2 = true) (hz : z.1 ≤ x.1) : Ser.append (ys ++ [x]) z = (ys ++ [x], 9) := by
  have hc := Ser.counted_of_sane hs
  have := Ser.append_late' (xs := ys ++ [x]) ht hv (by rw [hc]; simp) (by rw [hc, List.length_append]; show z.1 ≤ Ser.tAt (ys ++ [x]) (ys.length + 1 - 1); rw [Nat.add_sub_cancel, Ser.tAt_app_eq]; exact hz)
  rw [hc] at this
  exact this

namespace Sto
theorem named_is_counted {l : List Lab.Pr} (h : named l = true) : Lab.counted l = l := named_counted h
theorem ok_named {e : E} (h : okE e = true) : named e.1 = true ∧ e.2 ≠ [] ∧ Ser.sane e.2 = true := by
  unfold okE at h
  rw [Bool.and_eq_true, Bool.and_eq_true] at h
  exact ⟨h.1.1, fun e0 => by rw [e0] at h; simp at h, h.2⟩
theorem ok_mk {l : List Lab.Pr} {s : List (Int × Int)} (h : named l = true) (h0 : s ≠ []) (hs : Ser.sane s = true) : okE (l, s) = true := by
  unfold okE
  rw [h, hs, Bool.and_true, Bool.true_and]
  exact decide_eq_true (fun e => h0 (List.eq_nil_of_length_eq_zero e))
/-- what is there are the labels themselves -/
theorem there_at {es : List E} {l : List Lab.Pr} {p : Nat} (hs : sane es = true) (hn : named l = true) (h : there es l p = true) : ∃ s, es[p]? = some (l, s) := by
  unfold there at h
  rcases he : es[p]? with _ | e
  · rw [he] at h; cases h
  · rw [he] at h
    have h0 : Lab.cmpL l (Lab.counted e.1) = 0 := by simpa using h
    have h1 := (Lab.cmpL_ord.eq _ _).1 h0
    rw [named_counted (ok_named (okE_at hs he)).1] at h1
    exact ⟨e.2, by rw [h1]⟩
theorem oldAt_sane {es : List E} (hs : sane es = true) (l : List Lab.Pr) (p : Nat) : Ser.sane (oldAt es l p) = true := by
  unfold oldAt
  split
  · rcases he : es[p]? with _ | e
    · rfl
    · exact (ok_named (okE_at hs he)).2.2
  · rfl
theorem set_sane {es : List E} {l : List Lab.Pr} {p : Nat} {s0 s : List (Int × Int)} (hs : sane es = true) (he : es[p]? = some (l, s0)) (hn : okE (l, s) = true) : sane (es.set p (l, s)) = true := by
  have hm : (es.set p (l, s)).map (·.1) = es.map (·.1) := by
    rw [List.map_set]
    apply List.ext_getElem?
    intro i
    rw [List.getElem?_set]
    split
    · rename_i h
      subst h
      rw [List.getElem?_map, he]
      simp
      exact (List.getElem?_eq_some_iff.1 he).1
    · rfl
  have hp := sane_pairs hs
  refine pairs_sane (by rw [List.length_set]; exact sane_len hs) ?_ ?_
  · intro e hm
    rcases List.mem_or_eq_of_mem_set hm with h | rfl
    · exact sane_ok hs e h
    · exact hn
  · have h1 : (es.map (·.1)).Pairwise (fun a b => Lab.cmpL (Lab.counted a) (Lab.counted b) < 0) := List.pairwise_map.2 hp
    rw [← hm] at h1
    exact (List.pairwise_map (f := fun e : E => e.1) (R := fun a b => Lab.cmpL (Lab.counted a) (Lab.counted b) < 0)).1 h1
/-- an Add that went well -/
structure Went (es : List E) (l : List Lab.Pr) (x : Int × Int) (a : List E) (p : Nat) (s : List (Int × Int)) : Prop where
  named : named l = true
  sane : sane a = true
  at_ : a[p]? = some (l, s)
  last : ∃ ys, s = ys ++ [x]
  ser : Ser.sane s = true
  time : Ser.isTime x.1 = true
  num : Ser.isNum x.2 = true
  cut : Cut (counted es) l p
  app : Ser.append (oldAt (counted es) l p) x = (s, 0)
  is : (there (counted es) l p = true ∧ a = (counted es).set p (l, s)) ∨ (there (counted es) l p = false ∧ (counted es).length < 32 ∧ a = insE (counted es) p (l, s))
theorem add_ok {es : List E} {l : List Lab.Pr} {x : Int × Int} {a : List E} (h : AddR es l x (a, 0)) : ∃ p s, Went es l x a p s := by
  unfold AddR at h
  by_cases hn : Sto.named l = true
  · rw [if_pos hn, named_counted hn] at h
    obtain ⟨p, hc, h⟩ := h
    have hs := counted_sane es
    obtain ⟨⟨s, er⟩, hse⟩ : ∃ q, Ser.append (oldAt (counted es) l p) x = q := ⟨_, rfl⟩
    unfold addAt at h
    rw [named_counted hn, hse] at h
    by_cases her : er = 0
    · subst her
      rw [if_neg (fun h => h rfl)] at h
      obtain ⟨h1, h2, h3, h4⟩ := Ser.append_is (oldAt_sane hs l p) hse
      have hok : okE (l, s) = true := ok_mk hn (by rw [h1]; simp) h2
      rcases ht : there (counted es) l p with _ | _
      · rw [ht, if_neg (by decide)] at h
        by_cases hf : 32 ≤ (counted es).length
        · rw [if_pos hf] at h
          cases h
        · rw [if_neg hf] at h
          injection h with h _
          subst h
          exact ⟨p, s, hn, insE_sane hs hok (by rw [named_counted hn]; exact hc) (by rw [named_counted hn]; exact ht) (by omega), insE_at hc.le _, ⟨_, h1⟩, h2, h3, h4, hc, hse, .inr ⟨ht, by omega, rfl⟩⟩
      · rw [ht, if_pos rfl] at h
        injection h with h _
        obtain ⟨s0, hs0⟩ := there_at hs hn ht
        have he : setE (counted es) p s = (counted es).set p (l, s) := by unfold setE; rw [hs0]; rfl
        rw [he] at h
        subst h
        refine ⟨p, s, hn, set_sane hs hs0 hok, ?_, ⟨_, h1⟩, h2, h3, h4, hc, hse, .inl ⟨ht, rfl⟩⟩
        rw [List.getElem?_set_self (List.getElem?_eq_some_iff.1 hs0).1]
    · rw [if_pos her] at h
      injection h with _ h
      exact absurd h.symm her
  · rw [if_neg hn] at h
    cases h
/-- behind an Add that went well, one no later is late -/
theorem went_late {es : List E} {l : List Lab.Pr} {x z : Int × Int} {a : List E} {p : Nat} {s : List (Int × Int)} (h : Went es l x a p s) (ht : Ser.isTime z.1 = true) (hv : Ser.isNum z.2 = true) (hz : z.1 ≤ x.1) {r : List E × Int} (g : AddR a l z r) : r = (a, 9) := by
  unfold AddR at g
  rw [if_pos h.named, counted_id h.sane, named_counted h.named] at g
  obtain ⟨q, hc, rfl⟩ := g
  have ho := cut_own h.sane h.at_
  have hold := oldAt_own h.sane h.at_
  rw [show ((l, s) : E).1 = l from rfl, named_counted h.named] at ho hold
  have hq := hc.uniq ho.1
  subst hq
  obtain ⟨ys, hys⟩ := h.last
  have hser := h.ser
  rw [hys] at hser
  have hl := Ser.late_is hser ht hv hz
  rw [← hys] at hl
  unfold addAt
  rw [named_counted h.named, hold, show ((l, s) : E).2 = s from rfl, hl, if_pos (show (9 : Int) ≠ 0 by decide)]
theorem went_get {es : List E} {l : List Lab.Pr} {x : Int × Int} {a : List E} {p : Nat} {s t : List (Int × Int)} (h : Went es l x a p s) (g : GetR a l t) : t = s := by
  obtain ⟨q, hc, rfl⟩ := g
  rw [counted_id h.sane, named_counted h.named] at hc ⊢
  have ho := cut_own h.sane h.at_
  have hold := oldAt_own h.sane h.at_
  rw [show ((l, s) : E).1 = l from rfl, named_counted h.named] at ho hold
  have hq := hc.uniq ho.1
  subst hq
  exact hold
end Sto
end Go.Proofs.Ytidfiiogjfpfmaa
