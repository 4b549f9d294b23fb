/- The plain laws of Get at other labels than those added (StoreAdds). -/
import Derived.Test.YtidfiiogjfpfmaaStoU
namespace Go.Proofs.Ytidfiiogjfpfmaa
set_option linter.unusedSimpArgs false
set_option linter.unusedVariables false

namespace Sto
/-- the first entry with these labels, without a place -/
def isAt (o : List Lab.Pr) (e : E) : Bool := Lab.cmpL o (Lab.counted e.1) == 0
def look (es : List E) (o : List Lab.Pr) : List (Int × Int) := ((es.find? (isAt o)).map (·.2)).getD []
theorem look_skip {xs ys : List E} {o : List Lab.Pr} {e : E} (h : isAt o e = false) : look (xs ++ [e] ++ ys) o = look (xs ++ ys) o := by
  unfold look
  rw [List.find?_append, List.find?_append, List.find?_append]
  simp [h]
theorem oldAt_look {es : List E} {o : List Lab.Pr} {q : Nat} (hs : sane es = true) (h : Cut es o q) : oldAt es o q = look es o := by
  have hlo : (es.take q).find? (isAt o) = none := by
    rw [List.find?_eq_none]
    intro e he
    have := cut_before h e he
    have h2 := Lab.cmpL_anti (Lab.counted e.1) o
    unfold isAt
    simp
    omega
  unfold look oldAt
  conv => rhs; rw [← List.take_append_drop q es, List.find?_append, hlo]
  rcases ht : there es o q with _ | _
  · have : (es.drop q).find? (isAt o) = none := by
      rw [List.find?_eq_none]
      intro e he
      have := cut_behind hs h ht e he
      unfold isAt
      simp
      omega
    rw [this]
    rfl
  · rw [if_pos rfl]
    unfold there at ht
    rcases he : es[q]? with _ | e
    · rw [he] at ht; cases ht
    · rw [he] at ht
      have hq := (List.getElem?_eq_some_iff.1 he)
      obtain ⟨hql, hqe⟩ := hq
      rw [List.drop_eq_getElem_cons hql, hqe, List.find?_cons, show isAt o e = true from ht]
      rfl
/-- labels that are not those added read as they did -/
theorem counted_ne {l o : List Lab.Pr} (hn : named l = true) (h : l ≠ o) : Lab.counted o ≠ l := by
  unfold Lab.counted
  split
  · exact fun e => h e.symm
  · intro e
    subst e
    exact absurd hn (by decide +kernel)
theorem isAt_ne {l o : List Lab.Pr} (hn : named l = true) (h : l ≠ o) (s : List (Int × Int)) : isAt (Lab.counted o) (l, s) = false := by
  unfold isAt
  rw [beq_eq_false_iff_ne]
  intro e
  have := (Lab.cmpL_ord.eq _ _).1 e
  rw [show ((l, s) : E).1 = l from rfl, named_counted hn] at this
  exact counted_ne hn h this
theorem went_else {es : List E} {l o : List Lab.Pr} {x : Int × Int} {a : List E} {p : Nat} {s t u : List (Int × Int)} (hes : sane es = true) (h : Went es l x a p s) (ho : l ≠ o) (g : GetR a o t) (g' : GetR es o u) : t = u := by
  obtain ⟨q, hc, rfl⟩ := g
  obtain ⟨r, hd, rfl⟩ := g'
  rw [counted_id h.sane] at hc ⊢
  rw [counted_id hes] at hd ⊢
  rw [oldAt_look h.sane hc, oldAt_look hes hd]
  rcases h.is with ⟨ht, ha⟩ | ⟨ht, _, ha⟩
  · rw [counted_id hes] at ht ha
    obtain ⟨s0, hs0⟩ := there_at hes h.named ht
    obtain ⟨hpl, hpe⟩ := List.getElem?_eq_some_iff.1 hs0
    have h1 : es = es.take p ++ [(l, s0)] ++ es.drop (p + 1) := by
      conv => lhs; rw [← List.take_append_drop p es, List.drop_eq_getElem_cons hpl, hpe]
      simp
    have h2 : a = es.take p ++ [(l, s)] ++ es.drop (p + 1) := by
      rw [ha, List.set_eq_take_append_cons_drop, if_pos hpl]
      simp
    rw [h2, look_skip (isAt_ne h.named ho s)]
    conv => rhs; rw [h1, look_skip (isAt_ne h.named ho s0)]
  · rw [counted_id hes] at ha
    rw [ha]
    unfold insE
    rw [look_skip (isAt_ne h.named ho s), List.take_append_drop]
theorem went_old {es : List E} {l : List Lab.Pr} {x : Int × Int} {a : List E} {p : Nat} {s u : List (Int × Int)} (hes : sane es = true) (h : Went es l x a p s) (g' : GetR es l u) : Ser.append u x = (s, 0) ∧ a.length = es.length + (if u.length = 0 then 1 else 0) := by
  obtain ⟨r, hd, rfl⟩ := g'
  rw [named_counted h.named] at hd ⊢
  have := hd.uniq h.cut
  subst this
  refine ⟨h.app, ?_⟩
  rcases h.is with ⟨ht, ha⟩ | ⟨ht, _, ha⟩
  · obtain ⟨s0, hs0⟩ := there_at (counted_sane es) h.named ht
    have hne := (ok_named (okE_at (counted_sane es) hs0)).2.1
    have ho : oldAt (counted es) l r = s0 := by unfold oldAt; rw [ht, if_pos rfl, hs0]; rfl
    rw [ha, ho, if_neg (fun e => hne (List.eq_nil_of_length_eq_zero e)), List.length_set, counted_id hes]
    rfl
  · have ho : oldAt (counted es) l r = [] := by unfold oldAt; rw [ht, if_neg (by decide)]
    have hle := h.cut.le
    rw [ha, ho, show (if ([] : List (Int × Int)).length = 0 then 1 else 0) = 1 from rfl]
    unfold insE
    rw [counted_id hes] at hle ⊢
    simp only [List.length_append, List.length_take, List.length_drop, List.length_cons, List.length_nil]
    omega
/-- an Add that failed changes nothing -/
theorem add_bad {es : List E} {l : List Lab.Pr} {x : Int × Int} {a : List E} {er : Int} (hes : sane es = true) (h : AddR es l x (a, er)) (her : er ≠ 0) : a = es := by
  unfold AddR at h
  rw [counted_id hes] at h
  split at h
  · obtain ⟨p, hc, h⟩ := h
    unfold addAt at h
    split at h
    · injection h
    · split at h
      · injection h with _ h; exact absurd h her
      · split at h
        · injection h
        · injection h with _ h; exact absurd h her
  · injection h
end Sto
end Go.Proofs.Ytidfiiogjfpfmaa
