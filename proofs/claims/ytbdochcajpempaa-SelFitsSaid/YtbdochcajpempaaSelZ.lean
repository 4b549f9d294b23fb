/- The statement SelFits: the plain law; how long a name may be. -/
import Derived.Test.YtbdochcajpempaaSelY
import Derived.Test.YtbdochcajpempaaSelOpen
import Derived.SizedLaws
namespace Go.Proofs.Ytbdochcajpempaa
open Go.RowKit Go.WideShapes Go.ChangeShapes Go.Joins Go.Deep
set_option linter.unusedSimpArgs false
set_option linter.unusedVariables false

namespace Sel
theorem allTo_app {P : Nat → Bool} {n : Nat} : Lab.allTo P (n + 1) = (Lab.allTo P n && P n) := rfl
theorem selSane_app (nm : ByteArray) (ms : List Mt) (m : Mt) : Lab.selSane nm (ms ++ [m]) = (Lab.selSane nm ms && (decide (ms.length < 8) && (Lab.name m.1 && decide (m.2.1.size ≤ 64)))) := by
  have h1 : Lab.allTo (Lab.selAt (ms ++ [m])) (ms ++ [m]).length = (Lab.allTo (Lab.selAt ms) ms.length && (Lab.name m.1 && decide (m.2.1.size ≤ 64))) := by
    rw [show (ms ++ [m]).length = ms.length + 1 by simp, allTo_app, Lab.selAt_is (m := m) (by simp), Lab.allTo_congr (Q := Lab.selAt ms) (fun i hi => by
      unfold Lab.selAt
      rw [List.getElem?_append_left hi])]
  unfold Lab.selSane
  rw [h1, List.length_append, List.length_singleton]
  by_cases h8 : ms.length < 8
  · rw [decide_eq_true h8, decide_eq_true (show ms.length + 1 ≤ 8 by omega), decide_eq_true (show ms.length ≤ 8 by omega)]
    cases Lab.name nm <;> cases Lab.allTo (Lab.selAt ms) ms.length <;> simp
  · rw [decide_eq_false h8, decide_eq_false (show ¬ ms.length + 1 ≤ 8 by omega)]
    simp
theorem fits_app (nm : ByteArray) (ms : List Mt) (m : Mt) (l : List Lab.Pr) : fits nm (ms ++ [m]) l = (fits nm ms l && (decide (ms.length < 8) && (Lab.name m.1 && decide (m.2.1.size ≤ 64))) && okV ((Lab.get l m.1).getD ⟨#[]⟩) m) := by
  have h1 : Lab.allTo (fitAt l (ms ++ [m])) (ms ++ [m]).length = (Lab.allTo (fitAt l ms) ms.length && okV ((Lab.get l m.1).getD ⟨#[]⟩) m) := by
    rw [show (ms ++ [m]).length = ms.length + 1 by simp, allTo_app, fitAt_is (m := m) (by simp), Lab.allTo_congr (Q := fitAt l ms) (fun i hi => by
      unfold fitAt
      rw [List.getElem?_append_left hi])]
  unfold fits
  rw [h1, selSane_app]
  cases Lab.selSane nm ms <;> cases Lab.sane l <;> cases headFit nm l <;> cases Lab.allTo (fitAt l ms) ms.length <;> cases (decide (ms.length < 8) && (Lab.name m.1 && decide (m.2.1.size ≤ 64))) <;> cases okV ((Lab.get l m.1).getD ⟨#[]⟩) m <;> rfl
theorem okV_flip (v : ByteArray) (m : Mt) : okV v (m.1, m.2.1, !m.2.2) = !okV v m := by
  unfold okV
  simp only
  cases (v.toList == m.2.1.toList) <;> cases m.2.2 <;> rfl
/-- all that the law asks, of the four answers -/
theorem fits_law (nm : ByteArray) (ms : List Mt) (m : Mt) (l : List Lab.Pr) (f x y : Bool) (hf : fits nm ms l = f) (hx : fits nm (ms ++ [m]) l = x) (hy : fits nm (ms ++ [(m.1, m.2.1, !m.2.2)]) l = y) :
    (x && y) = false ∧ (f = false → x = false ∧ y = false) ∧ (f = true → Lab.sane l = true ∧ Lab.selSane nm ms = true) ∧ (f = true → Lab.selSane nm (ms ++ [m]) = true → (x = false → y = true)) := by
  rw [fits_app, hf] at hx hy
  simp only at hy
  rw [okV_flip] at hy
  rw [selSane_app]
  subst hx hy
  refine ⟨?_, ?_, ?_, ?_⟩
  · cases f <;> cases (decide (ms.length < 8) && (Lab.name m.1 && decide (m.2.1.size ≤ 64))) <;> cases okV ((Lab.get l m.1).getD ⟨#[]⟩) m <;> rfl
  · rintro rfl
    exact ⟨rfl, rfl⟩
  · rintro rfl
    unfold fits at hf
    rw [Bool.and_eq_true, Bool.and_eq_true, Bool.and_eq_true] at hf
    exact ⟨hf.1.1.2, hf.1.1.1⟩
  · rintro rfl h2
    rw [Bool.and_eq_true] at h2
    rw [h2.2]
    cases okV ((Lab.get l m.1).getD ⟨#[]⟩) m <;> simp
theorem fits_other {nm nm2 : ByteArray} {ms : List Mt} {l : List Lab.Pr} (h : fits nm ms l = true) (hne : ¬ nm = nm2) : fits nm2 ms l = false := by
  unfold fits at h ⊢
  rw [Bool.and_eq_true, Bool.and_eq_true, Bool.and_eq_true] at h
  have hh := h.1.2
  unfold headFit at hh
  have : headFit nm2 l = false := by
    unfold headFit
    rcases hg : Lab.get l nameL with _ | v
    · rfl
    · rw [hg] at hh
      simp only at hh ⊢
      rw [beq_iff_eq] at hh
      have := ba_eq hh
      subst this
      exact ba_ne hne
  rw [this]
  simp
theorem name_more (nm : ByteArray) : ¬ nm = nm ++ ⟨#[95]⟩ := by
  intro h
  have := congrArg ByteArray.size h
  rw [ByteArray.size_append, show (⟨#[95]⟩ : ByteArray).size = 1 from rfl] at this
  omega
end Sel
theorem open_sel_sized {H : Type} {enc : TypeId × Value → H} {W : World} {base : Nat} {v : Value} {d : DataW H} {p : List MemPlace} (hv : Value.okWide Try.prog W .any base 24 v) (h : DataW.Trod enc Try.prog W 0 (fun _ => true) true 24 v d p) :
    ∃ s A n c xs, v = .agg #[.string s, .slice A n c] ∧ s.size ∈ d.weights Try.prog 24 ∧ Mts W W.heap.size A n c xs := by
  obtain ⟨cs, rfl, hsz⟩ := okWide_struct Try.underlying24 hv
  obtain ⟨fuel, hf⟩ := h
  obtain ⟨s, A, n, c, xs, hg, hz, hin⟩ := dec_sel hf
  have hcs : cs = (#[.string s, .slice A n c] : Array Value) := by
    change cs.toList = _ at hg
    exact Array.toList_inj.1 hg
  subst hcs
  refine ⟨s, A, n, c, xs, rfl, ?_, hin⟩
  obtain ⟨xs', n', hd, hdx, hl, hx, hf'⟩ := DataW.trod_struct Try.underlying24 hf
  obtain ⟨y0, h0⟩ : ∃ y, xs'[0]? = some y := ⟨_, List.getElem?_eq_getElem (by rw [hx]; decide)⟩
  have h1 := hf' 0 _ rfl
  rw [h0] at h1
  have h1 : DataW.trod enc Try.prog W 0 (fun _ => true) true n' 9 [.string s] = some y0 := h1
  obtain ⟨s0, q0, r0, _⟩ := DataW.trod_string Try.underlying9 h1
  cases q0
  injection hdx with hd1 _
  subst hd1
  have hw : DataW.weights Try.prog 24 (DataW.agg (xs'.map (·.1))) = DataW.weightsEach Try.prog [9, 22] (xs'.map (·.1)) := by
    simp only [DataW.weights, Try.underlying24]
    rfl
  rw [hw]
  refine DataW.weights_mem_each (j := 0) (t := 9) (d := y0.1) rfl (by rw [List.getElem?_map, h0]; rfl) _ ?_
  rw [r0]
  simp only [DataW.weights, List.mem_singleton]
  exact Lex.size_bl s
end Go.Proofs.Ytbdochcajpempaa
