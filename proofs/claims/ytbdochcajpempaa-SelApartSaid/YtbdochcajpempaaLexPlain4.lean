/- The plain law of lex, continued: tokens laid one behind the other are those tokens. -/
import Derived.Test.YtbdochcajpempaaLexPlain3
namespace Go.Proofs.Ytbdochcajpempaa.Lex

/-- white and remarks that end -/
def Sep (w : Bs) : Prop := ∀ r, skip false (w ++ r) = skip false r
/-- separators and tokens, and what stands at the end -/
def lay : List (Bs × Nat × Bs) → Bs → Bs
  | [], e => e
  | (w, k, s) :: L, e => w ++ (tokText k s ++ lay L e)
def bare (l : List Tok) : List (Nat × Bs) := l.map fun t => (t.k, t.s)
theorem ends_app {w r : Bs} (h : ends w) (hw : w ≠ []) : ends (w ++ r) := by
  cases w with
  | nil => exact absurd rfl hw
  | cons c w => exact h
theorem all_lay (L : List (Bs × Nat × Bs)) (e : Bs) (he : skip false e = []) (hee : ends e) (hg : ∀ x ∈ L, good x.2.1 x.2.2 ∧ Sep x.1) (ht : ∀ x ∈ L.tail, ends x.1 ∧ x.1 ≠ []) :
    ∀ f N, L.length < f → bare (all f (lay L e) N).1 = L.map (·.2) ∧ (all f (lay L e) N).2 = (N, 0) := by
  induction L with
  | nil =>
    intro f N hf
    obtain ⟨f, rfl⟩ : ∃ g, f = g + 1 := ⟨f - 1, by simp at hf; omega⟩
    unfold all
    rw [show skip false (lay [] e) = [] from he]
    exact ⟨rfl, rfl⟩
  | cons x L ih =>
    intro f N hf
    obtain ⟨f, rfl⟩ : ∃ g, f = g + 1 := ⟨f - 1, by simp at hf; omega⟩
    obtain ⟨w, k, s⟩ := x
    obtain ⟨hgood, hsep⟩ := hg _ (List.mem_cons_self)
    have hr : ends (lay L e) := by
      cases L with
      | nil => exact hee
      | cons y L =>
        obtain ⟨h1, h2⟩ := ht y (by simp)
        exact ends_app h1 h2
    obtain ⟨c, l, hcl, hone, hw, h35⟩ := one_good hgood hr
    have hsk : skip false (lay ((w, k, s) :: L) e) = c :: l := by
      show skip false (w ++ (tokText k s ++ lay L e)) = _
      rw [hsep, hcl]
      unfold skip
      rw [if_neg (by rw [hw]; decide), if_neg h35]
    unfold all
    simp only [hsk, hone]
    obtain ⟨i1, i2⟩ := ih (fun y hy => hg y (List.mem_cons_of_mem _ hy)) (fun y hy => ht y (List.mem_of_mem_tail hy)) f N (by simp at hf; omega)
    refine ⟨?_, i2⟩
    show (k, s) :: bare (all f (lay L e) N).1 = _
    rw [i1]
    rfl
end Go.Proofs.Ytbdochcajpempaa.Lex
