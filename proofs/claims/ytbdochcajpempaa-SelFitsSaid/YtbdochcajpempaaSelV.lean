/- The plain law of selectors, continued: the tokens are parsed to the selector; what is parsed is one. -/
import Derived.Test.YtbdochcajpempaaSelU
namespace Go.Proofs.Ytbdochcajpempaa
set_option linter.unusedSimpArgs false
set_option linter.unusedVariables false

namespace Sel
/-- these tokens stand there -/
def Stands (ts : List Tk) (i : Nat) (L : List (Nat × Lex.Bs)) : Prop := ∀ j x, L[j]? = some x → ∃ t, ts[i + j]? = some t ∧ t.1 = (x.1 : Int) ∧ t.2.2 = ⟨x.2.toArray⟩
theorem Stands.head {ts : List Tk} {i : Nat} {x : Nat × Lex.Bs} {L : List (Nat × Lex.Bs)} (h : Stands ts i (x :: L)) : ∃ t, ts[i]? = some t ∧ t.1 = (x.1 : Int) ∧ t.2.2 = ⟨x.2.toArray⟩ := h 0 x rfl
theorem Stands.tail {ts : List Tk} {i : Nat} {x : Nat × Lex.Bs} {L : List (Nat × Lex.Bs)} (h : Stands ts i (x :: L)) : Stands ts (i + 1) L := by
  intro j y hy
  have := h (j + 1) y (by rw [List.getElem?_cons_succ]; exact hy)
  rwa [show i + (j + 1) = i + 1 + j by omega] at this
theorem Stands.left {ts : List Tk} {i : Nat} {L M : List (Nat × Lex.Bs)} (h : Stands ts i (L ++ M)) : Stands ts i L := by
  intro j y hy
  exact h j y (by rw [List.getElem?_append_left (List.getElem?_eq_some_iff.1 hy).1]; exact hy)
theorem Stands.right {ts : List Tk} {i : Nat} {L M : List (Nat × Lex.Bs)} (h : Stands ts i (L ++ M)) : Stands ts (i + L.length) M := by
  intro j y hy
  have := h (L.length + j) y (by rw [List.getElem?_append_right (by omega)]; rw [show L.length + j - L.length = j by omega]; exact hy)
  rwa [show i + (L.length + j) = i + L.length + j by omega] at this
theorem isS_at {ts : List Tk} {i : Nat} {t : Tk} {x : Lex.Bs} {s : ByteArray} (ht : ts[i]? = some t) (h1 : t.1 = 4) (h2 : t.2.2 = ⟨x.toArray⟩) : isS ts i s = decide ((⟨x.toArray⟩ : ByteArray) = s) := by
  rw [isS_some ht, h1, h2]
  simp
theorem match_stands {ts : List Tk} {i k : Nat} {m : Mt} (hm : okM m) (h : Stands ts i (mtoks m)) (hk : k < 8) : matchAt ts i k = (m, i + 3, 0) := by
  unfold mtoks at h
  obtain ⟨t0, h0, k0, s0⟩ := h.head
  obtain ⟨t1, h1, k1, s1⟩ := h.tail.head
  obtain ⟨t2, h2, k2, s2⟩ := h.tail.tail.head
  rw [Lex.mk_bl] at s0 s1 s2
  have hn : nameE ts i = 0 := by
    rw [nameE_some h0, if_pos (show t0.1 = 1 from k0), s0, if_pos hm.1]
  have hv : valE ts (i + 2) k = 0 := by
    rw [valE_some h2, if_pos (show t2.1 = 3 from k2), s2, if_neg]
    have := hm.2
    omega
  have hne : isS ts (i + 1) neS = m.2.2 := by
    rw [isS_some h1, show t1.1 = 4 from k1, s1]
    cases m.2.2 <;> rfl
  have heq : m.2.2 = false → isS ts (i + 1) eqS = true := by
    intro hb
    rw [isS_some h1, show t1.1 = 4 from k1, s1, hb]
    rfl
  unfold matchAt
  rw [if_neg (by omega), if_neg (by
    rintro ⟨ha, hb⟩
    rw [hne] at ha
    rw [heq ha] at hb
    cases hb), if_neg (by omega), sOf_some h0, sOf_some h2, s0, s2, hne]
theorem matches_stands {ts : List Tk} : ∀ (ms : List Mt) (f i : Nat) (acc : List Mt), ms ≠ [] → (∀ m ∈ ms, okM m) → Stands ts i (ptoks ms) → acc.length + ms.length ≤ 8 → ms.length ≤ f → matches_ ts f i acc = (acc ++ ms, i + (ptoks ms).length, 0)
  | [], _, _, _, h, _, _, _, _ => absurd rfl h
  | [m], f, i, acc, _, hok, hst, hl, hf => by
    obtain ⟨f, rfl⟩ : ∃ g, f = g + 1 := ⟨f - 1, by simp at hf; omega⟩
    have hst' : Stands ts i (mtoks m ++ [(4, [125])]) := hst
    have hma := match_stands (k := acc.length) (hok m (by simp)) hst'.left (by simp at hl; omega)
    obtain ⟨t, ht, k1, s1⟩ := hst'.right.head
    rw [show i + (mtoks m).length = i + 3 from rfl] at ht
    rw [matches_up hma, if_neg (by simp), if_pos (by rw [isS_at ht k1 s1]; rfl)]
    rfl
  | m :: m2 :: ms, f, i, acc, _, hok, hst, hl, hf => by
    obtain ⟨f, rfl⟩ : ∃ g, f = g + 1 := ⟨f - 1, by simp at hf; omega⟩
    have hst' : Stands ts i (mtoks m ++ ((4, [44]) :: ptoks (m2 :: ms))) := hst
    have hma := match_stands (k := acc.length) (hok m (by simp)) hst'.left (by simp at hl; omega)
    obtain ⟨t, ht, k1, s1⟩ := hst'.right.head
    have hst2 := hst'.right.tail
    rw [show i + (mtoks m).length = i + 3 from rfl] at ht hst2
    have ih := matches_stands (m2 :: ms) f (i + 3 + 1) (acc ++ [m]) (by simp) (fun x hx => hok x (by simp at hx ⊢; right; exact hx)) hst2 (by simp at hl ⊢; omega) (by simp at hf ⊢; omega)
    rw [matches_up hma, if_neg (by simp), if_neg (by rw [isS_at ht k1 s1]; decide), if_pos (by rw [isS_at ht k1 s1]; rfl), ih]
    show _ = (acc ++ m :: m2 :: ms, i + (mtoks m ++ ((4, [44]) :: ptoks (m2 :: ms))).length, 0)
    rw [List.length_append, show (mtoks m).length = 3 from rfl, List.length_cons, List.append_assoc]
    rw [show i + 3 + 1 + (ptoks (m2 :: ms)).length = i + (3 + ((ptoks (m2 :: ms)).length + 1)) by omega]
    rfl
/-- ITS TOKENS ARE PARSED to the selector -/
theorem sel_stands {ts : List Tk} {i : Nat} {nm : ByteArray} {ms : List Mt} (h : Lab.selSane nm ms = true) (hst : Stands ts i (stoks nm ms)) (hend : ms = [] → isS ts (i + 1) opS = false) : selAt ts i = (nm, ms, i + (stoks nm ms).length, 0) := by
  have h8 := (sane_nm h).2.2.1
  have hnm := (sane_nm h).2.2.2
  obtain ⟨t0, h0, k0, s0⟩ := hst.head
  rw [Lex.mk_bl] at s0
  have hn : nameE ts i = 0 := by
    rw [nameE_some h0, if_pos (show t0.1 = 1 from k0), s0, if_pos hnm]
  unfold selAt
  rw [if_neg (by omega), sOf_some h0, s0]
  cases ms with
  | nil =>
    rw [if_pos (hend rfl)]
    rfl
  | cons m ms =>
    have hst1 : Stands ts (i + 1) ((4, [123]) :: ptoks (m :: ms)) := hst.tail
    obtain ⟨t1, h1, k1, s1⟩ := hst1.head
    have hst2 := hst1.tail
    rw [if_neg (by rw [isS_at h1 k1 s1]; decide)]
    have hno : isS ts (i + 2) clS = false := by
      obtain ⟨R, hR⟩ : ∃ R, ptoks (m :: ms) = mtoks m ++ R := ⟨_, rfl⟩
      have hst3 : Stands ts (i + 2) (mtoks m ++ R) := by rw [← hR]; exact hst2
      obtain ⟨t2, h2, k2, s2⟩ := hst3.left.head
      rw [isS_some h2, show t2.1 = 1 from k2]
      rfl
    rw [if_neg (by rw [hno]; simp), matches_stands (m :: ms) 10 (i + 2) [] (by simp) (sane_ok h) hst2 (by simpa using h8) (by omega)]
    simp only [List.nil_append]
    rw [if_neg (by simp)]
    show _ = (nm, m :: ms, i + (((1, Lex.bl nm) :: (4, [123]) :: ptoks (m :: ms)) : List (Nat × Lex.Bs)).length, 0)
    rw [List.length_cons, List.length_cons, show i + ((ptoks (m :: ms)).length + 1 + 1) = i + 2 + (ptoks (m :: ms)).length by omega]
theorem stands_bare {l : List Lex.Tok} {L : List (Nat × Lex.Bs)} (h : Lex.bare l = L) : Stands (l.map Lex.toTk) 0 L := by
  intro j x hx
  subst h
  unfold Lex.bare at hx
  rw [List.getElem?_map, Option.map_eq_some_iff] at hx
  obtain ⟨t, ht, rfl⟩ := hx
  refine ⟨Lex.toTk t, ?_, rfl, rfl⟩
  rw [Nat.zero_add, List.getElem?_map, ht]
  rfl
theorem bare_length (l : List Lex.Tok) : (Lex.bare l).length = l.length := by simp [Lex.bare]
/-- printed, read and parsed it is itself -/
theorem round {nm : ByteArray} {ms : List Mt} (h : Lab.selSane nm ms = true) :
    ∃ l : List Lex.Tok, Lex.all ((print nm ms).size + 1) (Lex.bl (print nm ms)) (print nm ms).size = (l, (print nm ms).size, 0) ∧ Lex.bare l = stoks nm ms ∧ parse (l.map Lex.toTk) 0 = (nm, ms, l.length, 0) := by
  obtain ⟨h1, h2⟩ := lex_print h (print nm ms).size ((print nm ms).size + 1) (by rw [Lex.bl_len]; omega)
  obtain ⟨l, hl⟩ : ∃ l, (Lex.all ((print nm ms).size + 1) (Lex.bl (print nm ms)) (print nm ms).size).1 = l := ⟨_, rfl⟩
  rw [hl] at h1
  refine ⟨l, Prod.ext hl h2, h1, ?_⟩
  unfold parse
  rw [if_neg (by decide), show (0 : Int).toNat = 0 from rfl, Nat.zero_min, sel_stands h (stands_bare h1) (fun hm => ?_), Nat.zero_add, ← h1, bare_length]
  subst hm
  have : l.length = 1 := by rw [← bare_length, h1]; rfl
  exact isS_none (List.getElem?_eq_none (by rw [List.length_map]; omega))
theorem print_inj {nm nm2 : ByteArray} {ms ms2 : List Mt} (h : Lab.selSane nm ms = true) (h2 : Lab.selSane nm2 ms2 = true) (he : print nm ms = print nm2 ms2) : nm = nm2 ∧ ms = ms2 := by
  obtain ⟨l, hl, -, hp⟩ := round h
  obtain ⟨l2, hl2, -, hp2⟩ := round h2
  rw [he, hl2] at hl
  injection hl with hl _
  subst hl
  rw [hp2] at hp
  injection hp with h3 hp
  injection hp with h4 _
  exact ⟨h3.symm, h4.symm⟩
end Sel
end Go.Proofs.Ytbdochcajpempaa
