/- The texts SelU, SelV, SelX in one. -/
import Derived.Test.YtbdochcajpempaaDoorSelS
import Derived.Test.YtbdochcajpempaaDoorLexPlain
/- The plain law of selectors: what is printed is read to the same tokens, and these are parsed to the same selector. -/
namespace Go.Proofs.YtbdochcajpempaaDoor
set_option linter.unusedSimpArgs false
set_option linter.unusedVariables false

namespace Lex
/-- a text's tokens, but for their places -/
def Lexes (l : Bs) (N : Nat) (L : List (Nat × Bs)) : Prop := ∀ f, l.length < f → bare (all f l N).1 = L ∧ (all f l N).2 = (N, 0)
theorem Lexes.nil_ (N : Nat) : Lexes [] N [] := by
  intro f hf
  obtain ⟨f, rfl⟩ : ∃ g, f = g + 1 := ⟨f - 1, by simp at hf; omega⟩
  rw [all_nil]
  exact ⟨rfl, rfl⟩
theorem Lexes.step {c : UInt8} {r r' p : Bs} {k N : Nat} {L : List (Nat × Bs)} (h : one c r = .ok (k, p, r')) (hw : white c = false) (h35 : c ≠ 35) (hL : Lexes r' N L) : Lexes (c :: r) N ((k, p) :: L) := by
  intro f hf
  obtain ⟨f, rfl⟩ : ∃ g, f = g + 1 := ⟨f - 1, by simp at hf; omega⟩
  have hl := one_len h
  simp only [List.length_cons] at hf
  obtain ⟨h1, h2⟩ := hL f (by omega)
  have ha : all (f + 1) (c :: r) N = (⟨k, N - (r.length + 1), p⟩ :: (all f r' N).1, (all f r' N).2) := by
    conv => lhs; unfold all
    rw [skip_f, if_neg (by rw [hw]; simp), if_neg h35]
    simp only [h]
  rw [ha]
  refine ⟨?_, h2⟩
  show (k, p) :: bare (all f r' N).1 = _
  rw [h1]
theorem take_stop {p : UInt8 → Bool} {l r : Bs} (hl : l.all p = true) (hr : firstIs p r = false) : (l ++ r).takeWhile p = l ∧ (l ++ r).dropWhile p = r := by
  induction l with
  | nil =>
    cases r with
    | nil => exact ⟨rfl, rfl⟩
    | cons c r =>
      have : p c = false := hr
      simp [this]
  | cons c l ih =>
    simp only [List.all_cons, Bool.and_eq_true] at hl
    simp only [List.cons_append]
    rw [List.takeWhile_cons_of_pos hl.1, List.dropWhile_cons_of_pos hl.1, (ih hl.2).1, (ih hl.2).2]
    exact ⟨rfl, rfl⟩
theorem Lexes.word {c : UInt8} {l r : Bs} {N : Nat} {L : List (Nat × Bs)} (hc : letter c = true) (hl : l.all (goes false) = true) (hr : firstIs (goes false) r = false) (hL : Lexes r N L) : Lexes (c :: (l ++ r)) N ((1, c :: l) :: L) := by
  have ht := take_stop hl hr
  refine Lexes.step ?_ (letter_facts hc).1 (letter_facts hc).2 hL
  unfold one
  rw [show begins c (l ++ r) = (1, 0) by unfold begins; rw [if_pos hc]]
  simp only [ht.1, ht.2]
theorem Lexes.text {s r : Bs} {N : Nat} {L : List (Nat × Bs)} (hL : Lexes r N L) : Lexes (quote s ++ r) N ((3, s) :: L) := by
  rw [show quote s ++ r = 34 :: (quoteIn s ++ 34 :: r) by simp [quote]]
  refine Lexes.step ?_ (by decide) (by decide) hL
  unfold one
  rw [show begins 34 (quoteIn s ++ 34 :: r) = (3, 0) by unfold begins; rw [if_neg (by decide), if_neg (by simp only [show ((34 : UInt8) == 45) = false by decide, Bool.false_and, Bool.or_false]; decide), if_pos (by decide)]]
  simp only [text_quote]
  rfl
theorem Lexes.sign {c : UInt8} {r : Bs} {N : Nat} {L : List (Nat × Bs)} (hc : c = 123 ∨ c = 125 ∨ c = 44 ∨ c = 61) (hr : firstIs (· == 61) r = false) (hL : Lexes r N L) : Lexes (c :: r) N ((4, [c]) :: L) := by
  rcases hc with rfl | rfl | rfl | rfl
  · exact Lexes.step (by unfold one begins; simp [hr, letter, digit, twos, ones]) (by decide) (by decide) hL
  · exact Lexes.step (by unfold one begins; simp [hr, letter, digit, twos, ones]) (by decide) (by decide) hL
  · exact Lexes.step (by unfold one begins; simp [hr, letter, digit, twos, ones]) (by decide) (by decide) hL
  · exact Lexes.step (by unfold one begins; simp [hr, letter, digit, twos, ones]) (by decide) (by decide) hL
theorem Lexes.ne {r : Bs} {N : Nat} {L : List (Nat × Bs)} (hL : Lexes r N L) : Lexes (33 :: 61 :: r) N ((4, [33, 61]) :: L) :=
  Lexes.step (by unfold one begins; simp [firstIs_cons, letter, digit, twos, ones]) (by decide) (by decide) hL
end Lex

namespace Sel
theorem name_list {s : ByteArray} (h : Lab.name s = true) : ∃ c l, Lex.bl s = c :: l ∧ Lex.letter c = true ∧ l.all (Lex.goes false) = true := by
  have hs := name_size h
  unfold Lab.name at h
  rw [Bool.and_eq_true] at h
  have hall := Lab.allTo_iff.1 h.2
  have hd := Lex.drop_cons s 0 (by omega)
  rw [List.drop_zero] at hd
  refine ⟨_, _, hd, ?_, ?_⟩
  · have := hall 0 (by omega)
    rw [Lab.nameAt_is s 0 (by omega) _ rfl] at this
    have h2 : Lab.letter s[0] = true := by simpa using this
    exact h2
  · rw [List.all_eq_true]
    intro x hx
    obtain ⟨j, hj⟩ := List.mem_iff_getElem?.1 hx
    rw [List.getElem?_drop] at hj
    have hlt : 0 + 1 + j < s.size := by
      have := (List.getElem?_eq_some_iff.1 hj).1
      rwa [← Lex.size_bl] at this
    have hd2 := Lex.drop_cons s (0 + 1 + j) hlt
    have hx2 : s[0 + 1 + j] = x := by
      have h2 := congrArg (·[0]?) hd2
      simp only [List.getElem?_drop, Nat.add_zero, List.getElem?_cons_zero] at h2
      rw [hj] at h2
      exact (Option.some.inj h2).symm
    have := hall (0 + 1 + j) hlt
    rw [Lab.nameAt_is s _ hlt x hx2] at this
    unfold Lex.goes
    have e1 : Lex.letter x = Lab.letter x := rfl
    have e2 : Lex.digit x = Lab.digit x := rfl
    rw [e1, e2]
    rcases h3 : Lab.letter x with _ | _
    · rw [h3] at this
      simp at this
      rw [this.1]
      rfl
    · rfl
/-- the tokens of a match, of the matches behind the first bracket, of a selector -/
def mtoks (m : Mt) : List (Nat × Lex.Bs) := [(1, Lex.bl m.1), (4, Lex.bl (how m.2.2)), (3, Lex.bl m.2.1)]
def ptoks : List Mt → List (Nat × Lex.Bs)
  | [] => []
  | m :: ms => mtoks m ++ (match ms with | [] => [(4, [125])] | _ :: _ => (4, [44]) :: ptoks ms)
def stoks (nm : ByteArray) (ms : List Mt) : List (Nat × Lex.Bs) := (1, Lex.bl nm) :: (match ms with | [] => [] | _ :: _ => (4, [123]) :: ptoks ms)
/-- the text behind the first bracket -/
def ptext : List Mt → Lex.Bs
  | [] => []
  | m :: ms => Lex.bl m.1 ++ (Lex.bl (how m.2.2) ++ (Lex.quote (Lex.bl m.2.1) ++ (match ms with | [] => [125] | _ :: _ => 44 :: ptext ms)))
def okM (m : Mt) : Prop := Lab.name m.1 = true ∧ m.2.1.size ≤ 64
theorem how_stop (b : Bool) (r : Lex.Bs) : Lex.firstIs (Lex.goes false) (Lex.bl (how b) ++ r) = false := by cases b <;> rfl
theorem lex_how {b : Bool} {s r : Lex.Bs} {N : Nat} {L : List (Nat × Lex.Bs)} (hL : Lex.Lexes (Lex.quote s ++ r) N L) : Lex.Lexes (Lex.bl (how b) ++ (Lex.quote s ++ r)) N ((4, Lex.bl (how b)) :: L) := by
  cases b
  · exact Lex.Lexes.sign (.inr (.inr (.inr rfl))) rfl hL
  · exact Lex.Lexes.ne hL
theorem lex_match {m : Mt} (h : okM m) {r : Lex.Bs} {N : Nat} {L : List (Nat × Lex.Bs)} (hL : Lex.Lexes r N L) : Lex.Lexes (Lex.bl m.1 ++ (Lex.bl (how m.2.2) ++ (Lex.quote (Lex.bl m.2.1) ++ r))) N (mtoks m ++ L) := by
  obtain ⟨c, l, e, hc, hl⟩ := name_list h.1
  unfold mtoks
  rw [e]
  exact Lex.Lexes.word hc hl (how_stop _ _) (lex_how (Lex.Lexes.text hL))
theorem head61 {s : ByteArray} (h : Lab.name s = true) (r : Lex.Bs) : Lex.firstIs (· == 61) (Lex.bl s ++ r) = false := by
  obtain ⟨c, l, e, hc, hl⟩ := name_list h
  rw [e]
  show (c == 61) = false
  rw [beq_eq_false_iff_ne]
  intro h2
  subst h2
  exact absurd hc (by decide)
theorem lex_ptext (N : Nat) : ∀ (ms : List Mt), (∀ m ∈ ms, okM m) → Lex.Lexes (ptext ms) N (ptoks ms)
  | [], _ => Lex.Lexes.nil_ N
  | [m], h => lex_match (h m (by simp)) (Lex.Lexes.sign (.inr (.inl rfl)) rfl (Lex.Lexes.nil_ N))
  | m :: m2 :: ms, h => by
    have ih := lex_ptext N (m2 :: ms) (fun x hx => h x (by simp at hx ⊢; right; exact hx))
    exact lex_match (h m (by simp)) (Lex.Lexes.sign (.inr (.inr (.inl rfl))) (head61 (h m2 (by simp)).1 _) ih)
/-- the text from match k on -/
def tailText : Nat → List Mt → Lex.Bs
  | _, [] => []
  | k, m :: ms => Lex.bl (part k m) ++ tailText (k + 1) ms
theorem textTo_tail {nm : ByteArray} {ms : List Mt} (k : Nat) (hk : k ≤ ms.length) : Lex.bl (textTo nm ms ms.length) = Lex.bl (textTo nm ms k) ++ tailText k (ms.drop k) := by
  obtain ⟨d, hd⟩ : ∃ d, ms.length = k + d := ⟨ms.length - k, by omega⟩
  induction d generalizing k with
  | zero =>
    have : k = ms.length := by omega
    rw [List.drop_eq_nil_of_le (by omega), this]
    simp [tailText]
  | succ d ih =>
    have hlt : k < ms.length := by omega
    rw [ih (k + 1) (by omega) (by omega), textTo_step (List.getElem?_eq_getElem hlt), Lex.bl_append, List.append_assoc, List.drop_eq_getElem_cons hlt]
    rfl
theorem part_bl (k : Nat) (m : Mt) : Lex.bl (part k m) = Lex.bl (btw k) ++ (Lex.bl m.1 ++ (Lex.bl (how m.2.2) ++ Lex.quote (Lex.bl m.2.1))) := by
  unfold part qB
  rw [Lex.bl_append, Lex.bl_append, Lex.bl_append, Lex.bl_mk]
  simp only [List.append_assoc]
theorem tail_ptext : ∀ (ms : List Mt) (k : Nat), ms ≠ [] → tailText k ms ++ [125] = Lex.bl (btw k) ++ ptext ms
  | [], _, h => absurd rfl h
  | [m], k, _ => by
    show (Lex.bl (part k m) ++ []) ++ [125] = _
    rw [part_bl]
    simp [ptext]
  | m :: m2 :: ms, k, _ => by
    have ih := tail_ptext (m2 :: ms) (k + 1) (by simp)
    show (Lex.bl (part k m) ++ tailText (k + 1) (m2 :: ms)) ++ [125] = _
    rw [List.append_assoc, ih, part_bl, show btw (k + 1) = coS by unfold btw; rw [if_neg (by omega)]]
    show _ = Lex.bl (btw k) ++ (Lex.bl m.1 ++ (Lex.bl (how m.2.2) ++ (Lex.quote (Lex.bl m.2.1) ++ 44 :: ptext (m2 :: ms))))
    simp only [List.append_assoc]
    rfl
theorem sane_ok {nm : ByteArray} {ms : List Mt} (h : Lab.selSane nm ms = true) : ∀ m ∈ ms, okM m := by
  intro m hm
  obtain ⟨k, hk⟩ := List.mem_iff_getElem?.1 hm
  have := sane_at h hk
  exact ⟨this.2.2.2, this.2.2.1⟩
/-- WHAT IS PRINTED IS READ to the selector's tokens -/
theorem lex_print {nm : ByteArray} {ms : List Mt} (h : Lab.selSane nm ms = true) (N : Nat) : Lex.Lexes (Lex.bl (print nm ms)) N (stoks nm ms) := by
  obtain ⟨c, l, e, hc, hl⟩ := name_list (sane_nm h).2.2.2
  unfold print
  rw [if_pos h]
  cases ms with
  | nil =>
    rw [if_pos (show ([] : List Mt).length = 0 from rfl)]
    unfold stoks
    rw [e]
    have := Lex.Lexes.word (L := []) hc hl (r := []) rfl (Lex.Lexes.nil_ N)
    rwa [List.append_nil] at this
  | cons m ms =>
    rw [if_neg (by simp), Lex.bl_append, textTo_tail 0 (by simp), List.append_assoc, List.drop_zero]
    rw [show Lex.bl clS = [125] from rfl, tail_ptext _ 0 (by simp)]
    unfold stoks
    rw [show Lex.bl (textTo nm (m :: ms) 0) = Lex.bl nm from rfl, e]
    exact Lex.Lexes.word hc hl rfl (Lex.Lexes.sign (.inl rfl) (head61 (sane_ok h m (by simp)).1 _) (lex_ptext N _ (sane_ok h)))
end Sel
end Go.Proofs.YtbdochcajpempaaDoor

/- The plain law of selectors, continued: the tokens are parsed to the selector; what is parsed is one. -/
namespace Go.Proofs.YtbdochcajpempaaDoor
set_option linter.unusedSimpArgs false
set_option linter.unusedVariables false

namespace Sel
/-- these tokens stand there -/
def Stands (ts : List Tk) (i : Nat) (L : List (Nat × Lex.Bs)) : Prop := ∀ j x, L[j]? = some x → ∃ t, ts[i + j]? = some t ∧ t.1 = (x.1 : Int) ∧ t.2.2 = ⟨x.2.toArray⟩
theorem Stands.head {ts : List Tk} {i : Nat} {x : Nat × Lex.Bs} {L : List (Nat × Lex.Bs)} (h : Stands ts i (x :: L)) : ∃ t, ts[i]? = some t ∧ t.1 = (x.1 : Int) ∧ t.2.2 = ⟨x.2.toArray⟩ := h 0 x rfl
theorem Stands.tail {ts : List Tk} {i : Nat} {x : Nat × Lex.Bs} {L : List (Nat × Lex.Bs)} (h : Stands ts i (x :: L)) : Stands ts (i + 1) L := by
  intro j y hy
  have := h (j + 1) y (by rw [List.getElem?_cons_succ]; exact hy)
  rwa [show i + (j + 1) = i + 1 + j by omega] at this
theorem Stands.left {ts : List Tk} {i : Nat} {L M : List (Nat × Lex.Bs)} (h : Stands ts i (L ++ M)) : Stands ts i L := by
  intro j y hy
  exact h j y (by rw [List.getElem?_append_left (List.getElem?_eq_some_iff.1 hy).1]; exact hy)
theorem Stands.right {ts : List Tk} {i : Nat} {L M : List (Nat × Lex.Bs)} (h : Stands ts i (L ++ M)) : Stands ts (i + L.length) M := by
  intro j y hy
  have := h (L.length + j) y (by rw [List.getElem?_append_right (by omega)]; rw [show L.length + j - L.length = j by omega]; exact hy)
  rwa [show i + (L.length + j) = i + L.length + j by omega] at this
theorem isS_at {ts : List Tk} {i : Nat} {t : Tk} {x : Lex.Bs} {s : ByteArray} (ht : ts[i]? = some t) (h1 : t.1 = 4) (h2 : t.2.2 = ⟨x.toArray⟩) : isS ts i s = decide ((⟨x.toArray⟩ : ByteArray) = s) := by
  rw [isS_some ht, h1, h2]
  simp
theorem match_stands {ts : List Tk} {i k : Nat} {m : Mt} (hm : okM m) (h : Stands ts i (mtoks m)) (hk : k < 8) : matchAt ts i k = (m, i + 3, 0) := by
  unfold mtoks at h
  obtain ⟨t0, h0, k0, s0⟩ := h.head
  obtain ⟨t1, h1, k1, s1⟩ := h.tail.head
  obtain ⟨t2, h2, k2, s2⟩ := h.tail.tail.head
  rw [Lex.mk_bl] at s0 s1 s2
  have hn : nameE ts i = 0 := by
    rw [nameE_some h0, if_pos (show t0.1 = 1 from k0), s0, if_pos hm.1]
  have hv : valE ts (i + 2) k = 0 := by
    rw [valE_some h2, if_pos (show t2.1 = 3 from k2), s2, if_neg]
    have := hm.2
    omega
  have hne : isS ts (i + 1) neS = m.2.2 := by
    rw [isS_some h1, show t1.1 = 4 from k1, s1]
    cases m.2.2 <;> rfl
  have heq : m.2.2 = false → isS ts (i + 1) eqS = true := by
    intro hb
    rw [isS_some h1, show t1.1 = 4 from k1, s1, hb]
    rfl
  unfold matchAt
  rw [if_neg (by omega), if_neg (by
    rintro ⟨ha, hb⟩
    rw [hne] at ha
    rw [heq ha] at hb
    cases hb), if_neg (by omega), sOf_some h0, sOf_some h2, s0, s2, hne]
theorem matches_stands {ts : List Tk} : ∀ (ms : List Mt) (f i : Nat) (acc : List Mt), ms ≠ [] → (∀ m ∈ ms, okM m) → Stands ts i (ptoks ms) → acc.length + ms.length ≤ 8 → ms.length ≤ f → matches_ ts f i acc = (acc ++ ms, i + (ptoks ms).length, 0)
  | [], _, _, _, h, _, _, _, _ => absurd rfl h
  | [m], f, i, acc, _, hok, hst, hl, hf => by
    obtain ⟨f, rfl⟩ : ∃ g, f = g + 1 := ⟨f - 1, by simp at hf; omega⟩
    have hst' : Stands ts i (mtoks m ++ [(4, [125])]) := hst
    have hma := match_stands (k := acc.length) (hok m (by simp)) hst'.left (by simp at hl; omega)
    obtain ⟨t, ht, k1, s1⟩ := hst'.right.head
    rw [show i + (mtoks m).length = i + 3 from rfl] at ht
    rw [matches_up hma, if_neg (by simp), if_pos (by rw [isS_at ht k1 s1]; rfl)]
    rfl
  | m :: m2 :: ms, f, i, acc, _, hok, hst, hl, hf => by
    obtain ⟨f, rfl⟩ : ∃ g, f = g + 1 := ⟨f - 1, by simp at hf; omega⟩
    have hst' : Stands ts i (mtoks m ++ ((4, [44]) :: ptoks (m2 :: ms))) := hst
    have hma := match_stands (k := acc.length) (hok m (by simp)) hst'.left (by simp at hl; omega)
    obtain ⟨t, ht, k1, s1⟩ := hst'.right.head
    have hst2 := hst'.right.tail
    rw [show i + (mtoks m).length = i + 3 from rfl] at ht hst2
    have ih := matches_stands (m2 :: ms) f (i + 3 + 1) (acc ++ [m]) (by simp) (fun x hx => hok x (by simp at hx ⊢; right; exact hx)) hst2 (by simp at hl ⊢; omega) (by simp at hf ⊢; omega)
    rw [matches_up hma, if_neg (by simp), if_neg (by rw [isS_at ht k1 s1]; decide), if_pos (by rw [isS_at ht k1 s1]; rfl), ih]
    show _ = (acc ++ m :: m2 :: ms, i + (mtoks m ++ ((4, [44]) :: ptoks (m2 :: ms))).length, 0)
    rw [List.length_append, show (mtoks m).length = 3 from rfl, List.length_cons, List.append_assoc]
    rw [show i + 3 + 1 + (ptoks (m2 :: ms)).length = i + (3 + ((ptoks (m2 :: ms)).length + 1)) by omega]
    rfl
/-- ITS TOKENS ARE PARSED to the selector -/
theorem sel_stands {ts : List Tk} {i : Nat} {nm : ByteArray} {ms : List Mt} (h : Lab.selSane nm ms = true) (hst : Stands ts i (stoks nm ms)) (hend : ms = [] → isS ts (i + 1) opS = false) : selAt ts i = (nm, ms, i + (stoks nm ms).length, 0) := by
  have h8 := (sane_nm h).2.2.1
  have hnm := (sane_nm h).2.2.2
  obtain ⟨t0, h0, k0, s0⟩ := hst.head
  rw [Lex.mk_bl] at s0
  have hn : nameE ts i = 0 := by
    rw [nameE_some h0, if_pos (show t0.1 = 1 from k0), s0, if_pos hnm]
  unfold selAt
  rw [if_neg (by omega), sOf_some h0, s0]
  cases ms with
  | nil =>
    rw [if_pos (hend rfl)]
    rfl
  | cons m ms =>
    have hst1 : Stands ts (i + 1) ((4, [123]) :: ptoks (m :: ms)) := hst.tail
    obtain ⟨t1, h1, k1, s1⟩ := hst1.head
    have hst2 := hst1.tail
    rw [if_neg (by rw [isS_at h1 k1 s1]; decide)]
    have hno : isS ts (i + 2) clS = false := by
      obtain ⟨R, hR⟩ : ∃ R, ptoks (m :: ms) = mtoks m ++ R := ⟨_, rfl⟩
      have hst3 : Stands ts (i + 2) (mtoks m ++ R) := by rw [← hR]; exact hst2
      obtain ⟨t2, h2, k2, s2⟩ := hst3.left.head
      rw [isS_some h2, show t2.1 = 1 from k2]
      rfl
    rw [if_neg (by rw [hno]; simp), matches_stands (m :: ms) 10 (i + 2) [] (by simp) (sane_ok h) hst2 (by simpa using h8) (by omega)]
    simp only [List.nil_append]
    rw [if_neg (by simp)]
    show _ = (nm, m :: ms, i + (((1, Lex.bl nm) :: (4, [123]) :: ptoks (m :: ms)) : List (Nat × Lex.Bs)).length, 0)
    rw [List.length_cons, List.length_cons, show i + ((ptoks (m :: ms)).length + 1 + 1) = i + 2 + (ptoks (m :: ms)).length by omega]
theorem stands_bare {l : List Lex.Tok} {L : List (Nat × Lex.Bs)} (h : Lex.bare l = L) : Stands (l.map Lex.toTk) 0 L := by
  intro j x hx
  subst h
  unfold Lex.bare at hx
  rw [List.getElem?_map, Option.map_eq_some_iff] at hx
  obtain ⟨t, ht, rfl⟩ := hx
  refine ⟨Lex.toTk t, ?_, rfl, rfl⟩
  rw [Nat.zero_add, List.getElem?_map, ht]
  rfl
theorem bare_length (l : List Lex.Tok) : (Lex.bare l).length = l.length := by simp [Lex.bare]
/-- printed, read and parsed it is itself -/
theorem round {nm : ByteArray} {ms : List Mt} (h : Lab.selSane nm ms = true) :
    ∃ l : List Lex.Tok, Lex.all ((print nm ms).size + 1) (Lex.bl (print nm ms)) (print nm ms).size = (l, (print nm ms).size, 0) ∧ Lex.bare l = stoks nm ms ∧ parse (l.map Lex.toTk) 0 = (nm, ms, l.length, 0) := by
  obtain ⟨h1, h2⟩ := lex_print h (print nm ms).size ((print nm ms).size + 1) (by rw [Lex.bl_len]; omega)
  obtain ⟨l, hl⟩ : ∃ l, (Lex.all ((print nm ms).size + 1) (Lex.bl (print nm ms)) (print nm ms).size).1 = l := ⟨_, rfl⟩
  rw [hl] at h1
  refine ⟨l, Prod.ext hl h2, h1, ?_⟩
  unfold parse
  rw [if_neg (by decide), show (0 : Int).toNat = 0 from rfl, Nat.zero_min, sel_stands h (stands_bare h1) (fun hm => ?_), Nat.zero_add, ← h1, bare_length]
  subst hm
  have : l.length = 1 := by rw [← bare_length, h1]; rfl
  exact isS_none (List.getElem?_eq_none (by rw [List.length_map]; omega))
theorem print_inj {nm nm2 : ByteArray} {ms ms2 : List Mt} (h : Lab.selSane nm ms = true) (h2 : Lab.selSane nm2 ms2 = true) (he : print nm ms = print nm2 ms2) : nm = nm2 ∧ ms = ms2 := by
  obtain ⟨l, hl, -, hp⟩ := round h
  obtain ⟨l2, hl2, -, hp2⟩ := round h2
  rw [he, hl2] at hl
  injection hl with hl _
  subst hl
  rw [hp2] at hp
  injection hp with h3 hp
  injection hp with h4 _
  exact ⟨h3.symm, h4.symm⟩
end Sel
end Go.Proofs.YtbdochcajpempaaDoor

/- The statement SelParsed: the plain law, and the walk. -/
namespace Go.Proofs.YtbdochcajpempaaDoor
open Go.RowKit
set_option linter.unusedSimpArgs false
set_option linter.unusedVariables false

namespace Sel
theorem nameE_range {ts : List Tk} {i : Nat} (hi : i ≤ ts.length) : nameE ts i = 3 ↔ i = ts.length := by
  rcases hx : ts[i]? with _ | t
  · have := List.getElem?_eq_none_iff.1 hx
    rw [nameE_none hx]
    exact ⟨fun _ => by omega, fun _ => rfl⟩
  · have := (List.getElem?_eq_some_iff.1 hx).1
    rw [nameE_some hx]
    constructor
    · intro h
      split at h
      · split at h <;> omega
      · omega
    · intro h
      omega
theorem wrong_range {ts : List Tk} {i : Nat} (hi : i ≤ ts.length) : wrong ts i = 3 ↔ i = ts.length := by
  unfold wrong
  split <;> omega
theorem valE_range {ts : List Tk} {i n : Nat} (hi : i ≤ ts.length) : valE ts i n = 3 ↔ i = ts.length := by
  rcases hx : ts[i]? with _ | t
  · have := List.getElem?_eq_none_iff.1 hx
    rw [valE_none hx]
    exact ⟨fun _ => by omega, fun _ => rfl⟩
  · have := (List.getElem?_eq_some_iff.1 hx).1
    rw [valE_some hx]
    constructor
    · intro h
      split at h
      · split at h <;> omega
      · omega
    · intro h
      omega
theorem matchAt_range {ts : List Tk} {i k j : Nat} {m : Mt} {e : Int} (hi : i ≤ ts.length) (h : matchAt ts i k = (m, j, e)) : (e = 0 → okM m ∧ k < 8 ∧ i < j ∧ j ≤ ts.length) ∧ (e ≠ 0 → i ≤ j ∧ j ≤ ts.length ∧ (e = 3 ↔ j = ts.length)) := by
  constructor
  · rintro rfl
    obtain ⟨h1, h2, h3, h4⟩ := matchAt_ok h
    refine ⟨⟨h1, h2⟩, h3, by omega, ?_⟩
    unfold matchAt at h
    split at h
    · rename_i hv; injection h with _ h; injection h with _ h2; exact absurd h2 hv
    · split at h
      · injection h with _ h; injection h with _ h2; exact absurd h2 (wrong_ne _ _)
      · split at h
        · rename_i hv; injection h with _ h; injection h with _ h2; exact absurd h2 hv
        · rename_i hv
          have := valE_lt (ts := ts) (i := i + 2) (n := k) (by omega)
          omega
  · intro he
    unfold matchAt at h
    split at h
    · injection h with _ h; injection h with h1 h2
      subst h1 h2
      exact ⟨Nat.le_refl _, hi, nameE_range hi⟩
    · rename_i hn
      have hlt := nameE_lt (ts := ts) (i := i) (by omega)
      split at h
      · injection h with _ h; injection h with h1 h2
        subst h1 h2
        exact ⟨by omega, by omega, wrong_range (by omega)⟩
      · rename_i hs
        have hs2 : isS ts (i + 1) neS = true ∨ isS ts (i + 1) eqS = true := by
          rcases h1 : isS ts (i + 1) neS with _ | _
          · rcases h2 : isS ts (i + 1) eqS with _ | _
            · exact absurd ⟨h1, h2⟩ hs
            · exact .inr rfl
          · exact .inl rfl
        have hlt2 : i + 1 < ts.length := hs2.elim isS_lt isS_lt
        split at h
        · injection h with _ h; injection h with h1 h2
          subst h1 h2
          exact ⟨by omega, by omega, valE_range (by omega)⟩
        · injection h with _ h; injection h with _ h2
          exact absurd h2.symm he
theorem matches_range {ts : List Tk} : ∀ (f i : Nat) (acc ms : List Mt) (j : Nat) (e : Int), i ≤ ts.length → (∀ m ∈ acc, okM m) → acc.length ≤ 8 → f + acc.length = 10 → matches_ ts f i acc = (ms, j, e) →
    (e = 0 → (∀ m ∈ ms, okM m) ∧ ms.length ≤ 8 ∧ i < j ∧ j ≤ ts.length) ∧ (e ≠ 0 → i ≤ j ∧ j ≤ ts.length ∧ (e = 3 ↔ j = ts.length))
  | 0, i, acc, ms, j, e, _, _, h8, hf, _ => absurd hf (by omega)
  | f + 1, i, acc, ms, j, e, hi, hok, h8, hf, h => by
    rcases hma : matchAt ts i acc.length with ⟨m, j2, e2⟩
    have hr := matchAt_range hi hma
    rw [matches_up hma] at h
    split at h
    · rename_i he2
      injection h with _ h; injection h with h1 h2
      subst h1 h2
      exact ⟨fun h0 => absurd h0 he2, fun _ => hr.2 he2⟩
    · rename_i he2
      obtain ⟨hm, hk8, hij, hj⟩ := hr.1 (by omega)
      have hok2 : ∀ x ∈ acc ++ [m], okM x := by
        intro x hx
        rw [List.mem_append, List.mem_singleton] at hx
        rcases hx with hx | rfl
        · exact hok x hx
        · exact hm
      split at h
      · rename_i hs
        injection h with h0 h; injection h with h1 h2
        subst h0 h1 h2
        have := isS_lt hs
        exact ⟨fun _ => ⟨hok2, by simp; omega, by omega, by omega⟩, fun h => absurd rfl h⟩
      · split at h
        · rename_i hs
          have := isS_lt hs
          have ih := matches_range f (j2 + 1) (acc ++ [m]) ms j e (by omega) hok2 (by simp; omega) (by simp; omega) h
          exact ⟨fun h0 => by have := ih.1 h0; exact ⟨this.1, this.2.1, by omega, this.2.2.2⟩, fun h0 => by have := ih.2 h0; exact ⟨by omega, this.2.1, this.2.2⟩⟩
        · injection h with _ h; injection h with h1 h2
          subst h1 h2
          exact ⟨fun h0 => absurd h0 (wrong_ne _ _), fun _ => ⟨by omega, by omega, wrong_range (by omega)⟩⟩
theorem sane_of {nm : ByteArray} {ms : List Mt} (h : Lab.name nm = true) (h8 : ms.length ≤ 8) (hok : ∀ m ∈ ms, okM m) : Lab.selSane nm ms = true := by
  unfold Lab.selSane
  rw [h, decide_eq_true h8, Bool.true_and, Bool.true_and, Lab.allTo_iff]
  intro k hk
  have hp : ms[k]? = some ms[k] := List.getElem?_eq_getElem hk
  have := hok ms[k] (List.getElem_mem hk)
  rw [Lab.selAt_is hp, this.1, decide_eq_true this.2]
  rfl
theorem nameE_name {ts : List Tk} {i : Nat} (h : nameE ts i = 0) : Lab.name (sOf ts i) = true := by
  rcases hx : ts[i]? with _ | t
  · rw [nameE_none hx] at h; cases h
  · rw [nameE_some hx] at h
    rw [sOf_some hx]
    split at h
    · split at h
      · assumption
      · omega
    · omega
theorem selAt_range {ts : List Tk} {i j : Nat} {nm : ByteArray} {ms : List Mt} {e : Int} (hi : i ≤ ts.length) (h : selAt ts i = (nm, ms, j, e)) :
    (e = 0 → Lab.selSane nm ms = true ∧ i < ts.length ∧ i < j ∧ j ≤ ts.length) ∧ (e ≠ 0 → nm = ⟨#[]⟩ ∧ ms = [] ∧ i ≤ j ∧ j ≤ ts.length ∧ (e = 3 ↔ j = ts.length)) := by
  unfold selAt at h
  split at h
  · rename_i hn
    injection h with h0 h; injection h with h1 h; injection h with h2 h3
    subst h0 h1 h2 h3
    exact ⟨fun h => absurd h hn, fun _ => ⟨rfl, rfl, Nat.le_refl _, hi, nameE_range hi⟩⟩
  · rename_i hn
    have hn0 : nameE ts i = 0 := by omega
    have hnm := nameE_name hn0
    have hlt := nameE_lt hn0
    split at h
    · injection h with h0 h; injection h with h1 h; injection h with h2 h3
      subst h0 h1 h2 h3
      exact ⟨fun _ => ⟨sane_of hnm (by simp) (fun m hm => absurd hm (by simp)), by omega, by omega, by omega⟩, fun h => absurd rfl h⟩
    · rename_i hop
      have hlt1 := isS_lt (show isS ts (i + 1) opS = true by simpa using hop)
      split at h
      · rename_i hcl
        have := isS_lt hcl
        injection h with h0 h; injection h with h1 h; injection h with h2 h3
        subst h0 h1 h2 h3
        exact ⟨fun _ => ⟨sane_of hnm (by simp) (fun m hm => absurd hm (by simp)), by omega, by omega, by omega⟩, fun h => absurd rfl h⟩
      · rcases hms : matches_ ts 10 (i + 2) [] with ⟨ms2, j2, e2⟩
        have hr := matches_range 10 (i + 2) [] ms2 j2 e2 (by omega) (fun m hm => absurd hm (by simp)) (by simp) rfl hms
        rw [hms] at h
        simp only at h
        split at h
        · rename_i he2
          injection h with h0 h; injection h with h1 h; injection h with h2 h3
          subst h0 h1 h2 h3
          have := hr.2 he2
          exact ⟨fun h => absurd h he2, fun _ => ⟨rfl, rfl, by omega, this.2.1, this.2.2⟩⟩
        · rename_i he2
          injection h with h0 h; injection h with h1 h; injection h with h2 h3
          subst h0 h1 h2 h3
          have := hr.1 (by omega)
          exact ⟨fun _ => ⟨sane_of hnm this.2.1 this.1, by omega, by omega, this.2.2.2⟩, fun h => absurd rfl h⟩
end Sel

end Go.Proofs.YtbdochcajpempaaDoor
