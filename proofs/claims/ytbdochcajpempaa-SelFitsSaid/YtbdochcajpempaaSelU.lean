/- The plain law of selectors: what is printed is read to the same tokens, and these are parsed to the same selector. -/
import Derived.Test.YtbdochcajpempaaSelS
import Derived.Test.YtbdochcajpempaaLexPlain
namespace Go.Proofs.Ytbdochcajpempaa
set_option linter.unusedSimpArgs false
set_option linter.unusedVariables false

namespace Lex
/-- a text's tokens, but for their places -/
def Lexes (l : Bs) (N : Nat) (L : List (Nat × Bs)) : Prop := ∀ f, l.length < f → bare (all f l N).1 = L ∧ (all f l N).2 = (N, 0)
theorem Lexes.nil_ (N : Nat) : Lexes [] N [] := by
  intro f hf
  obtain ⟨f, rfl⟩ : ∃ g, f = g + 1 := ⟨f - 1, by simp at hf; omega⟩
  rw [all_nil]
  exact ⟨rfl, rfl⟩
theorem Lexes.step {c : UInt8} {r r' p : Bs} {k N : Nat} {L : List (Nat × Bs)} (h : one c r = .ok (k, p, r')) (hw : white c = false) (h35 : c ≠ 35) (hL : Lexes r' N L) : Lexes (c :: r) N ((k, p) :: L) := by
  intro f hf
  obtain ⟨f, rfl⟩ : ∃ g, f = g + 1 := ⟨f - 1, by simp at hf; omega⟩
  have hl := one_len h
  simp only [List.length_cons] at hf
  obtain ⟨h1, h2⟩ := hL f (by omega)
  have ha : all (f + 1) (c :: r) N = (⟨k, N - (r.length + 1), p⟩ :: (all f r' N).1, (all f r' N).2) := by
    conv => lhs; unfold all
    rw [skip_f, if_neg (by rw [hw]; simp), if_neg h35]
    simp only [h]
  rw [ha]
  refine ⟨?_, h2⟩
  show (k, p) :: bare (all f r' N).1 = _
  rw [h1]
theorem take_stop {p : UInt8 → Bool} {l r : Bs} (hl : l.all p = true) (hr : firstIs p r = false) : (l ++ r).takeWhile p = l ∧ (l ++ r).dropWhile p = r := by
  induction l with
  | nil =>
    cases r with
    | nil => exact ⟨rfl, rfl⟩
    | cons c r =>
      have : p c = false := hr
      simp [this]
  | cons c l ih =>
    simp only [List.all_cons, Bool.and_eq_true] at hl
    simp only [List.cons_append]
    rw [List.takeWhile_cons_of_pos hl.1, List.dropWhile_cons_of_pos hl.1, (ih hl.2).1, (ih hl.2).2]
    exact ⟨rfl, rfl⟩
theorem Lexes.word {c : UInt8} {l r : Bs} {N : Nat} {L : List (Nat × Bs)} (hc : letter c = true) (hl : l.all (goes false) = true) (hr : firstIs (goes false) r = false) (hL : Lexes r N L) : Lexes (c :: (l ++ r)) N ((1, c :: l) :: L) := by
  have ht := take_stop hl hr
  refine Lexes.step ?_ (letter_facts hc).1 (letter_facts hc).2 hL
  unfold one
  rw [show begins c (l ++ r) = (1, 0) by unfold begins; rw [if_pos hc]]
  simp only [ht.1, ht.2]
theorem Lexes.text {s r : Bs} {N : Nat} {L : List (Nat × Bs)} (hL : Lexes r N L) : Lexes (quote s ++ r) N ((3, s) :: L) := by
  rw [show quote s ++ r = 34 :: (quoteIn s ++ 34 :: r) by simp [quote]]
  refine Lexes.step ?_ (by decide) (by decide) hL
  unfold one
  rw [show begins 34 (quoteIn s ++ 34 :: r) = (3, 0) by unfold begins; rw [if_neg (by decide), if_neg (by simp only [show ((34 : UInt8) == 45) = false by decide, Bool.false_and, Bool.or_false]; decide), if_pos (by decide)]]
  simp only [text_quote]
  rfl
theorem Lexes.sign {c : UInt8} {r : Bs} {N : Nat} {L : List (Nat × Bs)} (hc : c = 123 ∨ c = 125 ∨ c = 44 ∨ c = 61) (hr : firstIs (· == 61) r = false) (hL : Lexes r N L) : Lexes (c :: r) N ((4, [c]) :: L) := by
  rcases hc with rfl | rfl | rfl | rfl
  · exact Lexes.step (by unfold one begins; simp [hr, letter, digit, twos, ones]) (by decide) (by decide) hL
  · exact Lexes.step (by unfold one begins; simp [hr, letter, digit, twos, ones]) (by decide) (by decide) hL
  · exact Lexes.step (by unfold one begins; simp [hr, letter, digit, twos, ones]) (by decide) (by decide) hL
  · exact Lexes.step (by unfold one begins; simp [hr, letter, digit, twos, ones]) (by decide) (by decide) hL
theorem Lexes.ne {r : Bs} {N : Nat} {L : List (Nat × Bs)} (hL : Lexes r N L) : Lexes (33 :: 61 :: r) N ((4, [33, 61]) :: L) :=
  Lexes.step (by unfold one begins; simp [firstIs_cons, letter, digit, twos, ones]) (by decide) (by decide) hL
end Lex

namespace Sel
theorem name_list {s : ByteArray} (h : Lab.name s = true) : ∃ c l, Lex.bl s = c :: l ∧ Lex.letter c = true ∧ l.all (Lex.goes false) = true := by
  have hs := name_size h
  unfold Lab.name at h
  rw [Bool.and_eq_true] at h
  have hall := Lab.allTo_iff.1 h.2
  have hd := Lex.drop_cons s 0 (by omega)
  rw [List.drop_zero] at hd
  refine ⟨_, _, hd, ?_, ?_⟩
  · have := hall 0 (by omega)
    rw [Lab.nameAt_is s 0 (by omega) _ rfl] at this
    have h2 : Lab.letter s[0] = true := by simpa using this
    exact h2
  · rw [List.all_eq_true]
    intro x hx
    obtain ⟨j, hj⟩ := List.mem_iff_getElem?.1 hx
    rw [List.getElem?_drop] at hj
    have hlt : 0 + 1 + j < s.size := by
      have := (List.getElem?_eq_some_iff.1 hj).1
      rwa [← Lex.size_bl] at this
    have hd2 := Lex.drop_cons s (0 + 1 + j) hlt
    have hx2 : s[0 + 1 + j] = x := by
      have h2 := congrArg (·[0]?) hd2
      simp only [List.getElem?_drop, Nat.add_zero, List.getElem?_cons_zero] at h2
      rw [hj] at h2
      exact (Option.some.inj h2).symm
    have := hall (0 + 1 + j) hlt
    rw [Lab.nameAt_is s _ hlt x hx2] at this
    unfold Lex.goes
    have e1 : Lex.letter x = Lab.letter x := rfl
    have e2 : Lex.digit x = Lab.digit x := rfl
    rw [e1, e2]
    rcases h3 : Lab.letter x with _ | _
    · rw [h3] at this
      simp at this
      rw [this.1]
      rfl
    · rfl
/-- the tokens of a match, of the matches behind the first bracket, of a selector -/
def mtoks (m : Mt) : List (Nat × Lex.Bs) := [(1, Lex.bl m.1), (4, Lex.bl (how m.2.2)), (3, Lex.bl m.2.1)]
def ptoks : List Mt → List (Nat × Lex.Bs)
  | [] => []
  | m :: ms => mtoks m ++ (match ms with | [] => [(4, [125])] | _ :: _ => (4, [44]) :: ptoks ms)
def stoks (nm : ByteArray) (ms : List Mt) : List (Nat × Lex.Bs) := (1, Lex.bl nm) :: (match ms with | [] => [] | _ :: _ => (4, [123]) :: ptoks ms)
/-- the text behind the first bracket -/
def ptext : List Mt → Lex.Bs
  | [] => []
  | m :: ms => Lex.bl m.1 ++ (Lex.bl (how m.2.2) ++ (Lex.quote (Lex.bl m.2.1) ++ (match ms with | [] => [125] | _ :: _ => 44 :: ptext ms)))
def okM (m : Mt) : Prop := Lab.name m.1 = true ∧ m.2.1.size ≤ 64
theorem how_stop (b : Bool) (r : Lex.Bs) : Lex.firstIs (Lex.goes false) (Lex.bl (how b) ++ r) = false := by cases b <;> rfl
theorem lex_how {b : Bool} {s r : Lex.Bs} {N : Nat} {L : List (Nat × Lex.Bs)} (hL : Lex.Lexes (Lex.quote s ++ r) N L) : Lex.Lexes (Lex.bl (how b) ++ (Lex.quote s ++ r)) N ((4, Lex.bl (how b)) :: L) := by
  cases b
  · exact Lex.Lexes.sign (.inr (.inr (.inr rfl))) rfl hL
  · exact Lex.Lexes.ne hL
theorem lex_match {m : Mt} (h : okM m) {r : Lex.Bs} {N : Nat} {L : List (Nat × Lex.Bs)} (hL : Lex.Lexes r N L) : Lex.Lexes (Lex.bl m.1 ++ (Lex.bl (how m.2.2) ++ (Lex.quote (Lex.bl m.2.1) ++ r))) N (mtoks m ++ L) := by
  obtain ⟨c, l, e, hc, hl⟩ := name_list h.1
  unfold mtoks
  rw [e]
  exact Lex.Lexes.word hc hl (how_stop _ _) (lex_how (Lex.Lexes.text hL))
theorem head61 {s : ByteArray} (h : Lab.name s = true) (r : Lex.Bs) : Lex.firstIs (· == 61) (Lex.bl s ++ r) = false := by
  obtain ⟨c, l, e, hc, hl⟩ := name_list h
  rw [e]
  show (c == 61) = false
  rw [beq_eq_false_iff_ne]
  intro h2
  subst h2
  exact absurd hc (by decide)
theorem lex_ptext (N : Nat) : ∀ (ms : List Mt), (∀ m ∈ ms, okM m) → Lex.Lexes (ptext ms) N (ptoks ms)
  | [], _ => Lex.Lexes.nil_ N
  | [m], h => lex_match (h m (by simp)) (Lex.Lexes.sign (.inr (.inl rfl)) rfl (Lex.Lexes.nil_ N))
  | m :: m2 :: ms, h => by
    have ih := lex_ptext N (m2 :: ms) (fun x hx => h x (by simp at hx ⊢; right; exact hx))
    exact lex_match (h m (by simp)) (Lex.Lexes.sign (.inr (.inr (.inl rfl))) (head61 (h m2 (by simp)).1 _) ih)
/-- the text from match k on -/
def tailText : Nat → List Mt → Lex.Bs
  | _, [] => []
  | k, m :: ms => Lex.bl (part k m) ++ tailText (k + 1) ms
theorem textTo_tail {nm : ByteArray} {ms : List Mt} (k : Nat) (hk : k ≤ ms.length) : Lex.bl (textTo nm ms ms.length) = Lex.bl (textTo nm ms k) ++ tailText k (ms.drop k) := by
  obtain ⟨d, hd⟩ : ∃ d, ms.length = k + d := ⟨ms.length - k, by omega⟩
  induction d generalizing k with
  | zero =>
    have : k = ms.length := by omega
    rw [List.drop_eq_nil_of_le (by omega), this]
    simp [tailText]
  | succ d ih =>
    have hlt : k < ms.length := by omega
    rw [ih (k + 1) (by omega) (by omega), textTo_step (List.getElem?_eq_getElem hlt), Lex.bl_append, List.append_assoc, List.drop_eq_getElem_cons hlt]
    rfl
theorem part_bl (k : Nat) (m : Mt) : Lex.bl (part k m) = Lex.bl (btw k) ++ (Lex.bl m.1 ++ (Lex.bl (how m.2.2) ++ Lex.quote (Lex.bl m.2.1))) := by
  unfold part qB
  rw [Lex.bl_append, Lex.bl_append, Lex.bl_append, Lex.bl_mk]
  simp only [List.append_assoc]
theorem tail_ptext : ∀ (ms : List Mt) (k : Nat), ms ≠ [] → tailText k ms ++ [125] = Lex.bl (btw k) ++ ptext ms
  | [], _, h => absurd rfl h
  | [m], k, _ => by
    show (Lex.bl (part k m) ++ []) ++ [125] = _
    rw [part_bl]
    simp [ptext]
  | m :: m2 :: ms, k, _ => by
    have ih := tail_ptext (m2 :: ms) (k + 1) (by simp)
    show (Lex.bl (part k m) ++ tailText (k + 1) (m2 :: ms)) ++ [125] = _
    rw [List.append_assoc, ih, part_bl, show btw (k + 1) = coS by unfold btw; rw [if_neg (by omega)]]
    show _ = Lex.bl (btw k) ++ (Lex.bl m.1 ++ (Lex.bl (how m.2.2) ++ (Lex.quote (Lex.bl m.2.1) ++ 44 :: ptext (m2 :: ms))))
    simp only [List.append_assoc]
    rfl
theorem sane_ok {nm : ByteArray} {ms : List Mt} (h : Lab.selSane nm ms = true) : ∀ m ∈ ms, okM m := by
  intro m hm
  obtain ⟨k, hk⟩ := List.mem_iff_getElem?.1 hm
  have := sane_at h hk
  exact ⟨this.2.2.2, this.2.2.1⟩
/-- WHAT IS PRINTED IS READ to the selector's tokens -/
theorem lex_print {nm : ByteArray} {ms : List Mt} (h : Lab.selSane nm ms = true) (N : Nat) : Lex.Lexes (Lex.bl (print nm ms)) N (stoks nm ms) := by
  obtain ⟨c, l, e, hc, hl⟩ := name_list (sane_nm h).2.2.2
  unfold print
  rw [if_pos h]
  cases ms with
  | nil =>
    rw [if_pos (show ([] : List Mt).length = 0 from rfl)]
    unfold stoks
    rw [e]
    have := Lex.Lexes.word (L := []) hc hl (r := []) rfl (Lex.Lexes.nil_ N)
    rwa [List.append_nil] at this
  | cons m ms =>
    rw [if_neg (by simp), Lex.bl_append, textTo_tail 0 (by simp), List.append_assoc, List.drop_zero]
    rw [show Lex.bl clS = [125] from rfl, tail_ptext _ 0 (by simp)]
    unfold stoks
    rw [show Lex.bl (textTo nm (m :: ms) 0) = Lex.bl nm from rfl, e]
    exact Lex.Lexes.word hc hl rfl (Lex.Lexes.sign (.inl rfl) (head61 (sane_ok h m (by simp)).1 _) (lex_ptext N _ (sane_ok h)))
end Sel
end Go.Proofs.Ytbdochcajpempaa
