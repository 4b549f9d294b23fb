/- The walk of watchtowerlaw08's awake. -/
import Derived.Test.YtbdochcajpempaaDoorSelK
import Derived.Test.YtbdochcajpempaaDoorSelR
import Derived.Test.YtbdochcajpempaaDoorLexJ
import Derived.Test.YtbdochcajpempaaDoorLexPlain
namespace Go.Proofs.YtbdochcajpempaaDoor
open Go.RowKit
set_option linter.unusedSimpArgs false
set_option linter.unusedVariables false

namespace Lex
/-- a token as the reader takes it -/
def toTk (t : Tok) : Sel.Tk := ((t.k : Int), (t.at_ : Int), ⟨t.s.toArray⟩)
theorem tok_len {l : List Tok} {t : Tok} (h : t ∈ l) : t.s.length ≤ tl l := by
  induction l with
  | nil => cases h
  | cons a l ih =>
    rw [List.mem_cons] at h
    unfold tl
    rcases h with rfl | h
    · unfold tokText
      split
      · have := quote_ge t.s
        omega
      · omega
    · have := ih h
      omega
end Lex
theorem Tks.of_toks {W : World} {B n c : Nat} {A : Option Addr} {l : List Lex.Tok} (h : Toks W B A n c l) (hl : ∀ t ∈ l, t.s.length ≤ 60000) : Tks W B A n c (l.map Lex.toTk) := by
  refine ⟨⟨by rw [List.length_map]; exact h.1, h.2.1, h.2.2.1, fun hn => ?_⟩, fun t ht => ?_⟩
  · obtain ⟨b, off, e, hb, hc⟩ := h.2.2.2 hn
    refine ⟨b, off, e, hb, fun j x hj i u hu => ?_⟩
    rw [List.getElem?_map, Option.map_eq_some_iff] at hj
    obtain ⟨y, hy, rfl⟩ := hj
    exact hc j y hy i u hu
  · obtain ⟨y, hy, rfl⟩ := List.mem_map.1 ht
    have := hl y hy
    show (⟨y.s.toArray⟩ : ByteArray).size ≤ _
    rw [Lex.size_mk]
    omega
theorem all_is (s : ByteArray) (hs : s.size ≤ 60000) (w : World) (l : List Lex.Tok) (n : Nat) (e : Int) (h : Lex.all (s.size + 1) (Lex.bl s) s.size = (l, n, e)) :
    Calls Tryd.prog 22 #[.string s] w fun en w' => ∃ A m c, en = .returned (.tuple #[.slice A m c, .int .i64 (n : Int), .int .i64 e]) ∧ Tks w' w'.heap.size A m c (l.map Lex.toTk) ∧ Below w.heap.size w w' := by
  refine (all_any s hs w).mono ?_
  rintro en w' ⟨A, m, c, rfl, hT, hb⟩
  rw [h] at hT ⊢
  refine ⟨A, m, c, rfl, Tks.of_toks hT fun t ht => ?_, hb⟩
  have h1 := Lex.tok_len ht
  have h2 := (Lex.all_len (s.size + 1) (Lex.bl s) s.size).1
  rw [h, Lex.bl_len] at h2
  simp only at h2
  omega
end Go.Proofs.YtbdochcajpempaaDoor
