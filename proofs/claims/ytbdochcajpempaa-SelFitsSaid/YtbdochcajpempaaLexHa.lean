/- Tokens in memory; what is still to be joined. -/
import Derived.Test.YtbdochcajpempaaLexG
import Derived.Test.YtbdochcajpempaaRecs
namespace Go.Proofs.Ytbdochcajpempaa
open Go.RowKit

namespace Lex
/-- a token's cells -/
def tokCells (t : Tok) : List Value := [.int .i64 (t.k : Int), .int .i64 (t.at_ : Int), .string ⟨t.s.toArray⟩]
theorem tokCells_len (t : Tok) : (tokCells t).length = 3 := rfl
/-- what is still to be joined at token k -/
def rest (xs : List Tok) (k : Nat) : Bs := if k = 0 then join (bare xs) else joinR (bare (xs.drop k))
theorem bare_cons (t : Tok) (l : List Tok) : bare (t :: l) = (t.k, t.s) :: bare l := rfl
theorem rest_step {xs : List Tok} {k : Nat} {x : Tok} (h : xs[k]? = some x) : rest xs k = (if k = 0 then [] else [32]) ++ (tokText x.k x.s ++ rest xs (k + 1)) := by
  have hlt := (List.getElem?_eq_some_iff.1 h).1
  have hd : xs.drop k = x :: xs.drop (k + 1) := by
    rw [List.drop_eq_getElem_cons hlt]
    rw [List.getElem?_eq_getElem hlt] at h
    rw [Option.some.inj h]
  unfold rest
  rw [if_neg (by omega : ¬ k + 1 = 0)]
  by_cases hk : k = 0
  · subst hk
    rw [if_pos rfl, if_pos rfl]
    rw [List.drop_zero] at hd
    rw [hd]
    rfl
  · rw [if_neg hk, if_neg hk, hd]
    rfl
theorem rest_end {xs : List Tok} {k : Nat} (h : xs.length ≤ k) : rest xs k = [] := by
  unfold rest
  split
  · rename_i hk
    subst hk
    rw [List.eq_nil_of_length_eq_zero (Nat.le_zero.1 h)]
    rfl
  · rw [List.drop_eq_nil_of_le h]
    rfl
theorem quote_ge (l : Bs) : l.length ≤ (quote l).length := by
  have : ∀ l : Bs, l.length ≤ (quoteIn l).length := by
    intro l
    induction l with
    | nil => exact Nat.le_refl _
    | cons c l ih =>
      unfold quoteIn
      split
      · simp; omega
      · split
        · simp; omega
        · simp; omega
  have := this l
  simp [quote]
  omega
end Lex
abbrev Toks (W : World) (B : Nat) (A : Option Addr) (n c : Nat) (xs : List Lex.Tok) : Prop := Recs Lex.tokCells 3 W B A n c xs
end Go.Proofs.Ytbdochcajpempaa
