/- lex's callees as All calls them: by what stands at the place. -/
import Derived.Test.YtbdochcajpempaaLexHa
import Derived.Test.YtbdochcajpempaaLexPlain
namespace Go.Proofs.Ytbdochcajpempaa
open Go.RowKit

namespace Lex
theorem bl_extract (s : ByteArray) (a b : Nat) : bl (s.extract a b) = ((bl s).drop a).take (b - a) := by
  unfold bl
  rw [ByteArray.data_extract, Array.toList_extract]
theorem bl_from (s : ByteArray) (k : Nat) : bl (s.extract k s.size) = (bl s).drop k := by
  rw [bl_extract, List.take_of_length_le]
  rw [List.length_drop, bl_len]
  omega
theorem ba_ext {s t : ByteArray} (h : bl s = bl t) : s = t := by
  cases s; cases t
  simp only [bl] at h
  congr
  exact Array.toList_inj.1 h
theorem piece {s : ByteArray} {k n : Nat} {p r : Bs} (h : (bl s).drop k = p ++ r) (hn : p.length = n) : s.extract k (k + n) = ⟨p.toArray⟩ := by
  apply ba_ext
  rw [bl_extract, h, show k + n - k = n by omega, ← hn, List.take_left]
theorem suf_drop {s : ByteArray} {k : Nat} {d r : Bs} (h : (bl s).drop k = d ++ r) : (bl s).drop (s.size - r.length) = r := by
  have hl := congrArg List.length h
  rw [List.length_drop, bl_len, List.length_append] at hl
  rcases Nat.lt_or_ge k s.size with hk | hk
  · have e : s.size - r.length = k + d.length := by omega
    rw [e, ← List.drop_drop, h, List.drop_left]
  · have hr : r = [] := by
      apply List.eq_nil_of_length_eq_zero
      omega
    subst hr
    exact drop_all s _ (by simp)
theorem head_of {t : ByteArray} {c : UInt8} {r : Bs} (h : bl t = c :: r) : ∃ h0 : 0 < t.size, t[0] = c ∧ (bl t).drop 1 = r ∧ t.size = r.length + 1 := by
  have hl := congrArg List.length h
  rw [bl_len, List.length_cons] at hl
  have h0 : 0 < t.size := by omega
  refine ⟨h0, ?_, by rw [h]; rfl, hl⟩
  have := drop_cons t 0 h0
  rw [List.drop_zero, h] at this
  injection this with h1 h2
  exact h1.symm
theorem while_len (p : UInt8 → Bool) (l : Bs) : (l.takeWhile p).length + (l.dropWhile p).length = l.length := split_len p l
end Lex
theorem begins_at (t : ByteArray) (c : UInt8) (r : Lex.Bs) (w : World) (h : Lex.bl t = c :: r) :
    Calls Try.prog 36 #[.string t] w fun e w' => e = .returned (.tuple #[.int .i64 ((Lex.begins c r).1 : Nat), .int .i64 ((Lex.begins c r).2 : Nat)]) ∧ w = w' := by
  obtain ⟨h0, h1, h2, h3⟩ := Lex.head_of h
  have := begins_any t h0 w
  rw [h1, h2] at this
  exact this
theorem run_at (t : ByteArray) (b : Bool) (c : UInt8) (r : Lex.Bs) (w : World) (h : Lex.bl t = c :: r) (hs : t.size ≤ 4611686018427387904) :
    Calls Try.prog 38 #[.string t, .bool b] w fun e w' => e = .returned (.int .i64 (((r.takeWhile (Lex.goes b)).length + 1 : Nat) : Int)) ∧ w = w' := by
  obtain ⟨h0, h1, h2, h3⟩ := Lex.head_of h
  have hr := run_any t b h0 hs w
  have e : Lex.runAt t b 1 = (r.takeWhile (Lex.goes b)).length + 1 := by
    unfold Lex.runAt
    rw [h2, h3]
    have := Lex.while_len (Lex.goes b) r
    omega
  rw [e] at hr
  exact hr
theorem text_at (t : ByteArray) (c : UInt8) (r : Lex.Bs) (w : World) (h : Lex.bl t = c :: r) (hs : t.size ≤ 70000000000000) :
    Calls Try.prog 37 #[.string t] w fun e w' => e = .returned (Lex.textV (r.length + 1) (Lex.text r 1)) ∧ Below w.heap.size w w' := by
  obtain ⟨h0, h1, h2, h3⟩ := Lex.head_of h
  have := text_any t h0 hs w
  rw [h2, h3] at this
  exact this
theorem skip_at (s : ByteArray) (x : Int) (i : Nat) (w : World) (hx : x = (i : Int)) (hi : i ≤ s.size) (hs : s.size ≤ 4611686018427387904) :
    Calls Try.prog 35 #[.string s, .int .i64 x] w fun e w' => e = .returned (.int .i64 (Lex.skipAt s false i : Nat)) ∧ w = w' := by
  subst hx
  exact skip_any s i hi hs w
end Go.Proofs.Ytbdochcajpempaa
