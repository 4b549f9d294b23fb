/- The texts LexG, LexHa, LexI in one. -/
import Derived.Test.YtbdochcajpempaaDoorLexF
import Derived.Test.YtbdochcajpempaaDoorRecs
import Derived.Test.YtbdochcajpempaaDoorLexPlain
/- The walk of lex's Quote: a text between quotes. -/
namespace Go.Proofs.YtbdochcajpempaaDoor
open Go.RowKit

namespace Byt
theorem own_one (w : World) (x : Value) : (w.alloc (.cells #[x] 5)).ownsRow w.heap.size 5 1 (.slice (some ⟨w.heap.size, 0, none⟩) 1 1) 1 [x] := by
  refine ⟨rfl, .inr ⟨w.heap.size, 1, #[x], rfl, Nat.le_refl _, ?_, Nat.le_refl _, by decide, rfl, rfl⟩⟩
  show (w.heap.push _)[w.heap.size]? = _
  simp
theorem cells_two (l : List UInt8) (c d : UInt8) : Lib.byteCells (l ++ [c, d]) = Lib.byteCells l ++ [.int .u8 (c.toNat : Int), .int .u8 (d.toNat : Int)] := by simp [Lib.byteCells]
theorem own_snoc2 {w : World} {B : Nat} {v : Value} {l : List UInt8} {c d : UInt8} (h : w.ownsRow B 5 1 v (l.length + 2) (Lib.byteCells l ++ [.int .u8 (c.toNat : Int), .int .u8 (d.toNat : Int)])) :
    w.ownsRow B 5 1 v (l ++ [c, d]).length (Lib.byteCells (l ++ [c, d])) := by
  rw [cells_two, List.length_append]
  exact h
end Byt
namespace Lex
theorem quoteIn_esc {c : UInt8} (l : Bs) (h : c = 92 ∨ c = 34) : quoteIn (c :: l) = [92, c] ++ quoteIn l := by
  conv => lhs; unfold quoteIn
  rw [if_pos h]
  rfl
theorem quoteIn_lf (l : Bs) : quoteIn (10 :: l) = [92, 110] ++ quoteIn l := rfl
theorem quoteIn_plain {c : UInt8} (l : Bs) (h1 : c ≠ 92) (h2 : c ≠ 34) (h3 : c ≠ 10) : quoteIn (c :: l) = [c] ++ quoteIn l := by
  conv => lhs; unfold quoteIn
  rw [if_neg (fun h => h.elim h1 h2), if_neg h3]
  rfl
theorem quoteIn_len (l : Bs) : (quoteIn l).length ≤ 2 * l.length := by
  induction l with
  | nil => exact Nat.le_refl _
  | cons c l ih =>
    unfold quoteIn
    split
    · simp; omega
    · split
      · simp; omega
      · simp; omega
theorem quote_len (l : Bs) : (quote l).length ≤ 2 * l.length + 2 := by
  have := quoteIn_len l
  simp [quote]
  omega
end Lex

set_option maxHeartbeats 4000000 in
theorem quote_any (s : ByteArray) (hs : s.size ≤ 60000000000000) (w : World) :
    Calls Tryd.prog 51 #[.string s] w fun e w' => e = .returned (.string ⟨(Lex.quote (Lex.bl s)).toArray⟩) ∧ Below w.heap.size w w' := by
  obtain ⟨i0, hi, hz0, hz1, hz2⟩ := info_parts Byt.infoByte
  go_enter Tryd.func51, Tryd.ntmps51
  go_wp2
  go_loopw [3, 4, 21, 30] (fun v i _ _ wr => ∃ (k : Nat) (acc : Lex.Bs), k ≤ s.size ∧ i = .int .i64 k ∧ acc.length ≤ 2 * k + 1 ∧ wr.ownsRow w.heap.size 5 1 v acc.length (Lib.byteCells acc) ∧ Below w.heap.size w wr ∧
      Lex.quote (Lex.bl s) = acc ++ (Lex.quoteIn ((Lex.bl s).drop k) ++ [34])) (fun _ i _ _ _ => s.size - (intOf i).toNat)
  case atStart => exact ⟨0, [34], Nat.zero_le _, rfl, Nat.le_refl _, Byt.own_one w _, (Below.refl _ _).alloc (Nat.le_refl _) _, rfl⟩
  case round =>
    obtain ⟨k, acc, hk, rfl, hacc, hown, hb, hq⟩ := hrel
    have HT := Lib.hid hq
    have HO := Lib.hid hown
    clear hq hown
    have hbs := hb.size
    by_cases hlt : k < s.size
    · obtain ⟨c, hc⟩ : ∃ c, s[k] = c := ⟨_, rfl⟩
      have hd := Lex.drop_cons s k hlt
      rw [hc] at hd
      have HD := Lib.hid hd
      clear hd
      rcases h92 : (c == 92) with _ | _
      · have n92 : ((c.toNat : Int) == 92) = false := Lex.int_ne (n := 92) (by decide) h92
        have c92 : c ≠ 92 := ne_of_beq_false h92
        rcases h34 : (c == 34) with _ | _
        · have n34 : ((c.toNat : Int) == 34) = false := Lex.int_ne (n := 34) (by decide) h34
          have c34 : c ≠ 34 := ne_of_beq_false h34
          rcases h10 : (c == 10) with _ | _
          · have n10 : ((c.toNat : Int) == 10) = false := Lex.int_ne (n := 10) (by decide) h10
            have c10 : c ≠ 10 := ne_of_beq_false h10
            have HN := Lib.hid (show Lex.quote (Lex.bl s) = (acc ++ [c]) ++ (Lex.quoteIn ((Lex.bl s).drop (k + 1)) ++ [34]) by
              rw [HT.out, HD.out, Lex.quoteIn_plain _ c92 c34 c10]
              simp [List.append_assoc])
            clear h92 h34 h10 c92 c34 c10
            go_wp2_with (at_builtin; refine wpList_append_own _ rfl _ _ 83 rfl w.heap.size 5 i0 (.int .u8 0) 1 1 Tryd.underlying83 hi hz0 hz1 hz2 rfl (by decide) _ _ _ rfl (HO.out.alloc _) ⟨wr.heap.size, 0, none⟩ 1 1 [.int .u8 (c.toNat : Int)] rfl rfl ?c1 ?c2 ?c3 ?c4 ?c5 ?_)
            case c1 =>
              intro j u hj
              match j, hj with
              | 0, hj => simp at hj; subst hj; simp [Addr.add]
            case c2 => intro u hu; simp at hu; subst hu; rfl
            case c3 => unfold maxLen; omega
            case c4 => omega
            case c5 => simp; omega
            intro v' w2 hown' hgrow _
            have hb2 : Below w.heap.size w w2 := (hb.alloc hbs _).grown hgrow (by simp; omega) (fun g e => Byt.own_ge HO.out e)
            clear hgrow
            go_wp2
            go_roundw
            case rel => exact ⟨k + 1, acc ++ [c], by omega, by go_num, by simp; omega, Byt.own_snoc hown', hb2, HN.out⟩
            case measure => simp [intOf]; omega
          · have e10 : (c.toNat : Int) = 10 := Lex.int_eq (n := 10) (by decide) h10
            have HN := Lib.hid (show Lex.quote (Lex.bl s) = (acc ++ [92, 110]) ++ (Lex.quoteIn ((Lex.bl s).drop (k + 1)) ++ [34]) by
              rw [HT.out, HD.out, eq_of_beq h10, Lex.quoteIn_lf]
              simp [List.append_assoc])
            clear h92 h34 h10 c92 c34
            go_wp2_with (at_builtin; refine wpList_append_own _ rfl _ _ 83 rfl w.heap.size 5 i0 (.int .u8 0) 1 1 Tryd.underlying83 hi hz0 hz1 hz2 rfl (by decide) _ _ _ rfl (HO.out.alloc _) ⟨wr.heap.size, 0, none⟩ 2 2 [.int .u8 92, .int .u8 110] rfl rfl ?c1 ?c2 ?c3 ?c4 ?c5 ?_)
            case c1 =>
              intro j u hj
              match j, hj with
              | 0, hj => simp at hj; subst hj; simp [Addr.add]
              | 1, hj => simp at hj; subst hj; simp [Addr.add]
            case c2 => intro u hu; simp at hu; rcases hu with rfl | rfl <;> rfl
            case c3 => unfold maxLen; omega
            case c4 => omega
            case c5 => simp; omega
            intro v' w2 hown' hgrow _
            have hb2 : Below w.heap.size w w2 := (hb.alloc hbs _).grown hgrow (by simp; omega) (fun g e => Byt.own_ge HO.out e)
            clear hgrow
            go_wp2
            go_roundw
            case rel => exact ⟨k + 1, acc ++ [92, 110], by omega, by go_num, by simp; omega, Byt.own_snoc2 (c := 92) (d := 110) hown', hb2, HN.out⟩
            case measure => simp [intOf]; omega
        · have e34 : (c.toNat : Int) = 34 := Lex.int_eq (n := 34) (by decide) h34
          have HN := Lib.hid (show Lex.quote (Lex.bl s) = (acc ++ [92, 34]) ++ (Lex.quoteIn ((Lex.bl s).drop (k + 1)) ++ [34]) by
            rw [HT.out, HD.out, eq_of_beq h34, Lex.quoteIn_esc _ (.inr rfl)]
            simp [List.append_assoc])
          clear h92 h34 c92
          go_wp2_with (at_builtin; refine wpList_append_own _ rfl _ _ 83 rfl w.heap.size 5 i0 (.int .u8 0) 1 1 Tryd.underlying83 hi hz0 hz1 hz2 rfl (by decide) _ _ _ rfl (HO.out.alloc _) ⟨wr.heap.size, 0, none⟩ 2 2 [.int .u8 92, .int .u8 34] rfl rfl ?c1 ?c2 ?c3 ?c4 ?c5 ?_)
          case c1 =>
            intro j u hj
            match j, hj with
            | 0, hj => simp at hj; subst hj; simp [Addr.add]
            | 1, hj => simp at hj; subst hj; simp [Addr.add]
          case c2 => intro u hu; simp at hu; rcases hu with rfl | rfl <;> rfl
          case c3 => unfold maxLen; omega
          case c4 => omega
          case c5 => simp; omega
          intro v' w2 hown' hgrow _
          have hb2 : Below w.heap.size w w2 := (hb.alloc hbs _).grown hgrow (by simp; omega) (fun g e => Byt.own_ge HO.out e)
          clear hgrow
          go_wp2
          go_roundw
          case rel => exact ⟨k + 1, acc ++ [92, 34], by omega, by go_num, by simp; omega, Byt.own_snoc2 (c := 92) (d := 34) hown', hb2, HN.out⟩
          case measure => simp [intOf]; omega
      · have e92 : (c.toNat : Int) = 92 := Lex.int_eq (n := 92) (by decide) h92
        have HN := Lib.hid (show Lex.quote (Lex.bl s) = (acc ++ [92, 92]) ++ (Lex.quoteIn ((Lex.bl s).drop (k + 1)) ++ [34]) by
          rw [HT.out, HD.out, eq_of_beq h92, Lex.quoteIn_esc _ (.inl rfl)]
          simp [List.append_assoc])
        clear h92
        go_wp2_with (at_builtin; refine wpList_append_own _ rfl _ _ 83 rfl w.heap.size 5 i0 (.int .u8 0) 1 1 Tryd.underlying83 hi hz0 hz1 hz2 rfl (by decide) _ _ _ rfl (HO.out.alloc _) ⟨wr.heap.size, 0, none⟩ 2 2 [.int .u8 92, .int .u8 92] rfl rfl ?c1 ?c2 ?c3 ?c4 ?c5 ?_)
        case c1 =>
          intro j u hj
          match j, hj with
          | 0, hj => simp at hj; subst hj; simp [Addr.add]
          | 1, hj => simp at hj; subst hj; simp [Addr.add]
        case c2 => intro u hu; simp at hu; rcases hu with rfl | rfl <;> rfl
        case c3 => unfold maxLen; omega
        case c4 => omega
        case c5 => simp; omega
        intro v' w2 hown' hgrow _
        have hb2 : Below w.heap.size w w2 := (hb.alloc hbs _).grown hgrow (by simp; omega) (fun g e => Byt.own_ge HO.out e)
        clear hgrow
        go_wp2
        go_roundw
        case rel => exact ⟨k + 1, acc ++ [92, 92], by omega, by go_num, by simp; omega, Byt.own_snoc2 (c := 92) (d := 92) hown', hb2, HN.out⟩
        case measure => simp [intOf]; omega
    · have HN := Lib.hid (show Lex.quote (Lex.bl s) = acc ++ [34] by
        rw [HT.out, Lex.drop_all s k (by omega)]
        rfl)
      go_wp2_with (at_builtin; refine wpList_append_own _ rfl _ _ 83 rfl w.heap.size 5 i0 (.int .u8 0) 1 1 Tryd.underlying83 hi hz0 hz1 hz2 rfl (by decide) _ _ _ rfl (HO.out.alloc _) ⟨wr.heap.size, 0, none⟩ 1 1 [.int .u8 34] rfl rfl ?c1 ?c2 ?c3 ?c4 ?c5 ?_)
      case c1 =>
        intro j u hj
        match j, hj with
        | 0, hj => simp at hj; subst hj; simp [Addr.add]
      case c2 => intro u hu; simp at hu; subst hu; rfl
      case c3 => unfold maxLen; omega
      case c4 => omega
      case c5 => simp; omega
      intro v' w2 hown' hgrow _
      have hb2 : Below w.heap.size w w2 := (hb.alloc hbs _).grown hgrow (by simp; omega) (fun g e => Byt.own_ge HO.out e)
      clear hgrow
      have hcv := Byt.own_string (Byt.own_snoc (c := 34) hown')
      go_wp2
      go_ret
      exact ⟨by rw [HN.out]; rfl, hb2⟩
end Go.Proofs.YtbdochcajpempaaDoor

/- Tokens in memory; what is still to be joined. -/
namespace Go.Proofs.YtbdochcajpempaaDoor
open Go.RowKit

namespace Lex
/-- a token's cells -/
def tokCells (t : Tok) : List Value := [.int .i64 (t.k : Int), .int .i64 (t.at_ : Int), .string ⟨t.s.toArray⟩]
theorem tokCells_len (t : Tok) : (tokCells t).length = 3 := rfl
/-- what is still to be joined at token k -/
def rest (xs : List Tok) (k : Nat) : Bs := if k = 0 then join (bare xs) else joinR (bare (xs.drop k))
theorem bare_cons (t : Tok) (l : List Tok) : bare (t :: l) = (t.k, t.s) :: bare l := rfl
theorem rest_step {xs : List Tok} {k : Nat} {x : Tok} (h : xs[k]? = some x) : rest xs k = (if k = 0 then [] else [32]) ++ (tokText x.k x.s ++ rest xs (k + 1)) := by
  have hlt := (List.getElem?_eq_some_iff.1 h).1
  have hd : xs.drop k = x :: xs.drop (k + 1) := by
    rw [List.drop_eq_getElem_cons hlt]
    rw [List.getElem?_eq_getElem hlt] at h
    rw [Option.some.inj h]
  unfold rest
  rw [if_neg (by omega : ¬ k + 1 = 0)]
  by_cases hk : k = 0
  · subst hk
    rw [if_pos rfl, if_pos rfl]
    rw [List.drop_zero] at hd
    rw [hd]
    rfl
  · rw [if_neg hk, if_neg hk, hd]
    rfl
theorem rest_end {xs : List Tok} {k : Nat} (h : xs.length ≤ k) : rest xs k = [] := by
  unfold rest
  split
  · rename_i hk
    subst hk
    rw [List.eq_nil_of_length_eq_zero (Nat.le_zero.1 h)]
    rfl
  · rw [List.drop_eq_nil_of_le h]
    rfl
theorem quote_ge (l : Bs) : l.length ≤ (quote l).length := by
  have : ∀ l : Bs, l.length ≤ (quoteIn l).length := by
    intro l
    induction l with
    | nil => exact Nat.le_refl _
    | cons c l ih =>
      unfold quoteIn
      split
      · simp; omega
      · split
        · simp; omega
        · simp; omega
  have := this l
  simp [quote]
  omega
end Lex
abbrev Toks (W : World) (B : Nat) (A : Option Addr) (n c : Nat) (xs : List Lex.Tok) : Prop := Recs Lex.tokCells 3 W B A n c xs
end Go.Proofs.YtbdochcajpempaaDoor

/- lex's callees as All calls them: by what stands at the place. -/
namespace Go.Proofs.YtbdochcajpempaaDoor
open Go.RowKit

namespace Lex
theorem bl_extract (s : ByteArray) (a b : Nat) : bl (s.extract a b) = ((bl s).drop a).take (b - a) := by
  unfold bl
  rw [ByteArray.data_extract, Array.toList_extract]
theorem bl_from (s : ByteArray) (k : Nat) : bl (s.extract k s.size) = (bl s).drop k := by
  rw [bl_extract, List.take_of_length_le]
  rw [List.length_drop, bl_len]
  omega
theorem ba_ext {s t : ByteArray} (h : bl s = bl t) : s = t := by
  cases s; cases t
  simp only [bl] at h
  congr
  exact Array.toList_inj.1 h
theorem piece {s : ByteArray} {k n : Nat} {p r : Bs} (h : (bl s).drop k = p ++ r) (hn : p.length = n) : s.extract k (k + n) = ⟨p.toArray⟩ := by
  apply ba_ext
  rw [bl_extract, h, show k + n - k = n by omega, ← hn, List.take_left]
theorem suf_drop {s : ByteArray} {k : Nat} {d r : Bs} (h : (bl s).drop k = d ++ r) : (bl s).drop (s.size - r.length) = r := by
  have hl := congrArg List.length h
  rw [List.length_drop, bl_len, List.length_append] at hl
  rcases Nat.lt_or_ge k s.size with hk | hk
  · have e : s.size - r.length = k + d.length := by omega
    rw [e, ← List.drop_drop, h, List.drop_left]
  · have hr : r = [] := by
      apply List.eq_nil_of_length_eq_zero
      omega
    subst hr
    exact drop_all s _ (by simp)
theorem head_of {t : ByteArray} {c : UInt8} {r : Bs} (h : bl t = c :: r) : ∃ h0 : 0 < t.size, t[0] = c ∧ (bl t).drop 1 = r ∧ t.size = r.length + 1 := by
  have hl := congrArg List.length h
  rw [bl_len, List.length_cons] at hl
  have h0 : 0 < t.size := by omega
  refine ⟨h0, ?_, by rw [h]; rfl, hl⟩
  have := drop_cons t 0 h0
  rw [List.drop_zero, h] at this
  injection this with h1 h2
  exact h1.symm
theorem while_len (p : UInt8 → Bool) (l : Bs) : (l.takeWhile p).length + (l.dropWhile p).length = l.length := split_len p l
end Lex
theorem begins_at (t : ByteArray) (c : UInt8) (r : Lex.Bs) (w : World) (h : Lex.bl t = c :: r) :
    Calls Tryd.prog 40 #[.string t] w fun e w' => e = .returned (.tuple #[.int .i64 ((Lex.begins c r).1 : Nat), .int .i64 ((Lex.begins c r).2 : Nat)]) ∧ w = w' := by
  obtain ⟨h0, h1, h2, h3⟩ := Lex.head_of h
  have := begins_any t h0 w
  rw [h1, h2] at this
  exact this
theorem run_at (t : ByteArray) (b : Bool) (c : UInt8) (r : Lex.Bs) (w : World) (h : Lex.bl t = c :: r) (hs : t.size ≤ 4611686018427387904) :
    Calls Tryd.prog 42 #[.string t, .bool b] w fun e w' => e = .returned (.int .i64 (((r.takeWhile (Lex.goes b)).length + 1 : Nat) : Int)) ∧ w = w' := by
  obtain ⟨h0, h1, h2, h3⟩ := Lex.head_of h
  have hr := run_any t b h0 hs w
  have e : Lex.runAt t b 1 = (r.takeWhile (Lex.goes b)).length + 1 := by
    unfold Lex.runAt
    rw [h2, h3]
    have := Lex.while_len (Lex.goes b) r
    omega
  rw [e] at hr
  exact hr
theorem text_at (t : ByteArray) (c : UInt8) (r : Lex.Bs) (w : World) (h : Lex.bl t = c :: r) (hs : t.size ≤ 70000000000000) :
    Calls Tryd.prog 41 #[.string t] w fun e w' => e = .returned (Lex.textV (r.length + 1) (Lex.text r 1)) ∧ Below w.heap.size w w' := by
  obtain ⟨h0, h1, h2, h3⟩ := Lex.head_of h
  have := text_any t h0 hs w
  rw [h2, h3] at this
  exact this
theorem skip_at (s : ByteArray) (x : Int) (i : Nat) (w : World) (hx : x = (i : Int)) (hi : i ≤ s.size) (hs : s.size ≤ 4611686018427387904) :
    Calls Tryd.prog 39 #[.string s, .int .i64 x] w fun e w' => e = .returned (.int .i64 (Lex.skipAt s false i : Nat)) ∧ w = w' := by
  subst hx
  exact skip_any s i hi hs w
end Go.Proofs.YtbdochcajpempaaDoor
