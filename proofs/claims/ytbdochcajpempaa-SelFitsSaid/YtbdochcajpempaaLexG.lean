/- The walk of lex's Quote: a text between quotes. -/
import Derived.Test.YtbdochcajpempaaLexF
namespace Go.Proofs.Ytbdochcajpempaa
open Go.RowKit

namespace Byt
theorem own_one (w : World) (x : Value) : (w.alloc (.cells #[x] 5)).ownsRow w.heap.size 5 1 (.slice (some ⟨w.heap.size, 0, none⟩) 1 1) 1 [x] := by
  refine ⟨rfl, .inr ⟨w.heap.size, 1, #[x], rfl, Nat.le_refl _, ?_, Nat.le_refl _, by decide, rfl, rfl⟩⟩
  show (w.heap.push _)[w.heap.size]? = _
  simp
theorem cells_two (l : List UInt8) (c d : UInt8) : Lib.byteCells (l ++ [c, d]) = Lib.byteCells l ++ [.int .u8 (c.toNat : Int), .int .u8 (d.toNat : Int)] := by simp [Lib.byteCells]
theorem own_snoc2 {w : World} {B : Nat} {v : Value} {l : List UInt8} {c d : UInt8} (h : w.ownsRow B 5 1 v (l.length + 2) (Lib.byteCells l ++ [.int .u8 (c.toNat : Int), .int .u8 (d.toNat : Int)])) :
    w.ownsRow B 5 1 v (l ++ [c, d]).length (Lib.byteCells (l ++ [c, d])) := by
  rw [cells_two, List.length_append]
  exact h
end Byt
namespace Lex
theorem quoteIn_esc {c : UInt8} (l : Bs) (h : c = 92 ∨ c = 34) : quoteIn (c :: l) = [92, c] ++ quoteIn l := by
  conv => lhs; unfold quoteIn
  rw [if_pos h]
  rfl
theorem quoteIn_lf (l : Bs) : quoteIn (10 :: l) = [92, 110] ++ quoteIn l := rfl
theorem quoteIn_plain {c : UInt8} (l : Bs) (h1 : c ≠ 92) (h2 : c ≠ 34) (h3 : c ≠ 10) : quoteIn (c :: l) = [c] ++ quoteIn l := by
  conv => lhs; unfold quoteIn
  rw [if_neg (fun h => h.elim h1 h2), if_neg h3]
  rfl
theorem quoteIn_len (l : Bs) : (quoteIn l).length ≤ 2 * l.length := by
  induction l with
  | nil => exact Nat.le_refl _
  | cons c l ih =>
    unfold quoteIn
    split
    · simp; omega
    · split
      · simp; omega
      · simp; omega
theorem quote_len (l : Bs) : (quote l).length ≤ 2 * l.length + 2 := by
  have := quoteIn_len l
  simp [quote]
  omega
end Lex

set_option maxHeartbeats 4000000 in
theorem quote_any (s : ByteArray) (hs : s.size ≤ 60000000000000) (w : World) :
    Calls Try.prog 30 #[.string s] w fun e w' => e = .returned (.string ⟨(Lex.quote (Lex.bl s)).toArray⟩) ∧ Below w.heap.size w w' := by
  obtain ⟨i0, hi, hz0, hz1, hz2⟩ := info_parts Byt.infoByte
  go_enter Try.func30, Try.ntmps30
  go_wp2
  go_loopw [3, 4, 21, 30] (fun v i _ _ wr => ∃ (k : Nat) (acc : Lex.Bs), k ≤ s.size ∧ i = .int .i64 k ∧ acc.length ≤ 2 * k + 1 ∧ wr.ownsRow w.heap.size 5 1 v acc.length (Lib.byteCells acc) ∧ Below w.heap.size w wr ∧
      Lex.quote (Lex.bl s) = acc ++ (Lex.quoteIn ((Lex.bl s).drop k) ++ [34])) (fun _ i _ _ _ => s.size - (intOf i).toNat)
  case atStart => exact ⟨0, [34], Nat.zero_le _, rfl, Nat.le_refl _, Byt.own_one w _, (Below.refl _ _).alloc (Nat.le_refl _) _, rfl⟩
  case round =>
    obtain ⟨k, acc, hk, rfl, hacc, hown, hb, hq⟩ := hrel
    have HT := Lib.hid hq
    have HO := Lib.hid hown
    clear hq hown
    have hbs := hb.size
    by_cases hlt : k < s.size
    · obtain ⟨c, hc⟩ : ∃ c, s[k] = c := ⟨_, rfl⟩
      have hd := Lex.drop_cons s k hlt
      rw [hc] at hd
      have HD := Lib.hid hd
      clear hd
      rcases h92 : (c == 92) with _ | _
      · have n92 : ((c.toNat : Int) == 92) = false := Lex.int_ne (n := 92) (by decide) h92
        have c92 : c ≠ 92 := ne_of_beq_false h92
        rcases h34 : (c == 34) with _ | _
        · have n34 : ((c.toNat : Int) == 34) = false := Lex.int_ne (n := 34) (by decide) h34
          have c34 : c ≠ 34 := ne_of_beq_false h34
          rcases h10 : (c == 10) with _ | _
          · have n10 : ((c.toNat : Int) == 10) = false := Lex.int_ne (n := 10) (by decide) h10
            have c10 : c ≠ 10 := ne_of_beq_false h10
            have HN := Lib.hid (show Lex.quote (Lex.bl s) = (acc ++ [c]) ++ (Lex.quoteIn ((Lex.bl s).drop (k + 1)) ++ [34]) by
              rw [HT.out, HD.out, Lex.quoteIn_plain _ c92 c34 c10]
              simp [List.append_assoc])
            clear h92 h34 h10 c92 c34 c10
            go_wp2_with (at_builtin; refine wpList_append_own _ rfl _ _ 75 rfl w.heap.size 5 i0 (.int .u8 0) 1 1 Try.underlying75 hi hz0 hz1 hz2 rfl (by decide) _ _ _ rfl (HO.out.alloc _) ⟨wr.heap.size, 0, none⟩ 1 1 [.int .u8 (c.toNat : Int)] rfl rfl ?c1 ?c2 ?c3 ?c4 ?c5 ?_)
            case c1 =>
              intro j u hj
              match j, hj with
              | 0, hj => simp at hj; subst hj; simp [Addr.add]
            case c2 => intro u hu; simp at hu; subst hu; rfl
            case c3 => unfold maxLen; omega
            case c4 => omega
            case c5 => simp; omega
            intro v' w2 hown' hgrow _
            have hb2 : Below w.heap.size w w2 := (hb.alloc hbs _).grown hgrow (by simp; omega) (fun g e => Byt.own_ge HO.out e)
            clear hgrow
            go_wp2
            go_roundw
            case rel => exact ⟨k + 1, acc ++ [c], by omega, by go_num, by simp; omega, Byt.own_snoc hown', hb2, HN.out⟩
            case measure => simp [intOf]; omega
          · have e10 : (c.toNat : Int) = 10 := Lex.int_eq (n := 10) (by decide) h10
            have HN := Lib.hid (show Lex.quote (Lex.bl s) = (acc ++ [92, 110]) ++ (Lex.quoteIn ((Lex.bl s).drop (k + 1)) ++ [34]) by
              rw [HT.out, HD.out, eq_of_beq h10, Lex.quoteIn_lf]
              simp [List.append_assoc])
            clear h92 h34 h10 c92 c34
            go_wp2_with (at_builtin; refine wpList_append_own _ rfl _ _ 75 rfl w.heap.size 5 i0 (.int .u8 0) 1 1 Try.underlying75 hi hz0 hz1 hz2 rfl (by decide) _ _ _ rfl (HO.out.alloc _) ⟨wr.heap.size, 0, none⟩ 2 2 [.int .u8 92, .int .u8 110] rfl rfl ?c1 ?c2 ?c3 ?c4 ?c5 ?_)
            case c1 =>
              intro j u hj
              match j, hj with
              | 0, hj => simp at hj; subst hj; simp [Addr.add]
              | 1, hj => simp at hj; subst hj; simp [Addr.add]
            case c2 => intro u hu; simp at hu; rcases hu with rfl | rfl <;> rfl
            case c3 => unfold maxLen; omega
            case c4 => omega
            case c5 => simp; omega
            intro v' w2 hown' hgrow _
            have hb2 : Below w.heap.size w w2 := (hb.alloc hbs _).grown hgrow (by simp; omega) (fun g e => Byt.own_ge HO.out e)
            clear hgrow
            go_wp2
            go_roundw
            case rel => exact ⟨k + 1, acc ++ [92, 110], by omega, by go_num, by simp; omega, Byt.own_snoc2 (c := 92) (d := 110) hown', hb2, HN.out⟩
            case measure => simp [intOf]; omega
        · have e34 : (c.toNat : Int) = 34 := Lex.int_eq (n := 34) (by decide) h34
          have HN := Lib.hid (show Lex.quote (Lex.bl s) = (acc ++ [92, 34]) ++ (Lex.quoteIn ((Lex.bl s).drop (k + 1)) ++ [34]) by
            rw [HT.out, HD.out, eq_of_beq h34, Lex.quoteIn_esc _ (.inr rfl)]
            simp [List.append_assoc])
          clear h92 h34 c92
          go_wp2_with (at_builtin; refine wpList_append_own _ rfl _ _ 75 rfl w.heap.size 5 i0 (.int .u8 0) 1 1 Try.underlying75 hi hz0 hz1 hz2 rfl (by decide) _ _ _ rfl (HO.out.alloc _) ⟨wr.heap.size, 0, none⟩ 2 2 [.int .u8 92, .int .u8 34] rfl rfl ?c1 ?c2 ?c3 ?c4 ?c5 ?_)
          case c1 =>
            intro j u hj
            match j, hj with
            | 0, hj => simp at hj; subst hj; simp [Addr.add]
            | 1, hj => simp at hj; subst hj; simp [Addr.add]
          case c2 => intro u hu; simp at hu; rcases hu with rfl | rfl <;> rfl
          case c3 => unfold maxLen; omega
          case c4 => omega
          case c5 => simp; omega
          intro v' w2 hown' hgrow _
          have hb2 : Below w.heap.size w w2 := (hb.alloc hbs _).grown hgrow (by simp; omega) (fun g e => Byt.own_ge HO.out e)
          clear hgrow
          go_wp2
          go_roundw
          case rel => exact ⟨k + 1, acc ++ [92, 34], by omega, by go_num, by simp; omega, Byt.own_snoc2 (c := 92) (d := 34) hown', hb2, HN.out⟩
          case measure => simp [intOf]; omega
      · have e92 : (c.toNat : Int) = 92 := Lex.int_eq (n := 92) (by decide) h92
        have HN := Lib.hid (show Lex.quote (Lex.bl s) = (acc ++ [92, 92]) ++ (Lex.quoteIn ((Lex.bl s).drop (k + 1)) ++ [34]) by
          rw [HT.out, HD.out, eq_of_beq h92, Lex.quoteIn_esc _ (.inl rfl)]
          simp [List.append_assoc])
        clear h92
        go_wp2_with (at_builtin; refine wpList_append_own _ rfl _ _ 75 rfl w.heap.size 5 i0 (.int .u8 0) 1 1 Try.underlying75 hi hz0 hz1 hz2 rfl (by decide) _ _ _ rfl (HO.out.alloc _) ⟨wr.heap.size, 0, none⟩ 2 2 [.int .u8 92, .int .u8 92] rfl rfl ?c1 ?c2 ?c3 ?c4 ?c5 ?_)
        case c1 =>
          intro j u hj
          match j, hj with
          | 0, hj => simp at hj; subst hj; simp [Addr.add]
          | 1, hj => simp at hj; subst hj; simp [Addr.add]
        case c2 => intro u hu; simp at hu; rcases hu with rfl | rfl <;> rfl
        case c3 => unfold maxLen; omega
        case c4 => omega
        case c5 => simp; omega
        intro v' w2 hown' hgrow _
        have hb2 : Below w.heap.size w w2 := (hb.alloc hbs _).grown hgrow (by simp; omega) (fun g e => Byt.own_ge HO.out e)
        clear hgrow
        go_wp2
        go_roundw
        case rel => exact ⟨k + 1, acc ++ [92, 92], by omega, by go_num, by simp; omega, Byt.own_snoc2 (c := 92) (d := 92) hown', hb2, HN.out⟩
        case measure => simp [intOf]; omega
    · have HN := Lib.hid (show Lex.quote (Lex.bl s) = acc ++ [34] by
        rw [HT.out, Lex.drop_all s k (by omega)]
        rfl)
      go_wp2_with (at_builtin; refine wpList_append_own _ rfl _ _ 75 rfl w.heap.size 5 i0 (.int .u8 0) 1 1 Try.underlying75 hi hz0 hz1 hz2 rfl (by decide) _ _ _ rfl (HO.out.alloc _) ⟨wr.heap.size, 0, none⟩ 1 1 [.int .u8 34] rfl rfl ?c1 ?c2 ?c3 ?c4 ?c5 ?_)
      case c1 =>
        intro j u hj
        match j, hj with
        | 0, hj => simp at hj; subst hj; simp [Addr.add]
      case c2 => intro u hu; simp at hu; subst hu; rfl
      case c3 => unfold maxLen; omega
      case c4 => omega
      case c5 => simp; omega
      intro v' w2 hown' hgrow _
      have hb2 : Below w.heap.size w w2 := (hb.alloc hbs _).grown hgrow (by simp; omega) (fun g e => Byt.own_ge HO.out e)
      clear hgrow
      have hcv := Byt.own_string (Byt.own_snoc (c := 34) hown')
      go_wp2
      go_ret
      exact ⟨by rw [HN.out]; rfl, hb2⟩
end Go.Proofs.Ytbdochcajpempaa
