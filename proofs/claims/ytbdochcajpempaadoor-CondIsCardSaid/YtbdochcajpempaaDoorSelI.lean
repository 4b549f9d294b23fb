/- The walk of the reference's Quote. -/
import Derived.Test.YtbdochcajpempaaDoorLexI
namespace Go.Proofs.YtbdochcajpempaaDoor
open Go.RowKit
set_option linter.unusedSimpArgs false
set_option linter.unusedVariables false

namespace Lex
theorem bl_append (a b : ByteArray) : bl (a ++ b) = bl a ++ bl b := by simp [bl]
theorem mk_bl (s : ByteArray) : (⟨(bl s).toArray⟩ : ByteArray) = s := ba_ext (by simp [bl])
theorem bl_mk (l : Bs) : bl ⟨l.toArray⟩ = l := by simp [bl]
theorem size_mk (l : Bs) : (⟨l.toArray⟩ : ByteArray).size = l.length := by simp [ByteArray.size]
theorem size_bl (s : ByteArray) : s.size = (bl s).length := by
  show s.data.size = s.data.toList.length
  rw [Array.length_toList]
end Lex
set_option maxRecDepth 100000 in
set_option maxHeartbeats 4000000 in
theorem rQuote_any (s : ByteArray) (hs : s.size ≤ 60000000000000) (w : World) :
    Calls Tryd.prog 54 #[.string s] w fun e w' => e = .returned (.string ⟨(Lex.quote (Lex.bl s)).toArray⟩) ∧ Below w.heap.size w w' := by
  obtain ⟨i0, hi, hz0, hz1, hz2⟩ := info_parts Byt.infoByte
  go_enter Tryd.func54, Tryd.ntmps54
  go_wp2
  go_loopw [3, 4, 21, 30] (fun v i _ _ wr => ∃ (k : Nat) (acc : Lex.Bs), k ≤ s.size ∧ i = .int .i64 k ∧ acc.length ≤ 2 * k + 1 ∧ wr.ownsRow w.heap.size 5 1 v acc.length (Lib.byteCells acc) ∧ Below w.heap.size w wr ∧
      Lex.quote (Lex.bl s) = acc ++ (Lex.quoteIn ((Lex.bl s).drop k) ++ [34])) (fun _ i _ _ _ => s.size - (intOf i).toNat)
  case atStart => exact ⟨0, [34], Nat.zero_le _, rfl, Nat.le_refl _, Byt.own_one w _, (Below.refl _ _).alloc (Nat.le_refl _) _, rfl⟩
  case round =>
    obtain ⟨k, acc, hk, rfl, hacc, hown, hb, hq⟩ := hrel
    have HT := Lib.hid hq
    have HO := Lib.hid hown
    clear hq hown
    have hbs := hb.size
    by_cases hlt : k < s.size
    · obtain ⟨c, hc⟩ : ∃ c, s[k] = c := ⟨_, rfl⟩
      have hd := Lex.drop_cons s k hlt
      rw [hc] at hd
      have HD := Lib.hid hd
      clear hd
      rcases h92 : (c == 92) with _ | _
      · have n92 : ((c.toNat : Int) == 92) = false := Lex.int_ne (n := 92) (by decide) h92
        have c92 : c ≠ 92 := ne_of_beq_false h92
        rcases h34 : (c == 34) with _ | _
        · have n34 : ((c.toNat : Int) == 34) = false := Lex.int_ne (n := 34) (by decide) h34
          have c34 : c ≠ 34 := ne_of_beq_false h34
          rcases h10 : (c == 10) with _ | _
          · have n10 : ((c.toNat : Int) == 10) = false := Lex.int_ne (n := 10) (by decide) h10
            have c10 : c ≠ 10 := ne_of_beq_false h10
            have HN := Lib.hid (show Lex.quote (Lex.bl s) = (acc ++ [c]) ++ (Lex.quoteIn ((Lex.bl s).drop (k + 1)) ++ [34]) by
              rw [HT.out, HD.out, Lex.quoteIn_plain _ c92 c34 c10]
              simp [List.append_assoc])
            clear h92 h34 h10 c92 c34 c10
            go_wp2_with (at_builtin; refine wpList_append_own _ rfl _ _ 83 rfl w.heap.size 5 i0 (.int .u8 0) 1 1 Tryd.underlying83 hi hz0 hz1 hz2 rfl (by decide) _ _ _ rfl (HO.out.alloc _) ⟨wr.heap.size, 0, none⟩ 1 1 [.int .u8 (c.toNat : Int)] rfl rfl ?c1 ?c2 ?c3 ?c4 ?c5 ?_)
            case c1 =>
              intro j u hj
              match j, hj with
              | 0, hj => simp at hj; subst hj; simp [Addr.add]
            case c2 => intro u hu; simp at hu; subst hu; rfl
            case c3 => unfold maxLen; omega
            case c4 => omega
            case c5 => simp; omega
            intro v' w2 hown' hgrow _
            have hb2 : Below w.heap.size w w2 := (hb.alloc hbs _).grown hgrow (by simp; omega) (fun g e => Byt.own_ge HO.out e)
            clear hgrow
            go_wp2
            go_roundw
            case rel => exact ⟨k + 1, acc ++ [c], by omega, by go_num, by simp; omega, Byt.own_snoc hown', hb2, HN.out⟩
            case measure => simp [intOf]; omega
          · have e10 : (c.toNat : Int) = 10 := Lex.int_eq (n := 10) (by decide) h10
            have HN := Lib.hid (show Lex.quote (Lex.bl s) = (acc ++ [92, 110]) ++ (Lex.quoteIn ((Lex.bl s).drop (k + 1)) ++ [34]) by
              rw [HT.out, HD.out, eq_of_beq h10, Lex.quoteIn_lf]
              simp [List.append_assoc])
            clear h92 h34 h10 c92 c34
            go_wp2_with (at_builtin; refine wpList_append_own _ rfl _ _ 83 rfl w.heap.size 5 i0 (.int .u8 0) 1 1 Tryd.underlying83 hi hz0 hz1 hz2 rfl (by decide) _ _ _ rfl (HO.out.alloc _) ⟨wr.heap.size, 0, none⟩ 2 2 [.int .u8 92, .int .u8 110] rfl rfl ?c1 ?c2 ?c3 ?c4 ?c5 ?_)
            case c1 =>
              intro j u hj
              match j, hj with
              | 0, hj => simp at hj; subst hj; simp [Addr.add]
              | 1, hj => simp at hj; subst hj; simp [Addr.add]
            case c2 => intro u hu; simp at hu; rcases hu with rfl | rfl <;> rfl
            case c3 => unfold maxLen; omega
            case c4 => omega
            case c5 => simp; omega
            intro v' w2 hown' hgrow _
            have hb2 : Below w.heap.size w w2 := (hb.alloc hbs _).grown hgrow (by simp; omega) (fun g e => Byt.own_ge HO.out e)
            clear hgrow
            go_wp2
            go_roundw
            case rel => exact ⟨k + 1, acc ++ [92, 110], by omega, by go_num, by simp; omega, Byt.own_snoc2 (c := 92) (d := 110) hown', hb2, HN.out⟩
            case measure => simp [intOf]; omega
        · have e34 : (c.toNat : Int) = 34 := Lex.int_eq (n := 34) (by decide) h34
          have HN := Lib.hid (show Lex.quote (Lex.bl s) = (acc ++ [92, 34]) ++ (Lex.quoteIn ((Lex.bl s).drop (k + 1)) ++ [34]) by
            rw [HT.out, HD.out, eq_of_beq h34, Lex.quoteIn_esc _ (.inr rfl)]
            simp [List.append_assoc])
          clear h92 h34 c92
          go_wp2_with (at_builtin; refine wpList_append_own _ rfl _ _ 83 rfl w.heap.size 5 i0 (.int .u8 0) 1 1 Tryd.underlying83 hi hz0 hz1 hz2 rfl (by decide) _ _ _ rfl (HO.out.alloc _) ⟨wr.heap.size, 0, none⟩ 2 2 [.int .u8 92, .int .u8 34] rfl rfl ?c1 ?c2 ?c3 ?c4 ?c5 ?_)
          case c1 =>
            intro j u hj
            match j, hj with
            | 0, hj => simp at hj; subst hj; simp [Addr.add]
            | 1, hj => simp at hj; subst hj; simp [Addr.add]
          case c2 => intro u hu; simp at hu; rcases hu with rfl | rfl <;> rfl
          case c3 => unfold maxLen; omega
          case c4 => omega
          case c5 => simp; omega
          intro v' w2 hown' hgrow _
          have hb2 : Below w.heap.size w w2 := (hb.alloc hbs _).grown hgrow (by simp; omega) (fun g e => Byt.own_ge HO.out e)
          clear hgrow
          go_wp2
          go_roundw
          case rel => exact ⟨k + 1, acc ++ [92, 34], by omega, by go_num, by simp; omega, Byt.own_snoc2 (c := 92) (d := 34) hown', hb2, HN.out⟩
          case measure => simp [intOf]; omega
      · have e92 : (c.toNat : Int) = 92 := Lex.int_eq (n := 92) (by decide) h92
        have HN := Lib.hid (show Lex.quote (Lex.bl s) = (acc ++ [92, 92]) ++ (Lex.quoteIn ((Lex.bl s).drop (k + 1)) ++ [34]) by
          rw [HT.out, HD.out, eq_of_beq h92, Lex.quoteIn_esc _ (.inl rfl)]
          simp [List.append_assoc])
        clear h92
        go_wp2_with (at_builtin; refine wpList_append_own _ rfl _ _ 83 rfl w.heap.size 5 i0 (.int .u8 0) 1 1 Tryd.underlying83 hi hz0 hz1 hz2 rfl (by decide) _ _ _ rfl (HO.out.alloc _) ⟨wr.heap.size, 0, none⟩ 2 2 [.int .u8 92, .int .u8 92] rfl rfl ?c1 ?c2 ?c3 ?c4 ?c5 ?_)
        case c1 =>
          intro j u hj
          match j, hj with
          | 0, hj => simp at hj; subst hj; simp [Addr.add]
          | 1, hj => simp at hj; subst hj; simp [Addr.add]
        case c2 => intro u hu; simp at hu; rcases hu with rfl | rfl <;> rfl
        case c3 => unfold maxLen; omega
        case c4 => omega
        case c5 => simp; omega
        intro v' w2 hown' hgrow _
        have hb2 : Below w.heap.size w w2 := (hb.alloc hbs _).grown hgrow (by simp; omega) (fun g e => Byt.own_ge HO.out e)
        clear hgrow
        go_wp2
        go_roundw
        case rel => exact ⟨k + 1, acc ++ [92, 92], by omega, by go_num, by simp; omega, Byt.own_snoc2 (c := 92) (d := 92) hown', hb2, HN.out⟩
        case measure => simp [intOf]; omega
    · have HN := Lib.hid (show Lex.quote (Lex.bl s) = acc ++ [34] by
        rw [HT.out, Lex.drop_all s k (by omega)]
        rfl)
      have hcv := Byt.own_string HO.out
      have hns : ¬ 9223372036854775807 < (⟨acc.toArray⟩ : ByteArray).size + (⟨#[34]⟩ : ByteArray).size := by
        show ¬ 9223372036854775807 < acc.toArray.size + 1
        simp
        omega
      have HQS := Lib.hid (show (⟨acc.toArray⟩ : ByteArray) ++ ⟨#[34]⟩ = ⟨(Lex.quote (Lex.bl s)).toArray⟩ from Lex.ba_ext (by rw [Lex.bl_append, HN.out, Lex.bl_mk, Lex.bl_mk]))
      go_wp2
      go_ret
      exact ⟨by rw [← HQS.out]; rfl, hb⟩
end Go.Proofs.YtbdochcajpempaaDoor
