/- The walk of lex's text: what stands between quotes. -/
import Derived.Test.YtbdochcajpempaaLexE
import Derived.Test.YtbdochcajpempaaByt
import Derived.Below
namespace Go.Proofs.Ytbdochcajpempaa
open Go.RowKit

namespace Lex
theorem text_nil (i : Nat) : text [] i = .error (0, 12) := by unfold text; rfl
theorem text_end (l : Bs) (i : Nat) : text (34 :: l) i = .ok ([], l) := by unfold text; rw [if_pos rfl]
theorem text_lf (l : Bs) (i : Nat) : text (10 :: l) i = .error (0, 12) := by unfold text; rw [if_neg (by decide), if_pos rfl]
theorem text_plain {c : UInt8} (l : Bs) (i : Nat) (h1 : c ≠ 34) (h2 : c ≠ 10) (h3 : c ≠ 92) : text (c :: l) i = (text l (i + 1)).map (fun r => (c :: r.1, r.2)) := by
  conv => lhs; unfold text
  rw [if_neg h1, if_neg h2, if_neg h3]
theorem text_cut1 (i : Nat) : text [92] i = .error (0, 12) := by unfold text; rw [if_neg (by decide), if_neg (by decide), if_pos rfl]
theorem text_esc {d : UInt8} (l : Bs) (i : Nat) (h : d = 92 ∨ d = 34) : text (92 :: d :: l) i = (text l (i + 2)).map (fun r => (d :: r.1, r.2)) := by
  conv => lhs; unfold text
  rw [if_neg (by decide), if_neg (by decide), if_pos rfl]
  simp only [h, if_true]
theorem text_n (l : Bs) (i : Nat) : text (92 :: 110 :: l) i = (text l (i + 2)).map (fun r => (10 :: r.1, r.2)) := by
  conv => lhs; unfold text
  rw [if_neg (by decide), if_neg (by decide), if_pos rfl]
  simp only [show ¬ ((110 : UInt8) = 92 ∨ (110 : UInt8) = 34) by decide, if_false, if_true]
theorem text_bad {d : UInt8} (l : Bs) (i : Nat) (h : ¬ (d = 92 ∨ d = 34)) (hn : d ≠ 110) : text (92 :: d :: l) i = .error (i, 1) := by
  conv => lhs; unfold text
  rw [if_neg (by decide), if_neg (by decide), if_pos rfl]
  simp only [h, hn, if_false]
/-- what has been read, put ahead -/
def ahead (acc : Bs) (x : Except (Nat × Int) (Bs × Bs)) : Except (Nat × Int) (Bs × Bs) := x.map fun r => (acc ++ r.1, r.2)
theorem ahead_nil (x : Except (Nat × Int) (Bs × Bs)) : ahead [] x = x := by cases x <;> rfl
theorem ahead_snoc (acc : Bs) (c : UInt8) (x : Except (Nat × Int) (Bs × Bs)) : ahead acc (x.map fun r => (c :: r.1, r.2)) = ahead (acc ++ [c]) x := by
  cases x with
  | error e => rfl
  | ok v => simp [ahead, Except.map]
theorem ahead_err (acc : Bs) (m : Nat) (e : Int) : ahead acc (.error (m, e)) = .error (m, e) := rfl
/-- what text hands back -/
def textV (n : Nat) : Except (Nat × Int) (Bs × Bs) → Value
  | .error (m, e) => .tuple #[.string ⟨#[]⟩, .int .i64 (m : Int), .int .i64 e]
  | .ok (p, r) => .tuple #[.string ⟨p.toArray⟩, .int .i64 ((n - r.length : Nat) : Int), .int .i64 0]
theorem textV_ok {s : ByteArray} (acc : Bs) (k : Nat) (h : k < s.size) : Ending.returned (.tuple #[.string ⟨acc.toArray⟩, .int .i64 ((k : Int) + 1), .int .i64 0]) = .returned (textV s.size (.ok (acc, (bl s).drop (k + 1)))) := by
  have : s.size - ((bl s).drop (k + 1)).length = k + 1 := by
    rw [List.length_drop, bl_len]
    omega
  show _ = Ending.returned (.tuple #[.string ⟨acc.toArray⟩, .int .i64 ((s.size - ((bl s).drop (k + 1)).length : Nat) : Int), .int .i64 0])
  rw [this]
  rfl
end Lex

set_option maxHeartbeats 4000000 in
theorem text_any (s : ByteArray) (h0 : 1 ≤ s.size) (hs : s.size ≤ 70000000000000) (w : World) :
    Calls Try.prog 37 #[.string s] w fun e w' => e = .returned (Lex.textV s.size (Lex.text ((Lex.bl s).drop 1) 1)) ∧ Below w.heap.size w w' := by
  obtain ⟨i0, hi, hz0, hz1, hz2⟩ := info_parts Byt.infoByte
  go_enter Try.func37, Try.ntmps37
  go_wp2
  go_loopw [5, 6] (fun v i wr => ∃ (k : Nat) (acc : Lex.Bs), 1 ≤ k ∧ k ≤ s.size ∧ i = .int .i64 k ∧ acc.length ≤ k ∧ wr.ownsRow w.heap.size 5 1 v acc.length (Lib.byteCells acc) ∧ Below w.heap.size w wr ∧
      Lex.text ((Lex.bl s).drop 1) 1 = Lex.ahead acc (Lex.text ((Lex.bl s).drop k) k)) (fun _ i _ => s.size - (intOf i).toNat)
  case atStart => exact ⟨1, [], Nat.le_refl _, h0, rfl, Nat.zero_le _, World.ownsRow_nil _ _ _ _, Below.refl _ _, (Lex.ahead_nil _).symm⟩
  case round =>
    obtain ⟨k, acc, h1k, hk, rfl, hacc, hown, hb, ht⟩ := hrel
    have HT := Lib.hid ht
    have HO := Lib.hid hown
    clear ht hown
    by_cases hlt : k < s.size
    · obtain ⟨c, hc⟩ : ∃ c, s[k] = c := ⟨_, rfl⟩
      have hd := Lex.drop_cons s k hlt
      rw [hc] at hd
      have HD := Lib.hid hd
      clear hd
      have hbs := hb.size
      rcases h34 : (c == 34) with _ | _
      · have n34 : ((c.toNat : Int) == 34) = false := Lex.int_ne (n := 34) (by decide) h34
        have c34 : c ≠ 34 := ne_of_beq_false h34
        rcases h10 : (c == 10) with _ | _
        · have n10 : ((c.toNat : Int) == 10) = false := Lex.int_ne (n := 10) (by decide) h10
          have c10 : c ≠ 10 := ne_of_beq_false h10
          rcases h92 : (c == 92) with _ | _
          · have n92 : ((c.toNat : Int) != 92) = true := by
              have := Lex.int_ne (n := 92) (by decide) h92
              simpa using this
            have c92 : c ≠ 92 := ne_of_beq_false h92
            have HN := Lib.hid (show Lex.text ((Lex.bl s).drop 1) 1 = Lex.ahead (acc ++ [c]) (Lex.text ((Lex.bl s).drop (k + 1)) (k + 1)) by
              rw [HT.out, HD.out, Lex.text_plain _ _ c34 c10 c92, Lex.ahead_snoc])
            clear h34 h10 h92 c34 c10 c92
            go_wp2_with (at_builtin; refine wpList_append_own _ rfl _ _ 75 rfl w.heap.size 5 i0 (.int .u8 0) 1 1 Try.underlying75 hi hz0 hz1 hz2 rfl (by decide) _ _ _ rfl (HO.out.alloc _) ⟨wr.heap.size, 0, none⟩ 1 1 [.int .u8 (c.toNat : Int)] rfl rfl ?c1 ?c2 ?c3 ?c4 ?c5 ?_)
            case c1 =>
              intro j u hj
              match j, hj with
              | 0, hj => simp at hj; subst hj; simp [Addr.add]
            case c2 => intro u hu; simp at hu; subst hu; rfl
            case c3 => unfold maxLen; omega
            case c4 => omega
            case c5 => simp; omega
            intro v' w2 hown' hgrow _
            have hb2 : Below w.heap.size w w2 := (hb.alloc hbs _).grown hgrow (by simp; omega) (fun g e => Byt.own_ge HO.out e)
            clear hgrow
            go_wp2
            go_roundw
            case rel => exact ⟨k + 1, acc ++ [c], by omega, by omega, by go_num, by simp; omega, Byt.own_snoc hown', hb2, HN.out⟩
            case measure => simp [intOf]; omega
          · have e92 : (c.toNat : Int) = 92 := Lex.int_eq (n := 92) (by decide) h92
            have c92 : c = 92 := eq_of_beq h92
            clear h34 h10 h92 c34 c10
            by_cases h1 : k + 1 < s.size
            · have hz : ((k : Int) + 1 == (s.size : Int)) = false := by simp; omega
              have hz' : (k : Int) + 1 < (s.size : Int) := by omega
              obtain ⟨d, hd⟩ : ∃ d, s[k + 1] = d := ⟨_, rfl⟩
              have hdd := Lex.drop_cons s (k + 1) h1
              rw [hd] at hdd
              have HD2 := Lib.hid (show (Lex.bl s).drop k = 92 :: d :: (Lex.bl s).drop (k + 2) by rw [HD.out, c92, hdd])
              clear hdd
              rcases d92 : (d == 92) with _ | _
              · have m92 : ((d.toNat : Int) == 92) = false := Lex.int_ne (n := 92) (by decide) d92
                rcases d34 : (d == 34) with _ | _
                · have m34 : ((d.toNat : Int) == 34) = false := Lex.int_ne (n := 34) (by decide) d34
                  rcases d110 : (d == 110) with _ | _
                  · have m110 : ((d.toNat : Int) == 110) = false := Lex.int_ne (n := 110) (by decide) d110
                    have HE := Lib.hid (show Lex.text ((Lex.bl s).drop 1) 1 = .error (k, 1) by
                      rw [HT.out, HD2.out, Lex.text_bad _ _ (fun h => h.elim (ne_of_beq_false d92) (ne_of_beq_false d34)) (ne_of_beq_false d110)]
                      rfl)
                    clear d92 d34 d110 c92
                    go_wp2
                    go_ret3
                    exact ⟨by rw [HE.out]; rfl, hb⟩
                  · have m110 : (d.toNat : Int) = 110 := Lex.int_eq (n := 110) (by decide) d110
                    have HN := Lib.hid (show Lex.text ((Lex.bl s).drop 1) 1 = Lex.ahead (acc ++ [10]) (Lex.text ((Lex.bl s).drop (k + 2)) (k + 2)) by
                      rw [HT.out, HD2.out, eq_of_beq d110, Lex.text_n, Lex.ahead_snoc])
                    clear d92 d34 d110 c92
                    go_wp2_with (at_builtin; refine wpList_append_own _ rfl _ _ 75 rfl w.heap.size 5 i0 (.int .u8 0) 1 1 Try.underlying75 hi hz0 hz1 hz2 rfl (by decide) _ _ _ rfl (HO.out.alloc _) ⟨wr.heap.size, 0, none⟩ 1 1 [.int .u8 10] rfl rfl ?c1 ?c2 ?c3 ?c4 ?c5 ?_)
                    case c1 =>
                      intro j u hj
                      match j, hj with
                      | 0, hj => simp at hj; subst hj; simp [Addr.add]
                    case c2 => intro u hu; simp at hu; subst hu; rfl
                    case c3 => unfold maxLen; omega
                    case c4 => omega
                    case c5 => simp; omega
                    intro v' w2 hown' hgrow _
                    have hb2 : Below w.heap.size w w2 := (hb.alloc hbs _).grown hgrow (by simp; omega) (fun g e => Byt.own_ge HO.out e)
                    clear hgrow
                    go_wp2
                    go_roundw
                    case rel => exact ⟨k + 2, acc ++ [10], by omega, by omega, by go_num, by simp; omega, Byt.own_snoc (c := 10) hown', hb2, HN.out⟩
                    case measure => simp [intOf]; omega
                · have m34 : (d.toNat : Int) = 34 := Lex.int_eq (n := 34) (by decide) d34
                  have HN := Lib.hid (show Lex.text ((Lex.bl s).drop 1) 1 = Lex.ahead (acc ++ [34]) (Lex.text ((Lex.bl s).drop (k + 2)) (k + 2)) by
                    rw [HT.out, HD2.out, eq_of_beq d34, Lex.text_esc _ _ (.inr rfl), Lex.ahead_snoc])
                  clear d92 d34 c92
                  go_wp2_with (at_builtin; refine wpList_append_own _ rfl _ _ 75 rfl w.heap.size 5 i0 (.int .u8 0) 1 1 Try.underlying75 hi hz0 hz1 hz2 rfl (by decide) _ _ _ rfl (HO.out.alloc _) ⟨wr.heap.size, 0, none⟩ 1 1 [.int .u8 34] rfl rfl ?c1 ?c2 ?c3 ?c4 ?c5 ?_)
                  case c1 =>
                    intro j u hj
                    match j, hj with
                    | 0, hj => simp at hj; subst hj; simp [Addr.add]
                  case c2 => intro u hu; simp at hu; subst hu; rfl
                  case c3 => unfold maxLen; omega
                  case c4 => omega
                  case c5 => simp; omega
                  intro v' w2 hown' hgrow _
                  have hb2 : Below w.heap.size w w2 := (hb.alloc hbs _).grown hgrow (by simp; omega) (fun g e => Byt.own_ge HO.out e)
                  clear hgrow
                  go_wp2
                  go_roundw
                  case rel => exact ⟨k + 2, acc ++ [34], by omega, by omega, by go_num, by simp; omega, Byt.own_snoc (c := 34) hown', hb2, HN.out⟩
                  case measure => simp [intOf]; omega
              · have m92 : (d.toNat : Int) = 92 := Lex.int_eq (n := 92) (by decide) d92
                have HN := Lib.hid (show Lex.text ((Lex.bl s).drop 1) 1 = Lex.ahead (acc ++ [92]) (Lex.text ((Lex.bl s).drop (k + 2)) (k + 2)) by
                  rw [HT.out, HD2.out, eq_of_beq d92, Lex.text_esc _ _ (.inl rfl), Lex.ahead_snoc])
                clear d92 c92
                go_wp2_with (at_builtin; refine wpList_append_own _ rfl _ _ 75 rfl w.heap.size 5 i0 (.int .u8 0) 1 1 Try.underlying75 hi hz0 hz1 hz2 rfl (by decide) _ _ _ rfl (HO.out.alloc _) ⟨wr.heap.size, 0, none⟩ 1 1 [.int .u8 92] rfl rfl ?c1 ?c2 ?c3 ?c4 ?c5 ?_)
                case c1 =>
                  intro j u hj
                  match j, hj with
                  | 0, hj => simp at hj; subst hj; simp [Addr.add]
                case c2 => intro u hu; simp at hu; subst hu; rfl
                case c3 => unfold maxLen; omega
                case c4 => omega
                case c5 => simp; omega
                intro v' w2 hown' hgrow _
                have hb2 : Below w.heap.size w w2 := (hb.alloc hbs _).grown hgrow (by simp; omega) (fun g e => Byt.own_ge HO.out e)
                clear hgrow
                go_wp2
                go_roundw
                case rel => exact ⟨k + 2, acc ++ [92], by omega, by omega, by go_num, by simp; omega, Byt.own_snoc (c := 92) hown', hb2, HN.out⟩
                case measure => simp [intOf]; omega
            · have hz : ((k : Int) + 1 == (s.size : Int)) = true := by simp; omega
              have HE := Lib.hid (show Lex.text ((Lex.bl s).drop 1) 1 = .error (0, 12) by
                rw [HT.out, HD.out, c92, Lex.drop_all s (k + 1) (by omega), Lex.text_cut1]
                rfl)
              clear c92
              go_wp2
              go_ret3
              exact ⟨by rw [HE.out]; rfl, hb⟩
        · have e10 : (c.toNat : Int) = 10 := Lex.int_eq (n := 10) (by decide) h10
          have c10 : c = 10 := eq_of_beq h10
          have HE := Lib.hid (show Lex.text ((Lex.bl s).drop 1) 1 = .error (0, 12) by
            rw [HT.out, HD.out, c10, Lex.text_lf]
            rfl)
          clear h34 h10 n34 c34 c10
          go_wp2
          go_ret3
          exact ⟨by rw [HE.out]; rfl, hb⟩
      · have e34 : (c.toNat : Int) = 34 := Lex.int_eq (n := 34) (by decide) h34
        have c34 : c = 34 := eq_of_beq h34
        have HE := Lib.hid (show Lex.text ((Lex.bl s).drop 1) 1 = .ok (acc, (Lex.bl s).drop (k + 1)) by
          rw [HT.out, HD.out, c34, Lex.text_end]
          simp [Lex.ahead, Except.map])
        have hcv := Byt.own_string HO.out
        clear h34 c34
        go_wp2
        go_ret3
        exact ⟨by rw [HE.out]; exact Lex.textV_ok acc k hlt, hb⟩
    · have HE := Lib.hid (show Lex.text ((Lex.bl s).drop 1) 1 = .error (0, 12) by
        rw [HT.out, Lex.drop_all s k (by omega), Lex.text_nil]
        rfl)
      go_wp2
      go_ret3
      exact ⟨by rw [HE.out]; rfl, hb⟩
end Go.Proofs.Ytbdochcajpempaa
