/- The walks of num's awake, and of the laws NumIs, NumBack. -/
import Derived.Test.YtnallbhckeoldaaDoorNumE
import Derived.Test.YtnallbhckeoldaaDoorRow
namespace Go.Proofs.YtnallbhckeoldaaDoor
open Go.RowKit
set_option linter.unusedSimpArgs false
set_option linter.unusedVariables false

theorem parse_is (s : ByteArray) (hs : s.size ≤ 4611686018427387904) (w : World) (d e : Int) (h : Num.parse (Num.bl s) = (d, e)) :
    Calls Tryd.prog 10 #[.string s] w fun en w' => en = .returned (.tuple #[.int .i64 d, .int .i64 e]) ∧ Below w.heap.size w w' := by
  have := parse_any s hs w
  rw [h] at this
  exact this
theorem rParse_is (s : ByteArray) (hs : s.size ≤ 4611686018427387904) (w : World) (d e : Int) (h : Num.parse (Num.bl s) = (d, e)) :
    Calls Tryd.prog 11 #[.string s] w fun en w' => en = .returned (.tuple #[.int .i64 d, .int .i64 e]) ∧ Below w.heap.size w w' := by
  have := rParse_any s hs w
  rw [h] at this
  exact this
theorem print_is (x d : Int) (hx : x = d) (w : World) (hG : Glob w) (t : ByteArray) (h : (⟨(Num.print d).toArray⟩ : ByteArray) = t) :
    Calls Tryd.prog 14 #[.int .i64 x] w fun e w' => e = .returned (.string t) ∧ Below w.heap.size w w' := by
  subst hx h
  exact print_any x w hG
theorem rPrint_is (d : Int) (w : World) (t : ByteArray) (h : (⟨(Num.print d).toArray⟩ : ByteArray) = t) :
    Calls Tryd.prog 15 #[.int .i64 d] w fun e w' => e = .returned (.string t) ∧ Below w.heap.size w w' := by
  subst h
  exact rPrint_any d w
theorem sane_is (d : Int) (b : Bool) (h : Num.sane d = b) (w : World) : Calls Tryd.prog 12 #[.int .i64 d] w fun e w' => e = .returned (.bool b) ∧ w = w' := by
  subst h
  exact sane_any d w
theorem rSane_is (d : Int) (b : Bool) (h : Num.sane d = b) (w : World) : Calls Tryd.prog 13 #[.int .i64 d] w fun e w' => e = .returned (.bool b) ∧ w = w' := by
  subst h
  exact rSane_any d w
theorem ex1 : Num.parse (Num.bl ⟨#[48, 48, 55, 46, 53, 48]⟩) = (7500, 0) := by decide
theorem ex2 : Num.parse (Num.bl ⟨#[49, 46]⟩) = (0, 1) := by decide
theorem ex3 : (⟨(Num.print (-1500)).toArray⟩ : ByteArray) = ⟨#[45, 49, 46, 53]⟩ := by
  rw [show Num.print (-1500) = 45 :: Num.pos 1500 from rfl]
  unfold Num.pos
  rw [show 1500 / 1000 = 1 from rfl, digs_one (by decide)]
  rfl
theorem ex4 : (⟨(Num.print 20).toArray⟩ : ByteArray) = ⟨#[48, 46, 48, 50]⟩ := by
  rw [show Num.print 20 = Num.pos 20 from rfl]
  unfold Num.pos
  rw [show 20 / 1000 = 0 from rfl, digs_one (by decide)]
  rfl

set_option maxRecDepth 100000 in
set_option maxHeartbeats 4000000 in
theorem awake_any (w : World) (hG : Glob w) : Calls Tryd.prog 9 #[] w fun e w' => e = .returned (.bool true) ∧ Below w.heap.size w w' := by
  have HG := Lib.hid hG
  clear hG
  go_enter Tryd.func9, Tryd.ntmps9
  go_wp2_with fail
  refine (parse_is _ (by decide) w _ _ ex1).mono ?_
  rintro e w1 ⟨rfl, hb1⟩
  go_wp2_with fail
  refine (parse_is _ (by decide) w1 _ _ ex2).mono ?_
  rintro e w2 ⟨rfl, hb2⟩
  have hb2' := hb1.trans (hb2.mono hb1.size)
  have HG2 := Lib.hid (HG.out.below hb2')
  go_wp2_with fail
  refine (print_is _ (-1500) rfl w2 HG2.out _ ex3).mono ?_
  rintro e w3 ⟨rfl, hb3⟩
  have hb3' := hb2'.trans (hb3.mono hb2'.size)
  have HG3 := Lib.hid (HG.out.below hb3')
  go_wp2_with fail
  refine (print_is _ 20 rfl w3 HG3.out _ ex4).mono ?_
  rintro e w4 ⟨rfl, hb4⟩
  have hb4' := hb3'.trans (hb4.mono hb3'.size)
  go_wp2_with fail
  refine (sane_is _ true (by decide) _).mono ?_
  rintro e w6 ⟨rfl, rfl⟩
  go_wp2_with fail
  refine (sane_is _ false (by decide) _).mono ?_
  rintro e w6 ⟨rfl, rfl⟩
  go_wp2
  go_ret
  exact ⟨rfl, hb4'⟩

set_option maxRecDepth 100000 in
set_option maxHeartbeats 4000000 in
theorem numIs_any (d : Int) (s : ByteArray) (w : World) (hG : Glob w) : Calls Tryd.prog 3 #[.int .i64 d, .string s] w (LawR w) := by
  have HG := Lib.hid hG
  clear hG
  by_cases hs : 1000 < s.size
  · have hs1 : decide ((1000 : Int) < (s.size : Int)) = true := by simp; omega
    go_enter Tryd.func3, Tryd.ntmps3
    go_wp2_with fail
    refine (awake_any w HG.out).mono ?_
    rintro e w1 ⟨rfl, hb1⟩
    go_wp2
    go_ret
    exact ⟨rfl, hb1⟩
  · have hs1 : decide ((1000 : Int) < (s.size : Int)) = false := by simp; omega
    have hs2 : s.size ≤ 4611686018427387904 := by omega
    obtain ⟨x, e, hxe⟩ : ∃ x e, Num.parse (Num.bl s) = (x, e) := ⟨_, _, rfl⟩
    obtain ⟨t, ht⟩ : ∃ t : ByteArray, (⟨(Num.print d).toArray⟩ : ByteArray) = t := ⟨_, rfl⟩
    obtain ⟨b, hb⟩ : ∃ b, Num.sane d = b := ⟨_, rfl⟩
    have HX := Lib.hid hxe
    have HT := Lib.hid ht
    have HB := Lib.hid hb
    clear hxe ht hb hs
    go_enter Tryd.func3, Tryd.ntmps3
    go_wp2_with fail
    refine (awake_any w HG.out).mono ?_
    rintro e w1 ⟨rfl, hb1⟩
    go_wp2_with fail
    refine (parse_is s hs2 w1 _ _ HX.out).mono ?_
    rintro e w2 ⟨rfl, hb2⟩
    have hb2' := hb1.trans (hb2.mono hb1.size)
    clear hb1 hb2
    go_wp2_with fail
    refine (rParse_is s hs2 w2 _ _ HX.out).mono ?_
    rintro e w3 ⟨rfl, hb3⟩
    have hb3' := hb2'.trans (hb3.mono hb2'.size)
    clear hb2' hb3
    go_wp2_with fail
    refine (sane_is _ b HB.out _).mono ?_
    rintro e w4 ⟨rfl, rfl⟩
    go_wp2_with fail
    refine (rSane_is _ b HB.out _).mono ?_
    rintro e w4 ⟨rfl, rfl⟩
    rcases b with _ | _
    all_goals
      go_wp2_with fail
      refine (print_is d d rfl w3 (HG.out.below hb3') t HT.out).mono ?_
      rintro e w4 ⟨rfl, hb4⟩
      have hb4' := hb3'.trans (hb4.mono hb3'.size)
      go_wp2_with fail
      refine (rPrint_is d w4 t HT.out).mono ?_
      rintro e w5 ⟨rfl, hb5⟩
      have hb5' := hb4'.trans (hb5.mono hb4'.size)
      go_wp2
      go_ret
      exact ⟨rfl, hb5'⟩
namespace Num
theorem pos_len (n : Nat) (hn : n ≤ 9007199254740992) : (pos n).length ≤ 25 := by
  unfold pos
  rw [List.length_append, places_tail]
  have h1 := digs_len (n / 1000) (by omega)
  have h2 := tail_len (n % 1000)
  split
  · simp only [List.length_nil]; omega
  · rw [List.length_cons]; omega
theorem print_len (d : Int) : (print d).length ≤ 26 := by
  unfold print
  split
  · rename_i h
    have hb := (sane_iff d).1 h
    have := pos_len d.natAbs (by omega)
    split
    · rw [List.length_cons]; omega
    · omega
  · simp
theorem ne_empty {t : ByteArray} (h : bl t ≠ []) : t.toList.isEmpty = false := by
  rw [Lib.toList_data]
  rcases hx : t.data.toList with _ | ⟨x, l⟩
  · exact absurd hx h
  · rfl
end Num

set_option maxRecDepth 100000 in
set_option maxHeartbeats 4000000 in
theorem numBack_any (d : Int) (w : World) (hG : Glob w) : Calls Tryd.prog 4 #[.int .i64 d] w (LawR w) := by
  have HG := Lib.hid hG
  clear hG
  obtain ⟨t, ht⟩ : ∃ t : ByteArray, (⟨(Num.print d).toArray⟩ : ByteArray) = t := ⟨_, rfl⟩
  have htb : Num.bl t = Num.print d := by rw [← ht, Num.bl_mk]
  have hts : t.size ≤ 26 := by rw [← Num.bl_len, htb]; exact Num.print_len d
  have hts2 : t.size ≤ 4611686018427387904 := by omega
  have HT := Lib.hid ht
  rcases hs : Num.sane d with _ | _
  · obtain ⟨p1, p2⟩ := Num.back_none d hs
    have ht0 : t = ⟨#[]⟩ := by apply Num.ba_ext; rw [htb, p1]
    have HP := Lib.hid (show Num.parse (Num.bl t) = (0, 1) by rw [htb, p1, p2])
    have HS := Lib.hid hs
    clear ht htb p1 p2 hs hts
    subst ht0
    go_enter Tryd.func4, Tryd.ntmps4
    go_wp2_with fail
    refine (awake_any w HG.out).mono ?_
    rintro e w1 ⟨rfl, hb1⟩
    go_wp2_with fail
    refine (print_is d d rfl w1 (HG.out.below hb1) _ HT.out).mono ?_
    rintro e w2 ⟨rfl, hb2⟩
    have hb2' := hb1.trans (hb2.mono hb1.size)
    go_wp2_with fail
    refine (parse_is ⟨#[]⟩ hts2 w2 _ _ HP.out).mono ?_
    rintro e w3 ⟨rfl, hb3⟩
    have hb3' := hb2'.trans (hb3.mono hb2'.size)
    go_wp2_with fail
    refine (sane_is _ _ HS.out _).mono ?_
    rintro e w4 ⟨rfl, rfl⟩
    go_wp2
    go_ret
    exact ⟨rfl, hb3'⟩
  · obtain ⟨p1, p2⟩ := Num.back d hs
    have HP := Lib.hid (show Num.parse (Num.bl t) = (d, 0) by rw [htb, p1])
    have HS := Lib.hid hs
    have hte2 : t.toList.isEmpty = false := Num.ne_empty (by rw [htb]; exact p2)
    clear ht htb p1 p2 hs
    go_enter Tryd.func4, Tryd.ntmps4
    go_wp2_with fail
    refine (awake_any w HG.out).mono ?_
    rintro e w1 ⟨rfl, hb1⟩
    go_wp2_with fail
    refine (print_is d d rfl w1 (HG.out.below hb1) _ HT.out).mono ?_
    rintro e w2 ⟨rfl, hb2⟩
    have hb2' := hb1.trans (hb2.mono hb1.size)
    go_wp2_with fail
    refine (parse_is t hts2 w2 _ _ HP.out).mono ?_
    rintro e w3 ⟨rfl, hb3⟩
    have hb3' := hb2'.trans (hb3.mono hb2'.size)
    go_wp2_with fail
    refine (sane_is _ _ HS.out _).mono ?_
    rintro e w4 ⟨rfl, rfl⟩
    go_wp2
    go_ret
    exact ⟨rfl, hb3'⟩
end Go.Proofs.YtnallbhckeoldaaDoor
