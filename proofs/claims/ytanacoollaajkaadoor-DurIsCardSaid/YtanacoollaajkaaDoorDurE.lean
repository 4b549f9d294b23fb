/- The walks of dur's awake, and of the laws DurBack, DurOnce, DurParts. -/
import Derived.Test.YtanacoollaajkaaDoorDurD
import Derived.Test.YtanacoollaajkaaDoorRow
namespace Go.Proofs.YtanacoollaajkaaDoor
open Go.RowKit

theorem parse_is (s : ByteArray) (hs : s.size ≤ 4611686018427387904) (w : World) (hG : Glob w) (d e : Int) (h : Dur.parse (Dur.bl s) = (d, e)) :
    Calls Tryd.prog 10 #[.string s] w fun en w' => en = .returned (.tuple #[.int .i64 d, .int .i64 e]) ∧ Below w.heap.size w w' := by
  have := parse_any s hs w hG
  rw [h] at this
  exact this
theorem print_is (d : Int) (w : World) (hG : Glob w) (l : Dur.Bs) (h : Dur.print d = l) :
    Calls Tryd.prog 14 #[.int .i64 d] w fun e w' => e = .returned (.string ⟨l.toArray⟩) ∧ Below w.heap.size w w' := by
  have := print_any d w hG
  rw [h] at this
  exact this
theorem digs_one {n : Nat} (h : n < 10) : Lib.decDigits n = [UInt8.ofNat (48 + n)] := Lib.decDigits_one h
theorem digs_more {n : Nat} (h : ¬ n < 10) : Lib.decDigits n = Lib.decDigits (n / 10) ++ [UInt8.ofNat (48 + n % 10)] := by rw [Lib.decDigits, dif_neg h]
theorem ex1 : Dur.parse (Dur.bl ⟨#[57, 48, 109]⟩) = (5400000, 0) := by decide
theorem ex2 : Dur.parse (Dur.bl ⟨#[49, 115, 49, 109]⟩) = (0, 1) := by decide
theorem ex3 : Dur.print 90061001 = [49, 100, 49, 104, 49, 109, 49, 115, 49, 109, 115] := by
  simp [Dur.print, Dur.sane, Dur.parts, Dur.size, Dur.lets, digs_one]
theorem ex4 : Dur.print 5400000 = [49, 104, 51, 48, 109] := by
  simp [Dur.print, Dur.sane, Dur.parts, Dur.size, Dur.lets, digs_one, digs_more]
theorem ex5 : Dur.print 0 = [48, 115] := by decide

set_option maxRecDepth 100000 in
set_option maxHeartbeats 4000000 in
theorem awake_any (w : World) (hG : Glob w) : Calls Tryd.prog 9 #[] w fun e w' => e = .returned (.bool true) ∧ Below w.heap.size w w' := by
  have HG := Lib.hid hG
  clear hG
  go_enter Tryd.func9, Tryd.ntmps9
  go_wp2_with fail
  refine (parse_is _ (by decide) w HG.out _ _ ex1).mono ?_
  rintro e w1 ⟨rfl, hb1⟩
  have HG1 := Lib.hid (HG.out.below hb1)
  go_wp2_with fail
  refine (parse_is _ (by decide) w1 HG1.out _ _ ex2).mono ?_
  rintro e w2 ⟨rfl, hb2⟩
  have hb2' := hb1.trans (hb2.mono hb1.size)
  have HG2 := Lib.hid (HG.out.below hb2')
  go_wp2_with fail
  refine (print_is _ w2 HG2.out _ ex3).mono ?_
  rintro e w3 ⟨rfl, hb3⟩
  have hb3' := hb2'.trans (hb3.mono hb2'.size)
  have HG3 := Lib.hid (HG.out.below hb3')
  go_wp2_with fail
  refine (print_is _ w3 HG3.out _ ex4).mono ?_
  rintro e w4 ⟨rfl, hb4⟩
  have hb4' := hb3'.trans (hb4.mono hb3'.size)
  have HG4 := Lib.hid (HG.out.below hb4')
  go_wp2_with fail
  refine (print_is _ w4 HG4.out _ ex5).mono ?_
  rintro e w5 ⟨rfl, hb5⟩
  have hb5' := hb4'.trans (hb5.mono hb4'.size)
  go_wp2_with fail
  refine (sane_any _ _).mono ?_
  rintro e w6 ⟨rfl, rfl⟩
  go_wp2_with fail
  refine (sane_any _ _).mono ?_
  rintro e w6 ⟨rfl, rfl⟩
  go_wp2
  go_ret
  exact ⟨rfl, hb5'⟩

set_option maxRecDepth 100000 in
set_option maxHeartbeats 4000000 in
theorem durBack_any (d : Int) (w : World) (hG : Glob w) : Calls Tryd.prog 4 #[.int .i64 d] w (LawR w) := by
  have HG := Lib.hid hG
  clear hG
  obtain ⟨t, ht⟩ : ∃ t : ByteArray, t = ⟨(Dur.print d).toArray⟩ := ⟨_, rfl⟩
  have htb : Dur.bl t = Dur.print d := by rw [ht, Dur.bl_mk]
  have HT := Lib.hid ht.symm
  rcases hs : Dur.sane d with _ | _
  · obtain ⟨p1, p2⟩ := Dur.back_none d hs
    have ht0 : t = ⟨#[]⟩ := by apply Dur.ba_ext; rw [htb, p1]
    have HP := Lib.hid (show Dur.parse (Dur.bl t) = (0, 1) by rw [htb, p1, p2])
    have HS := Lib.hid hs
    have hts : t.size ≤ 4611686018427387904 := by rw [ht0]; decide
    clear ht htb p1 p2 hs
    subst ht0
    go_enter Tryd.func4, Tryd.ntmps4
    go_wp2_with fail
    refine (awake_any w HG.out).mono ?_
    rintro e w1 ⟨rfl, hb1⟩
    go_wp2_with fail
    refine (print_any d w1 (HG.out.below hb1)).mono ?_
    rintro e w2 ⟨rfl, hb2⟩
    have hb2' := hb1.trans (hb2.mono hb1.size)
    rw [HT.out]
    go_wp2_with fail
    refine (parse_is ⟨#[]⟩ hts w2 (HG.out.below hb2') _ _ HP.out).mono ?_
    rintro e w3 ⟨rfl, hb3⟩
    have hb3' := hb2'.trans (hb3.mono hb2'.size)
    go_wp2_with fail
    refine (sane_any _ _).mono ?_
    rintro e w4 ⟨rfl, rfl⟩
    rw [HS.out]
    go_wp2
    go_ret
    exact ⟨rfl, hb3'⟩
  · obtain ⟨p1, p2⟩ := Dur.back d hs
    have hb0 : 0 ≤ d ∧ d ≤ 9007199254740992 := by simpa [Dur.sane] using hs
    have HP := Lib.hid (show Dur.parse (Dur.bl t) = (d, 0) by rw [htb, p1])
    have HS := Lib.hid hs
    have hts : t.size ≤ 4611686018427387904 := by
      rw [← Dur.bl_len, htb]
      unfold Dur.print
      rw [if_pos hs]
      split
      · decide
      · have := Dur.parts_len 5 d.toNat (by omega)
        omega
    have hte2 : t.toList.isEmpty = false := by
      rw [Lib.toList_data]
      rcases hx : t.data.toList with _ | ⟨x, l⟩
      · exact absurd (htb.symm.trans hx) p2
      · rfl
    clear ht htb p1 p2 hs hb0
    go_enter Tryd.func4, Tryd.ntmps4
    go_wp2_with fail
    refine (awake_any w HG.out).mono ?_
    rintro e w1 ⟨rfl, hb1⟩
    go_wp2_with fail
    refine (print_any d w1 (HG.out.below hb1)).mono ?_
    rintro e w2 ⟨rfl, hb2⟩
    have hb2' := hb1.trans (hb2.mono hb1.size)
    rw [HT.out]
    go_wp2_with fail
    refine (parse_is t hts w2 (HG.out.below hb2') _ _ HP.out).mono ?_
    rintro e w3 ⟨rfl, hb3⟩
    have hb3' := hb2'.trans (hb3.mono hb2'.size)
    go_wp2_with fail
    refine (sane_any _ _).mono ?_
    rintro e w4 ⟨rfl, rfl⟩
    rw [HS.out]
    go_wp2
    go_ret
    exact ⟨rfl, hb3'⟩
end Go.Proofs.YtanacoollaajkaaDoor
