/- The walk of the law DurIs. -/
import Derived.Test.YtanacoollaajkaaDoorDurO
namespace Go.Proofs.YtanacoollaajkaaDoor
open Go.RowKit

theorem rParse_is (s : ByteArray) (hs : s.size ≤ 4611686018427387904) (w : World) (d e : Int) (h : Dur.parse (Dur.bl s) = (d, e)) :
    Calls Tryd.prog 11 #[.string s] w fun en w' => en = .returned (.tuple #[.int .i64 d, .int .i64 e]) ∧ Below w.heap.size w w' := by
  have := rParse_any s hs w
  rw [h] at this
  exact this
theorem rPrint_is (d : Int) (w : World) (t : ByteArray) (h : (⟨(Dur.print d).toArray⟩ : ByteArray) = t) :
    Calls Tryd.prog 15 #[.int .i64 d] w fun e w' => e = .returned (.string t) ∧ Below w.heap.size w w' := by
  subst h
  exact rPrint_any d w
theorem print_at (d : Int) (w : World) (hG : Glob w) (t : ByteArray) (h : (⟨(Dur.print d).toArray⟩ : ByteArray) = t) :
    Calls Tryd.prog 14 #[.int .i64 d] w fun e w' => e = .returned (.string t) ∧ Below w.heap.size w w' := by
  subst h
  exact print_any d w hG

set_option maxRecDepth 100000 in
set_option maxHeartbeats 4000000 in
theorem durIs_any (d : Int) (s : ByteArray) (w : World) (hG : Glob w) : Calls Tryd.prog 3 #[.int .i64 d, .string s] w (LawR w) := by
  have HG := Lib.hid hG
  clear hG
  by_cases hs : 1000 < s.size
  · have hs1 : decide ((1000 : Int) < (s.size : Int)) = true := by simp; omega
    go_enter Tryd.func3, Tryd.ntmps3
    go_wp2_with fail
    refine (awake_any w HG.out).mono ?_
    rintro e w1 ⟨rfl, hb1⟩
    go_wp2
    go_ret
    exact ⟨rfl, hb1⟩
  · have hs1 : decide ((1000 : Int) < (s.size : Int)) = false := by simp; omega
    have hs2 : s.size ≤ 4611686018427387904 := by omega
    obtain ⟨x, e, hxe⟩ : ∃ x e, Dur.parse (Dur.bl s) = (x, e) := ⟨_, _, rfl⟩
    obtain ⟨t, ht⟩ : ∃ t : ByteArray, (⟨(Dur.print d).toArray⟩ : ByteArray) = t := ⟨_, rfl⟩
    obtain ⟨b, hb⟩ : ∃ b, Dur.sane d = b := ⟨_, rfl⟩
    have HX := Lib.hid hxe
    have HT := Lib.hid ht
    have HB := Lib.hid hb
    clear hxe ht hb hs
    go_enter Tryd.func3, Tryd.ntmps3
    go_wp2_with fail
    refine (awake_any w HG.out).mono ?_
    rintro e w1 ⟨rfl, hb1⟩
    go_wp2_with fail
    refine (parse_is s hs2 w1 (HG.out.below hb1) _ _ HX.out).mono ?_
    rintro e w2 ⟨rfl, hb2⟩
    have hb2' := hb1.trans (hb2.mono hb1.size)
    clear hb1 hb2
    go_wp2_with fail
    refine (rParse_is s hs2 w2 _ _ HX.out).mono ?_
    rintro e w3 ⟨rfl, hb3⟩
    have hb3' := hb2'.trans (hb3.mono hb2'.size)
    clear hb2' hb3
    go_wp2_with fail
    refine (sane_any _ _).mono ?_
    rintro e w4 ⟨rfl, rfl⟩
    rw [HB.out]
    go_wp2_with fail
    refine (rSane_any _ _).mono ?_
    rintro e w4 ⟨rfl, rfl⟩
    rw [HB.out]
    rcases b with _ | _
    all_goals
      go_wp2_with fail
      refine (print_at d w3 (HG.out.below hb3') t HT.out).mono ?_
      rintro e w4 ⟨rfl, hb4⟩
      have hb4' := hb3'.trans (hb4.mono hb3'.size)
      go_wp2_with fail
      refine (rPrint_is d w4 t HT.out).mono ?_
      rintro e w5 ⟨rfl, hb5⟩
      have hb5' := hb4'.trans (hb5.mono hb4'.size)
      go_wp2
      go_ret
      exact ⟨rfl, hb5'⟩
end Go.Proofs.YtanacoollaajkaaDoor
