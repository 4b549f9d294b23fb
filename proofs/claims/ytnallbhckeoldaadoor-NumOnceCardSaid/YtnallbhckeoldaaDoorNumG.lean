/- The walks of the laws NumOnce, NumNeg. -/
import Derived.Test.YtnallbhckeoldaaDoorNumF
namespace Go.Proofs.YtnallbhckeoldaaDoor
open Go.RowKit
set_option linter.unusedSimpArgs false
set_option linter.unusedVariables false

namespace Num
theorem zero_plus (s : ByteArray) (h : neg (bl s) = false) : bl (⟨#[48]⟩ ++ s) = zero (bl s) := by
  rw [bl_append]
  unfold zero
  split
  · rename_i l hh
    rw [hh] at h
    cases h
  · rfl
theorem zero_minus (s : ByteArray) (h : neg (bl s) = true) : bl (⟨#[45, 48]⟩ ++ s.extract 1 s.size) = zero (bl s) := by
  rw [bl_append, bl_from]
  unfold neg at h
  split at h
  · rename_i l hh
    rw [hh]
    rfl
  · cases h
theorem head_neg (s : ByteArray) (h0 : 0 < s.size) : neg (bl s) = decide (((s[0]'h0).toNat : Int) = 45) := by
  have hd := drop_cons s 0 h0
  rw [List.drop_zero] at hd
  rw [hd]
  by_cases h : s[0] = 45
  · rw [h]
    rfl
  · rw [show decide (((s[0]'h0).toNat : Int) = 45) = false from decide_eq_false (fun e => h ((n_eq _ 45 (by decide)).2 e))]
    unfold neg
    split
    · rename_i hh
      injection hh with h1 h2
      exact absurd h1 h
    · rfl
end Num

set_option maxRecDepth 100000 in
set_option maxHeartbeats 8000000 in
theorem numOnce_any (s : ByteArray) (w : World) (hG : Glob w) : Calls Tryd.prog 5 #[.string s] w (LawR w) := by
  have HG := Lib.hid hG
  clear hG
  by_cases hs : 1000 < s.size
  · have hs1 : decide ((1000 : Int) < (s.size : Int)) = true := by simp; omega
    go_enter Tryd.func5, Tryd.ntmps5
    go_wp2_with fail
    refine (awake_any w HG.out).mono ?_
    rintro e w1 ⟨rfl, hb1⟩
    go_wp2
    go_ret
    exact ⟨rfl, hb1⟩
  · have hs1 : decide ((1000 : Int) < (s.size : Int)) = false := by simp; omega
    have hs2 : s.size ≤ 4611686018427387904 := by omega
    have hsz : s.size ≤ 1000 := by omega
    obtain ⟨x, e, hxe⟩ : ∃ x e, Num.parse (Num.bl s) = (x, e) := ⟨_, _, rfl⟩
    have hfacts := Num.parse_facts (Num.bl s)
    have HX := Lib.hid hxe
    rw [hxe] at hfacts
    by_cases he0 : e = 0
    · subst he0
      have hon := Num.once HX.out
      have hsn := hon.2.2.1
      obtain ⟨t, ht⟩ : ∃ t : ByteArray, (⟨(Num.print x).toArray⟩ : ByteArray) = t := ⟨_, rfl⟩
      have htb : Num.bl t = Num.print x := by rw [← ht, Num.bl_mk]
      have hts : t.size ≤ s.size := by rw [← Num.bl_len, htb, ← Num.bl_len]; exact hon.2.1
      have HP := Lib.hid (show Num.parse (Num.bl t) = (x, 0) by rw [htb]; exact (Num.back x hsn).1)
      have h0 : 0 < s.size := by
        rcases Nat.eq_zero_or_pos s.size with h | h
        · exact absurd (List.eq_nil_of_length_eq_zero ((Num.bl_len s).trans h)) hon.2.2.2
        · exact h
      have hng := Num.head_neg s h0
      obtain ⟨c, hc⟩ : ∃ c, s[0] = c := ⟨_, rfl⟩
      rw [hc] at hng
      have HT := Lib.hid ht
      have HS := Lib.hid hsn
      have hd0 : decide (0 < s.size) = true := decide_eq_true h0
      have hle : decide (t.size ≤ s.size) = true := decide_eq_true hts
      have hts2 : t.size ≤ 4611686018427387904 := by omega
      by_cases h45 : (c.toNat : Int) = 45
      · rw [decide_eq_true h45] at hng
        obtain ⟨z, hz⟩ : ∃ z, z = (⟨#[45, 48]⟩ : ByteArray) ++ s.extract 1 s.size := ⟨_, rfl⟩
        have HZP := Lib.hid (show Num.parse (Num.bl z) = (x, 0) by rw [hz, Num.zero_minus s hng]; exact hon.1)
        have hzs : z.size ≤ 4611686018427387904 := by rw [hz, ByteArray.size_append, ByteArray.size_extract, show (⟨#[45, 48]⟩ : ByteArray).size = 2 from rfl]; omega
        have hc45 : ((c.toNat : Int) == 45) = true := by rw [beq_iff_eq]; exact h45
        have HZ := Lib.hid hz.symm
        have z1 : ¬ 9223372036854775807 < 2 + (s.size - 1) := by omega
        clear hxe hfacts hon hsn ht htb hng hz h45
        go_enter Tryd.func5, Tryd.ntmps5
        go_wp2_with fail
        refine (awake_any w HG.out).mono ?_
        rintro e w1 ⟨rfl, hb1⟩
        go_wp2_with fail
        refine (parse_is s hs2 w1 _ _ HX.out).mono ?_
        rintro e w2 ⟨rfl, hb2⟩
        have hb2' := hb1.trans (hb2.mono hb1.size)
        clear hb1 hb2
        go_wp2_with fail
        refine (print_is x x rfl w2 (HG.out.below hb2') _ HT.out).mono ?_
        rintro e w3 ⟨rfl, hb3⟩
        have hb3' := hb2'.trans (hb3.mono hb2'.size)
        clear hb2' hb3
        go_wp2_with fail
        refine (parse_is t hts2 w3 _ _ HP.out).mono ?_
        rintro e w4 ⟨rfl, hb4⟩
        have hb4' := hb3'.trans (hb4.mono hb3'.size)
        clear hb3' hb4
        go_wp2_with fail
        rw [HZ.out]
        refine (parse_is z hzs w4 _ _ HZP.out).mono ?_
        rintro e w5 ⟨rfl, hb5⟩
        have hb5' := hb4'.trans (hb5.mono hb4'.size)
        clear hb4' hb5
        go_wp2_with fail
        refine (sane_is _ _ HS.out _).mono ?_
        rintro e w6 ⟨rfl, rfl⟩
        go_wp2_with fail
        refine (print_is x x rfl w5 (HG.out.below hb5') _ HT.out).mono ?_
        rintro e w6 ⟨rfl, hb6⟩
        have hb6' := hb5'.trans (hb6.mono hb5'.size)
        go_wp2
        go_ret
        exact ⟨rfl, hb6'⟩
      · rw [decide_eq_false h45] at hng
        obtain ⟨z, hz⟩ : ∃ z, z = (⟨#[48]⟩ : ByteArray) ++ s := ⟨_, rfl⟩
        have HZP := Lib.hid (show Num.parse (Num.bl z) = (x, 0) by rw [hz, Num.zero_plus s hng]; exact hon.1)
        have hzs : z.size ≤ 4611686018427387904 := by rw [hz, ByteArray.size_append, show (⟨#[48]⟩ : ByteArray).size = 1 from rfl]; omega
        have hc45 : ((c.toNat : Int) == 45) = false := by rw [beq_eq_false_iff_ne]; exact h45
        have HZ := Lib.hid hz.symm
        have z1 : ¬ 9223372036854775807 < 1 + s.size := by omega
        clear hxe hfacts hon hsn ht htb hng hz h45
        go_enter Tryd.func5, Tryd.ntmps5
        go_wp2_with fail
        refine (awake_any w HG.out).mono ?_
        rintro e w1 ⟨rfl, hb1⟩
        go_wp2_with fail
        refine (parse_is s hs2 w1 _ _ HX.out).mono ?_
        rintro e w2 ⟨rfl, hb2⟩
        have hb2' := hb1.trans (hb2.mono hb1.size)
        clear hb1 hb2
        go_wp2_with fail
        refine (print_is x x rfl w2 (HG.out.below hb2') _ HT.out).mono ?_
        rintro e w3 ⟨rfl, hb3⟩
        have hb3' := hb2'.trans (hb3.mono hb2'.size)
        clear hb2' hb3
        go_wp2_with fail
        refine (parse_is t hts2 w3 _ _ HP.out).mono ?_
        rintro e w4 ⟨rfl, hb4⟩
        have hb4' := hb3'.trans (hb4.mono hb3'.size)
        clear hb3' hb4
        go_wp2_with fail
        rw [HZ.out]
        refine (parse_is z hzs w4 _ _ HZP.out).mono ?_
        rintro e w5 ⟨rfl, hb5⟩
        have hb5' := hb4'.trans (hb5.mono hb4'.size)
        clear hb4' hb5
        go_wp2_with fail
        refine (sane_is _ _ HS.out _).mono ?_
        rintro e w6 ⟨rfl, rfl⟩
        go_wp2_with fail
        refine (print_is x x rfl w5 (HG.out.below hb5') _ HT.out).mono ?_
        rintro e w6 ⟨rfl, hb6⟩
        have hb6' := hb5'.trans (hb6.mono hb5'.size)
        go_wp2
        go_ret
        exact ⟨rfl, hb6'⟩
    · have hx0 : x = 0 ∧ (e = 1 ∨ e = 2) := by
        rcases hfacts with h | h
        · exact absurd h.1 he0
        · exact h
      obtain ⟨rfl, rfl | rfl⟩ := hx0
      all_goals
        clear hxe hfacts he0
        go_enter Tryd.func5, Tryd.ntmps5
        go_wp2_with fail
        refine (awake_any w HG.out).mono ?_
        rintro e w1 ⟨rfl, hb1⟩
        go_wp2_with fail
        refine (parse_is s hs2 w1 _ _ HX.out).mono ?_
        rintro e w2 ⟨rfl, hb2⟩
        have hb2' := hb1.trans (hb2.mono hb1.size)
        go_wp2
        go_ret
        exact ⟨rfl, hb2'⟩

set_option maxRecDepth 100000 in
set_option maxHeartbeats 8000000 in
theorem numNeg_any (v u : Int) (w : World) (hG : Glob w) : Calls Tryd.prog 6 #[.int .i64 v, .int .i64 u] w (LawR w) := by
  have HG := Lib.hid hG
  clear hG
  rcases hv : Num.sane v with _ | _
  · have HV := Lib.hid hv
    clear hv
    go_enter Tryd.func6, Tryd.ntmps6
    go_wp2_with fail
    refine (awake_any w HG.out).mono ?_
    rintro e w1 ⟨rfl, hb1⟩
    go_wp2_with fail
    refine (sane_is _ _ HV.out _).mono ?_
    rintro e w6 ⟨rfl, rfl⟩
    go_wp2
    go_ret
    exact ⟨rfl, hb1⟩
  · rcases hu : Num.sane u with _ | _
    · have HV := Lib.hid hv
      have HU := Lib.hid hu
      clear hv hu
      go_enter Tryd.func6, Tryd.ntmps6
      go_wp2_with fail
      refine (awake_any w HG.out).mono ?_
      rintro e w1 ⟨rfl, hb1⟩
      go_wp2_with fail
      refine (sane_is _ _ HV.out _).mono ?_
      rintro e w6 ⟨rfl, rfl⟩
      go_wp2_with fail
      refine (sane_is _ _ HU.out _).mono ?_
      rintro e w6 ⟨rfl, rfl⟩
      go_wp2
      go_ret
      exact ⟨rfl, hb1⟩
    · have hvb := (Num.sane_iff v).1 hv
      by_cases h0 : v ≤ 0
      · have hd0 : decide (v ≤ 0) = true := decide_eq_true h0
        have HV := Lib.hid hv
        have HU := Lib.hid hu
        clear hv hu hvb
        go_enter Tryd.func6, Tryd.ntmps6
        go_wp2_with fail
        refine (awake_any w HG.out).mono ?_
        rintro e w1 ⟨rfl, hb1⟩
        go_wp2_with fail
        refine (sane_is _ _ HV.out _).mono ?_
        rintro e w6 ⟨rfl, rfl⟩
        go_wp2_with fail
        refine (sane_is _ _ HU.out _).mono ?_
        rintro e w6 ⟨rfl, rfl⟩
        go_wp2
        go_ret
        exact ⟨rfl, hb1⟩
      · have hd0 : decide (v ≤ 0) = false := decide_eq_false h0
        have hneg := Num.print_neg hv (by omega)
        obtain ⟨t, ht⟩ : ∃ t : ByteArray, (⟨(Num.print v).toArray⟩ : ByteArray) = t := ⟨_, rfl⟩
        have htb : Num.bl t = Num.print v := by rw [← ht, Num.bl_mk]
        have hts : t.size ≤ 26 := by rw [← Num.bl_len, htb]; exact Num.print_len v
        obtain ⟨t2, ht2⟩ : ∃ t : ByteArray, (⟨(Num.print u).toArray⟩ : ByteArray) = t := ⟨_, rfl⟩
        have hnt : (⟨(Num.print (-v)).toArray⟩ : ByteArray) = ⟨#[45]⟩ ++ t := by
          rw [hneg.2, ← htb]
          exact (Num.t0 t _ (Num.ba_ext (Num.bl_mk _))).symm
        obtain ⟨n, hn⟩ : ∃ n : Int, n = -v := ⟨_, rfl⟩
        have hw : IntKind.i64.wrap n = n := IntWalk.i64_in _ (by omega)
        have hcase : (v = u ∧ t2 = t) ∨ ((v == u) = false ∧ (t.toList == t2.toList) = false) := by
          by_cases h : v = u
          · exact .inl ⟨h, by rw [← ht2, ← h, ht]⟩
          · refine .inr ⟨by rw [beq_eq_false_iff_ne]; exact h, ?_⟩
            rw [beq_eq_false_iff_ne]
            intro e
            refine h (Num.inj hv hu ?_)
            rw [Lib.toList_data, Lib.toList_data] at e
            rw [← htb, show Num.bl t = Num.bl t2 from e, ← ht2, Num.bl_mk]
        have HV := Lib.hid hv
        have HU := Lib.hid hu
        have HT := Lib.hid ht
        have HT2 := Lib.hid ht2
        have HNT := Lib.hid hnt
        have HE := Lib.hid (show (⟨(Num.print 0).toArray⟩ : ByteArray) = ⟨#[48]⟩ by
          rw [show Num.print 0 = Num.pos 0 from rfl]
          unfold Num.pos
          rw [show 0 / 1000 = 0 from rfl, digs_one (by decide)]
          rfl)
        clear hv hu hneg ht htb ht2 hnt hn
        rcases hcase with ⟨rfl, rfl⟩ | ⟨hn1, hn2⟩
        all_goals
          go_enter Tryd.func6, Tryd.ntmps6
          go_wp2_with fail
          refine (awake_any w HG.out).mono ?_
          rintro e w1 ⟨rfl, hb1⟩
          go_wp2_with fail
          refine (sane_is _ _ HV.out _).mono ?_
          rintro e w6 ⟨rfl, rfl⟩
          go_wp2_with fail
          refine (sane_is _ _ HU.out _).mono ?_
          rintro e w6 ⟨rfl, rfl⟩
          go_wp2_with fail
          refine (print_is _ (-v) (by first | rfl | omega) w1 (HG.out.below hb1) _ HNT.out).mono ?_
          rintro e w2 ⟨rfl, hb2⟩
          have hb2' := hb1.trans (hb2.mono hb1.size)
          clear hb1 hb2
          go_wp2_with fail
          refine (print_is v v rfl w2 (HG.out.below hb2') _ HT.out).mono ?_
          rintro e w3 ⟨rfl, hb3⟩
          have hb3' := hb2'.trans (hb3.mono hb2'.size)
          clear hb2' hb3
          go_wp2_with fail
          refine (print_is v v rfl w3 (HG.out.below hb3') _ HT.out).mono ?_
          rintro e w4 ⟨rfl, hb4⟩
          have hb4' := hb3'.trans (hb4.mono hb3'.size)
          clear hb3' hb4
          go_wp2_with fail
          refine (print_is _ _ rfl w4 (HG.out.below hb4') _ HT2.out).mono ?_
          rintro e w5 ⟨rfl, hb5⟩
          have hb5' := hb4'.trans (hb5.mono hb4'.size)
          clear hb4' hb5
          go_wp2_with fail
          refine (print_is 0 0 rfl w5 (HG.out.below hb5') _ HE.out).mono ?_
          rintro e w6 ⟨rfl, hb6⟩
          have hb6' := hb5'.trans (hb6.mono hb5'.size)
          go_wp2
          go_ret
          exact ⟨rfl, hb6'⟩
end Go.Proofs.YtnallbhckeoldaaDoor
