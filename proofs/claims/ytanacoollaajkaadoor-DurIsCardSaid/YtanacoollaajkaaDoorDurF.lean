/- The walks of the laws DurOnce and DurParts. -/
import Derived.Test.YtanacoollaajkaaDoorDurE
namespace Go.Proofs.YtanacoollaajkaaDoor
open Go.RowKit

namespace Dur
theorem print_len (d : Int) : (print d).length ≤ 115 := by
  unfold print
  split
  · rename_i hs
    have hb : 0 ≤ d ∧ d ≤ 9007199254740992 := by simpa [sane] using hs
    split
    · decide
    · have := parts_len 5 d.toNat (by omega)
      omega
  · decide
theorem mk_size (l : Bs) : (⟨l.toArray⟩ : ByteArray).size = l.length := by simp [ByteArray.size]
/-- whole days and what is beside -/
theorem day_parts (D : Nat) (h1 : 86400000 ≤ D) (h2 : D % 86400000 ≠ 0) (h3 : D ≤ 9007199254740992) :
    print (D : Int) = print ((D - D % 86400000 : Nat) : Int) ++ print ((D % 86400000 : Nat) : Int) := by
  have hs : ∀ n : Nat, n ≤ 9007199254740992 → n ≠ 0 → print (n : Int) = parts 5 n := by
    intro n hn h0
    unfold print
    rw [if_pos (by simp [sane]; omega), if_neg (by omega)]
    rfl
  have hm : D % 86400000 < 86400000 := Nat.mod_lt _ (by decide)
  rw [hs D h3 (by omega), hs (D - D % 86400000) (by omega) (by omega), hs (D % 86400000) (by omega) h2]
  have e : ∀ n, parts 5 n = (if 0 < n / 86400000 then Lib.decDigits (n / 86400000) ++ [100] else []) ++ parts 4 (n % 86400000) := fun n => parts_succ 0 n (by decide)
  rw [e D, e (D - D % 86400000), e (D % 86400000)]
  have d1 : (D - D % 86400000) / 86400000 = D / 86400000 := by omega
  have d2 : (D - D % 86400000) % 86400000 = 0 := by omega
  have d3 : D % 86400000 / 86400000 = 0 := by omega
  have d4 : D % 86400000 % 86400000 = D % 86400000 := by omega
  rw [d1, d2, d3, d4, parts_zero, List.append_nil]
  rfl
end Dur

set_option maxRecDepth 100000 in
set_option maxHeartbeats 4000000 in
theorem durOnce_any (s : ByteArray) (w : World) (hG : Glob w) : Calls Tryd.prog 5 #[.string s] w (LawR w) := by
  have HG := Lib.hid hG
  clear hG
  by_cases hs : s.size ≤ 1000
  · have hd : decide ((1000 : Int) < (s.size : Int)) = false := by simp; omega
    obtain ⟨R, hR⟩ : ∃ R, R = Dur.parse (Dur.bl s) := ⟨_, rfl⟩
    obtain ⟨d, e⟩ := R
    have hf := Dur.parse_facts (Dur.bl s)
    rw [← hR] at hf
    simp only at hf
    have HR := Lib.hid hR.symm
    clear hR
    rcases hf with ⟨rfl, hsn⟩ | ⟨rfl, he⟩
    · have hbk := Dur.back d hsn
      have hbnd : 0 ≤ d ∧ d ≤ 9007199254740992 := by simpa [Dur.sane] using hsn
      obtain ⟨t, ht⟩ : ∃ t : ByteArray, t = ⟨(Dur.print d).toArray⟩ := ⟨_, rfl⟩
      have HT := Lib.hid ht.symm
      have hts : t.size ≤ 4611686018427387904 := by
        rw [ht, Dur.mk_size]
        have := Dur.print_len d
        omega
      have HP := Lib.hid (show Dur.parse (Dur.bl t) = (d, 0) by rw [ht, Dur.bl_mk, hbk.1])
      have HS := Lib.hid hsn
      clear hbk ht hsn
      go_enter Tryd.func5, Tryd.ntmps5
      go_wp2_with fail
      refine (awake_any w HG.out).mono ?_
      rintro e w1 ⟨rfl, hb1⟩
      go_wp2_with fail
      refine (parse_is s (by omega) w1 (HG.out.below hb1) _ _ HR.out).mono ?_
      rintro e w2 ⟨rfl, hb2⟩
      have hb2' := hb1.trans (hb2.mono hb1.size)
      go_wp2_with fail
      refine (print_any d w2 (HG.out.below hb2')).mono ?_
      rintro e w3 ⟨rfl, hb3⟩
      have hb3' := hb2'.trans (hb3.mono hb2'.size)
      rw [HT.out]
      go_wp2_with fail
      refine (parse_is t hts w3 (HG.out.below hb3') _ _ HP.out).mono ?_
      rintro e w4 ⟨rfl, hb4⟩
      have hb4' := hb3'.trans (hb4.mono hb3'.size)
      go_wp2_with fail
      refine (sane_any _ _).mono ?_
      rintro e w5 ⟨rfl, rfl⟩
      rw [HS.out]
      go_wp2_with fail
      refine (print_any d w4 (HG.out.below hb4')).mono ?_
      rintro e w6 ⟨rfl, hb6⟩
      have hb6' := hb4'.trans (hb6.mono hb4'.size)
      rw [HT.out]
      go_wp2
      go_ret
      exact ⟨rfl, hb6'⟩
    · rcases he with rfl | rfl
      all_goals
        go_enter Tryd.func5, Tryd.ntmps5
        go_wp2_with fail
        refine (awake_any w HG.out).mono ?_
        rintro e w1 ⟨rfl, hb1⟩
        go_wp2_with fail
        refine (parse_is s (by omega) w1 (HG.out.below hb1) _ _ HR.out).mono ?_
        rintro e w2 ⟨rfl, hb2⟩
        have hb2' := hb1.trans (hb2.mono hb1.size)
        go_wp2
        go_ret
        exact ⟨rfl, hb2'⟩
  · have hd : decide ((1000 : Int) < (s.size : Int)) = true := by simp; omega
    go_enter Tryd.func5, Tryd.ntmps5
    go_wp2_with fail
    refine (awake_any w HG.out).mono ?_
    rintro e w1 ⟨rfl, hb1⟩
    go_wp2
    go_ret
    exact ⟨rfl, hb1⟩

set_option maxRecDepth 100000 in
set_option maxHeartbeats 4000000 in
theorem durParts_any (d : Int) (w : World) (hG : Glob w) : Calls Tryd.prog 6 #[.int .i64 d] w (LawR w) := by
  have HG := Lib.hid hG
  clear hG
  rcases hsn : Dur.sane d with _ | _
  · have HS := Lib.hid hsn
    clear hsn
    go_enter Tryd.func6, Tryd.ntmps6
    go_wp2_with fail
    refine (awake_any w HG.out).mono ?_
    rintro e w1 ⟨rfl, hb1⟩
    go_wp2_with fail
    refine (sane_any _ _).mono ?_
    rintro e w2 ⟨rfl, rfl⟩
    rw [HS.out]
    go_wp2
    go_ret
    exact ⟨rfl, hb1⟩
  · have hbnd : 0 ≤ d ∧ d ≤ 9007199254740992 := by simpa [Dur.sane] using hsn
    obtain ⟨D, rfl⟩ : ∃ D : Nat, d = (D : Int) := ⟨d.toNat, by omega⟩
    have HS := Lib.hid hsn
    have hD : D ≤ 9007199254740992 := by omega
    obtain ⟨y, hy⟩ : ∃ y, y = D % 86400000 := ⟨_, rfl⟩
    have hy1 : Int.tmod (D : Int) 86400000 = (y : Int) := by rw [hy]; rfl
    have hyl : y < 86400000 := by rw [hy]; exact Nat.mod_lt _ (by decide)
    have hyD : y ≤ D := by rw [hy]; exact Nat.mod_le _ _
    by_cases hc : D < 86400000 ∨ y = 0
    · clear hbnd hsn hy
      by_cases h1 : D < 86400000
      · have hd1 : decide (D < 86400000) = true := by simp; omega
        have hd1' : decide ((D : Int) < 86400000) = true := by simp; omega
        go_enter Tryd.func6, Tryd.ntmps6
        go_wp2_with fail
        refine (awake_any w HG.out).mono ?_
        rintro e w1 ⟨rfl, hb1⟩
        go_wp2_with fail
        refine (sane_any _ _).mono ?_
        rintro e w2 ⟨rfl, rfl⟩
        rw [HS.out]
        go_wp2
        go_ret
        exact ⟨rfl, hb1⟩
      · have hd1 : decide (D < 86400000) = false := by simp; omega
        have hd1' : decide ((D : Int) < 86400000) = false := by simp; omega
        obtain rfl : y = 0 := hc.resolve_left h1
        clear hc h1
        go_enter Tryd.func6, Tryd.ntmps6
        go_wp2_with fail
        refine (awake_any w HG.out).mono ?_
        rintro e w1 ⟨rfl, hb1⟩
        go_wp2_with fail
        refine (sane_any _ _).mono ?_
        rintro e w2 ⟨rfl, rfl⟩
        rw [HS.out]
        go_wp2
        go_ret
        exact ⟨rfl, hb1⟩
    · have h1 : 86400000 ≤ D := by omega
      have h2 : y ≠ 0 := by omega
      have hd1 : decide (D < 86400000) = false := by simp; omega
      have hd1' : decide ((D : Int) < 86400000) = false := by simp; omega
      have hy0 : ((y : Int) == 0) = false := by simp; omega
      have hw1 : IntKind.i64.wrap ((D : Int) - (y : Int)) = (D : Int) - (y : Int) := IntWalk.i64_in _ (by omega)
      have hx0 : Int.tmod ((D : Int) - (y : Int)) 86400000 = 0 := by
        rw [show (D : Int) - (y : Int) = ((D - y : Nat) : Int) by omega]
        show (((D - y) % 86400000 : Nat) : Int) = 0
        omega
      have hdy : decide (y < 86400000) = true := by simp; omega
      have hdy' : decide ((y : Int) < 86400000) = true := by simp; omega
      have hsx : Dur.sane ((D : Int) - (y : Int)) = true := by simp [Dur.sane]; omega
      have hsy : Dur.sane (y : Int) = true := by simp [Dur.sane]; omega
      obtain ⟨ta, hta⟩ : ∃ t : ByteArray, t = ⟨(Dur.print ((D : Int) - (y : Int))).toArray⟩ := ⟨_, rfl⟩
      obtain ⟨tb, htb⟩ : ∃ t : ByteArray, t = ⟨(Dur.print (y : Int)).toArray⟩ := ⟨_, rfl⟩
      have hsa : ta.size ≤ 115 := by rw [hta, Dur.mk_size]; exact Dur.print_len _
      have hsb : tb.size ≤ 115 := by rw [htb, Dur.mk_size]; exact Dur.print_len _
      have HA := Lib.hid hta.symm
      have HB := Lib.hid htb.symm
      have HPA := Lib.hid (show Dur.parse (Dur.bl ta) = ((D : Int) - (y : Int), 0) by rw [hta, Dur.bl_mk, (Dur.back _ hsx).1])
      have HPB := Lib.hid (show Dur.parse (Dur.bl tb) = ((y : Int), 0) by rw [htb, Dur.bl_mk, (Dur.back _ hsy).1])
      have HAB := Lib.hid (show (⟨(Dur.print (D : Int)).toArray⟩ : ByteArray) = ta ++ tb by
        apply Dur.ba_ext
        rw [Dur.bl_mk, Dur.bl_append, hta, htb, Dur.bl_mk, Dur.bl_mk, Dur.day_parts D h1 (by omega) hD, ← hy]
        rw [show ((D - y : Nat) : Int) = (D : Int) - (y : Int) by omega])
      have z1 : ¬ 9223372036854775807 < ta.size + tb.size := by omega
      clear hc hbnd hsn hy hta htb hsx hsy h2
      go_enter Tryd.func6, Tryd.ntmps6
      go_wp2_with fail
      refine (awake_any w HG.out).mono ?_
      rintro e w1 ⟨rfl, hb1⟩
      go_wp2_with fail
      refine (sane_any _ _).mono ?_
      rintro e w2 ⟨rfl, rfl⟩
      rw [HS.out]
      go_wp2_with fail
      refine (print_any ((D : Int) - (y : Int)) w1 (HG.out.below hb1)).mono ?_
      rintro e w2 ⟨rfl, hb2⟩
      have hb2' := hb1.trans (hb2.mono hb1.size)
      rw [HA.out]
      go_wp2_with fail
      refine (print_any (y : Int) w2 (HG.out.below hb2')).mono ?_
      rintro e w3 ⟨rfl, hb3⟩
      have hb3' := hb2'.trans (hb3.mono hb2'.size)
      rw [HB.out]
      go_wp2_with fail
      refine (parse_is ta (by omega) w3 (HG.out.below hb3') _ _ HPA.out).mono ?_
      rintro e w4 ⟨rfl, hb4⟩
      have hb4' := hb3'.trans (hb4.mono hb3'.size)
      go_wp2_with fail
      refine (parse_is tb (by omega) w4 (HG.out.below hb4') _ _ HPB.out).mono ?_
      rintro e w5 ⟨rfl, hb5⟩
      have hb5' := hb4'.trans (hb5.mono hb4'.size)
      go_wp2_with fail
      refine (print_any (D : Int) w5 (HG.out.below hb5')).mono ?_
      rintro e w6 ⟨rfl, hb6⟩
      have hb6' := hb5'.trans (hb6.mono hb5'.size)
      rw [HAB.out]
      go_wp2
      go_ret
      exact ⟨rfl, hb6'⟩
end Go.Proofs.YtanacoollaajkaaDoor
