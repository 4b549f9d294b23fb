/- The walk of the reference's Parse. -/
import Derived.Test.YtbdochcajpempaaDoorNumD
namespace Go.Proofs.YtbdochcajpempaaDoor
open Go.RowKit
set_option linter.unusedSimpArgs false
set_option linter.unusedVariables false

theorem rRun_at (s : ByteArray) (x : Int) (at_ : Nat) (hx : x = (at_ : Int)) (q : Nat) (hq : Num.run ((Num.bl s).drop at_) = q) (hs : s.size ≤ 4611686018427387904) (ha : at_ ≤ s.size) (w : World) :
    Calls Tryd.prog 79 #[.string s, .int .i64 x] w fun e w' => e = .returned (.int .i64 (q : Int)) ∧ w = w' := by
  subst hx hq
  exact rRun_any s at_ hs ha w
namespace Num
theorem get_is (s : ByteArray) (i : Nat) (h : i < s.size) : s.get! i = s[i] := by
  simp [ByteArray.get!, getElem!_pos, h]
  rfl
end Num

set_option maxRecDepth 100000 in
set_option maxHeartbeats 8000000 in
theorem rParse_zero (s : ByteArray) (hs : s.size ≤ 4611686018427387904) (hng : Num.neg (Num.bl s) = false) (w : World) :
    Calls Tryd.prog 67 #[.string s] w fun e w' => e = .returned (.tuple #[.int .i64 (Num.parse (Num.bl s)).1, .int .i64 (Num.parse (Num.bl s)).2]) ∧ Below w.heap.size w w' := by
  have hst : Num.strip (Num.bl s) = Num.bl s := by
    unfold Num.strip
    split
    · rename_i hh
      rw [hh] at hng
      cases hng
    · rfl
  obtain ⟨l, hl⟩ : ∃ l, l = (Num.bl s).drop 0 := ⟨_, rfl⟩
  have hl2 : l = Num.bl s := by rw [hl, List.drop_zero]
  have HPAR := Lib.hid (show Num.parse (Num.bl s) = Num.done false (Num.scan l 0 0 0 false) by unfold Num.parse Num.mag; rw [hng, hst, hl2])
  obtain ⟨en, hen⟩ : ∃ en, Num.run l = en := ⟨_, rfl⟩
  have hens : en ≤ s.size := by have := Num.run_le l; rw [hl2, Num.bl_len, ← hl2] at this; omega
  have HRUN := Lib.hid (fun w => rRun_at s 0 0 rfl en (by rw [← hl]; exact hen) hs (Nat.zero_le _) w)
  have HN := Lib.hid hen
  have HDROP := Lib.hid (show l.drop (Num.run l) = (Num.bl s).drop en by rw [hen, hl2])
  have HL := Lib.hid hl
  have hcase : s.size = 0 ∨ (0 < s.size ∧ (((s.get! 0).toNat : Int) == 45) = false) := by
    rcases Nat.eq_zero_or_pos s.size with h | h
    · exact .inl h
    · refine .inr ⟨h, ?_⟩
      rw [Num.get_is s 0 h, beq_eq_false_iff_ne]
      intro e
      have h45 := (num_n_eq (s[0]) 45 (by decide)).2 e
      have := Num.drop_cons s 0 h
      rw [List.drop_zero, h45] at this
      rw [this] at hng
      cases hng
  clear hl hl2 hen hst hng
  go_enter Tryd.func67, Tryd.ntmps67
  rcases hcase with h0 | ⟨h0, hc0⟩
  · have hd0 : decide (0 < s.size) = false := decide_eq_false (by omega)
    have H0 := Lib.hid h0
    clear h0
    go_wp2_with fail
    refine (HRUN.out _).mono ?_
    rintro e w2 ⟨rfl, rfl⟩
    by_cases hpt : ∃ t, l.drop (Num.run l) = 46 :: t
    · obtain ⟨t, ht⟩ := hpt
      have hde := HDROP.out
      rw [ht] at hde
      have hlt : en < s.size := by
        rcases Nat.lt_or_ge en s.size with h | h
        · exact h
        · rw [Num.drop_all s en h] at hde
          cases hde
      have hdc := Num.drop_cons s en hlt
      rw [← hde] at hdc
      injection hdc with hc1 hc2
      have hc46 : s[en] = 46 := hc1.symm
      have hdlt : decide (en < s.size) = true := by simp; omega
      obtain ⟨p, hp⟩ : ∃ p, Num.run t = p := ⟨_, rfl⟩
      have hple : p ≤ s.size - (en + 1) := by
        have := Num.run_le t
        rw [hc2, List.length_drop, Num.bl_len, ← hc2] at this
        omega
      have HRUN2 := Lib.hid (fun w => rRun_at s ((en : Int) + 1) (en + 1) (by omega) p (by rw [← hc2]; exact hp) hs (by omega) w)
      have HT := Lib.hid ht
      have HP := Lib.hid hp
      have HEN := Lib.hid (show t.drop (Num.run t) = (Num.bl s).drop (en + 1 + p) by rw [hp, hc2, List.drop_drop])
      clear hde ht hp hc1 hc2
      go_wp2_with fail
      refine (HRUN2.out _).mono ?_
      rintro e w2 ⟨rfl, rfl⟩
      by_cases hp1 : p < 1
      · have hdp : decide ((p : Int) < 1) = true := by simp; omega
        have HB := Lib.hid (show Num.parse (Num.bl s) = (0, 1) by rw [HPAR.out, Num.ref_bad HT.out (.inl (by rw [HP.out]; omega))]; rfl)
        go_wp2
        go_ret2
        rw [HB.out]
        exact ⟨rfl, Below.refl _ _⟩
      · have hdp : decide ((p : Int) < 1) = false := by simp; omega
        by_cases hp3 : 3 < p
        · have hdp2 : decide ((3 : Int) < (p : Int)) = true := by simp; omega
          have HB := Lib.hid (show Num.parse (Num.bl s) = (0, 1) by rw [HPAR.out, Num.ref_bad HT.out (.inl (by rw [HP.out]; omega))]; rfl)
          go_wp2
          go_ret2
          rw [HB.out]
          exact ⟨rfl, Below.refl _ _⟩
        · have hdp2 : decide ((3 : Int) < (p : Int)) = false := by simp; omega
          obtain ⟨e2, he2⟩ : ∃ e2, e2 = en + 1 + p := ⟨_, rfl⟩
          have he3 : (en : Int) + 1 + (p : Int) = (e2 : Int) := by omega
          have he4 : e2 ≤ s.size := by omega
          have HEN2 := Lib.hid (show t.drop (Num.run t) = (Num.bl s).drop e2 by rw [HEN.out, he2])
          have hpr : 1 ≤ p ∧ p ≤ 3 := by omega
          have hp3' : p ≤ 3 := hpr.2
          have HPR := Lib.hid hpr
          clear he2 hpr
          by_cases hn0 : en = 0
          · have hdn : ((en : Int) == 0) = true := by rw [beq_iff_eq]; omega
            have HB := Lib.hid (show Num.parse (Num.bl s) = (0, 1) by rw [HPAR.out, Num.ref_bad HT.out (.inr (.inr (HN.out.trans hn0)))]; rfl)
            clear hn0
            go_wp2
            go_ret2
            rw [HB.out]
            exact ⟨rfl, Below.refl _ _⟩
          · have hdn : ((en : Int) == 0) = false := by rw [beq_eq_false_iff_ne]; omega
            by_cases he5 : e2 = s.size
            · have hde2 : ((e2 : Int) != (s.size : Int)) = false := by rw [he5]; simp
              have HG := Lib.hid (Num.ref_good HT.out (by rw [HP.out]; exact HPR.out) (by rw [HEN2.out, he5, Num.drop_all s s.size (Nat.le_refl _)]) (by rw [HN.out]; exact hn0))
              have HPL := Lib.hid HG.out.2
              have HPS := Lib.hid (show Num.parse (Num.bl s) = Num.done false (some (Num.sum 0 l * 10 ^ (3 - p))) by rw [HPAR.out, HG.out.1, HP.out])
              have HE5 := Lib.hid he5
              clear he5 hn0
              go_wp2
              go_loopw [8, 9] (fun s8 s9 wr => ∃ i v : Nat, 0 ≤ i ∧ i ≤ s.size ∧ w = wr ∧ s9 = .int .i64 (i : Nat) ∧ s8 = .int .i64 (Num.cap4 v : Nat) ∧ Num.sum 0 l = Num.sum v ((Num.bl s).drop i) ∧ Num.plain ((Num.bl s).drop i) = true) (fun _ s9 _ => s.size - (intOf s9).toNat)
              case atStart => exact ⟨0, 0, Nat.le_refl _, by omega, rfl, rfl, rfl, by rw [← HL.out], by rw [← HL.out]; exact HPL.out⟩
              case round =>
                obtain ⟨i, v, hai, hi, rfl, rfl, rfl, hsum, hpl⟩ := hrel
                have hcl := Num.cap4_le v
                obtain ⟨m, hm⟩ : ∃ m, m = Num.cap4 v := ⟨_, rfl⟩
                rw [← hm] at hcl ⊢
                have HM := Lib.hid hm
                clear hm
                by_cases hlt : i < s.size
                · have hdc := Num.drop_cons s i hlt
                  obtain ⟨c, hc⟩ : ∃ c, s[i] = c := ⟨_, rfl⟩
                  rw [hc] at hdc
                  rw [hdc] at hsum hpl
                  have hdi : decide (i < s.size) = true := by simp; omega
                  by_cases h46 : c = 46
                  · have hs1 : Num.sum v (c :: (Num.bl s).drop (i + 1)) = Num.sum v ((Num.bl s).drop (i + 1)) := by
                      conv => lhs; unfold Num.sum
                      rw [if_pos h46]
                    have HS := Lib.hid (hsum.trans hs1)
                    have HPL2 := Lib.hid (show Num.plain ((Num.bl s).drop (i + 1)) = true by unfold Num.plain at hpl ⊢; rw [List.all_cons, Bool.and_eq_true] at hpl; exact hpl.2)
                    have hcn : ((c.toNat : Int) != 46) = false := by rw [h46]; rfl
                    clear hsum hpl hdc h46 hs1
                    go_wp2
                    go_roundw
                    case rel => exact ⟨i + 1, v, by omega, by omega, by first | trivial | rfl, by go_num, by rw [HM.out], HS.out, HPL2.out⟩
                    case measure => simp [intOf]; omega
                  · have hdig : Num.digit c = true := by
                      unfold Num.plain at hpl
                      rw [List.all_cons, Bool.and_eq_true, Bool.or_eq_true, beq_iff_eq] at hpl
                      exact hpl.1.resolve_right h46
                    have hs1 : Num.sum v (c :: (Num.bl s).drop (i + 1)) = Num.sum (Num.step v c) ((Num.bl s).drop (i + 1)) := by
                      conv => lhs; unfold Num.sum
                      rw [if_neg h46]
                    have HS := Lib.hid (hsum.trans hs1)
                    have HPL2 := Lib.hid (show Num.plain ((Num.bl s).drop (i + 1)) = true by unfold Num.plain at hpl ⊢; rw [List.all_cons, Bool.and_eq_true] at hpl; exact hpl.2)
                    have hcn : ((c.toNat : Int) != 46) = true := by rw [bne_iff_ne]; exact fun e => h46 ((num_n_eq c 46 (by decide)).2 e)
                    obtain ⟨hb1, hb2⟩ := (num_digit_int c).1 hdig
                    clear hsum hpl hdc h46 hs1 hdig
                    go_wp2
                    go_roundw
                    case rel =>
                      refine ⟨i + 1, Num.step v c, by omega, by omega, by first | trivial | rfl, by go_num, ?_, HS.out, HPL2.out⟩
                      have hq : min ((m : Int) * 10 + (c.toNat : Int) - 48) 36028797018963968 = ((Num.cap4 (Num.step v c) : Nat) : Int) := by
                        have := HM.out
                        unfold Num.cap4 Num.step at *
                        omega
                      rw [hq]
                    case measure => simp [intOf]; omega
                · obtain rfl : i = s.size := by omega
                  have hdi : decide (s.size < s.size) = false := by simp
                  rw [Num.drop_all s s.size (Nat.le_refl _)] at hsum
                  have HV := Lib.hid (show Num.sum 0 l = v from hsum)
                  clear hsum hpl
                  go_wp2
                  go_loopw [8, 10] (fun s8 s10 wr => ∃ j k : Nat, p + k = j ∧ j ≤ 3 ∧ w = wr ∧ s10 = .int .i64 (j : Nat) ∧ s8 = .int .i64 (Num.cap4 (v * 10 ^ k) : Nat)) (fun _ s10 _ => 3 - (intOf s10).toNat)
                  case atStart => exact ⟨p, 0, by omega, by omega, rfl, rfl, by rw [HM.out, Nat.pow_zero, Nat.mul_one]⟩
                  case round =>
                    obtain ⟨j, k, hjk, hj, rfl, rfl, rfl⟩ := hrel
                    have hcl2 := Num.cap4_le (v * 10 ^ k)
                    by_cases hj3 : j < 3
                    · have hdj : decide ((j : Int) < 3) = true := by simp; omega
                      have HS := Lib.hid (show Num.cap4 (Num.cap4 (v * 10 ^ k) * 10 + 0) = Num.cap4 (v * 10 ^ (k + 1)) by
                        rw [Num.cap4_step, Nat.add_zero, Nat.mul_assoc, Nat.pow_succ])
                      obtain ⟨u, hu⟩ : ∃ u, u = Num.cap4 (v * 10 ^ k) := ⟨_, rfl⟩
                      rw [← hu] at hcl2 HS ⊢
                      clear hu
                      go_wp2
                      go_roundw
                      case rel =>
                        refine ⟨j + 1, k + 1, by omega, by omega, by first | trivial | rfl, by go_num, ?_⟩
                        have hq : min ((u : Int) * 10) 36028797018963968 = ((Num.cap4 (v * 10 ^ (k + 1)) : Nat) : Int) := by
                          rw [← HS.out]
                          unfold Num.cap4
                          omega
                        rw [hq]
                      case measure => simp [intOf]; omega
                    · have hdj : decide ((j : Int) < 3) = false := by simp; omega
                      have hk3 : 3 - p = k := by omega
                      obtain ⟨N, hN⟩ : ∃ N, N = v * 10 ^ k := ⟨_, rfl⟩
                      have HP2 := Lib.hid (show Num.parse (Num.bl s) = Num.done false (some N) by rw [HPS.out, HV.out, hk3, hN])
                      rw [← hN] at hcl2 ⊢
                      obtain ⟨u, hu⟩ : ∃ u, u = Num.cap4 N := ⟨_, rfl⟩
                      have hmost := Num.cap4_most N
                      rw [← hu] at hcl2 hmost ⊢
                      by_cases hov : 9007199254740992 < u
                      · have hdo : decide ((9007199254740992 : Int) < (u : Int)) = true := by simp; omega
                        have HP3 := Lib.hid (show Num.parse (Num.bl s) = (0, 2) by rw [HP2.out, Num.done_some, if_pos (hmost.1 hov)])
                        clear hN hu hmost hov hk3 hjk
                        go_wp2
                        go_ret2
                        rw [HP3.out]
                        exact ⟨rfl, Below.refl _ _⟩
                      · have hdo : decide ((9007199254740992 : Int) < (u : Int)) = false := by simp; omega
                        have hNn : u = N := by rw [hu]; exact Num.cap4_small (by omega)
                        have HP3 := Lib.hid (show Num.parse (Num.bl s) = ((if false = true then -(u : Int) else (u : Int)), 0) by rw [HP2.out, Num.done_some, if_neg (by omega), hNn])
                        clear hN hu hmost hNn hk3 hjk
                        go_wp2
                        go_ret2
                        rw [HP3.out]
                        exact ⟨rfl, Below.refl _ _⟩
            · have hde2 : ((e2 : Int) != (s.size : Int)) = true := by rw [bne_iff_ne]; omega
              have HB := Lib.hid (show Num.parse (Num.bl s) = (0, 1) by
                rw [HPAR.out, Num.ref_bad HT.out (.inr (.inl (by rw [HEN2.out, Num.drop_cons s e2 (by omega)]; exact List.cons_ne_nil _ _)))]; rfl)
              clear he5 hn0
              go_wp2
              go_ret2
              rw [HB.out]
              exact ⟨rfl, Below.refl _ _⟩
    · have HNP := Lib.hid (show ∀ t, l.drop (Num.run l) ≠ 46 :: t from fun t h => hpt ⟨t, h⟩)
      have hcase : (en < s.size ∧ ((((s.get! en).toNat : Int) == 46) = false)) ∨ en = s.size := by
        rcases Nat.lt_or_ge en s.size with h | h
        · refine .inl ⟨h, ?_⟩
          rw [Num.get_is s en h, beq_eq_false_iff_ne]
          intro e
          have h46 := (num_n_eq (s[en]) 46 (by decide)).2 e
          exact hpt ⟨_, by rw [HDROP.out, Num.drop_cons s en h, h46]; rfl⟩
        · exact .inr (by omega)
      clear hpt
      by_cases hn0 : en = 0
      · have hdn : ((en : Int) == 0) = true := by rw [beq_iff_eq]; omega
        have HB := Lib.hid (show Num.parse (Num.bl s) = (0, 1) by rw [HPAR.out, Num.ref_bad2 HNP.out (.inl (HN.out.trans hn0))]; rfl)
        rcases hcase with ⟨hlt, hc⟩ | he
        · rw [Num.get_is s en hlt] at hc
          have hdlt : decide (en < s.size) = true := by simp; omega
          clear hn0
          go_wp2
          go_ret2
          rw [HB.out]
          exact ⟨rfl, Below.refl _ _⟩
        · have hdlt : decide (en < s.size) = false := by simp; omega
          have HE := Lib.hid he
          clear hn0 he
          go_wp2
          go_ret2
          rw [HB.out]
          exact ⟨rfl, Below.refl _ _⟩
      · have hdn : ((en : Int) == 0) = false := by rw [beq_eq_false_iff_ne]; omega
        rcases hcase with ⟨hlt, hc⟩ | he
        · rw [Num.get_is s en hlt] at hc
          have hdlt : decide (en < s.size) = true := by simp; omega
          have hde2 : ((en : Int) != (s.size : Int)) = true := by rw [bne_iff_ne]; omega
          have HB := Lib.hid (show Num.parse (Num.bl s) = (0, 1) by
            rw [HPAR.out, Num.ref_bad2 HNP.out (.inr (by rw [HDROP.out, Num.drop_cons s en hlt]; exact List.cons_ne_nil _ _))]; rfl)
          clear hn0
          go_wp2
          go_ret2
          rw [HB.out]
          exact ⟨rfl, Below.refl _ _⟩
        · have hdlt : decide (en < s.size) = false := by simp; omega
          have hde2 : ((en : Int) != (s.size : Int)) = false := by rw [he]; simp
          have HG := Lib.hid (Num.ref_good2 (by rw [HDROP.out, he, Num.drop_all s s.size (Nat.le_refl _)]) (by rw [HN.out]; exact hn0))
          have HPL := Lib.hid HG.out.2
          have HPS := Lib.hid (show Num.parse (Num.bl s) = Num.done false (some (Num.sum 0 l * 10 ^ (3 - 0))) by rw [HPAR.out, HG.out.1])
          have HE := Lib.hid he
          clear he hn0
          go_wp2
          go_loopw [8, 9] (fun s8 s9 wr => ∃ i v : Nat, 0 ≤ i ∧ i ≤ s.size ∧ w = wr ∧ s9 = .int .i64 (i : Nat) ∧ s8 = .int .i64 (Num.cap4 v : Nat) ∧ Num.sum 0 l = Num.sum v ((Num.bl s).drop i) ∧ Num.plain ((Num.bl s).drop i) = true) (fun _ s9 _ => s.size - (intOf s9).toNat)
          case atStart => exact ⟨0, 0, Nat.le_refl _, by omega, rfl, rfl, rfl, by rw [← HL.out], by rw [← HL.out]; exact HPL.out⟩
          case round =>
            obtain ⟨i, v, hai, hi, rfl, rfl, rfl, hsum, hpl⟩ := hrel
            have hcl := Num.cap4_le v
            obtain ⟨m, hm⟩ : ∃ m, m = Num.cap4 v := ⟨_, rfl⟩
            rw [← hm] at hcl ⊢
            have HM := Lib.hid hm
            clear hm
            by_cases hlt : i < s.size
            · have hdc := Num.drop_cons s i hlt
              obtain ⟨c, hc⟩ : ∃ c, s[i] = c := ⟨_, rfl⟩
              rw [hc] at hdc
              rw [hdc] at hsum hpl
              have hdi : decide (i < s.size) = true := by simp; omega
              by_cases h46 : c = 46
              · have hs1 : Num.sum v (c :: (Num.bl s).drop (i + 1)) = Num.sum v ((Num.bl s).drop (i + 1)) := by
                  conv => lhs; unfold Num.sum
                  rw [if_pos h46]
                have HS := Lib.hid (hsum.trans hs1)
                have HPL2 := Lib.hid (show Num.plain ((Num.bl s).drop (i + 1)) = true by unfold Num.plain at hpl ⊢; rw [List.all_cons, Bool.and_eq_true] at hpl; exact hpl.2)
                have hcn : ((c.toNat : Int) != 46) = false := by rw [h46]; rfl
                clear hsum hpl hdc h46 hs1
                go_wp2
                go_roundw
                case rel => exact ⟨i + 1, v, by omega, by omega, by first | trivial | rfl, by go_num, by rw [HM.out], HS.out, HPL2.out⟩
                case measure => simp [intOf]; omega
              · have hdig : Num.digit c = true := by
                  unfold Num.plain at hpl
                  rw [List.all_cons, Bool.and_eq_true, Bool.or_eq_true, beq_iff_eq] at hpl
                  exact hpl.1.resolve_right h46
                have hs1 : Num.sum v (c :: (Num.bl s).drop (i + 1)) = Num.sum (Num.step v c) ((Num.bl s).drop (i + 1)) := by
                  conv => lhs; unfold Num.sum
                  rw [if_neg h46]
                have HS := Lib.hid (hsum.trans hs1)
                have HPL2 := Lib.hid (show Num.plain ((Num.bl s).drop (i + 1)) = true by unfold Num.plain at hpl ⊢; rw [List.all_cons, Bool.and_eq_true] at hpl; exact hpl.2)
                have hcn : ((c.toNat : Int) != 46) = true := by rw [bne_iff_ne]; exact fun e => h46 ((num_n_eq c 46 (by decide)).2 e)
                obtain ⟨hb1, hb2⟩ := (num_digit_int c).1 hdig
                clear hsum hpl hdc h46 hs1 hdig
                go_wp2
                go_roundw
                case rel =>
                  refine ⟨i + 1, Num.step v c, by omega, by omega, by first | trivial | rfl, by go_num, ?_, HS.out, HPL2.out⟩
                  have hq : min ((m : Int) * 10 + (c.toNat : Int) - 48) 36028797018963968 = ((Num.cap4 (Num.step v c) : Nat) : Int) := by
                    have := HM.out
                    unfold Num.cap4 Num.step at *
                    omega
                  rw [hq]
                case measure => simp [intOf]; omega
            · obtain rfl : i = s.size := by omega
              have hdi : decide (s.size < s.size) = false := by simp
              rw [Num.drop_all s s.size (Nat.le_refl _)] at hsum
              have HV := Lib.hid (show Num.sum 0 l = v from hsum)
              clear hsum hpl
              go_wp2
              go_loopw [8, 10] (fun s8 s10 wr => ∃ j k : Nat, 0 + k = j ∧ j ≤ 3 ∧ w = wr ∧ s10 = .int .i64 (j : Nat) ∧ s8 = .int .i64 (Num.cap4 (v * 10 ^ k) : Nat)) (fun _ s10 _ => 3 - (intOf s10).toNat)
              case atStart => exact ⟨0, 0, by omega, by omega, rfl, rfl, by rw [HM.out, Nat.pow_zero, Nat.mul_one]⟩
              case round =>
                obtain ⟨j, k, hjk, hj, rfl, rfl, rfl⟩ := hrel
                have hcl2 := Num.cap4_le (v * 10 ^ k)
                by_cases hj3 : j < 3
                · have hdj : decide ((j : Int) < 3) = true := by simp; omega
                  have HS := Lib.hid (show Num.cap4 (Num.cap4 (v * 10 ^ k) * 10 + 0) = Num.cap4 (v * 10 ^ (k + 1)) by
                    rw [Num.cap4_step, Nat.add_zero, Nat.mul_assoc, Nat.pow_succ])
                  obtain ⟨u, hu⟩ : ∃ u, u = Num.cap4 (v * 10 ^ k) := ⟨_, rfl⟩
                  rw [← hu] at hcl2 HS ⊢
                  clear hu
                  go_wp2
                  go_roundw
                  case rel =>
                    refine ⟨j + 1, k + 1, by omega, by omega, by first | trivial | rfl, by go_num, ?_⟩
                    have hq : min ((u : Int) * 10) 36028797018963968 = ((Num.cap4 (v * 10 ^ (k + 1)) : Nat) : Int) := by
                      rw [← HS.out]
                      unfold Num.cap4
                      omega
                    rw [hq]
                  case measure => simp [intOf]; omega
                · have hdj : decide ((j : Int) < 3) = false := by simp; omega
                  have hk3 : 3 - 0 = k := by omega
                  obtain ⟨N, hN⟩ : ∃ N, N = v * 10 ^ k := ⟨_, rfl⟩
                  have HP2 := Lib.hid (show Num.parse (Num.bl s) = Num.done false (some N) by rw [HPS.out, HV.out, hk3, hN])
                  rw [← hN] at hcl2 ⊢
                  obtain ⟨u, hu⟩ : ∃ u, u = Num.cap4 N := ⟨_, rfl⟩
                  have hmost := Num.cap4_most N
                  rw [← hu] at hcl2 hmost ⊢
                  by_cases hov : 9007199254740992 < u
                  · have hdo : decide ((9007199254740992 : Int) < (u : Int)) = true := by simp; omega
                    have HP3 := Lib.hid (show Num.parse (Num.bl s) = (0, 2) by rw [HP2.out, Num.done_some, if_pos (hmost.1 hov)])
                    clear hN hu hmost hov hk3 hjk
                    go_wp2
                    go_ret2
                    rw [HP3.out]
                    exact ⟨rfl, Below.refl _ _⟩
                  · have hdo : decide ((9007199254740992 : Int) < (u : Int)) = false := by simp; omega
                    have hNn : u = N := by rw [hu]; exact Num.cap4_small (by omega)
                    have HP3 := Lib.hid (show Num.parse (Num.bl s) = ((if false = true then -(u : Int) else (u : Int)), 0) by rw [HP2.out, Num.done_some, if_neg (by omega), hNn])
                    clear hN hu hmost hNn hk3 hjk
                    go_wp2
                    go_ret2
                    rw [HP3.out]
                    exact ⟨rfl, Below.refl _ _⟩
  · have hd0 : decide (0 < s.size) = true := decide_eq_true (by omega)
    rw [Num.get_is s 0 h0] at hc0
    go_wp2_with fail
    refine (HRUN.out _).mono ?_
    rintro e w2 ⟨rfl, rfl⟩
    by_cases hpt : ∃ t, l.drop (Num.run l) = 46 :: t
    · obtain ⟨t, ht⟩ := hpt
      have hde := HDROP.out
      rw [ht] at hde
      have hlt : en < s.size := by
        rcases Nat.lt_or_ge en s.size with h | h
        · exact h
        · rw [Num.drop_all s en h] at hde
          cases hde
      have hdc := Num.drop_cons s en hlt
      rw [← hde] at hdc
      injection hdc with hc1 hc2
      have hc46 : s[en] = 46 := hc1.symm
      have hdlt : decide (en < s.size) = true := by simp; omega
      obtain ⟨p, hp⟩ : ∃ p, Num.run t = p := ⟨_, rfl⟩
      have hple : p ≤ s.size - (en + 1) := by
        have := Num.run_le t
        rw [hc2, List.length_drop, Num.bl_len, ← hc2] at this
        omega
      have HRUN2 := Lib.hid (fun w => rRun_at s ((en : Int) + 1) (en + 1) (by omega) p (by rw [← hc2]; exact hp) hs (by omega) w)
      have HT := Lib.hid ht
      have HP := Lib.hid hp
      have HEN := Lib.hid (show t.drop (Num.run t) = (Num.bl s).drop (en + 1 + p) by rw [hp, hc2, List.drop_drop])
      clear hde ht hp hc1 hc2
      go_wp2_with fail
      refine (HRUN2.out _).mono ?_
      rintro e w2 ⟨rfl, rfl⟩
      by_cases hp1 : p < 1
      · have hdp : decide ((p : Int) < 1) = true := by simp; omega
        have HB := Lib.hid (show Num.parse (Num.bl s) = (0, 1) by rw [HPAR.out, Num.ref_bad HT.out (.inl (by rw [HP.out]; omega))]; rfl)
        go_wp2
        go_ret2
        rw [HB.out]
        exact ⟨rfl, Below.refl _ _⟩
      · have hdp : decide ((p : Int) < 1) = false := by simp; omega
        by_cases hp3 : 3 < p
        · have hdp2 : decide ((3 : Int) < (p : Int)) = true := by simp; omega
          have HB := Lib.hid (show Num.parse (Num.bl s) = (0, 1) by rw [HPAR.out, Num.ref_bad HT.out (.inl (by rw [HP.out]; omega))]; rfl)
          go_wp2
          go_ret2
          rw [HB.out]
          exact ⟨rfl, Below.refl _ _⟩
        · have hdp2 : decide ((3 : Int) < (p : Int)) = false := by simp; omega
          obtain ⟨e2, he2⟩ : ∃ e2, e2 = en + 1 + p := ⟨_, rfl⟩
          have he3 : (en : Int) + 1 + (p : Int) = (e2 : Int) := by omega
          have he4 : e2 ≤ s.size := by omega
          have HEN2 := Lib.hid (show t.drop (Num.run t) = (Num.bl s).drop e2 by rw [HEN.out, he2])
          have hpr : 1 ≤ p ∧ p ≤ 3 := by omega
          have hp3' : p ≤ 3 := hpr.2
          have HPR := Lib.hid hpr
          clear he2 hpr
          by_cases hn0 : en = 0
          · have hdn : ((en : Int) == 0) = true := by rw [beq_iff_eq]; omega
            have HB := Lib.hid (show Num.parse (Num.bl s) = (0, 1) by rw [HPAR.out, Num.ref_bad HT.out (.inr (.inr (HN.out.trans hn0)))]; rfl)
            clear hn0
            go_wp2
            go_ret2
            rw [HB.out]
            exact ⟨rfl, Below.refl _ _⟩
          · have hdn : ((en : Int) == 0) = false := by rw [beq_eq_false_iff_ne]; omega
            by_cases he5 : e2 = s.size
            · have hde2 : ((e2 : Int) != (s.size : Int)) = false := by rw [he5]; simp
              have HG := Lib.hid (Num.ref_good HT.out (by rw [HP.out]; exact HPR.out) (by rw [HEN2.out, he5, Num.drop_all s s.size (Nat.le_refl _)]) (by rw [HN.out]; exact hn0))
              have HPL := Lib.hid HG.out.2
              have HPS := Lib.hid (show Num.parse (Num.bl s) = Num.done false (some (Num.sum 0 l * 10 ^ (3 - p))) by rw [HPAR.out, HG.out.1, HP.out])
              have HE5 := Lib.hid he5
              clear he5 hn0
              go_wp2
              go_loopw [8, 9] (fun s8 s9 wr => ∃ i v : Nat, 0 ≤ i ∧ i ≤ s.size ∧ w = wr ∧ s9 = .int .i64 (i : Nat) ∧ s8 = .int .i64 (Num.cap4 v : Nat) ∧ Num.sum 0 l = Num.sum v ((Num.bl s).drop i) ∧ Num.plain ((Num.bl s).drop i) = true) (fun _ s9 _ => s.size - (intOf s9).toNat)
              case atStart => exact ⟨0, 0, Nat.le_refl _, by omega, rfl, rfl, rfl, by rw [← HL.out], by rw [← HL.out]; exact HPL.out⟩
              case round =>
                obtain ⟨i, v, hai, hi, rfl, rfl, rfl, hsum, hpl⟩ := hrel
                have hcl := Num.cap4_le v
                obtain ⟨m, hm⟩ : ∃ m, m = Num.cap4 v := ⟨_, rfl⟩
                rw [← hm] at hcl ⊢
                have HM := Lib.hid hm
                clear hm
                by_cases hlt : i < s.size
                · have hdc := Num.drop_cons s i hlt
                  obtain ⟨c, hc⟩ : ∃ c, s[i] = c := ⟨_, rfl⟩
                  rw [hc] at hdc
                  rw [hdc] at hsum hpl
                  have hdi : decide (i < s.size) = true := by simp; omega
                  by_cases h46 : c = 46
                  · have hs1 : Num.sum v (c :: (Num.bl s).drop (i + 1)) = Num.sum v ((Num.bl s).drop (i + 1)) := by
                      conv => lhs; unfold Num.sum
                      rw [if_pos h46]
                    have HS := Lib.hid (hsum.trans hs1)
                    have HPL2 := Lib.hid (show Num.plain ((Num.bl s).drop (i + 1)) = true by unfold Num.plain at hpl ⊢; rw [List.all_cons, Bool.and_eq_true] at hpl; exact hpl.2)
                    have hcn : ((c.toNat : Int) != 46) = false := by rw [h46]; rfl
                    clear hsum hpl hdc h46 hs1
                    go_wp2
                    go_roundw
                    case rel => exact ⟨i + 1, v, by omega, by omega, by first | trivial | rfl, by go_num, by rw [HM.out], HS.out, HPL2.out⟩
                    case measure => simp [intOf]; omega
                  · have hdig : Num.digit c = true := by
                      unfold Num.plain at hpl
                      rw [List.all_cons, Bool.and_eq_true, Bool.or_eq_true, beq_iff_eq] at hpl
                      exact hpl.1.resolve_right h46
                    have hs1 : Num.sum v (c :: (Num.bl s).drop (i + 1)) = Num.sum (Num.step v c) ((Num.bl s).drop (i + 1)) := by
                      conv => lhs; unfold Num.sum
                      rw [if_neg h46]
                    have HS := Lib.hid (hsum.trans hs1)
                    have HPL2 := Lib.hid (show Num.plain ((Num.bl s).drop (i + 1)) = true by unfold Num.plain at hpl ⊢; rw [List.all_cons, Bool.and_eq_true] at hpl; exact hpl.2)
                    have hcn : ((c.toNat : Int) != 46) = true := by rw [bne_iff_ne]; exact fun e => h46 ((num_n_eq c 46 (by decide)).2 e)
                    obtain ⟨hb1, hb2⟩ := (num_digit_int c).1 hdig
                    clear hsum hpl hdc h46 hs1 hdig
                    go_wp2
                    go_roundw
                    case rel =>
                      refine ⟨i + 1, Num.step v c, by omega, by omega, by first | trivial | rfl, by go_num, ?_, HS.out, HPL2.out⟩
                      have hq : min ((m : Int) * 10 + (c.toNat : Int) - 48) 36028797018963968 = ((Num.cap4 (Num.step v c) : Nat) : Int) := by
                        have := HM.out
                        unfold Num.cap4 Num.step at *
                        omega
                      rw [hq]
                    case measure => simp [intOf]; omega
                · obtain rfl : i = s.size := by omega
                  have hdi : decide (s.size < s.size) = false := by simp
                  rw [Num.drop_all s s.size (Nat.le_refl _)] at hsum
                  have HV := Lib.hid (show Num.sum 0 l = v from hsum)
                  clear hsum hpl
                  go_wp2
                  go_loopw [8, 10] (fun s8 s10 wr => ∃ j k : Nat, p + k = j ∧ j ≤ 3 ∧ w = wr ∧ s10 = .int .i64 (j : Nat) ∧ s8 = .int .i64 (Num.cap4 (v * 10 ^ k) : Nat)) (fun _ s10 _ => 3 - (intOf s10).toNat)
                  case atStart => exact ⟨p, 0, by omega, by omega, rfl, rfl, by rw [HM.out, Nat.pow_zero, Nat.mul_one]⟩
                  case round =>
                    obtain ⟨j, k, hjk, hj, rfl, rfl, rfl⟩ := hrel
                    have hcl2 := Num.cap4_le (v * 10 ^ k)
                    by_cases hj3 : j < 3
                    · have hdj : decide ((j : Int) < 3) = true := by simp; omega
                      have HS := Lib.hid (show Num.cap4 (Num.cap4 (v * 10 ^ k) * 10 + 0) = Num.cap4 (v * 10 ^ (k + 1)) by
                        rw [Num.cap4_step, Nat.add_zero, Nat.mul_assoc, Nat.pow_succ])
                      obtain ⟨u, hu⟩ : ∃ u, u = Num.cap4 (v * 10 ^ k) := ⟨_, rfl⟩
                      rw [← hu] at hcl2 HS ⊢
                      clear hu
                      go_wp2
                      go_roundw
                      case rel =>
                        refine ⟨j + 1, k + 1, by omega, by omega, by first | trivial | rfl, by go_num, ?_⟩
                        have hq : min ((u : Int) * 10) 36028797018963968 = ((Num.cap4 (v * 10 ^ (k + 1)) : Nat) : Int) := by
                          rw [← HS.out]
                          unfold Num.cap4
                          omega
                        rw [hq]
                      case measure => simp [intOf]; omega
                    · have hdj : decide ((j : Int) < 3) = false := by simp; omega
                      have hk3 : 3 - p = k := by omega
                      obtain ⟨N, hN⟩ : ∃ N, N = v * 10 ^ k := ⟨_, rfl⟩
                      have HP2 := Lib.hid (show Num.parse (Num.bl s) = Num.done false (some N) by rw [HPS.out, HV.out, hk3, hN])
                      rw [← hN] at hcl2 ⊢
                      obtain ⟨u, hu⟩ : ∃ u, u = Num.cap4 N := ⟨_, rfl⟩
                      have hmost := Num.cap4_most N
                      rw [← hu] at hcl2 hmost ⊢
                      by_cases hov : 9007199254740992 < u
                      · have hdo : decide ((9007199254740992 : Int) < (u : Int)) = true := by simp; omega
                        have HP3 := Lib.hid (show Num.parse (Num.bl s) = (0, 2) by rw [HP2.out, Num.done_some, if_pos (hmost.1 hov)])
                        clear hN hu hmost hov hk3 hjk
                        go_wp2
                        go_ret2
                        rw [HP3.out]
                        exact ⟨rfl, Below.refl _ _⟩
                      · have hdo : decide ((9007199254740992 : Int) < (u : Int)) = false := by simp; omega
                        have hNn : u = N := by rw [hu]; exact Num.cap4_small (by omega)
                        have HP3 := Lib.hid (show Num.parse (Num.bl s) = ((if false = true then -(u : Int) else (u : Int)), 0) by rw [HP2.out, Num.done_some, if_neg (by omega), hNn])
                        clear hN hu hmost hNn hk3 hjk
                        go_wp2
                        go_ret2
                        rw [HP3.out]
                        exact ⟨rfl, Below.refl _ _⟩
            · have hde2 : ((e2 : Int) != (s.size : Int)) = true := by rw [bne_iff_ne]; omega
              have HB := Lib.hid (show Num.parse (Num.bl s) = (0, 1) by
                rw [HPAR.out, Num.ref_bad HT.out (.inr (.inl (by rw [HEN2.out, Num.drop_cons s e2 (by omega)]; exact List.cons_ne_nil _ _)))]; rfl)
              clear he5 hn0
              go_wp2
              go_ret2
              rw [HB.out]
              exact ⟨rfl, Below.refl _ _⟩
    · have HNP := Lib.hid (show ∀ t, l.drop (Num.run l) ≠ 46 :: t from fun t h => hpt ⟨t, h⟩)
      have hcase : (en < s.size ∧ ((((s.get! en).toNat : Int) == 46) = false)) ∨ en = s.size := by
        rcases Nat.lt_or_ge en s.size with h | h
        · refine .inl ⟨h, ?_⟩
          rw [Num.get_is s en h, beq_eq_false_iff_ne]
          intro e
          have h46 := (num_n_eq (s[en]) 46 (by decide)).2 e
          exact hpt ⟨_, by rw [HDROP.out, Num.drop_cons s en h, h46]; rfl⟩
        · exact .inr (by omega)
      clear hpt
      by_cases hn0 : en = 0
      · have hdn : ((en : Int) == 0) = true := by rw [beq_iff_eq]; omega
        have HB := Lib.hid (show Num.parse (Num.bl s) = (0, 1) by rw [HPAR.out, Num.ref_bad2 HNP.out (.inl (HN.out.trans hn0))]; rfl)
        rcases hcase with ⟨hlt, hc⟩ | he
        · rw [Num.get_is s en hlt] at hc
          have hdlt : decide (en < s.size) = true := by simp; omega
          clear hn0
          go_wp2
          go_ret2
          rw [HB.out]
          exact ⟨rfl, Below.refl _ _⟩
        · have hdlt : decide (en < s.size) = false := by simp; omega
          have HE := Lib.hid he
          clear hn0 he
          go_wp2
          go_ret2
          rw [HB.out]
          exact ⟨rfl, Below.refl _ _⟩
      · have hdn : ((en : Int) == 0) = false := by rw [beq_eq_false_iff_ne]; omega
        rcases hcase with ⟨hlt, hc⟩ | he
        · rw [Num.get_is s en hlt] at hc
          have hdlt : decide (en < s.size) = true := by simp; omega
          have hde2 : ((en : Int) != (s.size : Int)) = true := by rw [bne_iff_ne]; omega
          have HB := Lib.hid (show Num.parse (Num.bl s) = (0, 1) by
            rw [HPAR.out, Num.ref_bad2 HNP.out (.inr (by rw [HDROP.out, Num.drop_cons s en hlt]; exact List.cons_ne_nil _ _))]; rfl)
          clear hn0
          go_wp2
          go_ret2
          rw [HB.out]
          exact ⟨rfl, Below.refl _ _⟩
        · have hdlt : decide (en < s.size) = false := by simp; omega
          have hde2 : ((en : Int) != (s.size : Int)) = false := by rw [he]; simp
          have HG := Lib.hid (Num.ref_good2 (by rw [HDROP.out, he, Num.drop_all s s.size (Nat.le_refl _)]) (by rw [HN.out]; exact hn0))
          have HPL := Lib.hid HG.out.2
          have HPS := Lib.hid (show Num.parse (Num.bl s) = Num.done false (some (Num.sum 0 l * 10 ^ (3 - 0))) by rw [HPAR.out, HG.out.1])
          have HE := Lib.hid he
          clear he hn0
          go_wp2
          go_loopw [8, 9] (fun s8 s9 wr => ∃ i v : Nat, 0 ≤ i ∧ i ≤ s.size ∧ w = wr ∧ s9 = .int .i64 (i : Nat) ∧ s8 = .int .i64 (Num.cap4 v : Nat) ∧ Num.sum 0 l = Num.sum v ((Num.bl s).drop i) ∧ Num.plain ((Num.bl s).drop i) = true) (fun _ s9 _ => s.size - (intOf s9).toNat)
          case atStart => exact ⟨0, 0, Nat.le_refl _, by omega, rfl, rfl, rfl, by rw [← HL.out], by rw [← HL.out]; exact HPL.out⟩
          case round =>
            obtain ⟨i, v, hai, hi, rfl, rfl, rfl, hsum, hpl⟩ := hrel
            have hcl := Num.cap4_le v
            obtain ⟨m, hm⟩ : ∃ m, m = Num.cap4 v := ⟨_, rfl⟩
            rw [← hm] at hcl ⊢
            have HM := Lib.hid hm
            clear hm
            by_cases hlt : i < s.size
            · have hdc := Num.drop_cons s i hlt
              obtain ⟨c, hc⟩ : ∃ c, s[i] = c := ⟨_, rfl⟩
              rw [hc] at hdc
              rw [hdc] at hsum hpl
              have hdi : decide (i < s.size) = true := by simp; omega
              by_cases h46 : c = 46
              · have hs1 : Num.sum v (c :: (Num.bl s).drop (i + 1)) = Num.sum v ((Num.bl s).drop (i + 1)) := by
                  conv => lhs; unfold Num.sum
                  rw [if_pos h46]
                have HS := Lib.hid (hsum.trans hs1)
                have HPL2 := Lib.hid (show Num.plain ((Num.bl s).drop (i + 1)) = true by unfold Num.plain at hpl ⊢; rw [List.all_cons, Bool.and_eq_true] at hpl; exact hpl.2)
                have hcn : ((c.toNat : Int) != 46) = false := by rw [h46]; rfl
                clear hsum hpl hdc h46 hs1
                go_wp2
                go_roundw
                case rel => exact ⟨i + 1, v, by omega, by omega, by first | trivial | rfl, by go_num, by rw [HM.out], HS.out, HPL2.out⟩
                case measure => simp [intOf]; omega
              · have hdig : Num.digit c = true := by
                  unfold Num.plain at hpl
                  rw [List.all_cons, Bool.and_eq_true, Bool.or_eq_true, beq_iff_eq] at hpl
                  exact hpl.1.resolve_right h46
                have hs1 : Num.sum v (c :: (Num.bl s).drop (i + 1)) = Num.sum (Num.step v c) ((Num.bl s).drop (i + 1)) := by
                  conv => lhs; unfold Num.sum
                  rw [if_neg h46]
                have HS := Lib.hid (hsum.trans hs1)
                have HPL2 := Lib.hid (show Num.plain ((Num.bl s).drop (i + 1)) = true by unfold Num.plain at hpl ⊢; rw [List.all_cons, Bool.and_eq_true] at hpl; exact hpl.2)
                have hcn : ((c.toNat : Int) != 46) = true := by rw [bne_iff_ne]; exact fun e => h46 ((num_n_eq c 46 (by decide)).2 e)
                obtain ⟨hb1, hb2⟩ := (num_digit_int c).1 hdig
                clear hsum hpl hdc h46 hs1 hdig
                go_wp2
                go_roundw
                case rel =>
                  refine ⟨i + 1, Num.step v c, by omega, by omega, by first | trivial | rfl, by go_num, ?_, HS.out, HPL2.out⟩
                  have hq : min ((m : Int) * 10 + (c.toNat : Int) - 48) 36028797018963968 = ((Num.cap4 (Num.step v c) : Nat) : Int) := by
                    have := HM.out
                    unfold Num.cap4 Num.step at *
                    omega
                  rw [hq]
                case measure => simp [intOf]; omega
            · obtain rfl : i = s.size := by omega
              have hdi : decide (s.size < s.size) = false := by simp
              rw [Num.drop_all s s.size (Nat.le_refl _)] at hsum
              have HV := Lib.hid (show Num.sum 0 l = v from hsum)
              clear hsum hpl
              go_wp2
              go_loopw [8, 10] (fun s8 s10 wr => ∃ j k : Nat, 0 + k = j ∧ j ≤ 3 ∧ w = wr ∧ s10 = .int .i64 (j : Nat) ∧ s8 = .int .i64 (Num.cap4 (v * 10 ^ k) : Nat)) (fun _ s10 _ => 3 - (intOf s10).toNat)
              case atStart => exact ⟨0, 0, by omega, by omega, rfl, rfl, by rw [HM.out, Nat.pow_zero, Nat.mul_one]⟩
              case round =>
                obtain ⟨j, k, hjk, hj, rfl, rfl, rfl⟩ := hrel
                have hcl2 := Num.cap4_le (v * 10 ^ k)
                by_cases hj3 : j < 3
                · have hdj : decide ((j : Int) < 3) = true := by simp; omega
                  have HS := Lib.hid (show Num.cap4 (Num.cap4 (v * 10 ^ k) * 10 + 0) = Num.cap4 (v * 10 ^ (k + 1)) by
                    rw [Num.cap4_step, Nat.add_zero, Nat.mul_assoc, Nat.pow_succ])
                  obtain ⟨u, hu⟩ : ∃ u, u = Num.cap4 (v * 10 ^ k) := ⟨_, rfl⟩
                  rw [← hu] at hcl2 HS ⊢
                  clear hu
                  go_wp2
                  go_roundw
                  case rel =>
                    refine ⟨j + 1, k + 1, by omega, by omega, by first | trivial | rfl, by go_num, ?_⟩
                    have hq : min ((u : Int) * 10) 36028797018963968 = ((Num.cap4 (v * 10 ^ (k + 1)) : Nat) : Int) := by
                      rw [← HS.out]
                      unfold Num.cap4
                      omega
                    rw [hq]
                  case measure => simp [intOf]; omega
                · have hdj : decide ((j : Int) < 3) = false := by simp; omega
                  have hk3 : 3 - 0 = k := by omega
                  obtain ⟨N, hN⟩ : ∃ N, N = v * 10 ^ k := ⟨_, rfl⟩
                  have HP2 := Lib.hid (show Num.parse (Num.bl s) = Num.done false (some N) by rw [HPS.out, HV.out, hk3, hN])
                  rw [← hN] at hcl2 ⊢
                  obtain ⟨u, hu⟩ : ∃ u, u = Num.cap4 N := ⟨_, rfl⟩
                  have hmost := Num.cap4_most N
                  rw [← hu] at hcl2 hmost ⊢
                  by_cases hov : 9007199254740992 < u
                  · have hdo : decide ((9007199254740992 : Int) < (u : Int)) = true := by simp; omega
                    have HP3 := Lib.hid (show Num.parse (Num.bl s) = (0, 2) by rw [HP2.out, Num.done_some, if_pos (hmost.1 hov)])
                    clear hN hu hmost hov hk3 hjk
                    go_wp2
                    go_ret2
                    rw [HP3.out]
                    exact ⟨rfl, Below.refl _ _⟩
                  · have hdo : decide ((9007199254740992 : Int) < (u : Int)) = false := by simp; omega
                    have hNn : u = N := by rw [hu]; exact Num.cap4_small (by omega)
                    have HP3 := Lib.hid (show Num.parse (Num.bl s) = ((if false = true then -(u : Int) else (u : Int)), 0) by rw [HP2.out, Num.done_some, if_neg (by omega), hNn])
                    clear hN hu hmost hNn hk3 hjk
                    go_wp2
                    go_ret2
                    rw [HP3.out]
                    exact ⟨rfl, Below.refl _ _⟩

set_option maxRecDepth 100000 in
set_option maxHeartbeats 8000000 in
theorem rParse_one (s : ByteArray) (hs : s.size ≤ 4611686018427387904) (hng : Num.neg (Num.bl s) = true) (w : World) :
    Calls Tryd.prog 67 #[.string s] w fun e w' => e = .returned (.tuple #[.int .i64 (Num.parse (Num.bl s)).1, .int .i64 (Num.parse (Num.bl s)).2]) ∧ Below w.heap.size w w' := by
  obtain ⟨l, hbl⟩ : ∃ l, Num.bl s = 45 :: l := by
    unfold Num.neg at hng
    split at hng
    · rename_i hh
      exact ⟨_, hh⟩
    · cases hng
  have h0 : 0 < s.size := by rw [← Num.bl_len, hbl]; simp
  have hl : l = (Num.bl s).drop 1 := by rw [hbl]; rfl
  have hc0 : s[0] = 45 := by
    have := Num.drop_cons s 0 h0
    rw [List.drop_zero, hbl] at this
    injection this with h1 h2
    exact h1.symm
  have HPAR := Lib.hid (show Num.parse (Num.bl s) = Num.done true (Num.scan l 0 0 0 false) by unfold Num.parse Num.mag; rw [hng, hbl]; rfl)
  obtain ⟨n, hn⟩ : ∃ n, Num.run l = n := ⟨_, rfl⟩
  have hns : n + 1 ≤ s.size := by have := Num.run_le l; rw [← Num.bl_len, hbl, List.length_cons]; omega
  have HRUN := Lib.hid (fun w => rRun_at s 1 1 rfl n (by rw [← hl]; exact hn) hs (by omega) w)
  have HN := Lib.hid hn
  obtain ⟨en, hen⟩ : ∃ en, en = 1 + n := ⟨_, rfl⟩
  have hen1 : (1 : Int) + (n : Int) = (en : Int) := by omega
  have hens : en ≤ s.size := by omega
  have HDROP := Lib.hid (show l.drop (Num.run l) = (Num.bl s).drop en by rw [hn, hl, List.drop_drop, hen])
  have HL := Lib.hid hl
  have hd0 : decide (0 < s.size) = true := decide_eq_true h0
  clear hl hn hng hbl hen hns
  go_enter Tryd.func67, Tryd.ntmps67
  go_wp2_with fail
  refine (HRUN.out _).mono ?_
  rintro e w2 ⟨rfl, rfl⟩
  by_cases hpt : ∃ t, l.drop (Num.run l) = 46 :: t
  · obtain ⟨t, ht⟩ := hpt
    have hde := HDROP.out
    rw [ht] at hde
    have hlt : en < s.size := by
      rcases Nat.lt_or_ge en s.size with h | h
      · exact h
      · rw [Num.drop_all s en h] at hde
        cases hde
    have hdc := Num.drop_cons s en hlt
    rw [← hde] at hdc
    injection hdc with hc1 hc2
    have hc46 : s[en] = 46 := hc1.symm
    have hdlt : decide (en < s.size) = true := by simp; omega
    obtain ⟨p, hp⟩ : ∃ p, Num.run t = p := ⟨_, rfl⟩
    have hple : p ≤ s.size - (en + 1) := by
      have := Num.run_le t
      rw [hc2, List.length_drop, Num.bl_len, ← hc2] at this
      omega
    have HRUN2 := Lib.hid (fun w => rRun_at s ((en : Int) + 1) (en + 1) (by omega) p (by rw [← hc2]; exact hp) hs (by omega) w)
    have HT := Lib.hid ht
    have HP := Lib.hid hp
    have HEN := Lib.hid (show t.drop (Num.run t) = (Num.bl s).drop (en + 1 + p) by rw [hp, hc2, List.drop_drop])
    clear hde ht hp hc1 hc2
    go_wp2_with fail
    refine (HRUN2.out _).mono ?_
    rintro e w2 ⟨rfl, rfl⟩
    by_cases hp1 : p < 1
    · have hdp : decide ((p : Int) < 1) = true := by simp; omega
      have HB := Lib.hid (show Num.parse (Num.bl s) = (0, 1) by rw [HPAR.out, Num.ref_bad HT.out (.inl (by rw [HP.out]; omega))]; rfl)
      go_wp2
      go_ret2
      rw [HB.out]
      exact ⟨rfl, Below.refl _ _⟩
    · have hdp : decide ((p : Int) < 1) = false := by simp; omega
      by_cases hp3 : 3 < p
      · have hdp2 : decide ((3 : Int) < (p : Int)) = true := by simp; omega
        have HB := Lib.hid (show Num.parse (Num.bl s) = (0, 1) by rw [HPAR.out, Num.ref_bad HT.out (.inl (by rw [HP.out]; omega))]; rfl)
        go_wp2
        go_ret2
        rw [HB.out]
        exact ⟨rfl, Below.refl _ _⟩
      · have hdp2 : decide ((3 : Int) < (p : Int)) = false := by simp; omega
        obtain ⟨e2, he2⟩ : ∃ e2, e2 = en + 1 + p := ⟨_, rfl⟩
        have he3 : (en : Int) + 1 + (p : Int) = (e2 : Int) := by omega
        have he4 : e2 ≤ s.size := by omega
        have HEN2 := Lib.hid (show t.drop (Num.run t) = (Num.bl s).drop e2 by rw [HEN.out, he2])
        have hpr : 1 ≤ p ∧ p ≤ 3 := by omega
        have hp3' : p ≤ 3 := hpr.2
        have HPR := Lib.hid hpr
        clear he2 hpr
        by_cases hn0 : n = 0
        · have hdn : ((n : Int) == 0) = true := by rw [beq_iff_eq]; omega
          have HB := Lib.hid (show Num.parse (Num.bl s) = (0, 1) by rw [HPAR.out, Num.ref_bad HT.out (.inr (.inr (HN.out.trans hn0)))]; rfl)
          clear hn0
          go_wp2
          go_ret2
          rw [HB.out]
          exact ⟨rfl, Below.refl _ _⟩
        · have hdn : ((n : Int) == 0) = false := by rw [beq_eq_false_iff_ne]; omega
          by_cases he5 : e2 = s.size
          · have hde2 : ((e2 : Int) != (s.size : Int)) = false := by rw [he5]; simp
            have HG := Lib.hid (Num.ref_good HT.out (by rw [HP.out]; exact HPR.out) (by rw [HEN2.out, he5, Num.drop_all s s.size (Nat.le_refl _)]) (by rw [HN.out]; exact hn0))
            have HPL := Lib.hid HG.out.2
            have HPS := Lib.hid (show Num.parse (Num.bl s) = Num.done true (some (Num.sum 0 l * 10 ^ (3 - p))) by rw [HPAR.out, HG.out.1, HP.out])
            have HE5 := Lib.hid he5
            clear he5 hn0
            go_wp2
            go_loopw [8, 9] (fun s8 s9 wr => ∃ i v : Nat, 1 ≤ i ∧ i ≤ s.size ∧ w = wr ∧ s9 = .int .i64 (i : Nat) ∧ s8 = .int .i64 (Num.cap4 v : Nat) ∧ Num.sum 0 l = Num.sum v ((Num.bl s).drop i) ∧ Num.plain ((Num.bl s).drop i) = true) (fun _ s9 _ => s.size - (intOf s9).toNat)
            case atStart => exact ⟨1, 0, Nat.le_refl _, by omega, rfl, rfl, rfl, by rw [← HL.out], by rw [← HL.out]; exact HPL.out⟩
            case round =>
              obtain ⟨i, v, hai, hi, rfl, rfl, rfl, hsum, hpl⟩ := hrel
              have hcl := Num.cap4_le v
              obtain ⟨m, hm⟩ : ∃ m, m = Num.cap4 v := ⟨_, rfl⟩
              rw [← hm] at hcl ⊢
              have HM := Lib.hid hm
              clear hm
              by_cases hlt : i < s.size
              · have hdc := Num.drop_cons s i hlt
                obtain ⟨c, hc⟩ : ∃ c, s[i] = c := ⟨_, rfl⟩
                rw [hc] at hdc
                rw [hdc] at hsum hpl
                have hdi : decide (i < s.size) = true := by simp; omega
                by_cases h46 : c = 46
                · have hs1 : Num.sum v (c :: (Num.bl s).drop (i + 1)) = Num.sum v ((Num.bl s).drop (i + 1)) := by
                    conv => lhs; unfold Num.sum
                    rw [if_pos h46]
                  have HS := Lib.hid (hsum.trans hs1)
                  have HPL2 := Lib.hid (show Num.plain ((Num.bl s).drop (i + 1)) = true by unfold Num.plain at hpl ⊢; rw [List.all_cons, Bool.and_eq_true] at hpl; exact hpl.2)
                  have hcn : ((c.toNat : Int) != 46) = false := by rw [h46]; rfl
                  clear hsum hpl hdc h46 hs1
                  go_wp2
                  go_roundw
                  case rel => exact ⟨i + 1, v, by omega, by omega, by first | trivial | rfl, by go_num, by rw [HM.out], HS.out, HPL2.out⟩
                  case measure => simp [intOf]; omega
                · have hdig : Num.digit c = true := by
                    unfold Num.plain at hpl
                    rw [List.all_cons, Bool.and_eq_true, Bool.or_eq_true, beq_iff_eq] at hpl
                    exact hpl.1.resolve_right h46
                  have hs1 : Num.sum v (c :: (Num.bl s).drop (i + 1)) = Num.sum (Num.step v c) ((Num.bl s).drop (i + 1)) := by
                    conv => lhs; unfold Num.sum
                    rw [if_neg h46]
                  have HS := Lib.hid (hsum.trans hs1)
                  have HPL2 := Lib.hid (show Num.plain ((Num.bl s).drop (i + 1)) = true by unfold Num.plain at hpl ⊢; rw [List.all_cons, Bool.and_eq_true] at hpl; exact hpl.2)
                  have hcn : ((c.toNat : Int) != 46) = true := by rw [bne_iff_ne]; exact fun e => h46 ((num_n_eq c 46 (by decide)).2 e)
                  obtain ⟨hb1, hb2⟩ := (num_digit_int c).1 hdig
                  clear hsum hpl hdc h46 hs1 hdig
                  go_wp2
                  go_roundw
                  case rel =>
                    refine ⟨i + 1, Num.step v c, by omega, by omega, by first | trivial | rfl, by go_num, ?_, HS.out, HPL2.out⟩
                    have hq : min ((m : Int) * 10 + (c.toNat : Int) - 48) 36028797018963968 = ((Num.cap4 (Num.step v c) : Nat) : Int) := by
                      have := HM.out
                      unfold Num.cap4 Num.step at *
                      omega
                    rw [hq]
                  case measure => simp [intOf]; omega
              · obtain rfl : i = s.size := by omega
                have hdi : decide (s.size < s.size) = false := by simp
                rw [Num.drop_all s s.size (Nat.le_refl _)] at hsum
                have HV := Lib.hid (show Num.sum 0 l = v from hsum)
                clear hsum hpl
                go_wp2
                go_loopw [8, 10] (fun s8 s10 wr => ∃ j k : Nat, p + k = j ∧ j ≤ 3 ∧ w = wr ∧ s10 = .int .i64 (j : Nat) ∧ s8 = .int .i64 (Num.cap4 (v * 10 ^ k) : Nat)) (fun _ s10 _ => 3 - (intOf s10).toNat)
                case atStart => exact ⟨p, 0, by omega, by omega, rfl, rfl, by rw [HM.out, Nat.pow_zero, Nat.mul_one]⟩
                case round =>
                  obtain ⟨j, k, hjk, hj, rfl, rfl, rfl⟩ := hrel
                  have hcl2 := Num.cap4_le (v * 10 ^ k)
                  by_cases hj3 : j < 3
                  · have hdj : decide ((j : Int) < 3) = true := by simp; omega
                    have HS := Lib.hid (show Num.cap4 (Num.cap4 (v * 10 ^ k) * 10 + 0) = Num.cap4 (v * 10 ^ (k + 1)) by
                      rw [Num.cap4_step, Nat.add_zero, Nat.mul_assoc, Nat.pow_succ])
                    obtain ⟨u, hu⟩ : ∃ u, u = Num.cap4 (v * 10 ^ k) := ⟨_, rfl⟩
                    rw [← hu] at hcl2 HS ⊢
                    clear hu
                    go_wp2
                    go_roundw
                    case rel =>
                      refine ⟨j + 1, k + 1, by omega, by omega, by first | trivial | rfl, by go_num, ?_⟩
                      have hq : min ((u : Int) * 10) 36028797018963968 = ((Num.cap4 (v * 10 ^ (k + 1)) : Nat) : Int) := by
                        rw [← HS.out]
                        unfold Num.cap4
                        omega
                      rw [hq]
                    case measure => simp [intOf]; omega
                  · have hdj : decide ((j : Int) < 3) = false := by simp; omega
                    have hk3 : 3 - p = k := by omega
                    obtain ⟨N, hN⟩ : ∃ N, N = v * 10 ^ k := ⟨_, rfl⟩
                    have HP2 := Lib.hid (show Num.parse (Num.bl s) = Num.done true (some N) by rw [HPS.out, HV.out, hk3, hN])
                    rw [← hN] at hcl2 ⊢
                    obtain ⟨u, hu⟩ : ∃ u, u = Num.cap4 N := ⟨_, rfl⟩
                    have hmost := Num.cap4_most N
                    rw [← hu] at hcl2 hmost ⊢
                    by_cases hov : 9007199254740992 < u
                    · have hdo : decide ((9007199254740992 : Int) < (u : Int)) = true := by simp; omega
                      have HP3 := Lib.hid (show Num.parse (Num.bl s) = (0, 2) by rw [HP2.out, Num.done_some, if_pos (hmost.1 hov)])
                      clear hN hu hmost hov hk3 hjk
                      go_wp2
                      go_ret2
                      rw [HP3.out]
                      exact ⟨rfl, Below.refl _ _⟩
                    · have hdo : decide ((9007199254740992 : Int) < (u : Int)) = false := by simp; omega
                      have hNn : u = N := by rw [hu]; exact Num.cap4_small (by omega)
                      have HP3 := Lib.hid (show Num.parse (Num.bl s) = ((if true = true then -(u : Int) else (u : Int)), 0) by rw [HP2.out, Num.done_some, if_neg (by omega), hNn])
                      clear hN hu hmost hNn hk3 hjk
                      go_wp2
                      go_ret2
                      rw [HP3.out]
                      exact ⟨rfl, Below.refl _ _⟩
          · have hde2 : ((e2 : Int) != (s.size : Int)) = true := by rw [bne_iff_ne]; omega
            have HB := Lib.hid (show Num.parse (Num.bl s) = (0, 1) by
              rw [HPAR.out, Num.ref_bad HT.out (.inr (.inl (by rw [HEN2.out, Num.drop_cons s e2 (by omega)]; exact List.cons_ne_nil _ _)))]; rfl)
            clear he5 hn0
            go_wp2
            go_ret2
            rw [HB.out]
            exact ⟨rfl, Below.refl _ _⟩
  · have HNP := Lib.hid (show ∀ t, l.drop (Num.run l) ≠ 46 :: t from fun t h => hpt ⟨t, h⟩)
    have hcase : (en < s.size ∧ ((((s.get! en).toNat : Int) == 46) = false)) ∨ en = s.size := by
      rcases Nat.lt_or_ge en s.size with h | h
      · refine .inl ⟨h, ?_⟩
        rw [Num.get_is s en h, beq_eq_false_iff_ne]
        intro e
        have h46 := (num_n_eq (s[en]) 46 (by decide)).2 e
        exact hpt ⟨_, by rw [HDROP.out, Num.drop_cons s en h, h46]; rfl⟩
      · exact .inr (by omega)
    clear hpt
    by_cases hn0 : n = 0
    · have hdn : ((n : Int) == 0) = true := by rw [beq_iff_eq]; omega
      have HB := Lib.hid (show Num.parse (Num.bl s) = (0, 1) by rw [HPAR.out, Num.ref_bad2 HNP.out (.inl (HN.out.trans hn0))]; rfl)
      rcases hcase with ⟨hlt, hc⟩ | he
      · rw [Num.get_is s en hlt] at hc
        have hdlt : decide (en < s.size) = true := by simp; omega
        clear hn0
        go_wp2
        go_ret2
        rw [HB.out]
        exact ⟨rfl, Below.refl _ _⟩
      · have hdlt : decide (en < s.size) = false := by simp; omega
        have HE := Lib.hid he
        clear hn0 he
        go_wp2
        go_ret2
        rw [HB.out]
        exact ⟨rfl, Below.refl _ _⟩
    · have hdn : ((n : Int) == 0) = false := by rw [beq_eq_false_iff_ne]; omega
      rcases hcase with ⟨hlt, hc⟩ | he
      · rw [Num.get_is s en hlt] at hc
        have hdlt : decide (en < s.size) = true := by simp; omega
        have hde2 : ((en : Int) != (s.size : Int)) = true := by rw [bne_iff_ne]; omega
        have HB := Lib.hid (show Num.parse (Num.bl s) = (0, 1) by
          rw [HPAR.out, Num.ref_bad2 HNP.out (.inr (by rw [HDROP.out, Num.drop_cons s en hlt]; exact List.cons_ne_nil _ _))]; rfl)
        clear hn0
        go_wp2
        go_ret2
        rw [HB.out]
        exact ⟨rfl, Below.refl _ _⟩
      · have hdlt : decide (en < s.size) = false := by simp; omega
        have hde2 : ((en : Int) != (s.size : Int)) = false := by rw [he]; simp
        have HG := Lib.hid (Num.ref_good2 (by rw [HDROP.out, he, Num.drop_all s s.size (Nat.le_refl _)]) (by rw [HN.out]; exact hn0))
        have HPL := Lib.hid HG.out.2
        have HPS := Lib.hid (show Num.parse (Num.bl s) = Num.done true (some (Num.sum 0 l * 10 ^ (3 - 0))) by rw [HPAR.out, HG.out.1])
        have HE := Lib.hid he
        clear he hn0
        go_wp2
        go_loopw [8, 9] (fun s8 s9 wr => ∃ i v : Nat, 1 ≤ i ∧ i ≤ s.size ∧ w = wr ∧ s9 = .int .i64 (i : Nat) ∧ s8 = .int .i64 (Num.cap4 v : Nat) ∧ Num.sum 0 l = Num.sum v ((Num.bl s).drop i) ∧ Num.plain ((Num.bl s).drop i) = true) (fun _ s9 _ => s.size - (intOf s9).toNat)
        case atStart => exact ⟨1, 0, Nat.le_refl _, by omega, rfl, rfl, rfl, by rw [← HL.out], by rw [← HL.out]; exact HPL.out⟩
        case round =>
          obtain ⟨i, v, hai, hi, rfl, rfl, rfl, hsum, hpl⟩ := hrel
          have hcl := Num.cap4_le v
          obtain ⟨m, hm⟩ : ∃ m, m = Num.cap4 v := ⟨_, rfl⟩
          rw [← hm] at hcl ⊢
          have HM := Lib.hid hm
          clear hm
          by_cases hlt : i < s.size
          · have hdc := Num.drop_cons s i hlt
            obtain ⟨c, hc⟩ : ∃ c, s[i] = c := ⟨_, rfl⟩
            rw [hc] at hdc
            rw [hdc] at hsum hpl
            have hdi : decide (i < s.size) = true := by simp; omega
            by_cases h46 : c = 46
            · have hs1 : Num.sum v (c :: (Num.bl s).drop (i + 1)) = Num.sum v ((Num.bl s).drop (i + 1)) := by
                conv => lhs; unfold Num.sum
                rw [if_pos h46]
              have HS := Lib.hid (hsum.trans hs1)
              have HPL2 := Lib.hid (show Num.plain ((Num.bl s).drop (i + 1)) = true by unfold Num.plain at hpl ⊢; rw [List.all_cons, Bool.and_eq_true] at hpl; exact hpl.2)
              have hcn : ((c.toNat : Int) != 46) = false := by rw [h46]; rfl
              clear hsum hpl hdc h46 hs1
              go_wp2
              go_roundw
              case rel => exact ⟨i + 1, v, by omega, by omega, by first | trivial | rfl, by go_num, by rw [HM.out], HS.out, HPL2.out⟩
              case measure => simp [intOf]; omega
            · have hdig : Num.digit c = true := by
                unfold Num.plain at hpl
                rw [List.all_cons, Bool.and_eq_true, Bool.or_eq_true, beq_iff_eq] at hpl
                exact hpl.1.resolve_right h46
              have hs1 : Num.sum v (c :: (Num.bl s).drop (i + 1)) = Num.sum (Num.step v c) ((Num.bl s).drop (i + 1)) := by
                conv => lhs; unfold Num.sum
                rw [if_neg h46]
              have HS := Lib.hid (hsum.trans hs1)
              have HPL2 := Lib.hid (show Num.plain ((Num.bl s).drop (i + 1)) = true by unfold Num.plain at hpl ⊢; rw [List.all_cons, Bool.and_eq_true] at hpl; exact hpl.2)
              have hcn : ((c.toNat : Int) != 46) = true := by rw [bne_iff_ne]; exact fun e => h46 ((num_n_eq c 46 (by decide)).2 e)
              obtain ⟨hb1, hb2⟩ := (num_digit_int c).1 hdig
              clear hsum hpl hdc h46 hs1 hdig
              go_wp2
              go_roundw
              case rel =>
                refine ⟨i + 1, Num.step v c, by omega, by omega, by first | trivial | rfl, by go_num, ?_, HS.out, HPL2.out⟩
                have hq : min ((m : Int) * 10 + (c.toNat : Int) - 48) 36028797018963968 = ((Num.cap4 (Num.step v c) : Nat) : Int) := by
                  have := HM.out
                  unfold Num.cap4 Num.step at *
                  omega
                rw [hq]
              case measure => simp [intOf]; omega
          · obtain rfl : i = s.size := by omega
            have hdi : decide (s.size < s.size) = false := by simp
            rw [Num.drop_all s s.size (Nat.le_refl _)] at hsum
            have HV := Lib.hid (show Num.sum 0 l = v from hsum)
            clear hsum hpl
            go_wp2
            go_loopw [8, 10] (fun s8 s10 wr => ∃ j k : Nat, 0 + k = j ∧ j ≤ 3 ∧ w = wr ∧ s10 = .int .i64 (j : Nat) ∧ s8 = .int .i64 (Num.cap4 (v * 10 ^ k) : Nat)) (fun _ s10 _ => 3 - (intOf s10).toNat)
            case atStart => exact ⟨0, 0, by omega, by omega, rfl, rfl, by rw [HM.out, Nat.pow_zero, Nat.mul_one]⟩
            case round =>
              obtain ⟨j, k, hjk, hj, rfl, rfl, rfl⟩ := hrel
              have hcl2 := Num.cap4_le (v * 10 ^ k)
              by_cases hj3 : j < 3
              · have hdj : decide ((j : Int) < 3) = true := by simp; omega
                have HS := Lib.hid (show Num.cap4 (Num.cap4 (v * 10 ^ k) * 10 + 0) = Num.cap4 (v * 10 ^ (k + 1)) by
                  rw [Num.cap4_step, Nat.add_zero, Nat.mul_assoc, Nat.pow_succ])
                obtain ⟨u, hu⟩ : ∃ u, u = Num.cap4 (v * 10 ^ k) := ⟨_, rfl⟩
                rw [← hu] at hcl2 HS ⊢
                clear hu
                go_wp2
                go_roundw
                case rel =>
                  refine ⟨j + 1, k + 1, by omega, by omega, by first | trivial | rfl, by go_num, ?_⟩
                  have hq : min ((u : Int) * 10) 36028797018963968 = ((Num.cap4 (v * 10 ^ (k + 1)) : Nat) : Int) := by
                    rw [← HS.out]
                    unfold Num.cap4
                    omega
                  rw [hq]
                case measure => simp [intOf]; omega
              · have hdj : decide ((j : Int) < 3) = false := by simp; omega
                have hk3 : 3 - 0 = k := by omega
                obtain ⟨N, hN⟩ : ∃ N, N = v * 10 ^ k := ⟨_, rfl⟩
                have HP2 := Lib.hid (show Num.parse (Num.bl s) = Num.done true (some N) by rw [HPS.out, HV.out, hk3, hN])
                rw [← hN] at hcl2 ⊢
                obtain ⟨u, hu⟩ : ∃ u, u = Num.cap4 N := ⟨_, rfl⟩
                have hmost := Num.cap4_most N
                rw [← hu] at hcl2 hmost ⊢
                by_cases hov : 9007199254740992 < u
                · have hdo : decide ((9007199254740992 : Int) < (u : Int)) = true := by simp; omega
                  have HP3 := Lib.hid (show Num.parse (Num.bl s) = (0, 2) by rw [HP2.out, Num.done_some, if_pos (hmost.1 hov)])
                  clear hN hu hmost hov hk3 hjk
                  go_wp2
                  go_ret2
                  rw [HP3.out]
                  exact ⟨rfl, Below.refl _ _⟩
                · have hdo : decide ((9007199254740992 : Int) < (u : Int)) = false := by simp; omega
                  have hNn : u = N := by rw [hu]; exact Num.cap4_small (by omega)
                  have HP3 := Lib.hid (show Num.parse (Num.bl s) = ((if true = true then -(u : Int) else (u : Int)), 0) by rw [HP2.out, Num.done_some, if_neg (by omega), hNn])
                  clear hN hu hmost hNn hk3 hjk
                  go_wp2
                  go_ret2
                  rw [HP3.out]
                  exact ⟨rfl, Below.refl _ _⟩
theorem num_rParse_any (s : ByteArray) (hs : s.size ≤ 4611686018427387904) (w : World) :
    Calls Tryd.prog 67 #[.string s] w fun e w' => e = .returned (.tuple #[.int .i64 (Num.parse (Num.bl s)).1, .int .i64 (Num.parse (Num.bl s)).2]) ∧ Below w.heap.size w w' := by
  rcases hng : Num.neg (Num.bl s) with _ | _
  · exact rParse_zero s hs hng w
  · exact rParse_one s hs hng w
end Go.Proofs.YtbdochcajpempaaDoor
