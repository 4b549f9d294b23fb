/- The walk of CondParsed. -/
import Derived.Test.YtbdochcajpempaaDoorCondL
namespace Go.Proofs.YtbdochcajpempaaDoor
open Go.RowKit
set_option linter.unusedSimpArgs false
set_option linter.unusedVariables false

set_option maxRecDepth 100000 in
set_option maxHeartbeats 16000000 in
theorem condParsed_any (B : Option Addr) (n2 c2 : Nat) (ts : List Sel.Tk) (x : Int) (hsz : ∀ t ∈ ts, t.2.2.size ≤ 4611686018427387904) (w : World) (hG : CGlob w) (hT : Tks w w.heap.size B n2 c2 ts) :
    Calls Tryd.prog 6 #[.slice B n2 c2, .int .i64 x] w fun e w' => LawR w e w' := by
  have HG := Lib.hid hG
  have HT := Lib.hid hT
  have hl := hT.len
  clear hT hG
  by_cases hx : x < 0
  · have hd : decide (x < 0) = true := decide_eq_true hx
    go_enter Tryd.func6, Tryd.ntmps6
    go_wp2_with fail
    refine (awake_any w HG.out).mono ?_
    rintro e w2 ⟨rfl, hC2⟩
    go_wp2_with fail
    refine (short_any B n2 c2 ts w2 (HT.out.later hC2)).mono ?_
    rintro e w3 ⟨few, rfl, -, hb3⟩
    have hC3 := hC2.trans (hb3.mono hC2.size)
    rcases few with _ | _
    · go_wp2
      go_ret
      exact ⟨rfl, hC3⟩
    · go_wp2
      go_ret
      exact ⟨rfl, hC3⟩
  · obtain ⟨X, hX⟩ : ∃ X : Nat, x = X := ⟨x.toNat, by omega⟩
    subst hX
    have hd : decide ((X : Int) < 0) = false := decide_eq_false hx
    rcases hps : Cond.parse ts (X : Int) with ⟨⟨nm1, ms1, op1, v1⟩, j1, e1⟩
    have hpp := hps
    unfold Cond.parse at hpp
    rw [if_neg hx, show (X : Int).toNat = X from rfl] at hpp
    have hr := Cond.within_range 32 hpp
    rw [hl] at hr
    have HPS := Lib.hid hps
    clear hx hps hpp
    go_enter Tryd.func6, Tryd.ntmps6
    go_wp2_with fail
    refine (awake_any w HG.out).mono ?_
    rintro e w2 ⟨rfl, hC2⟩
    go_wp2_with fail
    refine (short_any B n2 c2 ts w2 (HT.out.later hC2)).mono ?_
    rintro e w3 ⟨few, rfl, hfew, hb3⟩
    have hC3 := hC2.trans (hb3.mono hC2.size)
    rcases few with _ | _
    · go_wp2
      go_ret
      exact ⟨rfl, hC3⟩
    have hn2 : n2 ≤ 1500 := hfew rfl
    clear hfew
    by_cases he1 : e1 = 0
    · obtain ⟨hsn, hpj, hjl⟩ := hr.1 he1
      subst he1
      obtain ⟨X2, hX2⟩ : ∃ y, y = X + 2 := ⟨_, rfl⟩
      have hw2 : IntKind.i64.wrap ((X : Int) + 2) = ((X2 : Nat) : Int) := by rw [hX2, show (X : Int) + 2 = ((X + 2 : Nat) : Int) by omega]; exact IntWalk.i64_in _ (by omega)
      have hdj : decide (X2 < j1) = true := decide_eq_true (by omega)
      have hdl : decide (j1 ≤ n2) = true := decide_eq_true hjl
      obtain ⟨q, hq⟩ : ∃ q, Cond.print nm1 ms1 op1 v1 = q := ⟨_, rfl⟩
      have hqs := Cond.print_size nm1 ms1 op1 v1
      rw [hq] at hqs
      have hqs : q.size ≤ 60000 := by omega
      obtain ⟨L, hL1, hL2⟩ := Cond.round hsn 0 q (by rw [← hq]; unfold Cond.aroundT; simp)
      rw [if_pos (by decide)] at hL2
      have HSM := Lib.hid (Cond.toks_small hqs hL1)
      have HQ := Lib.hid hq
      have HSN := Lib.hid hsn
      have HL1 := Lib.hid hL1
      have HL2 := Lib.hid hL2
      have HX2 := Lib.hid hX2
      clear hr hpj hjl hL1 hL2 hq hsn hX2
      go_wp2_with fail
      refine (cparse_is B n2 c2 X ts nm1 ms1 op1 v1 j1 0 HPS.out hsz w3 (HG.out.below hC3).1 (HT.out.later hC3)).mono ?_
      rintro e w6 ⟨A6, n6, c6, rfl, hM6, hb6⟩
      have ha6 := (Below.refl w6.heap.size w6).alloc (Nat.le_refl _) (.cells #[.string nm1, .slice A6 n6 c6, .int .i64 op1, .int .i64 v1] 26)
      have hbl6 := Mem.Blk.new w6 26 #[.string nm1, .slice A6 n6 c6, .int .i64 op1, .int .i64 v1]
      have hC7 := (hC3.trans (hb6.mono hC3.size)).trans (ha6.mono (hC3.trans (hb6.mono hC3.size)).size)
      have hM7 := hM6.later ha6
      have hl6 : w6.heap.size < (w6.alloc (.cells #[.string nm1, .slice A6 n6 c6, .int .i64 op1, .int .i64 v1] 26)).heap.size := by simp
      clear hM6 ha6
      have k0 := hbl6.cell 0
      have k1 := hbl6.cell 1
      have k2 := hbl6.cell 2
      have k3 := hbl6.cell 3
      simp only [List.getElem?_toArray, List.getElem?_cons_zero, List.getElem?_cons_succ] at k0 k1 k2 k3
      go_wp2_with fail
      clear k0 k1 k2 k3
      generalize w6.alloc (.cells #[.string nm1, .slice A6 n6 c6, .int .i64 op1, .int .i64 v1] 26) = w7 at hbl6 hC7 hM7 hl6 ⊢
      refine (cprint_is nm1 A6 n6 c6 ms1 op1 v1 q HQ.out w7 (HG.out.below hC7) hM7).mono ?_
      rintro e w8 ⟨rfl, hb8⟩
      have hC8 := hC7.trans (hb8.mono hC7.size)
      have hM8 := hM7.later hb8
      have hbl8 := hbl6.below hb8 hl6
      have hl8 := Nat.lt_of_lt_of_le hl6 hb8.size
      clear hM7 hbl6 hl6 hb8
      go_wp2_with fail
      refine (all_is q hqs w8 L _ _ HL1.out).mono ?_
      rintro e w9 ⟨A9, n9, c9, rfl, hT9, hb9⟩
      have hC9 := hC8.trans (hb9.mono hC8.size)
      have hM9 := hM8.later hb9
      have hbl9 := hbl8.below hb9 hl8
      have hl9 := Nat.lt_of_lt_of_le hl8 hb9.size
      have hn9 := hT9.len
      rw [List.length_map] at hn9
      clear hM8 hbl8 hl8 hb9
      have HN9 := Lib.hid hn9
      clear hn9
      go_wp2_with fail
      refine (cparse_is A9 n9 c9 0 _ nm1 ms1 op1 v1 n9 0 (by rw [HL2.out, HN9.out]) HSM.out w9 (HG.out.below hC9).1 hT9).mono ?_
      rintro e w10 ⟨A10, n10, c10, rfl, hM10, hb10⟩
      have ha10 := (Below.refl w10.heap.size w10).alloc (Nat.le_refl _) (.cells #[.string nm1, .slice A10 n10 c10, .int .i64 op1, .int .i64 v1] 26)
      have hb910 := hb10.trans (ha10.mono hb10.size)
      have hbl10 := Mem.Blk.new w10 26 #[.string nm1, .slice A10 n10 c10, .int .i64 op1, .int .i64 v1]
      have hC11 := hC9.trans (hb910.mono hC9.size)
      have hM11 := hM10.later ha10
      have hMA := hM9.later hb910
      have hbA := hbl9.below hb910 hl9
      have hlA := Nat.lt_of_lt_of_le hl9 hb910.size
      have hlB : w10.heap.size < (w10.alloc (.cells #[.string nm1, .slice A10 n10 c10, .int .i64 op1, .int .i64 v1] 26)).heap.size := by simp
      clear hM10 ha10 hb10 hb910 hM9 hbl9 hl9 hT9
      have u0 := hbA.cell 0
      have u1 := hbA.cell 1
      have u2 := hbA.cell 2
      have u3 := hbA.cell 3
      have v0 := hbl10.cell 0
      have v1' := hbl10.cell 1
      have v2 := hbl10.cell 2
      have v3 := hbl10.cell 3
      simp only [List.getElem?_toArray, List.getElem?_cons_zero, List.getElem?_cons_succ] at u0 u1 u2 u3 v0 v1' v2 v3
      go_wp2_with fail
      generalize w10.alloc (.cells #[.string nm1, .slice A10 n10 c10, .int .i64 op1, .int .i64 v1] 26) = w11 at hbl10 hC11 hM11 hMA hbA hlA hlB u0 u1 u2 u3 v0 v1' v2 v3 ⊢
      refine (cSane_any nm1 A6 n6 c6 ms1 op1 v1 true HSN.out w11 hMA).mono ?_
      rintro e w12 ⟨rfl, hb12⟩
      have u0 := (hb12.cell (p := ⟨w6.heap.size, 0, none⟩) hlA).trans u0
      have u1 := (hb12.cell (p := ⟨w6.heap.size, 1, none⟩) hlA).trans u1
      have u2 := (hb12.cell (p := ⟨w6.heap.size, 2, none⟩) hlA).trans u2
      have u3 := (hb12.cell (p := ⟨w6.heap.size, 3, none⟩) hlA).trans u3
      have v0 := (hb12.cell (p := ⟨w10.heap.size, 0, none⟩) hlB).trans v0
      have v1' := (hb12.cell (p := ⟨w10.heap.size, 1, none⟩) hlB).trans v1'
      have v2 := (hb12.cell (p := ⟨w10.heap.size, 2, none⟩) hlB).trans v2
      have v3 := (hb12.cell (p := ⟨w10.heap.size, 3, none⟩) hlB).trans v3
      have hC12 := hC11.trans (hb12.mono hC11.size)
      go_wp2_with fail
      refine (csame_is nm1 nm1 A6 A10 n6 c6 n10 c10 ms1 ms1 op1 op1 v1 v1 true (Cond.same_self _ _ _ _) w12 (hMA.later hb12) (hM11.later hb12)).mono ?_
      rintro e w13 ⟨rfl, hb13⟩
      have hC13 := hC12.trans (hb13.mono hC12.size)
      go_wp2
      go_ret
      exact ⟨rfl, hC13⟩
    · obtain ⟨hx0, hpj, hjl, h3⟩ := hr.2 he1
      injection hx0 with hs1 hx0
      injection hx0 with hs2 hx0
      injection hx0 with hs3 hs4
      subst hs1 hs2 hs3 hs4
      have hdl : decide (j1 ≤ n2) = true := decide_eq_true hjl
      have hmin : decide (min (X : Int) (n2 : Int) ≤ (j1 : Int)) = true := decide_eq_true (by omega)
      have h3b : (e1 == 3) = ((j1 : Int) == (n2 : Int)) := by
        rw [Bool.eq_iff_iff, beq_iff_eq, beq_iff_eq, h3]
        omega
      go_wp2_with fail
      refine (cparse_is B n2 c2 X ts ⟨#[]⟩ [] 0 0 j1 e1 HPS.out hsz w3 (HG.out.below hC3).1 (HT.out.later hC3)).mono ?_
      rintro e w6 ⟨A6, n6, c6, rfl, hM6, hb6⟩
      have ha6 := (Below.refl w6.heap.size w6).alloc (Nat.le_refl _) (.cells #[.string ⟨#[]⟩, .slice A6 n6 c6, .int .i64 0, .int .i64 0] 26)
      have hbl6 := Mem.Blk.new w6 26 #[.string ⟨#[]⟩, .slice A6 n6 c6, .int .i64 0, .int .i64 0]
      have hC7 := (hC3.trans (hb6.mono hC3.size)).trans (ha6.mono (hC3.trans (hb6.mono hC3.size)).size)
      have hM7 := hM6.later ha6
      clear hM6 ha6
      have k0 := hbl6.cell 0
      have k1 := hbl6.cell 1
      have k2 := hbl6.cell 2
      have k3 := hbl6.cell 3
      simp only [List.getElem?_toArray, List.getElem?_cons_zero, List.getElem?_cons_succ] at k0 k1 k2 k3
      go_wp2_with fail
      clear k0 k1 k2 k3
      generalize w6.alloc (.cells #[.string ⟨#[]⟩, .slice A6 n6 c6, .int .i64 0, .int .i64 0] 26) = w7 at hbl6 hC7 hM7 ⊢
      refine (csame_is ⟨#[]⟩ ⟨#[]⟩ A6 none n6 c6 0 0 [] [] 0 0 0 0 true (Cond.same_self _ _ _ _) w7 hM7 (mts_none _)).mono ?_
      rintro e w8 ⟨rfl, hb8⟩
      have hC8 := hC7.trans (hb8.mono hC7.size)
      have HH3 := Lib.hid h3b
      clear h3 h3b hr hpj
      go_wp2
      go_ret
      refine ⟨?_, hC8⟩
      show Ending.returned (.bool ((e1 == 3) == ((j1 : Int) == (n2 : Int)))) = _
      rw [HH3.out, beq_self_eq_true]
end Go.Proofs.YtbdochcajpempaaDoor
