/- The walk of the reference's match. -/
import Derived.Test.YtbdochcajpempaaDoorSelL
import Derived.Deep.RegionWith
namespace Go.Proofs.YtbdochcajpempaaDoor
open Go.RowKit
set_option linter.unusedSimpArgs false
set_option linter.unusedVariables false

set_option maxRecDepth 100000 in
set_option maxHeartbeats 8000000 in
theorem rmatch_is (A : Option Addr) (n c i k : Nat) (ts : List Sel.Tk) (m : Sel.Mt) (j : Nat) (e0 : Int) (hm : Sel.matchAt ts i k = (m, j, e0)) (hi : i ≤ n) (w : World) (hT : Tks w w.heap.size A n c ts) :
    Calls Tryd.prog 78 #[.slice A n c, .int .i64 (i : Nat), .int .i64 (k : Nat)] w fun e w' => e = .returned (.tuple #[.agg #[.string m.1, .string m.2.1, .bool m.2.2], .int .i64 (j : Nat), .int .i64 e0]) ∧ Below w.heap.size w w' := by
  have hl := hT.len
  have hcap := hT.cap
  have HT := Lib.hid hT
  clear hT
  unfold Sel.matchAt at hm
  by_cases h1 : Sel.nameE ts i ≠ 0
  · rw [if_pos h1] at hm
    injection hm with hm1 hm2
    injection hm2 with hm2 hm3
    subst hm1 hm2 hm3
    obtain ⟨e0, he0⟩ : ∃ e, Sel.nameE ts i = e := ⟨_, rfl⟩
    rw [he0] at h1 ⊢
    have HE0 := Lib.hid he0
    clear he0
    go_enter Tryd.func78, Tryd.ntmps78
    go_wp2_with fail
    have HT2 := Lib.hid (((HT.out.alloc (Nat.le_refl _) (.cells #[.string ⟨#[]⟩, .string ⟨#[]⟩, .bool false] 45)).alloc (by simp) (.cells #[.string ⟨#[]⟩, .string ⟨#[]⟩, .bool false] 45)).more (show w.heap.size ≤ ((w.alloc (.cells #[.string ⟨#[]⟩, .string ⟨#[]⟩, .bool false] 45)).alloc (.cells #[.string ⟨#[]⟩, .string ⟨#[]⟩, .bool false] 45)).heap.size by simp; omega))
    refine (rNameAt_is _ n c i ts e0 HE0.out _ HT2.out).mono ?_
    rintro e w' ⟨rfl, rfl⟩
    go_wp2
    go_region_with (go_at_call 48; refine (place_is A n c i i (by omega) _).mono ?_; rintro e w' ⟨rfl, rfl⟩)
    all_goals
      go_wp2
      refine bodyPost_ret (v := .tuple #[.agg #[.string (⟨#[]⟩), .string (⟨#[]⟩), .bool false], .int .i64 ((i : Nat) : Int), .int .i64 (e0)]) (by simp [results, Tryd.results78, go_sem, Act.put]) (by first | rfl | simp [Act.put]) ⟨by rfl, (by repeat (first | assumption | exact Below.refl _ _ | apply Mem.below_drewN | apply Below.drew | refine Below.alloc ?_ (by first | assumption | omega | (simp; done) | (simp; omega)) _ | refine Below.setCell ?_ (by first | assumption | omega | (simp; done) | (simp; omega)) _))⟩
  · rw [if_neg h1] at hm
    have HE0 := Lib.hid (show Sel.nameE ts i = 0 by omega)
    have hin := Sel.nameE_lt HE0.out
    have hilt : i < n := by omega
    have hdi : decide (i < n) = true := decide_eq_true hilt
    obtain ⟨sb, so, st, hA, hsB, hst, hsz, -, -, hs2⟩ := HT.out.at_ hilt
    have hso0 := Sel.sOf_some hst
    obtain ⟨s0, hs0⟩ : ∃ s, st.2.2 = s := ⟨_, rfl⟩
    rw [hs0] at hso0 hs2
    rw [hso0] at hm
    obtain ⟨p1, hp1⟩ : ∃ p, i + 1 = p := ⟨_, rfl⟩
    obtain ⟨p2, hp2⟩ : ∃ p, i + 2 = p := ⟨_, rfl⟩
    obtain ⟨p3, hp3⟩ : ∃ p, i + 3 = p := ⟨_, rfl⟩
    rw [hp1, hp2, hp3] at hm
    have hw1 : IntKind.i64.wrap ((i : Int) + 1) = ((p1 : Nat) : Int) := by rw [← hp1, show (i : Int) + 1 = ((i + 1 : Nat) : Int) by omega]; exact IntWalk.i64_in _ (by omega)
    have HP1 := Lib.hid hp1
    have HP2 := Lib.hid hp2
    have HP3 := Lib.hid hp3
    have hp1n : p1 ≤ n := by omega
    subst hA
    clear h1 hso0 hs0 hst hsz hp1 hp2 hp3 hin
    rcases hb1 : Sel.isS ts p1 Sel.neS with _ | _
    · have HB1 := Lib.hid hb1
      obtain ⟨e1, he1⟩ : ∃ e, e = Sel.wrong ts p1 := ⟨_, rfl⟩
      have hne1 : e1 ≠ 0 := by rw [he1]; exact Sel.wrong_ne ts p1
      have hnb1 : (e1 == 0) = false := by rw [beq_eq_false_iff_ne]; exact hne1
      have HE1 := Lib.hid he1
      rcases hb2 : Sel.isS ts p1 Sel.eqS with _ | _
      · rw [if_pos ⟨hb1, hb2⟩, ← he1] at hm
        injection hm with hm1 hm2
        injection hm2 with hm2 hm3
        subst hm1 hm2 hm3
        have HB2 := Lib.hid hb2
        clear hb1 hb2 he1
        go_enter Tryd.func78, Tryd.ntmps78
        go_wp2_with fail
        have HT2 := Lib.hid (((HT.out.alloc (Nat.le_refl _) (.cells #[.string ⟨#[]⟩, .string ⟨#[]⟩, .bool false] 45)).alloc (by simp) (.cells #[.string ⟨#[]⟩, .string ⟨#[]⟩, .bool false] 45)).more (show w.heap.size ≤ ((w.alloc (.cells #[.string ⟨#[]⟩, .string ⟨#[]⟩, .bool false] 45)).alloc (.cells #[.string ⟨#[]⟩, .string ⟨#[]⟩, .bool false] 45)).heap.size by simp; omega))
        refine (rNameAt_is _ n c i ts 0 HE0.out _ HT2.out).mono ?_
        rintro e w' ⟨rfl, rfl⟩
        go_wp2_with fail
        refine (want_sign _ n c p1 ts Sel.neS (by intro hh; cases hh) e1 (by rw [HB1.out]; exact HE1.out) _ HT2.out).mono ?_
        rintro e w' ⟨rfl, rfl⟩
        go_wp2_with fail
        refine (want_sign _ n c p1 ts Sel.eqS (by intro hh; cases hh) e1 (by rw [HB2.out]; exact HE1.out) _ HT2.out).mono ?_
        rintro e w' ⟨rfl, rfl⟩
        go_wp2
        go_region_with (go_at_call 48; refine (place_is _ n c p1 p1 (by omega) _).mono ?_; rintro e w' ⟨rfl, rfl⟩)
        all_goals
          go_wp2
          refine bodyPost_ret (v := .tuple #[.agg #[.string (⟨#[]⟩), .string (⟨#[]⟩), .bool false], .int .i64 ((p1 : Nat) : Int), .int .i64 (e1)]) (by simp [results, Tryd.results78, go_sem, Act.put]) (by first | rfl | simp [Act.put]) ⟨by rfl, (by repeat (first | assumption | exact Below.refl _ _ | apply Mem.below_drewN | apply Below.drew | refine Below.alloc ?_ (by first | assumption | omega | (simp; done) | (simp; omega)) _ | refine Below.setCell ?_ (by first | assumption | omega | (simp; done) | (simp; omega)) _))⟩
      · rw [if_neg (by rw [hb2]; simp), hb1] at hm
        have HB2 := Lib.hid hb2
        have hp2n : p2 ≤ n := by have := Sel.isS_lt hb2; have := HP1.out; have := HP2.out; omega
        have hw2 : IntKind.i64.wrap ((i : Int) + 2) = ((p2 : Nat) : Int) := by rw [← HP2.out, show (i : Int) + 2 = ((i + 2 : Nat) : Int) by omega]; exact IntWalk.i64_in _ (by have := HP2.out; omega)
        clear hb1 hb2 he1
        rcases hk : Sel.isK ts p2 3 with _ | _
        · have hv := Sel.valE_text (n := k) hk
          rw [hv, if_pos (Sel.wrong_ne ts p2)] at hm
          injection hm with hm1 hm2
          injection hm2 with hm2 hm3
          subst hm1 hm2 hm3
          have HK := Lib.hid hk
          obtain ⟨e0, he0⟩ : ∃ e, Sel.wrong ts p2 = e := ⟨_, rfl⟩
          have hne0 : e0 ≠ 0 := by rw [← he0]; exact Sel.wrong_ne ts p2
          have hnb0 : (e0 == 0) = false := by rw [beq_eq_false_iff_ne]; exact hne0
          rw [he0]
          have HW := Lib.hid he0
          clear hk hv he0
          go_enter Tryd.func78, Tryd.ntmps78
          go_wp2_with fail
          have HT2 := Lib.hid (((HT.out.alloc (Nat.le_refl _) (.cells #[.string ⟨#[]⟩, .string ⟨#[]⟩, .bool false] 45)).alloc (by simp) (.cells #[.string ⟨#[]⟩, .string ⟨#[]⟩, .bool false] 45)).more (show w.heap.size ≤ ((w.alloc (.cells #[.string ⟨#[]⟩, .string ⟨#[]⟩, .bool false] 45)).alloc (.cells #[.string ⟨#[]⟩, .string ⟨#[]⟩, .bool false] 45)).heap.size by simp; omega))
          refine (rNameAt_is _ n c i ts 0 HE0.out _ HT2.out).mono ?_
          rintro e w' ⟨rfl, rfl⟩
          go_wp2_with fail
          refine (want_sign _ n c p1 ts Sel.neS (by intro hh; cases hh) e1 (by rw [HB1.out]; exact HE1.out) _ HT2.out).mono ?_
          rintro e w' ⟨rfl, rfl⟩
          go_wp2_with fail
          refine (want_sign _ n c p1 ts Sel.eqS (by intro hh; cases hh) 0 (by rw [HB2.out]; rfl) _ HT2.out).mono ?_
          rintro e w' ⟨rfl, rfl⟩
          go_wp2_with fail
          refine (want_kind _ n c p2 ts 3 e0 (by rw [HK.out]; exact HW.out.symm) _ HT2.out).mono ?_
          rintro e w' ⟨rfl, rfl⟩
          go_wp2
          go_region_with (go_at_call 48; refine (place_is _ n c p2 p2 (by omega) _).mono ?_; rintro e w' ⟨rfl, rfl⟩)
          all_goals
            go_wp2
            refine bodyPost_ret (v := .tuple #[.agg #[.string (⟨#[]⟩), .string (⟨#[]⟩), .bool false], .int .i64 ((p2 : Nat) : Int), .int .i64 (e0)]) (by simp [results, Tryd.results78, go_sem, Act.put]) (by first | rfl | simp [Act.put]) ⟨by rfl, (by repeat (first | assumption | exact Below.refl _ _ | apply Mem.below_drewN | apply Below.drew | refine Below.alloc ?_ (by first | assumption | omega | (simp; done) | (simp; omega)) _ | refine Below.setCell ?_ (by first | assumption | omega | (simp; done) | (simp; omega)) _))⟩
        · have hin := Sel.isK_lt hk
          have hin2 : p2 < n := by omega
          have HK := Lib.hid hk
          obtain ⟨bb, off, t, eA, hbB, ht, hz, -, -, hx2⟩ := HT.out.at_ hin2
          cases eA
          have hv := Sel.valE_is (n := k) hk ht
          have hso := Sel.sOf_some ht
          obtain ⟨u, hu⟩ : ∃ u, t.2.2 = u := ⟨_, rfl⟩
          rw [hu] at hv hso hx2 hz
          rw [hv, hso] at hm
          have hd2 : decide (p2 < n) = true := decide_eq_true hin2
          clear hv hso hu ht hk hin
          by_cases h64 : 64 < u.size
          · have hd64 : decide ((64 : Int) < (u.size : Int)) = true := decide_eq_true (by omega)
            rw [if_pos (Or.inl h64), if_pos (by decide)] at hm
            injection hm with hm1 hm2
            injection hm2 with hm2 hm3
            subst hm1 hm2 hm3
            clear h64
            go_enter Tryd.func78, Tryd.ntmps78
            go_wp2_with fail
            have HT2 := Lib.hid (((HT.out.alloc (Nat.le_refl _) (.cells #[.string ⟨#[]⟩, .string ⟨#[]⟩, .bool false] 45)).alloc (by simp) (.cells #[.string ⟨#[]⟩, .string ⟨#[]⟩, .bool false] 45)).more (show w.heap.size ≤ ((w.alloc (.cells #[.string ⟨#[]⟩, .string ⟨#[]⟩, .bool false] 45)).alloc (.cells #[.string ⟨#[]⟩, .string ⟨#[]⟩, .bool false] 45)).heap.size by simp; omega))
            refine (rNameAt_is _ n c i ts 0 HE0.out _ HT2.out).mono ?_
            rintro e w' ⟨rfl, rfl⟩
            go_wp2_with fail
            refine (want_sign _ n c p1 ts Sel.neS (by intro hh; cases hh) e1 (by rw [HB1.out]; exact HE1.out) _ HT2.out).mono ?_
            rintro e w' ⟨rfl, rfl⟩
            go_wp2_with fail
            refine (want_sign _ n c p1 ts Sel.eqS (by intro hh; cases hh) 0 (by rw [HB2.out]; rfl) _ HT2.out).mono ?_
            rintro e w' ⟨rfl, rfl⟩
            go_wp2_with fail
            refine (want_kind _ n c p2 ts 3 0 (by rw [HK.out]; rfl) _ HT2.out).mono ?_
            rintro e w' ⟨rfl, rfl⟩
            go_wp2
            go_region_with (go_at_call 48; refine (place_is _ n c p2 p2 (by omega) _).mono ?_; rintro e w' ⟨rfl, rfl⟩)
            all_goals
              go_wp2
              refine bodyPost_ret (v := .tuple #[.agg #[.string (⟨#[]⟩), .string (⟨#[]⟩), .bool false], .int .i64 ((p2 : Nat) : Int), .int .i64 (4)]) (by simp [results, Tryd.results78, go_sem, Act.put]) (by first | rfl | simp [Act.put]) ⟨by rfl, (by repeat (first | assumption | exact Below.refl _ _ | apply Mem.below_drewN | apply Below.drew | refine Below.alloc ?_ (by first | assumption | omega | (simp; done) | (simp; omega)) _ | refine Below.setCell ?_ (by first | assumption | omega | (simp; done) | (simp; omega)) _))⟩
          · have hd64 : decide ((64 : Int) < (u.size : Int)) = false := decide_eq_false (by omega)
            by_cases h8 : 8 ≤ k
            · have hd8 : decide ((8 : Int) ≤ (k : Int)) = true := decide_eq_true (by omega)
              rw [if_pos (Or.inr h8), if_pos (by decide)] at hm
              injection hm with hm1 hm2
              injection hm2 with hm2 hm3
              subst hm1 hm2 hm3
              clear h64 h8
              go_enter Tryd.func78, Tryd.ntmps78
              go_wp2_with fail
              have HT2 := Lib.hid (((HT.out.alloc (Nat.le_refl _) (.cells #[.string ⟨#[]⟩, .string ⟨#[]⟩, .bool false] 45)).alloc (by simp) (.cells #[.string ⟨#[]⟩, .string ⟨#[]⟩, .bool false] 45)).more (show w.heap.size ≤ ((w.alloc (.cells #[.string ⟨#[]⟩, .string ⟨#[]⟩, .bool false] 45)).alloc (.cells #[.string ⟨#[]⟩, .string ⟨#[]⟩, .bool false] 45)).heap.size by simp; omega))
              refine (rNameAt_is _ n c i ts 0 HE0.out _ HT2.out).mono ?_
              rintro e w' ⟨rfl, rfl⟩
              go_wp2_with fail
              refine (want_sign _ n c p1 ts Sel.neS (by intro hh; cases hh) e1 (by rw [HB1.out]; exact HE1.out) _ HT2.out).mono ?_
              rintro e w' ⟨rfl, rfl⟩
              go_wp2_with fail
              refine (want_sign _ n c p1 ts Sel.eqS (by intro hh; cases hh) 0 (by rw [HB2.out]; rfl) _ HT2.out).mono ?_
              rintro e w' ⟨rfl, rfl⟩
              go_wp2_with fail
              refine (want_kind _ n c p2 ts 3 0 (by rw [HK.out]; rfl) _ HT2.out).mono ?_
              rintro e w' ⟨rfl, rfl⟩
              go_wp2
              go_region_with (go_at_call 48; refine (place_is _ n c p2 p2 (by omega) _).mono ?_; rintro e w' ⟨rfl, rfl⟩)
              all_goals
                go_wp2
                refine bodyPost_ret (v := .tuple #[.agg #[.string (⟨#[]⟩), .string (⟨#[]⟩), .bool false], .int .i64 ((p2 : Nat) : Int), .int .i64 (4)]) (by simp [results, Tryd.results78, go_sem, Act.put]) (by first | rfl | simp [Act.put]) ⟨by rfl, (by repeat (first | assumption | exact Below.refl _ _ | apply Mem.below_drewN | apply Below.drew | refine Below.alloc ?_ (by first | assumption | omega | (simp; done) | (simp; omega)) _ | refine Below.setCell ?_ (by first | assumption | omega | (simp; done) | (simp; omega)) _))⟩
            · have hd8 : decide ((8 : Int) ≤ (k : Int)) = false := decide_eq_false (by omega)
              rw [if_neg (by omega)] at hm
              injection hm with hm1 hm2
              injection hm2 with hm2 hm3
              subst hm1 hm2 hm3
              have hw3 : IntKind.i64.wrap ((i : Int) + 3) = ((p3 : Nat) : Int) := by rw [← HP3.out, show (i : Int) + 3 = ((i + 3 : Nat) : Int) by omega]; exact IntWalk.i64_in _ (by have := HP2.out; omega)
              clear h64 h8
              go_enter Tryd.func78, Tryd.ntmps78
              go_wp2_with fail
              have HT2 := Lib.hid (((HT.out.alloc (Nat.le_refl _) (.cells #[.string ⟨#[]⟩, .string ⟨#[]⟩, .bool false] 45)).alloc (by simp) (.cells #[.string ⟨#[]⟩, .string ⟨#[]⟩, .bool false] 45)).more (show w.heap.size ≤ ((w.alloc (.cells #[.string ⟨#[]⟩, .string ⟨#[]⟩, .bool false] 45)).alloc (.cells #[.string ⟨#[]⟩, .string ⟨#[]⟩, .bool false] 45)).heap.size by simp; omega))
              refine (rNameAt_is _ n c i ts 0 HE0.out _ HT2.out).mono ?_
              rintro e w' ⟨rfl, rfl⟩
              go_wp2_with fail
              refine (want_sign _ n c p1 ts Sel.neS (by intro hh; cases hh) e1 (by rw [HB1.out]; exact HE1.out) _ HT2.out).mono ?_
              rintro e w' ⟨rfl, rfl⟩
              go_wp2_with fail
              refine (want_sign _ n c p1 ts Sel.eqS (by intro hh; cases hh) 0 (by rw [HB2.out]; rfl) _ HT2.out).mono ?_
              rintro e w' ⟨rfl, rfl⟩
              go_wp2_with fail
              refine (want_kind _ n c p2 ts 3 0 (by rw [HK.out]; rfl) _ HT2.out).mono ?_
              rintro e w' ⟨rfl, rfl⟩
              go_wp2
              go_region
              all_goals
                go_wp2
                refine bodyPost_ret (v := .tuple #[.agg #[.string (s0), .string (u), .bool false], .int .i64 ((p3 : Nat) : Int), .int .i64 (0)]) (by simp [results, Tryd.results78, go_sem, Act.put]) (by first | rfl | simp [Act.put]) ⟨by rfl, (by repeat (first | assumption | exact Below.refl _ _ | apply Mem.below_drewN | apply Below.drew | refine Below.alloc ?_ (by first | assumption | omega | (simp; done) | (simp; omega)) _ | refine Below.setCell ?_ (by first | assumption | omega | (simp; done) | (simp; omega)) _))⟩
    · have HB1 := Lib.hid hb1
      rw [if_neg (by rw [hb1]; simp), hb1] at hm
      have hp2n : p2 ≤ n := by have := Sel.isS_lt hb1; have := HP1.out; have := HP2.out; omega
      have hw2 : IntKind.i64.wrap ((i : Int) + 2) = ((p2 : Nat) : Int) := by rw [← HP2.out, show (i : Int) + 2 = ((i + 2 : Nat) : Int) by omega]; exact IntWalk.i64_in _ (by have := HP2.out; omega)
      clear hb1
      rcases hk : Sel.isK ts p2 3 with _ | _
      · have hv := Sel.valE_text (n := k) hk
        rw [hv, if_pos (Sel.wrong_ne ts p2)] at hm
        injection hm with hm1 hm2
        injection hm2 with hm2 hm3
        subst hm1 hm2 hm3
        have HK := Lib.hid hk
        obtain ⟨e0, he0⟩ : ∃ e, Sel.wrong ts p2 = e := ⟨_, rfl⟩
        have hne0 : e0 ≠ 0 := by rw [← he0]; exact Sel.wrong_ne ts p2
        have hnb0 : (e0 == 0) = false := by rw [beq_eq_false_iff_ne]; exact hne0
        rw [he0]
        have HW := Lib.hid he0
        clear hk hv he0
        go_enter Tryd.func78, Tryd.ntmps78
        go_wp2_with fail
        have HT2 := Lib.hid (((HT.out.alloc (Nat.le_refl _) (.cells #[.string ⟨#[]⟩, .string ⟨#[]⟩, .bool false] 45)).alloc (by simp) (.cells #[.string ⟨#[]⟩, .string ⟨#[]⟩, .bool false] 45)).more (show w.heap.size ≤ ((w.alloc (.cells #[.string ⟨#[]⟩, .string ⟨#[]⟩, .bool false] 45)).alloc (.cells #[.string ⟨#[]⟩, .string ⟨#[]⟩, .bool false] 45)).heap.size by simp; omega))
        refine (rNameAt_is _ n c i ts 0 HE0.out _ HT2.out).mono ?_
        rintro e w' ⟨rfl, rfl⟩
        go_wp2_with fail
        refine (want_sign _ n c p1 ts Sel.neS (by intro hh; cases hh) 0 (by rw [HB1.out]; rfl) _ HT2.out).mono ?_
        rintro e w' ⟨rfl, rfl⟩
        go_wp2_with fail
        refine (want_kind _ n c p2 ts 3 e0 (by rw [HK.out]; exact HW.out.symm) _ HT2.out).mono ?_
        rintro e w' ⟨rfl, rfl⟩
        go_wp2
        go_region_with (go_at_call 48; refine (place_is _ n c p2 p2 (by omega) _).mono ?_; rintro e w' ⟨rfl, rfl⟩)
        all_goals
          go_wp2
          refine bodyPost_ret (v := .tuple #[.agg #[.string (⟨#[]⟩), .string (⟨#[]⟩), .bool false], .int .i64 ((p2 : Nat) : Int), .int .i64 (e0)]) (by simp [results, Tryd.results78, go_sem, Act.put]) (by first | rfl | simp [Act.put]) ⟨by rfl, (by repeat (first | assumption | exact Below.refl _ _ | apply Mem.below_drewN | apply Below.drew | refine Below.alloc ?_ (by first | assumption | omega | (simp; done) | (simp; omega)) _ | refine Below.setCell ?_ (by first | assumption | omega | (simp; done) | (simp; omega)) _))⟩
      · have hin := Sel.isK_lt hk
        have hin2 : p2 < n := by omega
        have HK := Lib.hid hk
        obtain ⟨bb, off, t, eA, hbB, ht, hz, -, -, hx2⟩ := HT.out.at_ hin2
        cases eA
        have hv := Sel.valE_is (n := k) hk ht
        have hso := Sel.sOf_some ht
        obtain ⟨u, hu⟩ : ∃ u, t.2.2 = u := ⟨_, rfl⟩
        rw [hu] at hv hso hx2 hz
        rw [hv, hso] at hm
        have hd2 : decide (p2 < n) = true := decide_eq_true hin2
        clear hv hso hu ht hk hin
        by_cases h64 : 64 < u.size
        · have hd64 : decide ((64 : Int) < (u.size : Int)) = true := decide_eq_true (by omega)
          rw [if_pos (Or.inl h64), if_pos (by decide)] at hm
          injection hm with hm1 hm2
          injection hm2 with hm2 hm3
          subst hm1 hm2 hm3
          clear h64
          go_enter Tryd.func78, Tryd.ntmps78
          go_wp2_with fail
          have HT2 := Lib.hid (((HT.out.alloc (Nat.le_refl _) (.cells #[.string ⟨#[]⟩, .string ⟨#[]⟩, .bool false] 45)).alloc (by simp) (.cells #[.string ⟨#[]⟩, .string ⟨#[]⟩, .bool false] 45)).more (show w.heap.size ≤ ((w.alloc (.cells #[.string ⟨#[]⟩, .string ⟨#[]⟩, .bool false] 45)).alloc (.cells #[.string ⟨#[]⟩, .string ⟨#[]⟩, .bool false] 45)).heap.size by simp; omega))
          refine (rNameAt_is _ n c i ts 0 HE0.out _ HT2.out).mono ?_
          rintro e w' ⟨rfl, rfl⟩
          go_wp2_with fail
          refine (want_sign _ n c p1 ts Sel.neS (by intro hh; cases hh) 0 (by rw [HB1.out]; rfl) _ HT2.out).mono ?_
          rintro e w' ⟨rfl, rfl⟩
          go_wp2_with fail
          refine (want_kind _ n c p2 ts 3 0 (by rw [HK.out]; rfl) _ HT2.out).mono ?_
          rintro e w' ⟨rfl, rfl⟩
          go_wp2
          go_region_with (go_at_call 48; refine (place_is _ n c p2 p2 (by omega) _).mono ?_; rintro e w' ⟨rfl, rfl⟩)
          all_goals
            go_wp2
            refine bodyPost_ret (v := .tuple #[.agg #[.string (⟨#[]⟩), .string (⟨#[]⟩), .bool false], .int .i64 ((p2 : Nat) : Int), .int .i64 (4)]) (by simp [results, Tryd.results78, go_sem, Act.put]) (by first | rfl | simp [Act.put]) ⟨by rfl, (by repeat (first | assumption | exact Below.refl _ _ | apply Mem.below_drewN | apply Below.drew | refine Below.alloc ?_ (by first | assumption | omega | (simp; done) | (simp; omega)) _ | refine Below.setCell ?_ (by first | assumption | omega | (simp; done) | (simp; omega)) _))⟩
        · have hd64 : decide ((64 : Int) < (u.size : Int)) = false := decide_eq_false (by omega)
          by_cases h8 : 8 ≤ k
          · have hd8 : decide ((8 : Int) ≤ (k : Int)) = true := decide_eq_true (by omega)
            rw [if_pos (Or.inr h8), if_pos (by decide)] at hm
            injection hm with hm1 hm2
            injection hm2 with hm2 hm3
            subst hm1 hm2 hm3
            clear h64 h8
            go_enter Tryd.func78, Tryd.ntmps78
            go_wp2_with fail
            have HT2 := Lib.hid (((HT.out.alloc (Nat.le_refl _) (.cells #[.string ⟨#[]⟩, .string ⟨#[]⟩, .bool false] 45)).alloc (by simp) (.cells #[.string ⟨#[]⟩, .string ⟨#[]⟩, .bool false] 45)).more (show w.heap.size ≤ ((w.alloc (.cells #[.string ⟨#[]⟩, .string ⟨#[]⟩, .bool false] 45)).alloc (.cells #[.string ⟨#[]⟩, .string ⟨#[]⟩, .bool false] 45)).heap.size by simp; omega))
            refine (rNameAt_is _ n c i ts 0 HE0.out _ HT2.out).mono ?_
            rintro e w' ⟨rfl, rfl⟩
            go_wp2_with fail
            refine (want_sign _ n c p1 ts Sel.neS (by intro hh; cases hh) 0 (by rw [HB1.out]; rfl) _ HT2.out).mono ?_
            rintro e w' ⟨rfl, rfl⟩
            go_wp2_with fail
            refine (want_kind _ n c p2 ts 3 0 (by rw [HK.out]; rfl) _ HT2.out).mono ?_
            rintro e w' ⟨rfl, rfl⟩
            go_wp2
            go_region_with (go_at_call 48; refine (place_is _ n c p2 p2 (by omega) _).mono ?_; rintro e w' ⟨rfl, rfl⟩)
            all_goals
              go_wp2
              refine bodyPost_ret (v := .tuple #[.agg #[.string (⟨#[]⟩), .string (⟨#[]⟩), .bool false], .int .i64 ((p2 : Nat) : Int), .int .i64 (4)]) (by simp [results, Tryd.results78, go_sem, Act.put]) (by first | rfl | simp [Act.put]) ⟨by rfl, (by repeat (first | assumption | exact Below.refl _ _ | apply Mem.below_drewN | apply Below.drew | refine Below.alloc ?_ (by first | assumption | omega | (simp; done) | (simp; omega)) _ | refine Below.setCell ?_ (by first | assumption | omega | (simp; done) | (simp; omega)) _))⟩
          · have hd8 : decide ((8 : Int) ≤ (k : Int)) = false := decide_eq_false (by omega)
            rw [if_neg (by omega)] at hm
            injection hm with hm1 hm2
            injection hm2 with hm2 hm3
            subst hm1 hm2 hm3
            have hw3 : IntKind.i64.wrap ((i : Int) + 3) = ((p3 : Nat) : Int) := by rw [← HP3.out, show (i : Int) + 3 = ((i + 3 : Nat) : Int) by omega]; exact IntWalk.i64_in _ (by have := HP2.out; omega)
            clear h64 h8
            go_enter Tryd.func78, Tryd.ntmps78
            go_wp2_with fail
            have HT2 := Lib.hid (((HT.out.alloc (Nat.le_refl _) (.cells #[.string ⟨#[]⟩, .string ⟨#[]⟩, .bool false] 45)).alloc (by simp) (.cells #[.string ⟨#[]⟩, .string ⟨#[]⟩, .bool false] 45)).more (show w.heap.size ≤ ((w.alloc (.cells #[.string ⟨#[]⟩, .string ⟨#[]⟩, .bool false] 45)).alloc (.cells #[.string ⟨#[]⟩, .string ⟨#[]⟩, .bool false] 45)).heap.size by simp; omega))
            refine (rNameAt_is _ n c i ts 0 HE0.out _ HT2.out).mono ?_
            rintro e w' ⟨rfl, rfl⟩
            go_wp2_with fail
            refine (want_sign _ n c p1 ts Sel.neS (by intro hh; cases hh) 0 (by rw [HB1.out]; rfl) _ HT2.out).mono ?_
            rintro e w' ⟨rfl, rfl⟩
            go_wp2_with fail
            refine (want_kind _ n c p2 ts 3 0 (by rw [HK.out]; rfl) _ HT2.out).mono ?_
            rintro e w' ⟨rfl, rfl⟩
            go_wp2
            go_region
            all_goals
              go_wp2
              refine bodyPost_ret (v := .tuple #[.agg #[.string (s0), .string (u), .bool true], .int .i64 ((p3 : Nat) : Int), .int .i64 (0)]) (by simp [results, Tryd.results78, go_sem, Act.put]) (by first | rfl | simp [Act.put]) ⟨by rfl, (by repeat (first | assumption | exact Below.refl _ _ | apply Mem.below_drewN | apply Below.drew | refine Below.alloc ?_ (by first | assumption | omega | (simp; done) | (simp; omega)) _ | refine Below.setCell ?_ (by first | assumption | omega | (simp; done) | (simp; omega)) _))⟩
end Go.Proofs.YtbdochcajpempaaDoor
