/- The walks of store's Sane and counted. -/
import Derived.Test.YtidfiiogjfpfmaaStoD
namespace Go.Proofs.Ytidfiiogjfpfmaa
open Go.RowKit
set_option linter.unusedSimpArgs false
set_option linter.unusedVariables false

namespace Sto
theorem sane_bad {es : List E} {k : Nat} (hk : k < es.length) (h : okAt es k = false) : sane es = false := by
  unfold sane
  rw [Lab.allTo_bad hk h, Bool.and_false]
end Sto
set_option maxRecDepth 100000 in
set_option maxHeartbeats 16000000 in
theorem stoSane_is (A : Option Addr) (n c : Nat) (ses : List Sto.Se) (b : Bool) (hb : Sto.sane (ses.map Sto.Se.val) = b) (w : World) (h : Stt w w.heap.size A n c ses) :
    Calls Try.prog 10 #[.slice A n c] w fun e w' => e = .returned (.bool b) ∧ Below w.heap.size w w' := by
  subst hb
  have hl := h.len
  have hcap := h.cap
  have HH := Lib.hid h
  have HL := Lib.hid hl
  have hes : (ses.map Sto.Se.val).length = n := by rw [List.length_map]; exact hl
  obtain ⟨es, hese⟩ : ∃ es, ses.map Sto.Se.val = es := ⟨_, rfl⟩
  rw [hese] at hes ⊢
  have HE := Lib.hid hese
  have HN := Lib.hid hes
  clear h hl hese
  by_cases h32 : 32 < n
  · have hd : decide ((32 : Int) < (n : Int)) = true := decide_eq_true (by omega)
    have HB := Lib.hid (show Sto.sane es = false by unfold Sto.sane; rw [hes, decide_eq_false (by omega : ¬ n ≤ 32)]; rfl)
    clear hes
    go_enter Try.func10, Try.ntmps10
    go_wp2
    go_ret
    exact ⟨by rw [HB.out]; rfl, Below.refl _ _⟩
  · have hd : decide ((32 : Int) < (n : Int)) = false := decide_eq_false (by omega)
    clear hes
    go_enter Try.func10, Try.ntmps10
    go_wp2
    go_loopw [10] (fun i wr => ∃ k : Nat, k ≤ n ∧ i = .int .i64 (k : Nat) ∧ Lab.allTo (Sto.okAt es) k = true ∧ Below w.heap.size w wr) (fun i _ => n - (intOf i).toNat)
    case atStart => exact ⟨0, by omega, rfl, rfl, Below.refl _ _⟩
    case round =>
      obtain ⟨k, hk, rfl, hall, hb⟩ := hrel
      have HALL := Lib.hid hall
      clear hall
      by_cases hlt : k < n
      · have hdk : decide (k < n) = true := decide_eq_true hlt
        obtain ⟨k2, hk2⟩ : ∃ y, y = k + 1 := ⟨_, rfl⟩
        have hwk : IntKind.i64.wrap ((k : Int) + 1) = ((k2 : Nat) : Int) := by rw [hk2, show (k : Int) + 1 = ((k + 1 : Nat) : Int) by omega]; exact IntWalk.i64_in _ (by omega)
        obtain ⟨bb, off, s, hA, hbB, hs, hin, hc0, hc1⟩ := HH.out.at_ hlt
        have he : es[k]? = some s.val := by rw [← HE.out, List.getElem?_map, hs]; rfl
        have hat := Sto.okAt_is he
        have x0 := (hb.cell (p := ⟨bb, off + k * 2, none⟩) hbB).trans hc0
        have x1 := (hb.cell (p := ⟨bb, off + k * 2 + 1, none⟩) hbB).trans hc1
        have HIN := Lib.hid ((hin.below hb).more hb.size)
        have hz5 := Mem.Blk.new wr 50 #[.slice s.LA s.Ln s.Lc, .slice s.SA s.Sn s.Sc]
        have hb5 : Below wr.heap.size wr (wr.alloc (.cells #[.slice s.LA s.Ln s.Lc, .slice s.SA s.Sn s.Sc] 50)) := (Below.refl _ wr).alloc (Nat.le_refl _) _
        have hl5 : wr.heap.size < (wr.alloc (.cells #[.slice s.LA s.Ln s.Lc, .slice s.SA s.Sn s.Sc] 50)).heap.size := by simp
        have HIN5 := Lib.hid (HIN.out.later hb5)
        have hB5 := hb.trans (hb5.mono hb.size)
        have v0 := hz5.cell 0
        have v1 := hz5.cell 1
        simp only [List.getElem?_toArray, List.getElem?_cons_zero, List.getElem?_cons_succ] at v0 v1
        have HK2 := Lib.hid hk2
        have hsn := HIN.out.2.len
        obtain ⟨b1, hb1⟩ : ∃ b, Sto.named s.ls = b := ⟨_, rfl⟩
        have HB1 := Lib.hid hb1
        clear hk2 hc0 hc1 hin hs
        subst hA
        have HKB : Sto.okAt es k = false → Sto.sane es = false := fun h => Sto.sane_bad (by rw [HN.out]; exact hlt) h
        have HKB := Lib.hid HKB
        have HAT := Lib.hid hat
        have HSE := Lib.hid he
        clear hat he
        go_wp2_with fail
        generalize wr.alloc (.cells #[.slice s.LA s.Ln s.Lc, .slice s.SA s.Sn s.Sc] 50) = w5 at hz5 hb5 hl5 HIN5 hB5 v0 v1 ⊢
        clear hb5
        refine (named_is s.LA s.Ln s.Lc s.ls b1 HB1.out w5 HIN5.out.1).mono ?_
        rintro e w6 ⟨rfl, hb6⟩
        have hB6 := hB5.trans (hb6.mono hB5.size)
        have v1 := (hb6.cell (p := ⟨wr.heap.size, 1, none⟩) hl5).trans v1
        rcases b1 with _ | _
        · have HF := Lib.hid (HKB.out (by rw [HAT.out]; unfold Sto.okE; rw [show s.val.1 = s.ls from rfl, HB1.out]; rfl))
          go_wp2
          go_ret
          exact ⟨by rw [HF.out]; rfl, hB6⟩
        · by_cases hm : s.Sn = 0
          · have hz : ((s.Sn : Int) == 0) = true := by rw [beq_iff_eq]; omega
            have HF := Lib.hid (HKB.out (by rw [HAT.out]; unfold Sto.okE; rw [show s.val.2 = s.ss from rfl, hsn, hm]; simp))
            clear hm hsn
            go_wp2
            go_ret
            exact ⟨by rw [HF.out]; rfl, hB6⟩
          · have hz : ((s.Sn : Int) == 0) = false := by rw [beq_eq_false_iff_ne]; omega
            obtain ⟨b3, hb3⟩ : ∃ b, Ser.sane s.ss = b := ⟨_, rfl⟩
            have HB3 := Lib.hid hb3
            have HSN := Lib.hid hsn
            have HM := Lib.hid hm
            clear hb3 hsn hm
            go_wp2_with fail
            refine (serSane_is s.SA s.Sn s.Sc s.ss b3 HB3.out w6 (HIN5.out.2.later hb6)).mono ?_
            rintro e w7 ⟨rfl, hb7⟩
            have hB7 := hB6.trans (hb7.mono hB6.size)
            rcases b3 with _ | _
            · have HF := Lib.hid (HKB.out (by rw [HAT.out]; unfold Sto.okE; rw [show s.val.2 = s.ss from rfl, HB3.out]; simp))
              go_wp2
              go_ret
              exact ⟨by rw [HF.out]; rfl, hB7⟩
            · have HOKE := Lib.hid (show Sto.okE s.val = true by unfold Sto.okE; rw [show s.val.1 = s.ls from rfl, show s.val.2 = s.ss from rfl, HB1.out, HB3.out, HSN.out, decide_eq_true HM.out]; rfl)
              have hb67 := hb6.trans (hb7.mono hb6.size)
              have V0 := Lib.hid ((hb67.cell (p := ⟨wr.heap.size, 0, none⟩) hl5).trans v0)
              have hl7 := Nat.lt_of_lt_of_le hl5 hb67.size
              have HIN7 := Lib.hid (HIN5.out.later hb67)
              clear v0 v1 x0 x1 hz
              go_wp2
              by_cases hk0 : k = 0
              · have hg : decide (0 < k) = false := decide_eq_false (by omega)
                have HST := Lib.hid (Lab.allTo_step HALL.out (show Sto.okAt es k = true by rw [HAT.out, HOKE.out, hk0]; rfl))
                clear hk0
                refine wp_region_held_drew (S := fun W' => Below w7.heap.size w7 W') (by kernel_rfl) (Below.refl _ _).drew (fun hHeld => ?_)
                refine wpAnyH_take (i := 0) (v := ?_) (by simp only [List.getElem?_toArray, List.getElem?_cons_succ, List.getElem?_cons_zero]; exact rfl) (by kernel_rfl) (by kernel_rfl) (by kernel_rfl) (by exact fun _ _ _ h => h) (Or.inl ⟨by rfl, ?_⟩) hHeld ?_
                rotate_left
                · intro wq hSw; go_simp; all_goals (with_reducible rfl)
                try simp only [Act.put, List.setIfInBounds_toArray, List.set_cons_zero, List.set_cons_succ]
                refine wpAnyH_take (i := 1) (v := ?_) (by simp only [List.getElem?_toArray, List.getElem?_cons_succ, List.getElem?_cons_zero]; exact rfl) (by kernel_rfl) (by kernel_rfl) (by kernel_rfl) (by exact fun _ _ _ h => h) (Or.inl ⟨by rfl, ?_⟩) hHeld ?_
                rotate_left
                · intro wq hSw; go_simp; all_goals (with_reducible rfl)
                try simp only [Act.put, List.setIfInBounds_toArray, List.set_cons_zero, List.set_cons_succ]
                refine wpAnyH_take (i := 2) (v := ?_) (by simp only [List.getElem?_toArray, List.getElem?_cons_succ, List.getElem?_cons_zero]; exact rfl) (by kernel_rfl) (by kernel_rfl) (by kernel_rfl) (by exact fun _ _ _ h => h) (Or.inl ⟨by rfl, ?_⟩) hHeld ?_
                rotate_left
                · intro wq hSw; go_simp; all_goals (with_reducible rfl)
                try simp only [Act.put, List.setIfInBounds_toArray, List.set_cons_zero, List.set_cons_succ]
                refine wpAnyH_take (i := 3) (v := undef) (by simp only [List.getElem?_toArray, List.getElem?_cons_succ, List.getElem?_cons_zero]; exact rfl) (by kernel_rfl) (by kernel_rfl) (by kernel_rfl) (by exact fun _ _ _ h => h) (Or.inr ⟨by rfl, rfl⟩) hHeld ?_
                try simp only [Act.put, List.setIfInBounds_toArray, List.set_cons_zero, List.set_cons_succ]
                refine wpAnyH_take (i := 4) (v := undef) (by simp only [List.getElem?_toArray, List.getElem?_cons_succ, List.getElem?_cons_zero]; exact rfl) (by kernel_rfl) (by kernel_rfl) (by kernel_rfl) (by exact fun _ _ _ h => h) (Or.inr ⟨by rfl, rfl⟩) hHeld ?_
                try simp only [Act.put, List.setIfInBounds_toArray, List.set_cons_zero, List.set_cons_succ]
                refine wpAnyH_take (i := 5) (v := undef) (by simp only [List.getElem?_toArray, List.getElem?_cons_succ, List.getElem?_cons_zero]; exact rfl) (by kernel_rfl) (by kernel_rfl) (by kernel_rfl) (by exact fun _ _ _ h => h) (Or.inr ⟨by rfl, rfl⟩) hHeld ?_
                try simp only [Act.put, List.setIfInBounds_toArray, List.set_cons_zero, List.set_cons_succ]
                refine wpAnyH_take (i := 6) (v := undef) (by simp only [List.getElem?_toArray, List.getElem?_cons_succ, List.getElem?_cons_zero]; exact rfl) (by kernel_rfl) (by kernel_rfl) (by kernel_rfl) (by exact fun _ _ _ h => h) (Or.inr ⟨by rfl, rfl⟩) hHeld ?_
                try simp only [Act.put, List.setIfInBounds_toArray, List.set_cons_zero, List.set_cons_succ]
                refine wpAnyH_take (i := 7) (v := undef) (by simp only [List.getElem?_toArray, List.getElem?_cons_succ, List.getElem?_cons_zero]; exact rfl) (by kernel_rfl) (by kernel_rfl) (by kernel_rfl) (by exact fun _ _ _ h => h) (Or.inr ⟨by rfl, rfl⟩) hHeld ?_
                try simp only [Act.put, List.setIfInBounds_toArray, List.set_cons_zero, List.set_cons_succ]
                refine wpAnyH_take (i := 8) (v := undef) (by simp only [List.getElem?_toArray, List.getElem?_cons_succ, List.getElem?_cons_zero]; exact rfl) (by kernel_rfl) (by kernel_rfl) (by kernel_rfl) (by exact fun _ _ _ h => h) (Or.inr ⟨by rfl, rfl⟩) hHeld ?_
                try simp only [Act.put, List.setIfInBounds_toArray, List.set_cons_zero, List.set_cons_succ]
                refine wpAnyH_take (i := 9) (v := undef) (by simp only [List.getElem?_toArray, List.getElem?_cons_succ, List.getElem?_cons_zero]; exact rfl) (by kernel_rfl) (by kernel_rfl) (by kernel_rfl) (by exact fun _ _ _ h => h) (Or.inr ⟨by rfl, rfl⟩) hHeld ?_
                try simp only [Act.put, List.setIfInBounds_toArray, List.set_cons_zero, List.set_cons_succ]
                refine wpAnyH_take (i := 10) (v := undef) (by simp only [List.getElem?_toArray, List.getElem?_cons_succ, List.getElem?_cons_zero]; exact rfl) (by kernel_rfl) (by kernel_rfl) (by kernel_rfl) (by exact fun _ _ _ h => h) (Or.inr ⟨by rfl, rfl⟩) hHeld ?_
                try simp only [Act.put, List.setIfInBounds_toArray, List.set_cons_zero, List.set_cons_succ]
                refine wpAnyH_take (i := 11) (v := undef) (by simp only [List.getElem?_toArray, List.getElem?_cons_succ, List.getElem?_cons_zero]; exact rfl) (by kernel_rfl) (by kernel_rfl) (by kernel_rfl) (by exact fun _ _ _ h => h) (Or.inr ⟨by rfl, rfl⟩) hHeld ?_
                try simp only [Act.put, List.setIfInBounds_toArray, List.set_cons_zero, List.set_cons_succ]
                refine wpAnyH_take (i := 12) (v := undef) (by simp only [List.getElem?_toArray, List.getElem?_cons_succ, List.getElem?_cons_zero]; exact rfl) (by kernel_rfl) (by kernel_rfl) (by kernel_rfl) (by exact fun _ _ _ h => h) (Or.inr ⟨by rfl, rfl⟩) hHeld ?_
                try simp only [Act.put, List.setIfInBounds_toArray, List.set_cons_zero, List.set_cons_succ]
                refine wpAnyH_take (i := 13) (v := ?_) (by simp only [List.getElem?_toArray, List.getElem?_cons_succ, List.getElem?_cons_zero]; exact rfl) (by kernel_rfl) (by kernel_rfl) (by kernel_rfl) (by exact fun _ _ _ h => h) (Or.inl ⟨by rfl, ?_⟩) hHeld ?_
                rotate_left
                · intro wq hSw; go_simp; all_goals (with_reducible rfl)
                try simp only [Act.put, List.setIfInBounds_toArray, List.set_cons_zero, List.set_cons_succ]
                refine wpAnyH_done (by kernel_rfl) ?_ _
                go_wp2
                go_roundw
                case rel => exact ⟨k2, by have := HK2.out; omega, rfl, by rw [HK2.out]; exact HST.out, hB7.trans (hHeld.mono hB7.size)⟩
                case measure => have := HK2.out; simp [intOf]; omega
              · have hg : decide (0 < k) = true := decide_eq_true (by omega)
                obtain ⟨k1, hk1⟩ : ∃ y, k = y + 1 := ⟨k - 1, by omega⟩
                have hw1 : IntKind.i64.wrap ((k : Int) - 1) = ((k1 : Nat) : Int) := by rw [show (k : Int) - 1 = ((k1 : Nat) : Int) by omega]; exact IntWalk.i64_in _ (by omega)
                have hk1n : k1 < n := by omega
                obtain ⟨bb', off', s', hA', hbB', hs', hin', hc0', hc1'⟩ := HH.out.at_ hk1n
                obtain ⟨rfl, rfl⟩ : bb = bb' ∧ off = off' := by injection hA' with h; injection h with h1 h2; exact ⟨h1, h2⟩
                have he' : es[k1]? = some s'.val := by rw [← HE.out, List.getElem?_map, hs']; rfl
                have hbh := Sto.behind_succ (e := s.val) he'
                rw [← hk1] at hbh
                obtain ⟨r, hr⟩ : ∃ r, Lab.cmpL (Lab.counted s'.ls) (Lab.counted s.ls) = r := ⟨_, rfl⟩
                rw [show s'.val.1 = s'.ls from rfl, show s.val.1 = s.ls from rfl, hr] at hbh
                have X0 := Lib.hid ((hB7.cell (p := ⟨bb, off + k1 * 2, none⟩) hbB).trans hc0')
                have hbB7 := Nat.lt_of_lt_of_le hbB hB7.size
                have HIN' := Lib.hid ((hin'.below hB7).more hB7.size)
                have HR := Lib.hid hr
                have HBH := Lib.hid hbh
                have i0 : (0 : Int) ≤ (k1 : Int) := by omega
                have i1 : (k1 : Int) < (n : Int) := by omega
                clear hk0 hk1 hA' hs' hc0' hc1' hin' he' hr hbh
                refine wp_region_held_drew (S := fun W' => Below w7.heap.size w7 W') (by kernel_rfl) (Below.refl _ _).drew (fun hHeld => ?_)
                refine wpAnyH_take (i := 0) (v := ?_) (by simp only [List.getElem?_toArray, List.getElem?_cons_succ, List.getElem?_cons_zero]; exact rfl) (by kernel_rfl) (by kernel_rfl) (by kernel_rfl) (by exact fun _ _ _ h => h) (Or.inl ⟨by rfl, ?_⟩) hHeld ?_
                rotate_left
                · intro wq hSw; go_simp; all_goals (with_reducible rfl)
                try simp only [Act.put, List.setIfInBounds_toArray, List.set_cons_zero, List.set_cons_succ]
                refine wpAnyH_take (i := 1) (v := ?_) (by simp only [List.getElem?_toArray, List.getElem?_cons_succ, List.getElem?_cons_zero]; exact rfl) (by kernel_rfl) (by kernel_rfl) (by kernel_rfl) (by exact fun _ _ _ h => h) (Or.inl ⟨by rfl, ?_⟩) hHeld ?_
                rotate_left
                · intro wq hSw; go_simp; all_goals (with_reducible rfl)
                try simp only [Act.put, List.setIfInBounds_toArray, List.set_cons_zero, List.set_cons_succ]
                refine wpAnyH_take (i := 2) (v := ?_) (by simp only [List.getElem?_toArray, List.getElem?_cons_succ, List.getElem?_cons_zero]; exact rfl) (by kernel_rfl) (by kernel_rfl) (by kernel_rfl) (by exact fun _ _ _ h => h) (Or.inl ⟨by rfl, ?_⟩) hHeld ?_
                rotate_left
                · intro wq hSw; go_simp; all_goals (with_reducible rfl)
                try simp only [Act.put, List.setIfInBounds_toArray, List.set_cons_zero, List.set_cons_succ]
                refine wpAnyH_take (i := 3) (v := ?_) (by simp only [List.getElem?_toArray, List.getElem?_cons_succ, List.getElem?_cons_zero]; exact rfl) (by kernel_rfl) (by kernel_rfl) (by kernel_rfl) (by exact fun _ _ _ h => h) (Or.inl ⟨by rfl, ?_⟩) hHeld ?_
                rotate_left
                · intro wq hSw; go_simp; all_goals (with_reducible rfl)
                try simp only [Act.put, List.setIfInBounds_toArray, List.set_cons_zero, List.set_cons_succ]
                refine wpAnyH_take (i := 4) (v := ?_) (by simp only [List.getElem?_toArray, List.getElem?_cons_succ, List.getElem?_cons_zero]; exact rfl) (by kernel_rfl) (by kernel_rfl) (by kernel_rfl) (by exact fun _ _ _ h => h) (Or.inl ⟨by rfl, ?_⟩) hHeld ?_
                rotate_left
                · intro wq hSw; go_simp; all_goals (with_reducible rfl)
                try simp only [Act.put, List.setIfInBounds_toArray, List.set_cons_zero, List.set_cons_succ]
                refine wpAnyH_take (i := 5) (v := ?_) (by simp only [List.getElem?_toArray, List.getElem?_cons_succ, List.getElem?_cons_zero]; exact rfl) (by kernel_rfl) (by kernel_rfl) (by kernel_rfl) (by exact fun _ _ _ h => h) (Or.inl ⟨by rfl, ?_⟩) hHeld ?_
                rotate_left
                · intro wq hSw; go_simp; all_goals (with_reducible rfl)
                try simp only [Act.put, List.setIfInBounds_toArray, List.set_cons_zero, List.set_cons_succ]
                refine wpAnyH_take (i := 6) (v := ?_) (by simp only [List.getElem?_toArray, List.getElem?_cons_succ, List.getElem?_cons_zero]; exact rfl) (by kernel_rfl) (by kernel_rfl) (by kernel_rfl) (by exact fun _ _ _ h => h) (Or.inl ⟨by rfl, ?_⟩) hHeld ?_
                rotate_left
                · intro wq hSw; go_simp; all_goals (with_reducible rfl)
                try simp only [Act.put, List.setIfInBounds_toArray, List.set_cons_zero, List.set_cons_succ]
                refine wpAnyH_take (i := 7) (v := ?_) (by simp only [List.getElem?_toArray, List.getElem?_cons_succ, List.getElem?_cons_zero]; exact rfl) (by kernel_rfl) (by kernel_rfl) (by kernel_rfl) (by exact fun _ _ _ h => h) (Or.inl ⟨by rfl, ?_⟩) hHeld ?_
                rotate_left
                · intro wq hSw; go_simp; all_goals (with_reducible rfl)
                try simp only [Act.put, List.setIfInBounds_toArray, List.set_cons_zero, List.set_cons_succ]
                refine wpAnyH_take (i := 8) (v := ?_) (by simp only [List.getElem?_toArray, List.getElem?_cons_succ, List.getElem?_cons_zero]; exact rfl) (by kernel_rfl) (by kernel_rfl) (by kernel_rfl) (by exact fun _ _ _ h => h) (Or.inl ⟨by rfl, ?_⟩) hHeld ?_
                rotate_left
                · intro wq hSw; have y0 := (hSw.cell (p := ⟨bb, off + k1 * 2, none⟩) hbB7).trans X0.out; go_simp; all_goals (with_reducible rfl)
                try simp only [Act.put, List.setIfInBounds_toArray, List.set_cons_zero, List.set_cons_succ]
                refine wpAnyH_take (i := 9) (v := ?_) (by simp only [List.getElem?_toArray, List.getElem?_cons_succ, List.getElem?_cons_zero]; exact rfl) (by kernel_rfl) (by kernel_rfl) (by kernel_rfl) (by exact fun _ _ _ h => h) (Or.inl ⟨by rfl, ?_⟩) hHeld ?_
                rotate_left
                · intro wq hSw; go_simp; all_goals (with_reducible rfl)
                try simp only [Act.put, List.setIfInBounds_toArray, List.set_cons_zero, List.set_cons_succ]
                refine wpAnyH_take (i := 10) (v := ?_) (by simp only [List.getElem?_toArray, List.getElem?_cons_succ, List.getElem?_cons_zero]; exact rfl) (by kernel_rfl) (by kernel_rfl) (by kernel_rfl) (by exact fun _ _ _ h => h) (Or.inl ⟨by rfl, ?_⟩) hHeld ?_
                rotate_left
                · intro wq hSw; have y0 := (hSw.cell (p := ⟨wr.heap.size, 0, none⟩) hl7).trans V0.out; go_simp; all_goals (with_reducible rfl)
                try simp only [Act.put, List.setIfInBounds_toArray, List.set_cons_zero, List.set_cons_succ]
                refine wpAnyH_ready (rs := [11]) (by kernel_rfl) (by simp) ?_
                refine AllReadyH.cons (by simp only [List.getElem?_toArray, List.getElem?_cons_succ, List.getElem?_cons_zero]; exact rfl) (fun K hK => ?_) ?_
                · go_simp
                  refine (lcmp_is s'.LA s'.Ln s'.Lc s'.ls s.LA s.Ln s.Lc s.ls r HR.out _ (HIN'.out.1.later hHeld) (HIN7.out.1.later hHeld)).mono ?_
                  rintro e w8 ⟨rfl, hb8⟩
                  show K _ _
                  refine hK.out _ _ (hHeld.trans (hb8.mono hHeld.size)) (fun hHeld => ?_)
                  clear hK K
                  try simp only [Act.put, List.setIfInBounds_toArray, List.set_cons_zero, List.set_cons_succ]
                  refine wpAnyH_take (i := 12) (v := ?_) (by simp only [List.getElem?_toArray, List.getElem?_cons_succ, List.getElem?_cons_zero]; exact rfl) (by kernel_rfl) (by kernel_rfl) (by kernel_rfl) (by exact fun _ _ _ h => h) (Or.inl ⟨by rfl, ?_⟩) hHeld ?_
                  rotate_left
                  · intro wq hSw; go_simp; all_goals (with_reducible rfl)
                  try simp only [Act.put, List.setIfInBounds_toArray, List.set_cons_zero, List.set_cons_succ]
                  refine wpAnyH_take (i := 13) (v := ?_) (by simp only [List.getElem?_toArray, List.getElem?_cons_succ, List.getElem?_cons_zero]; exact rfl) (by kernel_rfl) (by kernel_rfl) (by kernel_rfl) (by exact fun _ _ _ h => h) (Or.inl ⟨by rfl, ?_⟩) hHeld ?_
                  rotate_left
                  · intro wq hSw; go_simp; all_goals (with_reducible rfl)
                  try simp only [Act.put, List.setIfInBounds_toArray, List.set_cons_zero, List.set_cons_succ]
                  refine wpAnyH_done (by kernel_rfl) ?_ _
                  by_cases hr0 : r < 0
                  · have hd0 : decide ((0 : Int) ≤ r) = false := decide_eq_false (by omega)
                    have HST := Lib.hid (Lab.allTo_step HALL.out (show Sto.okAt es k = true by rw [HAT.out, HOKE.out, HBH.out, decide_eq_true hr0]; rfl))
                    go_wp2
                    go_roundw
                    case rel => exact ⟨k2, by have := HK2.out; omega, rfl, by rw [HK2.out]; exact HST.out, hB7.trans (hHeld.mono hB7.size)⟩
                    case measure => have := HK2.out; simp [intOf]; omega
                  · have hd0 : decide ((0 : Int) ≤ r) = true := decide_eq_true (by omega)
                    have HF := Lib.hid (HKB.out (by rw [HAT.out, HBH.out, decide_eq_false hr0, Bool.and_false]))
                    go_wp2
                    go_ret
                    exact ⟨by rw [HF.out]; rfl, hB7.trans (hHeld.mono hB7.size)⟩
                · exact AllReadyH.nil
      · obtain rfl : k = n := by omega
        have hdk : decide (k < k) = false := decide_eq_false (by omega)
        have HT := Lib.hid (show Sto.sane es = true by unfold Sto.sane; rw [HN.out, HALL.out, decide_eq_true (by omega : k ≤ 32)]; rfl)
        go_wp2
        go_ret
        exact ⟨by rw [HT.out]; rfl, hb⟩
set_option maxRecDepth 100000 in
set_option maxHeartbeats 4000000 in
theorem stoCounted_is (A : Option Addr) (n c : Nat) (ses : List Sto.Se) (w : World) (h : Stt w w.heap.size A n c ses) :
    Calls Try.prog 25 #[.slice A n c] w fun e w' => ∃ A' n' c' ses', e = .returned (.slice A' n' c') ∧ Stt w' w'.heap.size A' n' c' ses' ∧ ses'.map Sto.Se.val = Sto.counted (ses.map Sto.Se.val) ∧ (Sto.sane (ses.map Sto.Se.val) = true → A' = A ∧ n' = n ∧ c' = c ∧ ses' = ses) ∧ Below w.heap.size w w' := by
  have HH := Lib.hid h
  obtain ⟨b, hb⟩ : ∃ b, Sto.sane (ses.map Sto.Se.val) = b := ⟨_, rfl⟩
  have HB := Lib.hid hb
  clear h hb
  go_enter Try.func25, Try.ntmps25
  go_wp2_with fail
  refine (stoSane_is A n c ses b HB.out w HH.out).mono ?_
  rintro e w1 ⟨rfl, hb1⟩
  rcases b with _ | _
  · go_wp2
    go_ret
    exact ⟨none, 0, 0, [], rfl, Stt.none_ _ _, by unfold Sto.counted; rw [HB.out]; rfl, fun h => absurd (HB.out.symm.trans h) (by decide), hb1⟩
  · go_wp2
    go_ret
    exact ⟨A, n, c, ses, rfl, HH.out.later hb1, by unfold Sto.counted; rw [HB.out]; rfl, fun _ => ⟨rfl, rfl, rfl, rfl⟩, hb1⟩
end Go.Proofs.Ytidfiiogjfpfmaa
