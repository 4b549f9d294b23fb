/- The walk of the law StoreFinds. -/
import Derived.Test.YtidfiiogjfpfmaaStoR
import Derived.Test.YtidfiiogjfpfmaaRow
namespace Go.Proofs.Ytidfiiogjfpfmaa
open Go.RowKit
set_option linter.unusedSimpArgs false
set_option linter.unusedVariables false
attribute [local go_sem ↓] SerW.smp_neq SerW.smp_eql SerW.smp_guard

theorem Sto.hit_none {nm : ByteArray} {ms : List Lab.Mt} {t window : Int} {e : Sto.E} (h : (Ser.atP e.2 t window).2 = false) : Sto.hit nm ms t window e = none := by
  unfold Sto.hit
  rw [h]
  split <;> simp

theorem Sto.selE_at {es : List Sto.E} {i : Nat} {e : Sto.E} {f : Sto.F} {nm : ByteArray} {ms : List Lab.Mt} {t window : Int} (h : es[i]? = some e) (hf : Sto.hit nm ms t window e = some f) : (Sto.selE es nm ms t window)[(Sto.selE (es.take i) nm ms t window).length]? = some f := by
  have h1 : Sto.selE es nm ms t window = Sto.selE (es.take (i + 1)) nm ms t window ++ Sto.selE (es.drop (i + 1)) nm ms t window := by
    unfold Sto.selE
    rw [← List.filterMap_append, List.take_append_drop]
  rw [h1, Sto.selE_take h, hf]
  simp

set_option maxRecDepth 100000 in
set_option maxHeartbeats 16000000 in
theorem storeFinds_any (A : Option Addr) (n c : Nat) (ses : List Sto.Se) (nm : ByteArray) (hnms : nm.size ≤ 9223372036854775807) (MA : Option Addr) (Mn Mc : Nat) (ms : List Lab.Mt) (t window : Int) (ht : t ≤ 9223372036854775807) (w : World) (h : Stt w w.heap.size A n c ses) (g : Mts w w.heap.size MA Mn Mc ms) :
    Calls Try.prog 5 #[.slice A n c, .agg #[.string nm, .slice MA Mn Mc], .int .i64 t, .int .i64 window] w fun e w' => LawR w e w' := by
  have HH := Lib.hid h
  have HG := Lib.hid g
  have hlen := h.len
  have hcap := Nat.le_trans h.cap.1 h.cap.2
  obtain ⟨es, hes⟩ : ∃ es, ses.map Sto.Se.val = es := ⟨_, rfl⟩
  obtain ⟨bs, hbs⟩ : ∃ b, Sto.sane es = b := ⟨_, rfl⟩
  have HES := Lib.hid hes
  have HBS := Lib.hid hbs
  clear h g hes hbs
  go_enter Try.func5, Try.ntmps5
  go_wp2_with fail
  have hB1 := (Below.refl w.heap.size w).alloc (Nat.le_refl _) (.cells #[.string nm, .slice MA Mn Mc] 43)
  have hblk := (Mem.Blk.new w 43 #[.string nm, .slice MA Mn Mc])
  have hlt1 : w.heap.size < (w.alloc (.cells #[.string nm, .slice MA Mn Mc] 43)).heap.size := by simp
  have hsz1 : w.heap.size ≤ (w.alloc (.cells #[.string nm, .slice MA Mn Mc] 43)).heap.size := by simp
  obtain ⟨W1, hW1⟩ : ∃ W1, W1 = w.alloc (.cells #[.string nm, .slice MA Mn Mc] 43) := ⟨_, rfl⟩
  rw [← hW1] at hB1 hblk hlt1 hsz1 ⊢
  clear hW1
  have HBLK := Lib.hid hblk
  clear hblk
  refine (awake_any W1).mono ?_
  rintro e w2 ⟨rfl, hb2⟩
  have hC2 := hb2
  go_wp2_with fail
  refine (few14_any A n c ses w2 ((HH.out.later hB1).later hC2)).mono ?_
  rintro e w3 ⟨b3, rfl, hb3⟩
  have hC3 := hC2.trans (hb3.mono hC2.size)
  rcases b3 with _ | _
  · go_wp2
    go_ret
    exact ⟨rfl, hB1.trans (hC3.mono hB1.size)⟩
  · have u0 := (hC3.cell (p := ⟨w.heap.size, 0, none⟩) hlt1).trans (HBLK.out.cell 0)
    have u1 := (hC3.cell (p := ⟨w.heap.size, 1, none⟩) hlt1).trans (HBLK.out.cell 1)
    simp at u0 u1
    have hl3 := Nat.lt_of_lt_of_le hlt1 hC3.size
    go_wp2_with fail
    refine (fewS_any nm MA Mn Mc ms w3 ((HG.out.later hB1).later hC3)).mono ?_
    rintro e w4 ⟨b4, rfl, -, hb4⟩
    have hC4 := hC3.trans (hb4.mono hC3.size)
    rcases b4 with _ | _
    · go_wp2
      go_ret
      exact ⟨rfl, hB1.trans (hC4.mono hB1.size)⟩
    · go_wp2_with fail
      refine (stoSane_is A n c ses bs (by rw [HES.out]; exact HBS.out) w4 ((HH.out.later hB1).later hC4)).mono ?_
      rintro e w5 ⟨rfl, hb5⟩
      have hC5 := hC4.trans (hb5.mono hC4.size)
      have hb35 := hb4.trans (hb5.mono hb4.size)
      rcases bs with _ | _
      · go_wp2
        go_ret
        exact ⟨rfl, hB1.trans (hC5.mono hB1.size)⟩
      · have u0 := (hb35.cell (p := ⟨w.heap.size, 0, none⟩) hl3).trans u0
        have u1 := (hb35.cell (p := ⟨w.heap.size, 1, none⟩) hl3).trans u1
        have hl5 := Nat.lt_of_lt_of_le hl3 hb35.size
        have hn32 : n ≤ 32 := by have := Sto.sane_len HBS.out; rw [← HES.out, List.length_map, hlen] at this; exact this
        have hce : Sto.counted (ses.map Sto.Se.val) = es := by rw [HES.out]; unfold Sto.counted; rw [if_pos HBS.out]
        have HCE := Lib.hid hce
        clear hce hb2 hb3 hb4 hb5
        go_wp2_with fail
        refine (select_any A n c ses nm hnms MA Mn Mc ms t window ht w5 ((HH.out.later hB1).later hC5) ((HG.out.later hB1).later hC5)).mono ?_
        rintro e w6 ⟨FA, Fn, Fc, fs, rfl, hfs, hfe, hb6⟩
        rw [HCE.out] at hfe
        have hC6 := hC5.trans (hb6.mono hC5.size)
        have H6 := Lib.hid ((HH.out.later hB1).later hC6)
        have HG6 := Lib.hid ((HG.out.later hB1).later hC6)
        have hFn := hfs.1.1
        have hFcap := Nat.le_trans hfs.1.2.1 hfs.1.2.2.1
        have HF6 := Lib.hid hfs
        have HFE := Lib.hid hfe
        have U0 := Lib.hid ((hb6.cell (p := ⟨w.heap.size, 0, none⟩) hl5).trans u0)
        have U1 := Lib.hid ((hb6.cell (p := ⟨w.heap.size, 1, none⟩) hl5).trans u1)
        have hl6 := Nat.lt_of_lt_of_le hl5 hb6.size
        clear hfs hfe u0 u1 hb35 hb6
        go_wp2_with fail
        go_loopw [11, 12] (fun kv iv wr => ∃ i k : Nat, i ≤ n ∧ kv = .int .i64 (k : Nat) ∧ iv = .int .i64 (i : Nat) ∧ k = (Sto.selE (es.take i) nm ms t window).length ∧ Below w6.heap.size w6 wr) (fun _ iv _ => n - (intOf iv).toNat)
        case atStart => exact ⟨0, 0, Nat.zero_le _, rfl, rfl, rfl, Below.refl _ _⟩
        case round =>
          obtain ⟨i, k, hi, rfl, rfl, hk, hb⟩ := hrel
          have HK := Lib.hid hk
          clear hk
          by_cases hlt : i < n
          · have hdk : decide (i < n) = true := decide_eq_true hlt
            obtain ⟨i2, hi2⟩ : ∃ y, y = i + 1 := ⟨_, rfl⟩
            have hwi : IntKind.i64.wrap ((i : Int) + 1) = ((i2 : Nat) : Int) := by rw [hi2, show (i : Int) + 1 = ((i + 1 : Nat) : Int) by omega]; exact IntWalk.i64_in _ (by omega)
            have HI2 := Lib.hid hi2
            obtain ⟨bb, off, s, hA, hbB, hs, hin, hc0, hc1⟩ := H6.out.at_ hlt
            have hcp : es[i]? = some s.val := by rw [← HES.out, List.getElem?_map, hs]; rfl
            have HCP := Lib.hid (Sto.selE_take hcp nm ms t window)
            have HAT := Lib.hid (fun (f : Sto.F) (hf : Sto.hit nm ms t window s.val = some f) => Sto.selE_at hcp hf)
            have X0 := Lib.hid ((hb.cell (p := ⟨bb, off + i * 2, none⟩) hbB).trans hc0)
            have x1 := (hb.cell (p := ⟨bb, off + i * 2 + 1, none⟩) hbB).trans hc1
            have HIN := Lib.hid ((hin.below hb).more hb.size)
            have hbB2 := Nat.lt_of_lt_of_le hbB hb.size
            have i0 : (0 : Int) ≤ (i : Int) := by omega
            have i1 : (i : Int) < (n : Int) := by omega
            subst hA
            clear hi2 hs hin hc0 hc1 hcp
            go_wp2_with fail
            have hat := SerW.at_any s.SA s.Sn s.Sc s.ss t window wr ht HIN.out.2
            refine hat.mono ?_
            rintro e w7 ⟨rfl, hb7⟩
            clear hat
            obtain ⟨⟨x, bt⟩, hx⟩ : ∃ q, Ser.atP s.ss t window = q := ⟨_, rfl⟩
            rw [hx]
            have HX := Lib.hid hx
            clear hx x1
            go_wp2_with fail
            have hz8 := Mem.Blk.new w7 25 #[.int .i64 x.1, .int .i64 x.2]
            have hB8 : Below wr.heap.size wr (w7.alloc (.cells #[.int .i64 x.1, .int .i64 x.2] 25)) := hb7.alloc hb7.size _
            have hl8 : w7.heap.size < (w7.alloc (.cells #[.int .i64 x.1, .int .i64 x.2] 25)).heap.size := by simp
            have v0 := hz8.cell 0
            have v1 := hz8.cell 1
            simp only [List.getElem?_toArray, List.getElem?_cons_zero, List.getElem?_cons_succ] at v0 v1
            have V0 := Lib.hid v0
            have V1 := Lib.hid v1
            clear v0 v1 hz8
            generalize w7.alloc (.cells #[.int .i64 x.1, .int .i64 x.2] 25) = w8 at hB8 hl8 V0 V1 ⊢
            have hbB8 := Nat.lt_of_lt_of_le hbB2 hB8.size
            have hb68 := hb.trans (hB8.mono hb.size)
            have hlw8 := Nat.lt_of_lt_of_le hl6 hb68.size
            have HIN8 := Lib.hid (HIN.out.later hB8)
            have HG8 := Lib.hid (HG6.out.later hb68)
            have X8 := Lib.hid ((hB8.cell (p := ⟨bb, off + i * 2, none⟩) hbB2).trans X0.out)
            have S0 := Lib.hid ((hb68.cell (p := ⟨w.heap.size, 0, none⟩) hl6).trans U0.out)
            have S1 := Lib.hid ((hb68.cell (p := ⟨w.heap.size, 1, none⟩) hl6).trans U1.out)
            rcases bt with _ | _
            · have HH0 := Lib.hid (Sto.hit_none (nm := nm) (ms := ms) (e := s.val) (show (Ser.atP s.ss t window).2 = false by rw [HX.out]))
              refine wp_region_held_drew (S := fun W' => Below w8.heap.size w8 W') (by kernel_rfl) (Below.refl _ _).drew (fun hHeld => ?_)
              refine wpAnyH_take (i := 0) (v := ?_) (by simp only [List.getElem?_toArray, List.getElem?_cons_succ, List.getElem?_cons_zero]; exact rfl) (by kernel_rfl) (by kernel_rfl) (by kernel_rfl) (by exact fun _ _ _ h => h) (Or.inl ⟨by rfl, ?_⟩) hHeld ?_
              rotate_left
              · intro wq hSw; go_simp; all_goals (with_reducible rfl)
              try simp only [Act.put, List.setIfInBounds_toArray, List.set_cons_zero, List.set_cons_succ]
              refine wpAnyH_take (i := 1) (v := ?_) (by simp only [List.getElem?_toArray, List.getElem?_cons_succ, List.getElem?_cons_zero]; exact rfl) (by kernel_rfl) (by kernel_rfl) (by kernel_rfl) (by exact fun _ _ _ h => h) (Or.inl ⟨by rfl, ?_⟩) hHeld ?_
              rotate_left
              · intro wq hSw; go_simp; all_goals (with_reducible rfl)
              try simp only [Act.put, List.setIfInBounds_toArray, List.set_cons_zero, List.set_cons_succ]
              refine wpAnyH_take (i := 2) (v := ?_) (by simp only [List.getElem?_toArray, List.getElem?_cons_succ, List.getElem?_cons_zero]; exact rfl) (by kernel_rfl) (by kernel_rfl) (by kernel_rfl) (by exact fun _ _ _ h => h) (Or.inl ⟨by rfl, ?_⟩) hHeld ?_
              rotate_left
              · intro wq hSw; go_simp; all_goals (with_reducible rfl)
              try simp only [Act.put, List.setIfInBounds_toArray, List.set_cons_zero, List.set_cons_succ]
              refine wpAnyH_take (i := 3) (v := undef) (by simp only [List.getElem?_toArray, List.getElem?_cons_succ, List.getElem?_cons_zero]; exact rfl) (by kernel_rfl) (by kernel_rfl) (by kernel_rfl) (by exact fun _ _ _ h => h) (Or.inr ⟨by rfl, rfl⟩) hHeld ?_
              try simp only [Act.put, List.setIfInBounds_toArray, List.set_cons_zero, List.set_cons_succ]
              refine wpAnyH_take (i := 4) (v := undef) (by simp only [List.getElem?_toArray, List.getElem?_cons_succ, List.getElem?_cons_zero]; exact rfl) (by kernel_rfl) (by kernel_rfl) (by kernel_rfl) (by exact fun _ _ _ h => h) (Or.inr ⟨by rfl, rfl⟩) hHeld ?_
              try simp only [Act.put, List.setIfInBounds_toArray, List.set_cons_zero, List.set_cons_succ]
              refine wpAnyH_take (i := 5) (v := undef) (by simp only [List.getElem?_toArray, List.getElem?_cons_succ, List.getElem?_cons_zero]; exact rfl) (by kernel_rfl) (by kernel_rfl) (by kernel_rfl) (by exact fun _ _ _ h => h) (Or.inr ⟨by rfl, rfl⟩) hHeld ?_
              try simp only [Act.put, List.setIfInBounds_toArray, List.set_cons_zero, List.set_cons_succ]
              refine wpAnyH_take (i := 6) (v := undef) (by simp only [List.getElem?_toArray, List.getElem?_cons_succ, List.getElem?_cons_zero]; exact rfl) (by kernel_rfl) (by kernel_rfl) (by kernel_rfl) (by exact fun _ _ _ h => h) (Or.inr ⟨by rfl, rfl⟩) hHeld ?_
              try simp only [Act.put, List.setIfInBounds_toArray, List.set_cons_zero, List.set_cons_succ]
              refine wpAnyH_take (i := 7) (v := undef) (by simp only [List.getElem?_toArray, List.getElem?_cons_succ, List.getElem?_cons_zero]; exact rfl) (by kernel_rfl) (by kernel_rfl) (by kernel_rfl) (by exact fun _ _ _ h => h) (Or.inr ⟨by rfl, rfl⟩) hHeld ?_
              try simp only [Act.put, List.setIfInBounds_toArray, List.set_cons_zero, List.set_cons_succ]
              refine wpAnyH_take (i := 8) (v := undef) (by simp only [List.getElem?_toArray, List.getElem?_cons_succ, List.getElem?_cons_zero]; exact rfl) (by kernel_rfl) (by kernel_rfl) (by kernel_rfl) (by exact fun _ _ _ h => h) (Or.inr ⟨by rfl, rfl⟩) hHeld ?_
              try simp only [Act.put, List.setIfInBounds_toArray, List.set_cons_zero, List.set_cons_succ]
              refine wpAnyH_take (i := 9) (v := undef) (by simp only [List.getElem?_toArray, List.getElem?_cons_succ, List.getElem?_cons_zero]; exact rfl) (by kernel_rfl) (by kernel_rfl) (by kernel_rfl) (by exact fun _ _ _ h => h) (Or.inr ⟨by rfl, rfl⟩) hHeld ?_
              try simp only [Act.put, List.setIfInBounds_toArray, List.set_cons_zero, List.set_cons_succ]
              refine wpAnyH_take (i := 10) (v := undef) (by simp only [List.getElem?_toArray, List.getElem?_cons_succ, List.getElem?_cons_zero]; exact rfl) (by kernel_rfl) (by kernel_rfl) (by kernel_rfl) (by exact fun _ _ _ h => h) (Or.inr ⟨by rfl, rfl⟩) hHeld ?_
              try simp only [Act.put, List.setIfInBounds_toArray, List.set_cons_zero, List.set_cons_succ]
              refine wpAnyH_take (i := 11) (v := ?_) (by simp only [List.getElem?_toArray, List.getElem?_cons_succ, List.getElem?_cons_zero]; exact rfl) (by kernel_rfl) (by kernel_rfl) (by kernel_rfl) (by exact fun _ _ _ h => h) (Or.inl ⟨by rfl, ?_⟩) hHeld ?_
              rotate_left
              · intro wq hSw; go_simp; all_goals (with_reducible rfl)
              try simp only [Act.put, List.setIfInBounds_toArray, List.set_cons_zero, List.set_cons_succ]
              refine wpAnyH_done (by kernel_rfl) ?_ _
              go_wp2
              go_roundw
              case rel => exact ⟨i2, k, by have := HI2.out; omega, rfl, rfl, by rw [HI2.out, HCP.out, HH0.out, HK.out]; simp, hb68.trans (hHeld.mono hb68.size)⟩
              case measure => have := HI2.out; simp [intOf]; omega
            · obtain ⟨bf, hbf⟩ : ∃ b, Sel.fits nm ms s.ls = b := ⟨_, rfl⟩
              have HBF := Lib.hid hbf
              clear hbf
              refine wp_region_held_drew (S := fun W' => Below w8.heap.size w8 W') (by kernel_rfl) (Below.refl _ _).drew (fun hHeld => ?_)
              refine wpAnyH_take (i := 0) (v := ?_) (by simp only [List.getElem?_toArray, List.getElem?_cons_succ, List.getElem?_cons_zero]; exact rfl) (by kernel_rfl) (by kernel_rfl) (by kernel_rfl) (by exact fun _ _ _ h => h) (Or.inl ⟨by rfl, ?_⟩) hHeld ?_
              rotate_left
              · intro wq hSw; go_simp; all_goals (with_reducible rfl)
              try simp only [Act.put, List.setIfInBounds_toArray, List.set_cons_zero, List.set_cons_succ]
              refine wpAnyH_take (i := 1) (v := ?_) (by simp only [List.getElem?_toArray, List.getElem?_cons_succ, List.getElem?_cons_zero]; exact rfl) (by kernel_rfl) (by kernel_rfl) (by kernel_rfl) (by exact fun _ _ _ h => h) (Or.inl ⟨by rfl, ?_⟩) hHeld ?_
              rotate_left
              · intro wq hSw; go_simp; all_goals (with_reducible rfl)
              try simp only [Act.put, List.setIfInBounds_toArray, List.set_cons_zero, List.set_cons_succ]
              refine wpAnyH_take (i := 2) (v := ?_) (by simp only [List.getElem?_toArray, List.getElem?_cons_succ, List.getElem?_cons_zero]; exact rfl) (by kernel_rfl) (by kernel_rfl) (by kernel_rfl) (by exact fun _ _ _ h => h) (Or.inl ⟨by rfl, ?_⟩) hHeld ?_
              rotate_left
              · intro wq hSw; go_simp; all_goals (with_reducible rfl)
              try simp only [Act.put, List.setIfInBounds_toArray, List.set_cons_zero, List.set_cons_succ]
              refine wpAnyH_take (i := 3) (v := ?_) (by simp only [List.getElem?_toArray, List.getElem?_cons_succ, List.getElem?_cons_zero]; exact rfl) (by kernel_rfl) (by kernel_rfl) (by kernel_rfl) (by exact fun _ _ _ h => h) (Or.inl ⟨by rfl, ?_⟩) hHeld ?_
              rotate_left
              · intro wq hSw; have z0 := (hSw.cell (p := ⟨w.heap.size, 0, none⟩) hlw8).trans S0.out; have z1 := (hSw.cell (p := ⟨w.heap.size, 1, none⟩) hlw8).trans S1.out; go_simp; all_goals (with_reducible rfl)
              try simp only [Act.put, List.setIfInBounds_toArray, List.set_cons_zero, List.set_cons_succ]
              refine wpAnyH_take (i := 4) (v := ?_) (by simp only [List.getElem?_toArray, List.getElem?_cons_succ, List.getElem?_cons_zero]; exact rfl) (by kernel_rfl) (by kernel_rfl) (by kernel_rfl) (by exact fun _ _ _ h => h) (Or.inl ⟨by rfl, ?_⟩) hHeld ?_
              rotate_left
              · intro wq hSw; go_simp; all_goals (with_reducible rfl)
              try simp only [Act.put, List.setIfInBounds_toArray, List.set_cons_zero, List.set_cons_succ]
              refine wpAnyH_take (i := 5) (v := ?_) (by simp only [List.getElem?_toArray, List.getElem?_cons_succ, List.getElem?_cons_zero]; exact rfl) (by kernel_rfl) (by kernel_rfl) (by kernel_rfl) (by exact fun _ _ _ h => h) (Or.inl ⟨by rfl, ?_⟩) hHeld ?_
              rotate_left
              · intro wq hSw; go_simp; all_goals (with_reducible rfl)
              try simp only [Act.put, List.setIfInBounds_toArray, List.set_cons_zero, List.set_cons_succ]
              refine wpAnyH_take (i := 6) (v := ?_) (by simp only [List.getElem?_toArray, List.getElem?_cons_succ, List.getElem?_cons_zero]; exact rfl) (by kernel_rfl) (by kernel_rfl) (by kernel_rfl) (by exact fun _ _ _ h => h) (Or.inl ⟨by rfl, ?_⟩) hHeld ?_
              rotate_left
              · intro wq hSw; go_simp; all_goals (with_reducible rfl)
              try simp only [Act.put, List.setIfInBounds_toArray, List.set_cons_zero, List.set_cons_succ]
              refine wpAnyH_take (i := 7) (v := ?_) (by simp only [List.getElem?_toArray, List.getElem?_cons_succ, List.getElem?_cons_zero]; exact rfl) (by kernel_rfl) (by kernel_rfl) (by kernel_rfl) (by exact fun _ _ _ h => h) (Or.inl ⟨by rfl, ?_⟩) hHeld ?_
              rotate_left
              · intro wq hSw; go_simp; all_goals (with_reducible rfl)
              try simp only [Act.put, List.setIfInBounds_toArray, List.set_cons_zero, List.set_cons_succ]
              refine wpAnyH_take (i := 8) (v := ?_) (by simp only [List.getElem?_toArray, List.getElem?_cons_succ, List.getElem?_cons_zero]; exact rfl) (by kernel_rfl) (by kernel_rfl) (by kernel_rfl) (by exact fun _ _ _ h => h) (Or.inl ⟨by rfl, ?_⟩) hHeld ?_
              rotate_left
              · intro wq hSw; have z0 := (hSw.cell (p := ⟨bb, off + i * 2, none⟩) hbB8).trans X8.out; go_simp; all_goals (with_reducible rfl)
              try simp only [Act.put, List.setIfInBounds_toArray, List.set_cons_zero, List.set_cons_succ]
              refine wpAnyH_ready (rs := [9]) (by kernel_rfl) (by simp) ?_
              refine AllReadyH.cons (by simp only [List.getElem?_toArray, List.getElem?_cons_succ, List.getElem?_cons_zero]; exact rfl) (fun K hK => ?_) ?_
              · go_simp
                refine (fits_is nm hnms MA Mn Mc ms s.LA s.Ln s.Lc s.ls bf HBF.out _ (HG8.out.later hHeld) (HIN8.out.1.later hHeld)).mono ?_
                rintro e w9 ⟨rfl, hb9⟩
                show K _ _
                refine hK.out _ _ (hHeld.trans (hb9.mono hHeld.size)) (fun hHeld => ?_)
                clear hK K
                try simp only [Act.put, List.setIfInBounds_toArray, List.set_cons_zero, List.set_cons_succ]
                refine wpAnyH_take (i := 10) (v := ?_) (by simp only [List.getElem?_toArray, List.getElem?_cons_succ, List.getElem?_cons_zero]; exact rfl) (by kernel_rfl) (by kernel_rfl) (by kernel_rfl) (by exact fun _ _ _ h => h) (Or.inl ⟨by rfl, ?_⟩) hHeld ?_
                rotate_left
                · intro wq hSw; go_simp; all_goals (with_reducible rfl)
                try simp only [Act.put, List.setIfInBounds_toArray, List.set_cons_zero, List.set_cons_succ]
                refine wpAnyH_take (i := 11) (v := ?_) (by simp only [List.getElem?_toArray, List.getElem?_cons_succ, List.getElem?_cons_zero]; exact rfl) (by kernel_rfl) (by kernel_rfl) (by kernel_rfl) (by exact fun _ _ _ h => h) (Or.inl ⟨by rfl, ?_⟩) hHeld ?_
                rotate_left
                · intro wq hSw; go_simp; all_goals (with_reducible rfl)
                try simp only [Act.put, List.setIfInBounds_toArray, List.set_cons_zero, List.set_cons_succ]
                refine wpAnyH_done (by kernel_rfl) ?_ _
                rcases bf with _ | _
                · have HH0 := Lib.hid (show Sto.hit nm ms t window s.val = none by unfold Sto.hit; rw [if_neg (by unfold Sto.Se.val; rw [HBF.out]; exact Bool.false_ne_true)])
                  go_wp2
                  go_roundw
                  case rel => exact ⟨i2, k, by have := HI2.out; omega, rfl, rfl, by rw [HI2.out, HCP.out, HH0.out, HK.out]; simp, hb68.trans (hHeld.mono hb68.size)⟩
                  case measure => have := HI2.out; simp [intOf]; omega
                · have HH0 := Lib.hid (show Sto.hit nm ms t window s.val = some (s.ls, x) by unfold Sto.hit; rw [if_pos (by unfold Sto.Se.val; rw [HBF.out]), if_pos (by show (Ser.atP s.ss t window).2 = true; rw [HX.out])]; show some (s.ls, (Ser.atP s.ss t window).1) = _; rw [HX.out])
                  have hat := HAT.out _ HH0.out
                  rw [← HK.out, ← HFE.out, List.getElem?_map] at hat
                  obtain ⟨fo, hfo, hfv⟩ := Option.map_eq_some_iff.1 hat
                  have hkF : k < Fn := by have := (List.getElem?_eq_some_iff.1 hfo).1; omega
                  obtain ⟨bf, offF, hFA, hbf, hcf⟩ := HF6.out.1.at_ (Nat.lt_of_le_of_lt (Nat.zero_le k) hkF)
                  have h69 := hb68.trans (hHeld.mono hb68.size)
                  have hfi := (HF6.out.2 fo (List.mem_of_getElem? hfo)).later h69
                  have F0 := Lib.hid ((h69.cell (p := ⟨bf, offF + k * 3 + 0, none⟩) hbf).trans (hcf k fo hfo 0 _ rfl))
                  have F1 := Lib.hid ((h69.cell (p := ⟨bf, offF + k * 3 + 1, none⟩) hbf).trans (hcf k fo hfo 1 _ rfl))
                  have F2 := Lib.hid ((h69.cell (p := ⟨bf, offF + k * 3 + 2, none⟩) hbf).trans (hcf k fo hfo 2 _ rfl))
                  have hbf9 := Nat.lt_of_lt_of_le hbf h69.size
                  obtain ⟨fLA, fLn, fLc, fls, fx⟩ := fo
                  obtain ⟨rfl, rfl⟩ : fls = s.ls ∧ fx = x := ⟨congrArg Prod.fst hfv, congrArg Prod.snd hfv⟩
                  have HFI := Lib.hid hfi
                  have X9 := Lib.hid ((hHeld.cell (p := ⟨bb, off + i * 2, none⟩) hbB8).trans X8.out)
                  have W0 := Lib.hid ((hHeld.cell (p := ⟨w7.heap.size, 0, none⟩) hl8).trans V0.out)
                  have W1' := Lib.hid ((hHeld.cell (p := ⟨w7.heap.size, 1, none⟩) hl8).trans V1.out)
                  have hbB9 := Nat.lt_of_lt_of_le hbB8 hHeld.size
                  have hl9 := Nat.lt_of_lt_of_le hl8 hHeld.size
                  have HIN9 := Lib.hid (HIN8.out.1.later hHeld)
                  have HB69 := Lib.hid h69
                  have hcmp : Lab.cmpL (Lab.counted s.ls) (Lab.counted s.ls) = 0 := Lab.cmpL_ord.self _
                  have HCMP := Lib.hid hcmp
                  have hdl : decide (Fn ≤ k) = false := decide_eq_false (by omega)
                  obtain ⟨k2, hk2⟩ : ∃ y, y = k + 1 := ⟨_, rfl⟩
                  have hwk : IntKind.i64.wrap ((k : Int) + 1) = ((k2 : Nat) : Int) := by rw [hk2, show (k : Int) + 1 = ((k + 1 : Nat) : Int) by omega]; exact IntWalk.i64_in _ (by omega)
                  have HK2 := Lib.hid hk2
                  have k0 : (0 : Int) ≤ (k : Int) := by omega
                  have k1 : (k : Int) < (Fn : Int) := by omega
                  subst hFA
                  clear hat hfo hfv hcf hfi h69 hcmp hk2
                  have H89 := Lib.hid hHeld
                  clear hHeld hb9
                  go_wp2
                  refine wp_region_held_drew (S := fun W' => Below w9.heap.size w9 W') (by kernel_rfl) (Below.refl _ _).drew (fun hHeld => ?_)
                  refine wpAnyH_take (i := 0) (v := ?_) (by simp only [List.getElem?_toArray, List.getElem?_cons_succ, List.getElem?_cons_zero]; exact rfl) (by kernel_rfl) (by kernel_rfl) (by kernel_rfl) (by exact fun _ _ _ h => h) (Or.inl ⟨by rfl, ?_⟩) hHeld ?_
                  rotate_left
                  · intro wq hSw; go_simp; all_goals (with_reducible rfl)
                  try simp only [Act.put, List.setIfInBounds_toArray, List.set_cons_zero, List.set_cons_succ]
                  refine wpAnyH_take (i := 1) (v := ?_) (by simp only [List.getElem?_toArray, List.getElem?_cons_succ, List.getElem?_cons_zero]; exact rfl) (by kernel_rfl) (by kernel_rfl) (by kernel_rfl) (by exact fun _ _ _ h => h) (Or.inl ⟨by rfl, ?_⟩) hHeld ?_
                  rotate_left
                  · intro wq hSw; go_simp; all_goals (with_reducible rfl)
                  try simp only [Act.put, List.setIfInBounds_toArray, List.set_cons_zero, List.set_cons_succ]
                  refine wpAnyH_take (i := 2) (v := ?_) (by simp only [List.getElem?_toArray, List.getElem?_cons_succ, List.getElem?_cons_zero]; exact rfl) (by kernel_rfl) (by kernel_rfl) (by kernel_rfl) (by exact fun _ _ _ h => h) (Or.inl ⟨by rfl, ?_⟩) hHeld ?_
                  rotate_left
                  · intro wq hSw; go_simp; all_goals (with_reducible rfl)
                  try simp only [Act.put, List.setIfInBounds_toArray, List.set_cons_zero, List.set_cons_succ]
                  refine wpAnyH_take (i := 3) (v := ?_) (by simp only [List.getElem?_toArray, List.getElem?_cons_succ, List.getElem?_cons_zero]; exact rfl) (by kernel_rfl) (by kernel_rfl) (by kernel_rfl) (by exact fun _ _ _ h => h) (Or.inl ⟨by rfl, ?_⟩) hHeld ?_
                  rotate_left
                  · intro wq hSw; go_simp; all_goals (with_reducible rfl)
                  try simp only [Act.put, List.setIfInBounds_toArray, List.set_cons_zero, List.set_cons_succ]
                  refine wpAnyH_take (i := 4) (v := ?_) (by simp only [List.getElem?_toArray, List.getElem?_cons_succ, List.getElem?_cons_zero]; exact rfl) (by kernel_rfl) (by kernel_rfl) (by kernel_rfl) (by exact fun _ _ _ h => h) (Or.inl ⟨by rfl, ?_⟩) hHeld ?_
                  rotate_left
                  · intro wq hSw; go_simp; all_goals (with_reducible rfl)
                  try simp only [Act.put, List.setIfInBounds_toArray, List.set_cons_zero, List.set_cons_succ]
                  refine wpAnyH_take (i := 5) (v := ?_) (by simp only [List.getElem?_toArray, List.getElem?_cons_succ, List.getElem?_cons_zero]; exact rfl) (by kernel_rfl) (by kernel_rfl) (by kernel_rfl) (by exact fun _ _ _ h => h) (Or.inl ⟨by rfl, ?_⟩) hHeld ?_
                  rotate_left
                  · intro wq hSw; go_simp; all_goals (with_reducible rfl)
                  try simp only [Act.put, List.setIfInBounds_toArray, List.set_cons_zero, List.set_cons_succ]
                  refine wpAnyH_take (i := 6) (v := ?_) (by simp only [List.getElem?_toArray, List.getElem?_cons_succ, List.getElem?_cons_zero]; exact rfl) (by kernel_rfl) (by kernel_rfl) (by kernel_rfl) (by exact fun _ _ _ h => h) (Or.inl ⟨by rfl, ?_⟩) hHeld ?_
                  rotate_left
                  · intro wq hSw; go_simp; all_goals (with_reducible rfl)
                  try simp only [Act.put, List.setIfInBounds_toArray, List.set_cons_zero, List.set_cons_succ]
                  refine wpAnyH_take (i := 7) (v := ?_) (by simp only [List.getElem?_toArray, List.getElem?_cons_succ, List.getElem?_cons_zero]; exact rfl) (by kernel_rfl) (by kernel_rfl) (by kernel_rfl) (by exact fun _ _ _ h => h) (Or.inl ⟨by rfl, ?_⟩) hHeld ?_
                  rotate_left
                  · intro wq hSw; go_simp; all_goals (with_reducible rfl)
                  try simp only [Act.put, List.setIfInBounds_toArray, List.set_cons_zero, List.set_cons_succ]
                  refine wpAnyH_take (i := 8) (v := ?_) (by simp only [List.getElem?_toArray, List.getElem?_cons_succ, List.getElem?_cons_zero]; exact rfl) (by kernel_rfl) (by kernel_rfl) (by kernel_rfl) (by exact fun _ _ _ h => h) (Or.inl ⟨by rfl, ?_⟩) hHeld ?_
                  rotate_left
                  · intro wq hSw; go_simp; all_goals (with_reducible rfl)
                  try simp only [Act.put, List.setIfInBounds_toArray, List.set_cons_zero, List.set_cons_succ]
                  refine wpAnyH_take (i := 9) (v := ?_) (by simp only [List.getElem?_toArray, List.getElem?_cons_succ, List.getElem?_cons_zero]; exact rfl) (by kernel_rfl) (by kernel_rfl) (by kernel_rfl) (by exact fun _ _ _ h => h) (Or.inl ⟨by rfl, ?_⟩) hHeld ?_
                  rotate_left
                  · intro wq hSw; have z0 := (hSw.cell (p := ⟨bf, offF + k * 3, none⟩) hbf9).trans F0.out; go_simp; all_goals (with_reducible rfl)
                  try simp only [Act.put, List.setIfInBounds_toArray, List.set_cons_zero, List.set_cons_succ]
                  refine wpAnyH_take (i := 10) (v := ?_) (by simp only [List.getElem?_toArray, List.getElem?_cons_succ, List.getElem?_cons_zero]; exact rfl) (by kernel_rfl) (by kernel_rfl) (by kernel_rfl) (by exact fun _ _ _ h => h) (Or.inl ⟨by rfl, ?_⟩) hHeld ?_
                  rotate_left
                  · intro wq hSw; go_simp; all_goals (with_reducible rfl)
                  try simp only [Act.put, List.setIfInBounds_toArray, List.set_cons_zero, List.set_cons_succ]
                  refine wpAnyH_take (i := 11) (v := ?_) (by simp only [List.getElem?_toArray, List.getElem?_cons_succ, List.getElem?_cons_zero]; exact rfl) (by kernel_rfl) (by kernel_rfl) (by kernel_rfl) (by exact fun _ _ _ h => h) (Or.inl ⟨by rfl, ?_⟩) hHeld ?_
                  rotate_left
                  · intro wq hSw; go_simp; all_goals (with_reducible rfl)
                  try simp only [Act.put, List.setIfInBounds_toArray, List.set_cons_zero, List.set_cons_succ]
                  refine wpAnyH_take (i := 12) (v := ?_) (by simp only [List.getElem?_toArray, List.getElem?_cons_succ, List.getElem?_cons_zero]; exact rfl) (by kernel_rfl) (by kernel_rfl) (by kernel_rfl) (by exact fun _ _ _ h => h) (Or.inl ⟨by rfl, ?_⟩) hHeld ?_
                  rotate_left
                  · intro wq hSw; go_simp; all_goals (with_reducible rfl)
                  try simp only [Act.put, List.setIfInBounds_toArray, List.set_cons_zero, List.set_cons_succ]
                  refine wpAnyH_take (i := 13) (v := ?_) (by simp only [List.getElem?_toArray, List.getElem?_cons_succ, List.getElem?_cons_zero]; exact rfl) (by kernel_rfl) (by kernel_rfl) (by kernel_rfl) (by exact fun _ _ _ h => h) (Or.inl ⟨by rfl, ?_⟩) hHeld ?_
                  rotate_left
                  · intro wq hSw; go_simp; all_goals (with_reducible rfl)
                  try simp only [Act.put, List.setIfInBounds_toArray, List.set_cons_zero, List.set_cons_succ]
                  refine wpAnyH_take (i := 14) (v := ?_) (by simp only [List.getElem?_toArray, List.getElem?_cons_succ, List.getElem?_cons_zero]; exact rfl) (by kernel_rfl) (by kernel_rfl) (by kernel_rfl) (by exact fun _ _ _ h => h) (Or.inl ⟨by rfl, ?_⟩) hHeld ?_
                  rotate_left
                  · intro wq hSw; have z0 := (hSw.cell (p := ⟨bb, off + i * 2, none⟩) hbB9).trans X9.out; go_simp; all_goals (with_reducible rfl)
                  try simp only [Act.put, List.setIfInBounds_toArray, List.set_cons_zero, List.set_cons_succ]
                  refine wpAnyH_ready (rs := [15]) (by kernel_rfl) (by simp) ?_
                  refine AllReadyH.cons (by simp only [List.getElem?_toArray, List.getElem?_cons_succ, List.getElem?_cons_zero]; exact rfl) (fun K hK => ?_) ?_
                  · go_simp
                    refine (lcmp_is fLA fLn fLc s.ls s.LA s.Ln s.Lc s.ls 0 HCMP.out _ (HFI.out.later hHeld) (HIN9.out.later hHeld)).mono ?_
                    rintro e w10 ⟨rfl, hb10⟩
                    show K _ _
                    refine hK.out _ _ (hHeld.trans (hb10.mono hHeld.size)) (fun hHeld => ?_)
                    clear hK K
                    try simp only [Act.put, List.setIfInBounds_toArray, List.set_cons_zero, List.set_cons_succ]
                    refine wpAnyH_take (i := 16) (v := ?_) (by simp only [List.getElem?_toArray, List.getElem?_cons_succ, List.getElem?_cons_zero]; exact rfl) (by kernel_rfl) (by kernel_rfl) (by kernel_rfl) (by exact fun _ _ _ h => h) (Or.inl ⟨by rfl, ?_⟩) hHeld ?_
                    rotate_left
                    · intro wq hSw; go_simp; all_goals (with_reducible rfl)
                    try simp only [Act.put, List.setIfInBounds_toArray, List.set_cons_zero, List.set_cons_succ]
                    refine wpAnyH_take (i := 17) (v := ?_) (by simp only [List.getElem?_toArray, List.getElem?_cons_succ, List.getElem?_cons_zero]; exact rfl) (by kernel_rfl) (by kernel_rfl) (by kernel_rfl) (by exact fun _ _ _ h => h) (Or.inl ⟨by rfl, ?_⟩) hHeld ?_
                    rotate_left
                    · intro wq hSw; go_simp; all_goals (with_reducible rfl)
                    try simp only [Act.put, List.setIfInBounds_toArray, List.set_cons_zero, List.set_cons_succ]
                    refine wpAnyH_take (i := 18) (v := ?_) (by simp only [List.getElem?_toArray, List.getElem?_cons_succ, List.getElem?_cons_zero]; exact rfl) (by kernel_rfl) (by kernel_rfl) (by kernel_rfl) (by exact fun _ _ _ h => h) (Or.inl ⟨by rfl, ?_⟩) hHeld ?_
                    rotate_left
                    · intro wq hSw; go_simp; all_goals (with_reducible rfl)
                    try simp only [Act.put, List.setIfInBounds_toArray, List.set_cons_zero, List.set_cons_succ]
                    refine wpAnyH_take (i := 19) (v := ?_) (by simp only [List.getElem?_toArray, List.getElem?_cons_succ, List.getElem?_cons_zero]; exact rfl) (by kernel_rfl) (by kernel_rfl) (by kernel_rfl) (by exact fun _ _ _ h => h) (Or.inl ⟨by rfl, ?_⟩) hHeld ?_
                    rotate_left
                    · intro wq hSw; go_simp; all_goals (with_reducible rfl)
                    try simp only [Act.put, List.setIfInBounds_toArray, List.set_cons_zero, List.set_cons_succ]
                    refine wpAnyH_take (i := 20) (v := ?_) (by simp only [List.getElem?_toArray, List.getElem?_cons_succ, List.getElem?_cons_zero]; exact rfl) (by kernel_rfl) (by kernel_rfl) (by kernel_rfl) (by exact fun _ _ _ h => h) (Or.inl ⟨by rfl, ?_⟩) hHeld ?_
                    rotate_left
                    · intro wq hSw; go_simp; all_goals (with_reducible rfl)
                    try simp only [Act.put, List.setIfInBounds_toArray, List.set_cons_zero, List.set_cons_succ]
                    refine wpAnyH_take (i := 21) (v := ?_) (by simp only [List.getElem?_toArray, List.getElem?_cons_succ, List.getElem?_cons_zero]; exact rfl) (by kernel_rfl) (by kernel_rfl) (by kernel_rfl) (by exact fun _ _ _ h => h) (Or.inl ⟨by rfl, ?_⟩) hHeld ?_
                    rotate_left
                    · intro wq hSw; go_simp; all_goals (with_reducible rfl)
                    try simp only [Act.put, List.setIfInBounds_toArray, List.set_cons_zero, List.set_cons_succ]
                    refine wpAnyH_take (i := 22) (v := ?_) (by simp only [List.getElem?_toArray, List.getElem?_cons_succ, List.getElem?_cons_zero]; exact rfl) (by kernel_rfl) (by kernel_rfl) (by kernel_rfl) (by exact fun _ _ _ h => h) (Or.inl ⟨by rfl, ?_⟩) hHeld ?_
                    rotate_left
                    · intro wq hSw; go_simp; all_goals (with_reducible rfl)
                    try simp only [Act.put, List.setIfInBounds_toArray, List.set_cons_zero, List.set_cons_succ]
                    refine wpAnyH_take (i := 23) (v := ?_) (by simp only [List.getElem?_toArray, List.getElem?_cons_succ, List.getElem?_cons_zero]; exact rfl) (by kernel_rfl) (by kernel_rfl) (by kernel_rfl) (by exact fun _ _ _ h => h) (Or.inl ⟨by rfl, ?_⟩) hHeld ?_
                    rotate_left
                    · intro wq hSw; have z0 := (hSw.cell (p := ⟨bf, offF + k * 3 + 1, none⟩) hbf9).trans F1.out; have z1 := (hSw.cell (p := ⟨bf, offF + k * 3 + 2, none⟩) hbf9).trans F2.out; go_simp; all_goals (with_reducible rfl)
                    try simp only [Act.put, List.setIfInBounds_toArray, List.set_cons_zero, List.set_cons_succ]
                    refine wpAnyH_take (i := 24) (v := ?_) (by simp only [List.getElem?_toArray, List.getElem?_cons_succ, List.getElem?_cons_zero]; exact rfl) (by kernel_rfl) (by kernel_rfl) (by kernel_rfl) (by exact fun _ _ _ h => h) (Or.inl ⟨by rfl, ?_⟩) hHeld ?_
                    rotate_left
                    · intro wq hSw; have z0 := (hSw.cell (p := ⟨w7.heap.size, 0, none⟩) hl9).trans W0.out; have z1 := (hSw.cell (p := ⟨w7.heap.size, 1, none⟩) hl9).trans W1'.out; go_simp; all_goals (with_reducible rfl)
                    try simp only [Act.put, List.setIfInBounds_toArray, List.set_cons_zero, List.set_cons_succ]
                    refine wpAnyH_take (i := 25) (v := ?_) (by simp only [List.getElem?_toArray, List.getElem?_cons_succ, List.getElem?_cons_zero]; exact rfl) (by kernel_rfl) (by kernel_rfl) (by kernel_rfl) (by exact fun _ _ _ h => h) (Or.inl ⟨by rfl, ?_⟩) hHeld ?_
                    rotate_left
                    · intro wq hSw; go_simp; all_goals (with_reducible rfl)
                    try simp only [Act.put, List.setIfInBounds_toArray, List.set_cons_zero, List.set_cons_succ]
                    refine wpAnyH_take (i := 26) (v := ?_) (by simp only [List.getElem?_toArray, List.getElem?_cons_succ, List.getElem?_cons_zero]; exact rfl) (by kernel_rfl) (by kernel_rfl) (by kernel_rfl) (by exact fun _ _ _ h => h) (Or.inl ⟨by rfl, ?_⟩) hHeld ?_
                    rotate_left
                    · intro wq hSw; go_simp; all_goals (with_reducible rfl)
                    try simp only [Act.put, List.setIfInBounds_toArray, List.set_cons_zero, List.set_cons_succ]
                    refine wpAnyH_done (by kernel_rfl) ?_ _
                    go_wp2
                    go_roundw
                    case rel => exact ⟨i2, k2, by have := HI2.out; omega, rfl, rfl, by rw [HI2.out, HCP.out, HH0.out, HK2.out, HK.out]; simp, HB69.out.trans (hHeld.mono HB69.out.size)⟩
                    case measure => have := HI2.out; simp [intOf]; omega
                  · exact AllReadyH.nil
              · exact AllReadyH.nil
          · obtain rfl : i = n := by omega
            have hdk : decide (i < i) = false := decide_eq_false (by omega)
            have hkf : k = Fn := by
              rw [HK.out, List.take_of_length_le (by rw [← HES.out, List.length_map]; omega), ← HFE.out, List.length_map]; exact hFn
            have hz : ((k : Int) == (Fn : Int)) = true := by rw [beq_iff_eq, hkf]
            go_wp2
            go_ret
            exact ⟨rfl, hB1.trans ((hC6.trans (hb.mono hC6.size)).mono hB1.size)⟩
end Go.Proofs.Ytidfiiogjfpfmaa
