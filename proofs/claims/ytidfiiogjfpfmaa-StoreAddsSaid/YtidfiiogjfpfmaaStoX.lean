/- The walk of the law StoreAdds. -/
import Derived.Test.YtidfiiogjfpfmaaStoV
import Derived.Test.YtidfiiogjfpfmaaStoW
namespace Go.Proofs.Ytidfiiogjfpfmaa
open Go.RowKit
set_option linter.unusedSimpArgs false
set_option linter.unusedVariables false

set_option maxRecDepth 100000 in
set_option maxHeartbeats 4000000 in
theorem storeAdds_any (A : Option Addr) (n c : Nat) (ses : List Sto.Se) (B : Option Addr) (m d : Nat) (ls : List Lab.Pr) (x : Int × Int) (D : Option Addr) (m2 d2 : Nat) (os : List Lab.Pr) (w : World) (h : Stt w w.heap.size A n c ses) (g : Prs w w.heap.size B m d ls) (g2 : Prs w w.heap.size D m2 d2 os) :
    Calls Try.prog 3 #[.slice A n c, .slice B m d, .agg #[.int .i64 x.1, .int .i64 x.2], .slice D m2 d2] w fun e w' => LawR w e w' := by
  have HH := Lib.hid h
  have HG := Lib.hid g
  have HD := Lib.hid g2
  clear h g g2
  go_enter Try.func3, Try.ntmps3
  go_wp2_with fail
  have hB1 := (Below.refl w.heap.size w).alloc (Nat.le_refl _) (.cells #[.int .i64 x.1, .int .i64 x.2] 25)
  have hblk := (Mem.Blk.new w 25 #[.int .i64 x.1, .int .i64 x.2])
  have hlt1 : w.heap.size < (w.alloc (.cells #[.int .i64 x.1, .int .i64 x.2] 25)).heap.size := by simp
  have hsz1 : w.heap.size ≤ (w.alloc (.cells #[.int .i64 x.1, .int .i64 x.2] 25)).heap.size := by simp
  obtain ⟨W1, hW1⟩ : ∃ W1, W1 = w.alloc (.cells #[.int .i64 x.1, .int .i64 x.2] 25) := ⟨_, rfl⟩
  rw [← hW1] at hB1 hblk hlt1 hsz1 ⊢
  clear hW1
  have HBLK := Lib.hid hblk
  clear hblk
  refine (awake_any W1).mono ?_
  rintro e w2 ⟨rfl, hb2⟩
  have hC2 := hb2
  go_wp2_with fail
  refine (few14_any A n c ses w2 ((HH.out.later hB1).later hC2)).mono ?_
  rintro e w3 ⟨b3, rfl, hb3⟩
  have hC3 := hC2.trans (hb3.mono hC2.size)
  rcases b3 with _ | _
  · go_wp2
    go_ret
    exact ⟨rfl, hB1.trans (hC3.mono hB1.size)⟩
  · go_wp2_with fail
    refine (fewL_any B m d ls w3 ((HG.out.later hB1).later hC3)).mono ?_
    rintro e w4 ⟨b4, rfl, -, hb4⟩
    have hC4 := hC3.trans (hb4.mono hC3.size)
    rcases b4 with _ | _
    · go_wp2
      go_ret
      exact ⟨rfl, hB1.trans (hC4.mono hB1.size)⟩
    · go_wp2_with fail
      refine (fewL_any D m2 d2 os w4 ((HD.out.later hB1).later hC4)).mono ?_
      rintro e w5 ⟨b5, rfl, -, hb5⟩
      have hC5 := hC4.trans (hb5.mono hC4.size)
      clear hb2 hb3 hb4 hb5
      rcases b5 with _ | _
      · go_wp2
        go_ret
        exact ⟨rfl, hB1.trans (hC5.mono hB1.size)⟩
      · rcases hsn : Sto.sane (ses.map Sto.Se.val) with _ | _
        · go_wp2_with fail
          refine (stoSane_is A n c ses false hsn w5 ((HH.out.later hB1).later hC5)).mono ?_
          rintro e w6 ⟨rfl, hb6⟩
          have hC6 := hC5.trans (hb6.mono hC5.size)
          go_wp2
          go_ret
          exact ⟨rfl, hB1.trans (hC6.mono hB1.size)⟩
        · go_wp2_with fail
          refine (stoSane_is A n c ses true hsn w5 ((HH.out.later hB1).later hC5)).mono ?_
          rintro e w6 ⟨rfl, hb6⟩
          have hC6 := hC5.trans (hb6.mono hC5.size)
          have u0 := (hC6.cell (p := ⟨w.heap.size, 0, none⟩) hlt1).trans (HBLK.out.cell 0)
          have u1 := (hC6.cell (p := ⟨w.heap.size, 1, none⟩) hlt1).trans (HBLK.out.cell 1)
          simp at u0 u1
          have hl6 := Nat.lt_of_lt_of_le hlt1 hC6.size
          have HSN := Lib.hid hsn
          have hn32 : n ≤ 32 := by have := Sto.sane_len hsn; rw [List.length_map, HH.out.len] at this; exact this
          clear hb6 hsn
          go_wp2_with fail
          refine (add_any A n c ses B m d ls x w6 ((HH.out.later hB1).later hC6) ((HG.out.later hB1).later hC6)).mono ?_
          rintro e w7 ⟨A7, n7, c7, ses7, er, rfl, h7, hr7, hb7⟩
          have hC7 := hC6.trans (hb7.mono hC6.size)
          have u0 := (hb7.cell (p := ⟨w.heap.size, 0, none⟩) hl6).trans u0
          have u1 := (hb7.cell (p := ⟨w.heap.size, 1, none⟩) hl6).trans u1
          have hl7 := Nat.lt_of_lt_of_le hl6 hb7.size
          have H7 := Lib.hid h7
          clear hb7 h7
          by_cases her : er = 0
          · subst her
            obtain ⟨p, s, hw⟩ := Sto.add_ok hr7
            have HW := Lib.hid hw
            have hn73 : n7 ≤ 32 := by have := Sto.sane_len hw.sane; rw [List.length_map, H7.out.len] at this; exact this
            clear hw hr7
            go_wp2_with fail
            refine (get_any A n c ses B m d ls w7 ((HH.out.later hB1).later hC7) ((HG.out.later hB1).later hC7)).mono ?_
            rintro e w8 ⟨A8, n8, c8, us, rfl, h8, hg8, hb8⟩
            have hC8 := hC7.trans (hb8.mono hC7.size)
            have u0 := (hb8.cell (p := ⟨w.heap.size, 0, none⟩) hl7).trans u0
            have u1 := (hb8.cell (p := ⟨w.heap.size, 1, none⟩) hl7).trans u1
            have hold := Sto.went_old HSN.out HW.out hg8
            have hn8 : us.length = n8 := h8.1
            rw [hn8, List.length_map, List.length_map, H7.out.len, HH.out.len] at hold
            obtain ⟨happ, hlen⟩ := hold
            have H78 := Lib.hid (H7.out.later hb8)
            have hl8 := Nat.lt_of_lt_of_le hl7 hb8.size
            clear hb8 hg8
            have HL := Lib.hid hlen
            clear hlen
            go_wp2_with fail
            refine (SerW.append_any A8 n8 c8 us x w8 h8).mono ?_
            rintro e w9 ⟨A9, n9, c9, rfl, h9, hb9⟩
            rw [happ] at h9 ⊢
            have hC9 := hC8.trans (hb9.mono hC8.size)
            have H79 := Lib.hid (H78.out.later hb9)
            have H9 := Lib.hid h9
            clear h8 h9 hb9 happ hn8 u0 u1
            have hn320 : n ≤ 32 := hn32
            by_cases h80 : n8 = 0
            · subst h80
              have hlen := HL.out
              rw [if_pos rfl] at hlen
              have hw7 : IntKind.i64.wrap ((n : Int) + 1) = (n7 : Int) := by rw [show (n : Int) + 1 = (n7 : Int) by omega]; exact IntWalk.i64_in _ (by omega)
              clear hlen
              go_wp2_with fail
              refine (same3_is B D m d m2 d2 ls os (decide (ls = os)) rfl w9 ((HG.out.later hB1).later hC9) ((HD.out.later hB1).later hC9)).mono ?_
              rintro e w10 ⟨rfl, hb10⟩
              have hC10 := hC9.trans (hb10.mono hC9.size)
              go_wp2_with fail
              refine (stoSane_is A7 n7 c7 ses7 true HW.out.sane w10 (H79.out.later hb10)).mono ?_
              rintro e w11 ⟨rfl, hb11⟩
              have hC11 := hC10.trans (hb11.mono hC10.size)
              have H711 := Lib.hid ((H79.out.later hb10).later hb11)
              go_wp2_with fail
              refine (get_any A7 n7 c7 ses7 B m d ls w11 H711.out ((HG.out.later hB1).later hC11)).mono ?_
              rintro e w12 ⟨A12, n12, c12, s12, rfl, h12, hg12, hb12⟩
              have hss := Sto.went_get HW.out hg12
              subst hss
              have hC12 := hC11.trans (hb12.mono hC11.size)
              have H712 := Lib.hid (H711.out.later hb12)
              clear hg12
              go_wp2_with fail
              refine (same13_is A12 A9 n12 c12 n9 c9 s12 s12 true (decide_eq_true rfl) w12 h12 (((H9.out.later hb10).later hb11).later hb12)).mono ?_
              rintro e w13 ⟨rfl, hb13⟩
              have hC13 := hC12.trans (hb13.mono hC12.size)
              have H713 := Lib.hid (H712.out.later hb13)
              clear h12 hb10 hb11 hb12 hb13
              by_cases hlo : ls = os
              · have hdl : decide (ls = os) = true := decide_eq_true hlo
                rw [hdl]
                clear hlo hdl
                go_wp2
                go_ret
                exact ⟨rfl, hB1.trans (hC13.mono hB1.size)⟩
              · have hdl : decide (ls = os) = false := decide_eq_false hlo
                rw [hdl]
                clear hdl
                have HLO := Lib.hid hlo
                clear hlo
                go_wp2_with fail
                refine (get_any A7 n7 c7 ses7 D m2 d2 os w13 H713.out ((HD.out.later hB1).later hC13)).mono ?_
                rintro e w14 ⟨A14, n14, c14, s14, rfl, h14, hg14, hb14⟩
                have hC14 := hC13.trans (hb14.mono hC13.size)
                go_wp2_with fail
                refine (get_any A n c ses D m2 d2 os w14 ((HH.out.later hB1).later hC14) ((HD.out.later hB1).later hC14)).mono ?_
                rintro e w15 ⟨A15, n15, c15, s15, rfl, h15, hg15, hb15⟩
                have hss := Sto.went_else HSN.out HW.out HLO.out hg14 hg15
                subst hss
                have hC15 := hC14.trans (hb15.mono hC14.size)
                clear hg14 hg15
                go_wp2_with fail
                refine (same13_is A14 A15 n14 c14 n15 c15 s14 s14 true (decide_eq_true rfl) w15 (h14.later hb15) h15).mono ?_
                rintro e w16 ⟨rfl, hb16⟩
                have hC16 := hC15.trans (hb16.mono hC15.size)
                go_wp2
                go_ret
                exact ⟨rfl, hB1.trans (hC16.mono hB1.size)⟩
            · have hlen := HL.out
              rw [if_neg h80, Nat.add_zero] at hlen
              have hw7 : IntKind.i64.wrap ((n : Int) + 0) = (n7 : Int) := by rw [show (n : Int) + 0 = (n7 : Int) by omega]; exact IntWalk.i64_in _ (by omega)
              have hw7' : (n : Int) = (n7 : Int) := by omega
              clear hlen
              have hd8 : ((n8 : Int) == 0) = false := by rw [beq_eq_false_iff_ne]; omega
              go_wp2_with fail
              refine (same3_is B D m d m2 d2 ls os (decide (ls = os)) rfl w9 ((HG.out.later hB1).later hC9) ((HD.out.later hB1).later hC9)).mono ?_
              rintro e w10 ⟨rfl, hb10⟩
              have hC10 := hC9.trans (hb10.mono hC9.size)
              go_wp2_with fail
              refine (stoSane_is A7 n7 c7 ses7 true HW.out.sane w10 (H79.out.later hb10)).mono ?_
              rintro e w11 ⟨rfl, hb11⟩
              have hC11 := hC10.trans (hb11.mono hC10.size)
              have H711 := Lib.hid ((H79.out.later hb10).later hb11)
              go_wp2_with fail
              refine (get_any A7 n7 c7 ses7 B m d ls w11 H711.out ((HG.out.later hB1).later hC11)).mono ?_
              rintro e w12 ⟨A12, n12, c12, s12, rfl, h12, hg12, hb12⟩
              have hss := Sto.went_get HW.out hg12
              subst hss
              have hC12 := hC11.trans (hb12.mono hC11.size)
              have H712 := Lib.hid (H711.out.later hb12)
              clear hg12
              go_wp2_with fail
              refine (same13_is A12 A9 n12 c12 n9 c9 s12 s12 true (decide_eq_true rfl) w12 h12 (((H9.out.later hb10).later hb11).later hb12)).mono ?_
              rintro e w13 ⟨rfl, hb13⟩
              have hC13 := hC12.trans (hb13.mono hC12.size)
              have H713 := Lib.hid (H712.out.later hb13)
              clear h12 hb10 hb11 hb12 hb13
              by_cases hlo : ls = os
              · have hdl : decide (ls = os) = true := decide_eq_true hlo
                rw [hdl]
                clear hlo hdl
                go_wp2
                go_ret
                exact ⟨rfl, hB1.trans (hC13.mono hB1.size)⟩
              · have hdl : decide (ls = os) = false := decide_eq_false hlo
                rw [hdl]
                clear hdl
                have HLO := Lib.hid hlo
                clear hlo
                go_wp2_with fail
                refine (get_any A7 n7 c7 ses7 D m2 d2 os w13 H713.out ((HD.out.later hB1).later hC13)).mono ?_
                rintro e w14 ⟨A14, n14, c14, s14, rfl, h14, hg14, hb14⟩
                have hC14 := hC13.trans (hb14.mono hC13.size)
                go_wp2_with fail
                refine (get_any A n c ses D m2 d2 os w14 ((HH.out.later hB1).later hC14) ((HD.out.later hB1).later hC14)).mono ?_
                rintro e w15 ⟨A15, n15, c15, s15, rfl, h15, hg15, hb15⟩
                have hss := Sto.went_else HSN.out HW.out HLO.out hg14 hg15
                subst hss
                have hC15 := hC14.trans (hb15.mono hC14.size)
                clear hg14 hg15
                go_wp2_with fail
                refine (same13_is A14 A15 n14 c14 n15 c15 s14 s14 true (decide_eq_true rfl) w15 (h14.later hb15) h15).mono ?_
                rintro e w16 ⟨rfl, hb16⟩
                have hC16 := hC15.trans (hb16.mono hC15.size)
                go_wp2
                go_ret
                exact ⟨rfl, hB1.trans (hC16.mono hB1.size)⟩
          · have hse := Sto.add_bad HSN.out hr7 her
            have HSE := Lib.hid hse
            clear hr7 hse
            go_wp2_with fail
            refine (same14_is A7 A n7 c7 n c ses7 ses HSE.out _ H7.out ((HH.out.later hB1).later hC7)).mono ?_
            rintro e w8 ⟨rfl, hb8⟩
            have hC8 := hC7.trans (hb8.mono hC7.size)
            go_wp2
            go_ret
            exact ⟨rfl, hB1.trans (hC8.mono hB1.size)⟩
end Go.Proofs.Ytidfiiogjfpfmaa
