/- The walk of the law StoreOrder. -/
import Derived.Test.YtidfiiogjfpfmaaStoV
import Derived.Test.YtidfiiogjfpfmaaStoY
namespace Go.Proofs.Ytidfiiogjfpfmaa
open Go.RowKit
set_option linter.unusedSimpArgs false
set_option linter.unusedVariables false

set_option maxRecDepth 100000 in
set_option maxHeartbeats 4000000 in
theorem storeOrder_any (A : Option Addr) (n c : Nat) (ses : List Sto.Se) (B : Option Addr) (m d : Nat) (ls : List Lab.Pr) (x : Int × Int) (D : Option Addr) (m2 d2 : Nat) (os : List Lab.Pr) (y : Int × Int) (w : World) (h : Stt w w.heap.size A n c ses) (g : Prs w w.heap.size B m d ls) (g2 : Prs w w.heap.size D m2 d2 os) :
    Calls Try.prog 4 #[.slice A n c, .slice B m d, .agg #[.int .i64 x.1, .int .i64 x.2], .slice D m2 d2, .agg #[.int .i64 y.1, .int .i64 y.2]] w fun e w' => LawR w e w' := by
  have HH := Lib.hid h
  have HG := Lib.hid g
  have HD := Lib.hid g2
  clear h g g2
  go_enter Try.func4, Try.ntmps4
  go_wp2_with fail
  have hB1 := ((Below.refl w.heap.size w).alloc (Nat.le_refl _) (.cells #[.int .i64 x.1, .int .i64 x.2] 25)).alloc (by simp) (.cells #[.int .i64 y.1, .int .i64 y.2] 25)
  have hblk := (Mem.Blk.new w 25 #[.int .i64 x.1, .int .i64 x.2]).alloc (.cells #[.int .i64 y.1, .int .i64 y.2] 25)
  have hblk2 := Mem.Blk.new (w.alloc (.cells #[.int .i64 x.1, .int .i64 x.2] 25)) 25 #[.int .i64 y.1, .int .i64 y.2]
  rw [World.size_alloc] at hblk2
  obtain ⟨W1, hW1⟩ : ∃ W1, W1 = (w.alloc (.cells #[.int .i64 x.1, .int .i64 x.2] 25)).alloc (.cells #[.int .i64 y.1, .int .i64 y.2] 25) := ⟨_, rfl⟩
  have hlt1 : w.heap.size < W1.heap.size := by rw [hW1]; simp; omega
  have hlt2 : w.heap.size + 1 < W1.heap.size := by rw [hW1]; simp
  rw [← hW1] at hB1 hblk hblk2 ⊢
  clear hW1
  have HBLK := Lib.hid hblk
  have HBLK2 := Lib.hid hblk2
  clear hblk hblk2
  refine (awake_any W1).mono ?_
  rintro e w2 ⟨rfl, hb2⟩
  have hC2 := hb2
  go_wp2_with fail
  refine (few14_any A n c ses w2 ((HH.out.later hB1).later hC2)).mono ?_
  rintro e w3 ⟨b3, rfl, hb3⟩
  have hC3 := hC2.trans (hb3.mono hC2.size)
  rcases b3 with _ | _
  · go_wp2
    go_ret
    exact ⟨rfl, hB1.trans (hC3.mono hB1.size)⟩
  · go_wp2_with fail
    refine (fewL_any B m d ls w3 ((HG.out.later hB1).later hC3)).mono ?_
    rintro e w4 ⟨b4, rfl, -, hb4⟩
    have hC4 := hC3.trans (hb4.mono hC3.size)
    rcases b4 with _ | _
    · go_wp2
      go_ret
      exact ⟨rfl, hB1.trans (hC4.mono hB1.size)⟩
    · go_wp2_with fail
      refine (fewL_any D m2 d2 os w4 ((HD.out.later hB1).later hC4)).mono ?_
      rintro e w5 ⟨b5, rfl, -, hb5⟩
      have hC5 := hC4.trans (hb5.mono hC4.size)
      clear hb2 hb3 hb4 hb5
      rcases b5 with _ | _
      · go_wp2
        go_ret
        exact ⟨rfl, hB1.trans (hC5.mono hB1.size)⟩
      · rcases hsn : Sto.sane (ses.map Sto.Se.val) with _ | _
        · go_wp2_with fail
          refine (stoSane_is A n c ses false hsn w5 ((HH.out.later hB1).later hC5)).mono ?_
          rintro e w6 ⟨rfl, hb6⟩
          have hC6 := hC5.trans (hb6.mono hC5.size)
          go_wp2
          go_ret
          exact ⟨rfl, hB1.trans (hC6.mono hB1.size)⟩
        · go_wp2_with fail
          refine (stoSane_is A n c ses true hsn w5 ((HH.out.later hB1).later hC5)).mono ?_
          rintro e w6 ⟨rfl, hb6⟩
          have hC6 := hC5.trans (hb6.mono hC5.size)
          have HSN := Lib.hid hsn
          have hln : (ses.map Sto.Se.val).length = n := by rw [List.length_map, HH.out.len]
          have HLN := Lib.hid hln
          clear hb6 hsn hln
          by_cases h30 : 30 < n
          · have hd : decide (30 < n) = true := decide_eq_true h30
            have hd' : decide ((30 : Int) < (n : Int)) = true := decide_eq_true (by omega)
            go_wp2
            go_ret
            exact ⟨rfl, hB1.trans (hC6.mono hB1.size)⟩
          · have hd : decide (30 < n) = false := decide_eq_false h30
            have hd' : decide ((30 : Int) < (n : Int)) = false := decide_eq_false (by omega)
            go_wp2_with fail
            refine (same3_is B D m d m2 d2 ls os (decide (ls = os)) rfl w6 ((HG.out.later hB1).later hC6) ((HD.out.later hB1).later hC6)).mono ?_
            rintro e w7 ⟨rfl, hb7⟩
            have hC7 := hC6.trans (hb7.mono hC6.size)
            clear hb7
            by_cases hlo : ls = os
            · have hdl : decide (ls = os) = true := decide_eq_true hlo
              rw [hdl]
              clear hlo hdl
              go_wp2
              go_ret
              exact ⟨rfl, hB1.trans (hC7.mono hB1.size)⟩
            · have hdl : decide (ls = os) = false := decide_eq_false hlo
              rw [hdl]
              clear hdl
              have HLO := Lib.hid hlo
              have H30 := Lib.hid h30
              have u0 := (hC7.cell (p := ⟨w.heap.size, 0, none⟩) hlt1).trans (HBLK.out.cell 0)
              have u1 := (hC7.cell (p := ⟨w.heap.size, 1, none⟩) hlt1).trans (HBLK.out.cell 1)
              have v0 := (hC7.cell (p := ⟨w.heap.size + 1, 0, none⟩) hlt2).trans (HBLK2.out.cell 0)
              have v1 := (hC7.cell (p := ⟨w.heap.size + 1, 1, none⟩) hlt2).trans (HBLK2.out.cell 1)
              simp at u0 u1 v0 v1
              have hl7 := Nat.lt_of_lt_of_le hlt1 hC7.size
              have hm7 := Nat.lt_of_lt_of_le hlt2 hC7.size
              clear hlo hd hd' h30
              go_wp2_with fail
              refine (add_any A n c ses B m d ls x w7 ((HH.out.later hB1).later hC7) ((HG.out.later hB1).later hC7)).mono ?_
              rintro e w8 ⟨A8, n8, c8, ses8, er8, rfl, h8, hr8, hb8⟩
              have hC8 := hC7.trans (hb8.mono hC7.size)
              have u0 := (hb8.cell (p := ⟨w.heap.size, 0, none⟩) hl7).trans u0
              have u1 := (hb8.cell (p := ⟨w.heap.size, 1, none⟩) hl7).trans u1
              have v0 := (hb8.cell (p := ⟨w.heap.size + 1, 0, none⟩) hm7).trans v0
              have v1 := (hb8.cell (p := ⟨w.heap.size + 1, 1, none⟩) hm7).trans v1
              have hl8 := Nat.lt_of_lt_of_le hl7 hb8.size
              have hm8 := Nat.lt_of_lt_of_le hm7 hb8.size
              have H8 := Lib.hid h8
              have HR8 := Lib.hid hr8
              have HB8 := Lib.hid hb8
              clear hb8 h8 hr8
              go_wp2_with fail
              refine (add_any A8 n8 c8 ses8 D m2 d2 os y w8 H8.out ((HD.out.later hB1).later hC8)).mono ?_
              rintro e w9 ⟨A9, n9, c9, ses9, er9, rfl, h9, hr9, hb9⟩
              have hC9 := hC8.trans (hb9.mono hC8.size)
              have u0 := (hb9.cell (p := ⟨w.heap.size, 0, none⟩) hl8).trans u0
              have u1 := (hb9.cell (p := ⟨w.heap.size, 1, none⟩) hl8).trans u1
              have v0 := (hb9.cell (p := ⟨w.heap.size + 1, 0, none⟩) hm8).trans v0
              have v1 := (hb9.cell (p := ⟨w.heap.size + 1, 1, none⟩) hm8).trans v1
              have hl9 := Nat.lt_of_lt_of_le hl8 hb9.size
              have hm9 := Nat.lt_of_lt_of_le hm8 hb9.size
              have H9 := Lib.hid h9
              have HR9 := Lib.hid hr9
              have HB9 := Lib.hid hb9
              clear hb9 h9 hr9
              go_wp2_with fail
              refine (add_any A n c ses D m2 d2 os y w9 ((HH.out.later hB1).later hC9) ((HD.out.later hB1).later hC9)).mono ?_
              rintro e w10 ⟨A10, n10, c10, ses10, er10, rfl, h10, hr10, hb10⟩
              have hC10 := hC9.trans (hb10.mono hC9.size)
              have u0 := (hb10.cell (p := ⟨w.heap.size, 0, none⟩) hl9).trans u0
              have u1 := (hb10.cell (p := ⟨w.heap.size, 1, none⟩) hl9).trans u1
              have v0 := (hb10.cell (p := ⟨w.heap.size + 1, 0, none⟩) hm9).trans v0
              have v1 := (hb10.cell (p := ⟨w.heap.size + 1, 1, none⟩) hm9).trans v1
              have hl10 := Nat.lt_of_lt_of_le hl9 hb10.size
              have hm10 := Nat.lt_of_lt_of_le hm9 hb10.size
              have H10 := Lib.hid h10
              have HR10 := Lib.hid hr10
              have HB10 := Lib.hid hb10
              clear hb10 h10 hr10
              go_wp2_with fail
              refine (add_any A10 n10 c10 ses10 B m d ls x w10 H10.out ((HG.out.later hB1).later hC10)).mono ?_
              rintro e w11 ⟨A11, n11, c11, ses11, er11, rfl, h11, hr11, hb11⟩
              have hC11 := hC10.trans (hb11.mono hC10.size)
              have u0 := (hb11.cell (p := ⟨w.heap.size, 0, none⟩) hl10).trans u0
              have u1 := (hb11.cell (p := ⟨w.heap.size, 1, none⟩) hl10).trans u1
              have v0 := (hb11.cell (p := ⟨w.heap.size + 1, 0, none⟩) hm10).trans v0
              have v1 := (hb11.cell (p := ⟨w.heap.size + 1, 1, none⟩) hm10).trans v1
              have hl11 := Nat.lt_of_lt_of_le hl10 hb11.size
              have hm11 := Nat.lt_of_lt_of_le hm10 hb11.size
              have H11 := Lib.hid h11
              have HR11 := Lib.hid hr11
              have HB11 := Lib.hid hb11
              clear hb11 h11 hr11
              obtain ⟨hbd, heh, hfg⟩ := Sto.order HSN.out (by have := HLN.out; have := H30.out; omega) HLO.out HR8.out HR9.out HR10.out HR11.out
              subst heh hfg
              have HBD := Lib.hid hbd
              clear hbd u0 u1 v0 v1
              go_wp2_with fail
              refine (same14_is A9 A11 n9 c9 n11 c11 ses9 ses11 HBD.out _ ((H9.out.later HB10.out).later HB11.out) H11.out).mono ?_
              rintro e w12 ⟨rfl, hb12⟩
              have hC12 := hC11.trans (hb12.mono hC11.size)
              go_wp2
              go_ret
              exact ⟨rfl, hB1.trans (hC12.mono hB1.size)⟩
end Go.Proofs.Ytidfiiogjfpfmaa
