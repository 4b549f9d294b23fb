/- The walk of store's Add. -/
import Derived.Test.YtidfiiogjfpfmaaStoK
namespace Go.Proofs.Ytidfiiogjfpfmaa
open Go.RowKit
set_option linter.unusedSimpArgs false
set_option linter.unusedVariables false

/-- what Add hands back -/
def AddP (w : World) (es : List Sto.E) (ls : List Lab.Pr) (x : Int × Int) (e : Ending) (w' : World) : Prop :=
  ∃ A n c ses er, e = .returned (.tuple #[.slice A n c, .int .i64 er]) ∧ Stt w' w'.heap.size A n c ses ∧ Sto.AddR es ls x (ses.map Sto.Se.val, er) ∧ Below w.heap.size w w'

set_option maxRecDepth 100000 in
set_option maxHeartbeats 16000000 in
theorem add_any (A : Option Addr) (n c : Nat) (ses : List Sto.Se) (B : Option Addr) (m d : Nat) (ls : List Lab.Pr) (x : Int × Int) (w : World) (h : Stt w w.heap.size A n c ses) (g : Prs w w.heap.size B m d ls) :
    Calls Try.prog 11 #[.slice A n c, .slice B m d, .agg #[.int .i64 x.1, .int .i64 x.2]] w (AddP w (ses.map Sto.Se.val) ls x) := by
  have HH := Lib.hid h
  have HG := Lib.hid g
  clear h g
  go_enter Try.func11, Try.ntmps11
  go_wp2_with fail
  have hB1 := (Below.refl w.heap.size w).alloc (Nat.le_refl _) (.cells #[.int .i64 x.1, .int .i64 x.2] 25)
  have hblk := (Mem.Blk.new w 25 #[.int .i64 x.1, .int .i64 x.2])
  have hlt1 : w.heap.size < (w.alloc (.cells #[.int .i64 x.1, .int .i64 x.2] 25)).heap.size := by simp
  have hsz1 : w.heap.size ≤ (w.alloc (.cells #[.int .i64 x.1, .int .i64 x.2] 25)).heap.size := by simp
  obtain ⟨W1, hW1⟩ : ∃ W1, W1 = w.alloc (.cells #[.int .i64 x.1, .int .i64 x.2] 25) := ⟨_, rfl⟩
  rw [← hW1] at hB1 hblk hlt1 hsz1 ⊢
  clear hW1
  have HBLK := Lib.hid hblk
  clear hblk
  have u0 : W1.cell? ⟨w.heap.size, 0, none⟩ = some (.int .i64 x.1) := HBLK.out.cell 0
  have u1 : W1.cell? ⟨w.heap.size, 1, none⟩ = some (.int .i64 x.2) := HBLK.out.cell 1
  refine (stoCounted_is A n c ses W1 (HH.out.later hB1)).mono ?_
  rintro e w2 ⟨A1, n1, c1, ses1, rfl, h1, he1, -, hb2⟩
  have hC2 := hb2
  have hn32 := h1.counted_len he1
  have hcap := h1.cap
  have hlen1 := h1.len
  obtain ⟨cs, hcs⟩ : ∃ cs, Sto.counted (ses.map Sto.Se.val) = cs := ⟨_, rfl⟩
  rw [hcs] at he1
  have H1 := Lib.hid h1
  have HE1 := Lib.hid he1
  have HCS := Lib.hid hcs
  have HM := Lib.hid (show Sto.Mono (ses1.map Sto.Se.val) (Lab.counted ls) from Sto.mono (by rw [he1, ← hcs]; exact Sto.counted_sane _) _)
  clear h1 he1 hcs hb2
  obtain ⟨bn, hbn⟩ : ∃ b, Sto.named ls = b := ⟨_, rfl⟩
  have HBN := Lib.hid hbn
  clear hbn
  go_wp2_with fail
  refine (named_is B m d ls bn HBN.out w2 ((HG.out.later hB1).later hC2)).mono ?_
  rintro e w3 ⟨rfl, hb3⟩
  have hC3 := hC2.trans (hb3.mono hC2.size)
  rcases bn with _ | _
  · go_wp2
    go_ret2
    refine ⟨A1, n1, c1, ses1, 7, rfl, H1.out.later hb3, ?_, hB1.trans (hC3.mono hB1.size)⟩
    unfold Sto.AddR
    rw [HBN.out, if_neg (by decide), HE1.out, HCS.out]
  · have H3 := Lib.hid (H1.out.later hb3)
    go_wp2_with fail
    refine (find_is A1 n1 c1 ses1 B m d ls HM.out hn32 w3 H3.out ((HG.out.later hB1).later hC3)).mono ?_
    rintro e w4 ⟨p, rfl, hcut, hb4⟩
    have hC4 := hC3.trans (hb4.mono hC3.size)
    have H4 := Lib.hid (H3.out.later hb4)
    have HG4 := Lib.hid ((HG.out.later hB1).later hC4)
    have u0 := (hC4.cell (p := ⟨w.heap.size, 0, none⟩) hlt1).trans u0
    have u1 := (hC4.cell (p := ⟨w.heap.size, 1, none⟩) hlt1).trans u1
    rw [HE1.out] at hcut
    have hpl : p ≤ n1 := by have := hcut.le; rw [← HE1.out, List.length_map, hlen1] at this; exact this
    have HCUT := Lib.hid hcut
    have i0 : (0 : Int) ≤ (p : Int) := by omega
    clear hcut hb4 hb3 hC2 hC3
    rw [HE1.out]
    rcases ht : Sto.there cs (Lab.counted ls) p with _ | _
    · have HOLD := Lib.hid (show Sto.oldAt cs (Lab.counted ls) p = [] by unfold Sto.oldAt; rw [ht]; rfl)
      have HT := Lib.hid ht
      clear ht
      go_wp2_with fail
      have hap := SerW.append_any none 0 0 [] x w4 (SerW.Smp.none_ _ _)
      refine hap.mono ?_
      rintro e w5 ⟨A5, n5, c5, rfl, h5, hb5⟩
      clear hap
      obtain ⟨⟨s5, er⟩, hse⟩ : ∃ q, Ser.append [] x = q := ⟨_, rfl⟩
      rw [hse] at h5 ⊢
      have HSE := Lib.hid (show Ser.append (Sto.oldAt cs (Lab.counted ls) p) x = (s5, er) by rw [HOLD.out]; exact hse)
      have hC5 := hC4.trans (hb5.mono hC4.size)
      have H5 := Lib.hid h5
      have HS5 := Lib.hid (H4.out.later hb5)
      have hb45 := hb5
      clear h5 hse hb5 u0 u1
      by_cases her : er = 0
      · subst her
        by_cases hfull : 32 ≤ n1
        · have hd : decide ((32 : Int) ≤ (n1 : Int)) = true := decide_eq_true (by omega)
          go_wp2
          go_ret2
          refine ⟨A1, n1, c1, ses1, 10, rfl, HS5.out, ?_, hB1.trans (hC5.mono hB1.size)⟩
          unfold Sto.AddR
          rw [HBN.out, if_pos rfl, HCS.out]
          refine ⟨p, HCUT.out, ?_⟩
          unfold Sto.addAt
          rw [HSE.out, if_neg (fun h => h rfl), HT.out, if_neg (by decide), if_pos (by rw [← HE1.out, List.length_map, hlen1]; exact hfull), HE1.out]
        · have hd : decide ((32 : Int) ≤ (n1 : Int)) = false := decide_eq_false (by omega)
          go_wp2_with fail
          refine (cloneS_any A1 n1 c1 ses1 w5 HS5.out hn32).mono ?_
          rintro e w6 ⟨v6, rfl, hown6, hb6⟩
          have HO6 := Lib.hid hown6
          have hvne : v6.ownBlock ≠ some w6.heap.size := by
            intro e
            rcases hown6.2 with ⟨rfl, _⟩ | ⟨g6, cap6, cur6, rfl, _, hg6, _⟩
            · cases e
            · injection e with e
              have := (Array.getElem?_eq_some_iff.1 hg6).1
              simp at e
              omega
          have hvb := Mem.Blk.new w6 50 #[.slice B m d, .slice A5 n5 c5]
          have hown7 := hown6.alloc (.cells #[.slice B m d, .slice A5 n5 c5] 50)
          have hbs6 := hb6.size
          clear hown6
          go_wp2_with fail
          refine (insS_any w5.heap.size v6 n1 p (ses1.flatMap seCells) w6.heap.size (.slice B m d) (.slice A5 n5 c5) _ (by simp; omega) hown7 hvb hvne rfl rfl (se_one ses1) hpl (by omega)).mono ?_
          rintro e w8 ⟨v8, rfl, hown8, hb8⟩
          have hB58 : Below w5.heap.size w5 w8 := (hb6.alloc hb6.size _).trans hb8
          obtain ⟨snew, hsn⟩ : ∃ s : Sto.Se, s = ⟨B, m, d, ls, A5, n5, c5, s5⟩ := ⟨_, rfl⟩
          have hcell := Sto.seIns_cells ses1 p snew (by rw [hlen1]; exact hpl)
          rw [hsn] at hcell
          rw [← hcell] at hown8
          have hin8 : ∀ s ∈ Sto.seIns ses1 p ⟨B, m, d, ls, A5, n5, c5, s5⟩, SeIn w8 w8.heap.size s := by
            intro s hs
            unfold Sto.seIns at hs
            simp only [List.mem_append, List.mem_cons, List.not_mem_nil, or_false] at hs
            rcases hs with (hs | rfl) | hs
            · exact (HS5.out.2 s (List.mem_of_mem_take hs)).later hB58
            · exact ⟨(HG4.out.later hb45).later hB58, H5.out.later hB58⟩
            · exact (HS5.out.2 s (List.mem_of_mem_drop hs)).later hB58
          obtain ⟨A8, c8, rfl, h8⟩ := stt_own hown8 (by unfold Sto.seIns; simp only [List.length_append, List.length_take, List.length_drop, List.length_cons, List.length_nil, hlen1]; omega) hin8
          go_wp2
          go_ret2
          refine ⟨A8, n1 + 1, c8, _, 0, rfl, h8, ?_, hB1.trans ((hC5.trans (hB58.mono hC5.size)).mono hB1.size)⟩
          unfold Sto.AddR
          rw [HBN.out, if_pos rfl, HCS.out]
          refine ⟨p, HCUT.out, ?_⟩
          unfold Sto.addAt
          rw [HSE.out, if_neg (fun h => h rfl), HT.out, if_neg (by decide), if_neg (by rw [← HE1.out, List.length_map, hlen1]; exact hfull), Sto.seIns_val, HE1.out]
          rfl
      · go_wp2
        go_ret2
        refine ⟨A1, n1, c1, ses1, er, rfl, HS5.out, ?_, hB1.trans (hC5.mono hB1.size)⟩
        unfold Sto.AddR
        rw [HBN.out, if_pos rfl, HCS.out]
        refine ⟨p, HCUT.out, ?_⟩
        unfold Sto.addAt
        rw [HSE.out, if_pos her, HE1.out]
    · have hpn : p < n1 := by
        rcases Nat.lt_or_ge p n1 with h | h
        · exact h
        · rw [Sto.there_none (by rw [← HE1.out, List.length_map, hlen1]; omega)] at ht; cases ht
      obtain ⟨bb, off, s, hA, hbB, hs, hin, hc0, hc1⟩ := H4.out.at_ hpn
      have hcp : cs[p]? = some s.val := by rw [← HE1.out, List.getElem?_map, hs]; rfl
      have HOLD := Lib.hid (show Sto.oldAt cs (Lab.counted ls) p = s.ss by unfold Sto.oldAt; rw [ht, if_pos rfl, hcp]; rfl)
      have HT := Lib.hid ht
      have HIN := Lib.hid hin
      have HSP := Lib.hid hs
      have HCP := Lib.hid hcp
      have i1 : (p : Int) < (n1 : Int) := by omega
      subst hA
      clear ht hs hin hcp hc0
      go_wp2_with fail
      have hap := SerW.append_any s.SA s.Sn s.Sc s.ss x w4 HIN.out.2
      refine hap.mono ?_
      rintro e w5 ⟨A5, n5, c5, rfl, h5, hb5⟩
      clear hap
      obtain ⟨⟨s5, er⟩, hse⟩ : ∃ q, Ser.append s.ss x = q := ⟨_, rfl⟩
      rw [hse] at h5 ⊢
      have HSE := Lib.hid (show Ser.append (Sto.oldAt cs (Lab.counted ls) p) x = (s5, er) by rw [HOLD.out]; exact hse)
      have hC5 := hC4.trans (hb5.mono hC4.size)
      have H5 := Lib.hid h5
      have HS5 := Lib.hid (H4.out.later hb5)
      have hb45 := hb5
      clear h5 hse hb5 u0 u1 hc1
      by_cases her : er = 0
      · subst her
        go_wp2_with fail
        refine (cloneS_any (some ⟨bb, off, none⟩) n1 c1 ses1 w5 HS5.out hn32).mono ?_
        rintro e w6 ⟨v6, rfl, hown6, hb6⟩
        obtain ⟨g6, cap6, cur6, rfl, hbg6, hg6, hncap6, hm6, hcs6⟩ : ∃ g cap cur, v6 = .slice (some ⟨g, 0, none⟩) n1 cap ∧ w5.heap.size ≤ g ∧ w6.heap[g]? = some (.cells cur 50 (0, 0)) ∧ n1 ≤ cap ∧ cap ≤ 9223372036854775807 ∧ cur.size = cap * 2 := by
          rcases hown6.2 with ⟨_, h0⟩ | ⟨g, cap, cur, h0, h1, h2, h3, h4, h5, _⟩
          · omega
          · exact ⟨g, cap, cur, h0, h1, h2, h3, by unfold maxLen at h4; omega, h5⟩
        have hf6 : w6.frozen? ⟨g6, p * 2 + 1, none⟩ = false := Lib.frozen_of_heap hg6 _
        have hce6 : w6.cell? ⟨g6, p * 2 + 1, none⟩ = some (cur6[p * 2 + 1]'(by omega)) := by rw [Lib.cell_of_heap hg6]; exact Array.getElem?_eq_getElem _
        obtain ⟨uu, huu⟩ : ∃ u, cur6[p * 2 + 1]'(by omega) = u := ⟨_, rfl⟩
        rw [huu] at hce6
        have hown7 := own_set hown6 (i := p * 2 + 1) (by omega) (.slice A5 n5 c5)
        rw [Sto.seSet_cells ses1 p s ⟨s.LA, s.Ln, s.Lc, s.ls, A5, n5, c5, s5⟩ HSP.out ⟨rfl, rfl, rfl⟩] at hown7
        have hB57 : Below w5.heap.size w5 (w6.setCell ⟨g6, p * 2 + 1, none⟩ (.slice A5 n5 c5)) := hb6.setCell hbg6 _
        have hin7 : ∀ t ∈ ses1.set p ⟨s.LA, s.Ln, s.Lc, s.ls, A5, n5, c5, s5⟩, SeIn (w6.setCell ⟨g6, p * 2 + 1, none⟩ (.slice A5 n5 c5)) (w6.setCell ⟨g6, p * 2 + 1, none⟩ (.slice A5 n5 c5)).heap.size t := by
          intro t ht
          rcases List.mem_or_eq_of_mem_set ht with ht | rfl
          · exact (HS5.out.2 t ht).later hB57
          · exact ⟨(HIN.out.1.later hb45).later hB57, H5.out.later hB57⟩
        obtain ⟨A7, c7, hv7, h7⟩ := stt_own hown7 (by rw [List.length_set]; exact hlen1) hin7
        have H7 := Lib.hid h7
        have HV7 := Lib.hid hv7
        clear hown6 hg6 hcs6 huu hown7 hin7 h7 hv7
        go_wp2
        go_ret2
        refine ⟨A7, n1, c7, _, 0, by rw [← HV7.out]; rfl, H7.out, ?_, hB1.trans ((hC5.trans (hB57.mono hC5.size)).mono hB1.size)⟩
        unfold Sto.AddR
        rw [HBN.out, if_pos rfl, HCS.out]
        refine ⟨p, HCUT.out, ?_⟩
        unfold Sto.addAt
        rw [HSE.out, if_neg (fun h => h rfl), HT.out, if_pos rfl, List.map_set, HE1.out]
        unfold Sto.setE
        rw [HCP.out]
        rfl
      · go_wp2
        go_ret2
        refine ⟨some ⟨bb, off, none⟩, n1, c1, ses1, er, rfl, HS5.out, ?_, hB1.trans (hC5.mono hB1.size)⟩
        unfold Sto.AddR
        rw [HBN.out, if_pos rfl, HCS.out]
        refine ⟨p, HCUT.out, ?_⟩
        unfold Sto.addAt
        rw [HSE.out, if_pos her, HE1.out]
end Go.Proofs.Ytidfiiogjfpfmaa
