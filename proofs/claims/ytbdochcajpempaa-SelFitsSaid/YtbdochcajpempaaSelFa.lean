/- The statement SelFits: the walk. -/
import Derived.Test.YtbdochcajpempaaSelFs
namespace Go.Proofs.Ytbdochcajpempaa
open Go.RowKit
set_option linter.unusedSimpArgs false
set_option linter.unusedVariables false

set_option maxRecDepth 100000 in
set_option maxHeartbeats 16000000 in
theorem selFits_any (nm : ByteArray) (hnms : nm.size < 140737488355328) (A : Option Addr) (n c : Nat) (ms : List Lab.Mt) (B : Option Addr) (n2 c2 : Nat) (l : List Lab.Pr) (m : Lab.Mt) (w : World)
    (hM : Mts w w.heap.size A n c ms) (hP : Prs w w.heap.size B n2 c2 l) (hm1 : m.1.size ≤ 9223372036854775807) (hm2 : m.2.1.size ≤ 9223372036854775807) :
    Calls Try.prog 6 #[.agg #[.string nm, .slice A n c], .slice B n2 c2, .agg #[.string m.1, .string m.2.1, .bool m.2.2]] w fun e w' => LawR w e w' := by
  have HM := Lib.hid hM
  have HP := Lib.hid hP
  clear hM hP
  obtain ⟨mn, mv, mb⟩ := m
  simp only at hm1 hm2
  obtain ⟨z, hz⟩ : ∃ z, IntKind.i64.wrap ((mn.size : Int) + (mv.size : Int)) = z := ⟨_, rfl⟩
  go_enter Try.func6, Try.ntmps6
  go_wp2_with fail
  have hB2 : Below w.heap.size w ((w.alloc (.cells #[.string nm, .slice A n c] 24)).alloc (.cells #[.string mn, .string mv, .bool mb] 45)) := ((Below.refl _ w).alloc (Nat.le_refl _) _).alloc (by simp) _
  have b1 := (Mem.Blk.new w 24 #[.string nm, .slice A n c]).alloc (.cells #[.string mn, .string mv, .bool mb] 45)
  have b2 : Mem.Blk ((w.alloc (.cells #[.string nm, .slice A n c] 24)).alloc (.cells #[.string mn, .string mv, .bool mb] 45)) (w.heap.size + 1) 45 #[.string mn, .string mv, .bool mb] := by
    simpa using Mem.Blk.new (w.alloc (.cells #[.string nm, .slice A n c] 24)) 45 #[.string mn, .string mv, .bool mb]
  generalize (w.alloc (.cells #[.string nm, .slice A n c] 24)).alloc (.cells #[.string mn, .string mv, .bool mb] 45) = W1 at hB2 b1 b2 ⊢
  have hlA := b1.lt
  have hlB := b2.lt
  have BA := Lib.hid b1
  have BB := Lib.hid b2
  clear b1 b2
  have HM := Lib.hid ((HM.out.below hB2).more hB2.size)
  have HP := Lib.hid ((HP.out.below hB2).more hB2.size)
  refine (awake_any W1).mono ?_
  rintro e w2 ⟨rfl, hC2⟩
  have u0 := (hC2.cell (p := ⟨w.heap.size, 0, none⟩) hlA).trans (BA.out.cell 0)
  have u1 := (hC2.cell (p := ⟨w.heap.size, 1, none⟩) hlA).trans (BA.out.cell 1)
  have v0 := (hC2.cell (p := ⟨w.heap.size + 1, 0, none⟩) hlB).trans (BB.out.cell 0)
  have v1 := (hC2.cell (p := ⟨w.heap.size + 1, 1, none⟩) hlB).trans (BB.out.cell 1)
  have v2 := (hC2.cell (p := ⟨w.heap.size + 1, 2, none⟩) hlB).trans (BB.out.cell 2)
  rw [show (#[.string nm, .slice A n c] : Array Value)[0]? = some (.string nm) from rfl] at u0
  rw [show (#[.string nm, .slice A n c] : Array Value)[1]? = some (.slice A n c) from rfl] at u1
  rw [show (#[.string mn, .string mv, .bool mb] : Array Value)[0]? = some (.string mn) from rfl] at v0
  rw [show (#[.string mn, .string mv, .bool mb] : Array Value)[1]? = some (.string mv) from rfl] at v1
  rw [show (#[.string mn, .string mv, .bool mb] : Array Value)[2]? = some (.bool mb) from rfl] at v2
  go_wp2_with fail
  refine (fewS_any nm A n c ms w2 (HM.out.later hC2)).mono ?_
  rintro e w3 ⟨few, rfl, hf40, hb3⟩
  have hC3 := hC2.trans (hb3.mono hC2.size)
  have u0 := (hC3.cell (p := ⟨w.heap.size, 0, none⟩) hlA).trans (BA.out.cell 0)
  have u1 := (hC3.cell (p := ⟨w.heap.size, 1, none⟩) hlA).trans (BA.out.cell 1)
  have v0 := (hC3.cell (p := ⟨w.heap.size + 1, 0, none⟩) hlB).trans (BB.out.cell 0)
  have v1 := (hC3.cell (p := ⟨w.heap.size + 1, 1, none⟩) hlB).trans (BB.out.cell 1)
  have v2 := (hC3.cell (p := ⟨w.heap.size + 1, 2, none⟩) hlB).trans (BB.out.cell 2)
  rw [show (#[.string nm, .slice A n c] : Array Value)[0]? = some (.string nm) from rfl] at u0
  rw [show (#[.string nm, .slice A n c] : Array Value)[1]? = some (.slice A n c) from rfl] at u1
  rw [show (#[.string mn, .string mv, .bool mb] : Array Value)[0]? = some (.string mn) from rfl] at v0
  rw [show (#[.string mn, .string mv, .bool mb] : Array Value)[1]? = some (.string mv) from rfl] at v1
  rw [show (#[.string mn, .string mv, .bool mb] : Array Value)[2]? = some (.bool mb) from rfl] at v2
  rcases few with _ | _
  · go_wp2
    go_ret
    exact ⟨rfl, hB2.trans (hC3.mono hB2.size)⟩
  have hf40 := hf40 rfl
  go_wp2_with fail
  refine (fewL_any B n2 c2 l w3 (HP.out.later hC3)).mono ?_
  rintro e w4 ⟨few, rfl, -, hb4⟩
  have hC4 := hC3.trans (hb4.mono hC3.size)
  have u0 := (hC4.cell (p := ⟨w.heap.size, 0, none⟩) hlA).trans (BA.out.cell 0)
  have u1 := (hC4.cell (p := ⟨w.heap.size, 1, none⟩) hlA).trans (BA.out.cell 1)
  have v0 := (hC4.cell (p := ⟨w.heap.size + 1, 0, none⟩) hlB).trans (BB.out.cell 0)
  have v1 := (hC4.cell (p := ⟨w.heap.size + 1, 1, none⟩) hlB).trans (BB.out.cell 1)
  have v2 := (hC4.cell (p := ⟨w.heap.size + 1, 2, none⟩) hlB).trans (BB.out.cell 2)
  rw [show (#[.string nm, .slice A n c] : Array Value)[0]? = some (.string nm) from rfl] at u0
  rw [show (#[.string nm, .slice A n c] : Array Value)[1]? = some (.slice A n c) from rfl] at u1
  rw [show (#[.string mn, .string mv, .bool mb] : Array Value)[0]? = some (.string mn) from rfl] at v0
  rw [show (#[.string mn, .string mv, .bool mb] : Array Value)[1]? = some (.string mv) from rfl] at v1
  rw [show (#[.string mn, .string mv, .bool mb] : Array Value)[2]? = some (.bool mb) from rfl] at v2
  rcases few with _ | _
  · go_wp2
    go_ret
    exact ⟨rfl, hB2.trans (hC4.mono hB2.size)⟩
  rcases hd : decide (1000 < z) with _ | _
  case true =>
    go_wp2
    go_ret
    exact ⟨rfl, hB2.trans (hC4.mono hB2.size)⟩
  obtain ⟨f, hf⟩ : ∃ f, Sel.fits nm ms l = f := ⟨_, rfl⟩
  have HF := Lib.hid hf
  clear hf
  go_wp2_with fail
  refine (fits_is nm (by omega) A n c ms B n2 c2 l _ HF.out w4 (HM.out.later hC4) (HP.out.later hC4)).mono ?_
  rintro e w5 ⟨rfl, hb5⟩
  have hC5 := hC4.trans (hb5.mono hC4.size)
  have u0 := (hC5.cell (p := ⟨w.heap.size, 0, none⟩) hlA).trans (BA.out.cell 0)
  have u1 := (hC5.cell (p := ⟨w.heap.size, 1, none⟩) hlA).trans (BA.out.cell 1)
  have v0 := (hC5.cell (p := ⟨w.heap.size + 1, 0, none⟩) hlB).trans (BB.out.cell 0)
  have v1 := (hC5.cell (p := ⟨w.heap.size + 1, 1, none⟩) hlB).trans (BB.out.cell 1)
  have v2 := (hC5.cell (p := ⟨w.heap.size + 1, 2, none⟩) hlB).trans (BB.out.cell 2)
  rw [show (#[.string nm, .slice A n c] : Array Value)[0]? = some (.string nm) from rfl] at u0
  rw [show (#[.string nm, .slice A n c] : Array Value)[1]? = some (.slice A n c) from rfl] at u1
  rw [show (#[.string mn, .string mv, .bool mb] : Array Value)[0]? = some (.string mn) from rfl] at v0
  rw [show (#[.string mn, .string mv, .bool mb] : Array Value)[1]? = some (.string mv) from rfl] at v1
  rw [show (#[.string mn, .string mv, .bool mb] : Array Value)[2]? = some (.bool mb) from rfl] at v2
  have hcap := Nat.le_trans HM.out.1.2.1 HM.out.1.2.2.1
  have HM5 := Lib.hid (HM.out.later hC5)
  have hlA5 := Nat.lt_of_lt_of_le hlA hC5.size
  have hlB5 := Nat.lt_of_lt_of_le hlB hC5.size
  clear hb3 hb4 hb5 hC2 hC3 hC4
  obtain ⟨i0, hi, hz0, hz1, hz2⟩ := info_parts infoMt
  have HLM := Lib.hid HM.out.len
  have HFS0 := Lib.hid (FSt.start w5 (mn, mv, mb))
  have hsza : ∀ p ∈ ms ++ [(mn, mv, mb)], p.1.size ≤ 9223372036854775807 ∧ p.2.1.size ≤ 9223372036854775807 := by
    intro p hp
    rw [List.mem_append, List.mem_singleton] at hp
    rcases hp with hp | rfl
    · exact HM.out.2 p hp
    · exact ⟨hm1, hm2⟩
  go_upto_region 5 with fail
  go_cut [9] from 38 to 47 (fun s9 wx => ∃ g A2 c9, s9 = .pointer (some ⟨g, 0, none⟩) ∧ w5.heap.size ≤ g ∧ Mem.Blk wx g 24 #[.string nm, .slice A2 (ms.length + 1) c9] ∧ Mts wx wx.heap.size A2 (ms.length + 1) c9 (ms ++ [(mn, mv, mb)]) ∧ Below w5.heap.size w5 wx)
  case first =>
    refine wp_region_held_drew (S := fun W' => Below w5.heap.size w5 W') (by kernel_rfl) (Below.refl _ _).drew (fun hHeld => ?_)
    refine wpAnyH_take (i := 0) (v := ?_) (by simp only [List.getElem?_toArray, List.getElem?_cons_succ, List.getElem?_cons_zero]; exact rfl) (by kernel_rfl) (by kernel_rfl) (by kernel_rfl) (by exact fun _ _ _ h => h) (Or.inl ⟨by rfl, ?_⟩) hHeld ?_
    rotate_left
    · intro wq hSw; go_simp; all_goals (with_reducible rfl)
    try simp only [Act.put, List.setIfInBounds_toArray, List.set_cons_zero, List.set_cons_succ]
    refine wpAnyH_take (i := 1) (v := ?_) (by simp only [List.getElem?_toArray, List.getElem?_cons_succ, List.getElem?_cons_zero]; exact rfl) (by kernel_rfl) (by kernel_rfl) (by kernel_rfl) (by exact fun _ _ _ h => h) (Or.inl ⟨by rfl, ?_⟩) hHeld ?_
    rotate_left
    · intro wq hSw; have u0 := (hSw.cell (p := ⟨w.heap.size, 0, none⟩) hlA5).trans u0; go_simp; all_goals (with_reducible rfl)
    try simp only [Act.put, List.setIfInBounds_toArray, List.set_cons_zero, List.set_cons_succ]
    refine wpAnyH_take (i := 3) (v := ?_) (by simp only [List.getElem?_toArray, List.getElem?_cons_succ, List.getElem?_cons_zero]; exact rfl) (by kernel_rfl) (by kernel_rfl) (by kernel_rfl) (by exact fun _ _ _ h => h) (Or.inl ⟨by rfl, ?_⟩) hHeld ?_
    rotate_left
    · intro wq hSw; go_simp; all_goals (with_reducible rfl)
    try simp only [Act.put, List.setIfInBounds_toArray, List.set_cons_zero, List.set_cons_succ]
    refine wpAnyH_take (i := 4) (v := ?_) (by simp only [List.getElem?_toArray, List.getElem?_cons_succ, List.getElem?_cons_zero]; exact rfl) (by kernel_rfl) (by kernel_rfl) (by kernel_rfl) (by exact fun _ _ _ h => h) (Or.inl ⟨by rfl, ?_⟩) hHeld ?_
    rotate_left
    · intro wq hSw; have u1 := (hSw.cell (p := ⟨w.heap.size, 1, none⟩) hlA5).trans u1; go_simp; all_goals (with_reducible rfl)
    try simp only [Act.put, List.setIfInBounds_toArray, List.set_cons_zero, List.set_cons_succ]
    refine wpAnyH_take (i := 6) (v := ?_) (by simp only [List.getElem?_toArray, List.getElem?_cons_succ, List.getElem?_cons_zero]; exact rfl) (by kernel_rfl) (by kernel_rfl) (by kernel_rfl) (by exact fun _ _ _ h => h) (Or.inl ⟨by rfl, ?_⟩) hHeld ?_
    rotate_left
    · intro wq hSw; have v0 := (hSw.cell (p := ⟨w.heap.size + 1, 0, none⟩) hlB5).trans v0; have v1 := (hSw.cell (p := ⟨w.heap.size + 1, 1, none⟩) hlB5).trans v1; have v2 := (hSw.cell (p := ⟨w.heap.size + 1, 2, none⟩) hlB5).trans v2; go_simp; all_goals (with_reducible rfl)
    try simp only [Act.put, List.setIfInBounds_toArray, List.set_cons_zero, List.set_cons_succ]
    have HFS := Lib.hid HFS0.out.drew
    generalize w5.drew = V0 at HFS hHeld ⊢
    refine wpAnyH_ready (rs := [2, 7, 10]) (by kernel_rfl) (by simp) ?_
    refine AllReadyH.cons (by simp only [List.getElem?_toArray, List.getElem?_cons_succ, List.getElem?_cons_zero]; exact rfl) (fun K hK => ?_) ?_
    · go_simp
      refine hK.out _ _ (HFS.out.bs1).low (fun hHeld => ?_)
      have HFS := Lib.hid HFS.out.bs1
      generalize V0.alloc (.cells #[] 45) = V1 at HFS hHeld ⊢
      clear hK K
      try simp only [Act.put, List.setIfInBounds_toArray, List.set_cons_zero, List.set_cons_succ]
      refine wpAnyH_ready (rs := [5, 7, 10]) (by kernel_rfl) (by simp) ?_
      refine AllReadyH.cons (by simp only [List.getElem?_toArray, List.getElem?_cons_succ, List.getElem?_cons_zero]; exact rfl) (fun K hK => ?_) ?_
      · refine Mem.step_append_any V1 rfl (.tmp 40) (.tmp 42) 22 rfl w5.heap.size 45 i0 _ 3 40 Try.underlying22 hi hz0 hz1 hz2 rfl (by decide) _ 0 [] rfl (HFS.out.own _ _ rfl) w5.heap.size A n c _ rfl (HFS.out.reads HM5.out) (mt_one ms) (by unfold maxLen; omega) (by omega) HFS.out.low.size ?_
        intro v5a V2 hown5a hg5a hat5a
        have HFS := Lib.hid (HFS.out.app (xs' := ms) hg5a (by rw [HLM.out]; simpa using hown5a) hat5a)
        refine hK.out _ _ HFS.out.low (fun hHeld => ?_)
        clear hown5a hg5a hat5a
        clear hK K
        try simp only [Act.put, List.setIfInBounds_toArray, List.set_cons_zero, List.set_cons_succ]
        refine wpAnyH_ready (rs := [7, 10]) (by kernel_rfl) (by simp) ?_
        refine AllReadyH.cons (by simp only [List.getElem?_toArray, List.getElem?_cons_succ, List.getElem?_cons_zero]; exact rfl) (fun K hK => ?_) ?_
        · go_simp
          refine hK.out _ _ (HFS.out.bs2).low (fun hHeld => ?_)
          have HFS := Lib.hid (show FSt w5 (mn, mv, mb) (V2.alloc (.cells #[.string mn, .string mv, .bool mb] 45)) _ _ _ from HFS.out.bs2)
          generalize V2.alloc (.cells #[.string mn, .string mv, .bool mb] 45) = V3 at HFS hHeld ⊢
          clear hK K
          try simp only [Act.put, List.setIfInBounds_toArray, List.set_cons_zero, List.set_cons_succ]
          refine wpAnyH_ready (rs := [8, 10]) (by kernel_rfl) (by simp) ?_
          refine AllReadyH.cons (by simp only [List.getElem?_toArray, List.getElem?_cons_succ, List.getElem?_cons_zero]; exact rfl) (fun K hK => ?_) ?_
          · refine Mem.step_append_any V3 rfl (.tmp 43) (.tmp 45) 22 rfl w5.heap.size 45 i0 _ 3 40 Try.underlying22 hi hz0 hz1 hz2 rfl (by decide) _ _ _ rfl (HFS.out.own _ _ rfl) _ _ 1 1 _ rfl HFS.out.last (mt_one [(mn, mv, mb)]) (by rw [HLM.out]; unfold maxLen; omega) (by rw [HLM.out]; omega) HFS.out.low.size ?_
            intro v8a V4 hown8a hg8a hat8a
            obtain ⟨A8, c8, rfl, hfs8⟩ := HFS.out.app1 hg8a hown8a hat8a
            have HFS := Lib.hid hfs8
            clear hfs8
            refine hK.out _ _ HFS.out.low (fun hHeld => ?_)
            clear hown8a hg8a hat8a
            clear hK K
            try simp only [Act.put, List.setIfInBounds_toArray, List.set_cons_zero, List.set_cons_succ]
            refine wpAnyH_take (i := 9) (v := ?_) (by simp only [List.getElem?_toArray, List.getElem?_cons_succ, List.getElem?_cons_zero]; exact rfl) (by kernel_rfl) (by kernel_rfl) (by kernel_rfl) (by exact fun _ _ _ h => h) (Or.inl ⟨by rfl, ?_⟩) hHeld ?_
            rotate_left
            · intro wq hSw; go_simp; all_goals (with_reducible rfl)
            try simp only [Act.put, List.setIfInBounds_toArray, List.set_cons_zero, List.set_cons_succ]
            refine wpAnyH_ready (rs := [10]) (by kernel_rfl) (by simp) ?_
            refine AllReadyH.cons (by simp only [List.getElem?_toArray, List.getElem?_cons_succ, List.getElem?_cons_zero]; exact rfl) (fun K hK => ?_) ?_
            · go_simp
              refine hK.out _ _ (HFS.out.al).low (fun hHeld => ?_)
              have HFS := Lib.hid HFS.out.al
              generalize V4.alloc (.cells #[.string ⟨#[]⟩, .slice none 0 0] 24) = V5 at HFS hHeld ⊢
              clear hK K
              try simp only [Act.put, List.setIfInBounds_toArray, List.set_cons_zero, List.set_cons_succ]
              refine wpAnyH_ready (rs := [11]) (by kernel_rfl) (by simp) ?_
              refine AllReadyH.cons (by simp only [List.getElem?_toArray, List.getElem?_cons_succ, List.getElem?_cons_zero]; exact rfl) (fun K hK => ?_) ?_
              · obtain ⟨hg2, hblk2, hmts2, hlow2, f0, f1, g0, g1⟩ := HFS.out.fin (nm := nm) (by simp) hsza
                go_simp
                refine hK.out _ _ hlow2 (fun hHeld => ?_)
                clear hK K
                try simp only [Act.put, List.setIfInBounds_toArray, List.set_cons_zero, List.set_cons_succ]
                refine wpAnyH_done (by kernel_rfl) ?_ _
                go_wp2
                go_meet
                exact ⟨_, _, _, rfl, hg2, hblk2, hmts2, hlow2⟩
              · skip
                exact AllReadyH.nil
            · skip
              exact AllReadyH.nil
          · skip
            refine AllReadyH.cons (by simp only [List.getElem?_toArray, List.getElem?_cons_succ, List.getElem?_cons_zero]; exact rfl) (fun K hK => ?_) ?_
            · go_simp
              refine hK.out _ _ (HFS.out.al).low (fun hHeld => ?_)
              have HFS := Lib.hid HFS.out.al
              generalize V3.alloc (.cells #[.string ⟨#[]⟩, .slice none 0 0] 24) = V4 at HFS hHeld ⊢
              clear hK K
              try simp only [Act.put, List.setIfInBounds_toArray, List.set_cons_zero, List.set_cons_succ]
              refine wpAnyH_ready (rs := [8]) (by kernel_rfl) (by simp) ?_
              refine AllReadyH.cons (by simp only [List.getElem?_toArray, List.getElem?_cons_succ, List.getElem?_cons_zero]; exact rfl) (fun K hK => ?_) ?_
              · refine Mem.step_append_any V4 rfl (.tmp 43) (.tmp 45) 22 rfl w5.heap.size 45 i0 _ 3 40 Try.underlying22 hi hz0 hz1 hz2 rfl (by decide) _ _ _ rfl (HFS.out.own _ _ rfl) _ _ 1 1 _ rfl HFS.out.last (mt_one [(mn, mv, mb)]) (by rw [HLM.out]; unfold maxLen; omega) (by rw [HLM.out]; omega) HFS.out.low.size ?_
                intro v8a V5 hown8a hg8a hat8a
                obtain ⟨A8, c8, rfl, hfs8⟩ := HFS.out.app1 hg8a hown8a hat8a
                have HFS := Lib.hid hfs8
                clear hfs8
                refine hK.out _ _ HFS.out.low (fun hHeld => ?_)
                clear hown8a hg8a hat8a
                clear hK K
                try simp only [Act.put, List.setIfInBounds_toArray, List.set_cons_zero, List.set_cons_succ]
                refine wpAnyH_take (i := 9) (v := ?_) (by simp only [List.getElem?_toArray, List.getElem?_cons_succ, List.getElem?_cons_zero]; exact rfl) (by kernel_rfl) (by kernel_rfl) (by kernel_rfl) (by exact fun _ _ _ h => h) (Or.inl ⟨by rfl, ?_⟩) hHeld ?_
                rotate_left
                · intro wq hSw; go_simp; all_goals (with_reducible rfl)
                try simp only [Act.put, List.setIfInBounds_toArray, List.set_cons_zero, List.set_cons_succ]
                refine wpAnyH_ready (rs := [11]) (by kernel_rfl) (by simp) ?_
                refine AllReadyH.cons (by simp only [List.getElem?_toArray, List.getElem?_cons_succ, List.getElem?_cons_zero]; exact rfl) (fun K hK => ?_) ?_
                · obtain ⟨hg2, hblk2, hmts2, hlow2, f0, f1, g0, g1⟩ := HFS.out.fin (nm := nm) (by simp) hsza
                  go_simp
                  refine hK.out _ _ hlow2 (fun hHeld => ?_)
                  clear hK K
                  try simp only [Act.put, List.setIfInBounds_toArray, List.set_cons_zero, List.set_cons_succ]
                  refine wpAnyH_done (by kernel_rfl) ?_ _
                  go_wp2
                  go_meet
                  exact ⟨_, _, _, rfl, hg2, hblk2, hmts2, hlow2⟩
                · skip
                  exact AllReadyH.nil
              · skip
                exact AllReadyH.nil
            · skip
              exact AllReadyH.nil
        · skip
          refine AllReadyH.cons (by simp only [List.getElem?_toArray, List.getElem?_cons_succ, List.getElem?_cons_zero]; exact rfl) (fun K hK => ?_) ?_
          · go_simp
            refine hK.out _ _ (HFS.out.al).low (fun hHeld => ?_)
            have HFS := Lib.hid HFS.out.al
            generalize V2.alloc (.cells #[.string ⟨#[]⟩, .slice none 0 0] 24) = V3 at HFS hHeld ⊢
            clear hK K
            try simp only [Act.put, List.setIfInBounds_toArray, List.set_cons_zero, List.set_cons_succ]
            refine wpAnyH_ready (rs := [7]) (by kernel_rfl) (by simp) ?_
            refine AllReadyH.cons (by simp only [List.getElem?_toArray, List.getElem?_cons_succ, List.getElem?_cons_zero]; exact rfl) (fun K hK => ?_) ?_
            · go_simp
              refine hK.out _ _ (HFS.out.bs2).low (fun hHeld => ?_)
              have HFS := Lib.hid (show FSt w5 (mn, mv, mb) (V3.alloc (.cells #[.string mn, .string mv, .bool mb] 45)) _ _ _ from HFS.out.bs2)
              generalize V3.alloc (.cells #[.string mn, .string mv, .bool mb] 45) = V4 at HFS hHeld ⊢
              clear hK K
              try simp only [Act.put, List.setIfInBounds_toArray, List.set_cons_zero, List.set_cons_succ]
              refine wpAnyH_ready (rs := [8]) (by kernel_rfl) (by simp) ?_
              refine AllReadyH.cons (by simp only [List.getElem?_toArray, List.getElem?_cons_succ, List.getElem?_cons_zero]; exact rfl) (fun K hK => ?_) ?_
              · refine Mem.step_append_any V4 rfl (.tmp 43) (.tmp 45) 22 rfl w5.heap.size 45 i0 _ 3 40 Try.underlying22 hi hz0 hz1 hz2 rfl (by decide) _ _ _ rfl (HFS.out.own _ _ rfl) _ _ 1 1 _ rfl HFS.out.last (mt_one [(mn, mv, mb)]) (by rw [HLM.out]; unfold maxLen; omega) (by rw [HLM.out]; omega) HFS.out.low.size ?_
                intro v8a V5 hown8a hg8a hat8a
                obtain ⟨A8, c8, rfl, hfs8⟩ := HFS.out.app1 hg8a hown8a hat8a
                have HFS := Lib.hid hfs8
                clear hfs8
                refine hK.out _ _ HFS.out.low (fun hHeld => ?_)
                clear hown8a hg8a hat8a
                clear hK K
                try simp only [Act.put, List.setIfInBounds_toArray, List.set_cons_zero, List.set_cons_succ]
                refine wpAnyH_take (i := 9) (v := ?_) (by simp only [List.getElem?_toArray, List.getElem?_cons_succ, List.getElem?_cons_zero]; exact rfl) (by kernel_rfl) (by kernel_rfl) (by kernel_rfl) (by exact fun _ _ _ h => h) (Or.inl ⟨by rfl, ?_⟩) hHeld ?_
                rotate_left
                · intro wq hSw; go_simp; all_goals (with_reducible rfl)
                try simp only [Act.put, List.setIfInBounds_toArray, List.set_cons_zero, List.set_cons_succ]
                refine wpAnyH_ready (rs := [11]) (by kernel_rfl) (by simp) ?_
                refine AllReadyH.cons (by simp only [List.getElem?_toArray, List.getElem?_cons_succ, List.getElem?_cons_zero]; exact rfl) (fun K hK => ?_) ?_
                · obtain ⟨hg2, hblk2, hmts2, hlow2, f0, f1, g0, g1⟩ := HFS.out.fin (nm := nm) (by simp) hsza
                  go_simp
                  refine hK.out _ _ hlow2 (fun hHeld => ?_)
                  clear hK K
                  try simp only [Act.put, List.setIfInBounds_toArray, List.set_cons_zero, List.set_cons_succ]
                  refine wpAnyH_done (by kernel_rfl) ?_ _
                  go_wp2
                  go_meet
                  exact ⟨_, _, _, rfl, hg2, hblk2, hmts2, hlow2⟩
                · skip
                  exact AllReadyH.nil
              · skip
                exact AllReadyH.nil
            · skip
              exact AllReadyH.nil
          · skip
            exact AllReadyH.nil
      · skip
        refine AllReadyH.cons (by simp only [List.getElem?_toArray, List.getElem?_cons_succ, List.getElem?_cons_zero]; exact rfl) (fun K hK => ?_) ?_
        · go_simp
          refine hK.out _ _ (HFS.out.bs2).low (fun hHeld => ?_)
          have HFS := Lib.hid (show FSt w5 (mn, mv, mb) (V1.alloc (.cells #[.string mn, .string mv, .bool mb] 45)) _ _ _ from HFS.out.bs2)
          generalize V1.alloc (.cells #[.string mn, .string mv, .bool mb] 45) = V2 at HFS hHeld ⊢
          clear hK K
          try simp only [Act.put, List.setIfInBounds_toArray, List.set_cons_zero, List.set_cons_succ]
          refine wpAnyH_ready (rs := [5, 10]) (by kernel_rfl) (by simp) ?_
          refine AllReadyH.cons (by simp only [List.getElem?_toArray, List.getElem?_cons_succ, List.getElem?_cons_zero]; exact rfl) (fun K hK => ?_) ?_
          · refine Mem.step_append_any V2 rfl (.tmp 40) (.tmp 42) 22 rfl w5.heap.size 45 i0 _ 3 40 Try.underlying22 hi hz0 hz1 hz2 rfl (by decide) _ 0 [] rfl (HFS.out.own _ _ rfl) w5.heap.size A n c _ rfl (HFS.out.reads HM5.out) (mt_one ms) (by unfold maxLen; omega) (by omega) HFS.out.low.size ?_
            intro v5a V3 hown5a hg5a hat5a
            have HFS := Lib.hid (HFS.out.app (xs' := ms) hg5a (by rw [HLM.out]; simpa using hown5a) hat5a)
            refine hK.out _ _ HFS.out.low (fun hHeld => ?_)
            clear hown5a hg5a hat5a
            clear hK K
            try simp only [Act.put, List.setIfInBounds_toArray, List.set_cons_zero, List.set_cons_succ]
            refine wpAnyH_ready (rs := [8, 10]) (by kernel_rfl) (by simp) ?_
            refine AllReadyH.cons (by simp only [List.getElem?_toArray, List.getElem?_cons_succ, List.getElem?_cons_zero]; exact rfl) (fun K hK => ?_) ?_
            · refine Mem.step_append_any V3 rfl (.tmp 43) (.tmp 45) 22 rfl w5.heap.size 45 i0 _ 3 40 Try.underlying22 hi hz0 hz1 hz2 rfl (by decide) _ _ _ rfl (HFS.out.own _ _ rfl) _ _ 1 1 _ rfl HFS.out.last (mt_one [(mn, mv, mb)]) (by rw [HLM.out]; unfold maxLen; omega) (by rw [HLM.out]; omega) HFS.out.low.size ?_
              intro v8a V4 hown8a hg8a hat8a
              obtain ⟨A8, c8, rfl, hfs8⟩ := HFS.out.app1 hg8a hown8a hat8a
              have HFS := Lib.hid hfs8
              clear hfs8
              refine hK.out _ _ HFS.out.low (fun hHeld => ?_)
              clear hown8a hg8a hat8a
              clear hK K
              try simp only [Act.put, List.setIfInBounds_toArray, List.set_cons_zero, List.set_cons_succ]
              refine wpAnyH_take (i := 9) (v := ?_) (by simp only [List.getElem?_toArray, List.getElem?_cons_succ, List.getElem?_cons_zero]; exact rfl) (by kernel_rfl) (by kernel_rfl) (by kernel_rfl) (by exact fun _ _ _ h => h) (Or.inl ⟨by rfl, ?_⟩) hHeld ?_
              rotate_left
              · intro wq hSw; go_simp; all_goals (with_reducible rfl)
              try simp only [Act.put, List.setIfInBounds_toArray, List.set_cons_zero, List.set_cons_succ]
              refine wpAnyH_ready (rs := [10]) (by kernel_rfl) (by simp) ?_
              refine AllReadyH.cons (by simp only [List.getElem?_toArray, List.getElem?_cons_succ, List.getElem?_cons_zero]; exact rfl) (fun K hK => ?_) ?_
              · go_simp
                refine hK.out _ _ (HFS.out.al).low (fun hHeld => ?_)
                have HFS := Lib.hid HFS.out.al
                generalize V4.alloc (.cells #[.string ⟨#[]⟩, .slice none 0 0] 24) = V5 at HFS hHeld ⊢
                clear hK K
                try simp only [Act.put, List.setIfInBounds_toArray, List.set_cons_zero, List.set_cons_succ]
                refine wpAnyH_ready (rs := [11]) (by kernel_rfl) (by simp) ?_
                refine AllReadyH.cons (by simp only [List.getElem?_toArray, List.getElem?_cons_succ, List.getElem?_cons_zero]; exact rfl) (fun K hK => ?_) ?_
                · obtain ⟨hg2, hblk2, hmts2, hlow2, f0, f1, g0, g1⟩ := HFS.out.fin (nm := nm) (by simp) hsza
                  go_simp
                  refine hK.out _ _ hlow2 (fun hHeld => ?_)
                  clear hK K
                  try simp only [Act.put, List.setIfInBounds_toArray, List.set_cons_zero, List.set_cons_succ]
                  refine wpAnyH_done (by kernel_rfl) ?_ _
                  go_wp2
                  go_meet
                  exact ⟨_, _, _, rfl, hg2, hblk2, hmts2, hlow2⟩
                · skip
                  exact AllReadyH.nil
              · skip
                exact AllReadyH.nil
            · skip
              refine AllReadyH.cons (by simp only [List.getElem?_toArray, List.getElem?_cons_succ, List.getElem?_cons_zero]; exact rfl) (fun K hK => ?_) ?_
              · go_simp
                refine hK.out _ _ (HFS.out.al).low (fun hHeld => ?_)
                have HFS := Lib.hid HFS.out.al
                generalize V3.alloc (.cells #[.string ⟨#[]⟩, .slice none 0 0] 24) = V4 at HFS hHeld ⊢
                clear hK K
                try simp only [Act.put, List.setIfInBounds_toArray, List.set_cons_zero, List.set_cons_succ]
                refine wpAnyH_ready (rs := [8]) (by kernel_rfl) (by simp) ?_
                refine AllReadyH.cons (by simp only [List.getElem?_toArray, List.getElem?_cons_succ, List.getElem?_cons_zero]; exact rfl) (fun K hK => ?_) ?_
                · refine Mem.step_append_any V4 rfl (.tmp 43) (.tmp 45) 22 rfl w5.heap.size 45 i0 _ 3 40 Try.underlying22 hi hz0 hz1 hz2 rfl (by decide) _ _ _ rfl (HFS.out.own _ _ rfl) _ _ 1 1 _ rfl HFS.out.last (mt_one [(mn, mv, mb)]) (by rw [HLM.out]; unfold maxLen; omega) (by rw [HLM.out]; omega) HFS.out.low.size ?_
                  intro v8a V5 hown8a hg8a hat8a
                  obtain ⟨A8, c8, rfl, hfs8⟩ := HFS.out.app1 hg8a hown8a hat8a
                  have HFS := Lib.hid hfs8
                  clear hfs8
                  refine hK.out _ _ HFS.out.low (fun hHeld => ?_)
                  clear hown8a hg8a hat8a
                  clear hK K
                  try simp only [Act.put, List.setIfInBounds_toArray, List.set_cons_zero, List.set_cons_succ]
                  refine wpAnyH_take (i := 9) (v := ?_) (by simp only [List.getElem?_toArray, List.getElem?_cons_succ, List.getElem?_cons_zero]; exact rfl) (by kernel_rfl) (by kernel_rfl) (by kernel_rfl) (by exact fun _ _ _ h => h) (Or.inl ⟨by rfl, ?_⟩) hHeld ?_
                  rotate_left
                  · intro wq hSw; go_simp; all_goals (with_reducible rfl)
                  try simp only [Act.put, List.setIfInBounds_toArray, List.set_cons_zero, List.set_cons_succ]
                  refine wpAnyH_ready (rs := [11]) (by kernel_rfl) (by simp) ?_
                  refine AllReadyH.cons (by simp only [List.getElem?_toArray, List.getElem?_cons_succ, List.getElem?_cons_zero]; exact rfl) (fun K hK => ?_) ?_
                  · obtain ⟨hg2, hblk2, hmts2, hlow2, f0, f1, g0, g1⟩ := HFS.out.fin (nm := nm) (by simp) hsza
                    go_simp
                    refine hK.out _ _ hlow2 (fun hHeld => ?_)
                    clear hK K
                    try simp only [Act.put, List.setIfInBounds_toArray, List.set_cons_zero, List.set_cons_succ]
                    refine wpAnyH_done (by kernel_rfl) ?_ _
                    go_wp2
                    go_meet
                    exact ⟨_, _, _, rfl, hg2, hblk2, hmts2, hlow2⟩
                  · skip
                    exact AllReadyH.nil
                · skip
                  exact AllReadyH.nil
              · skip
                exact AllReadyH.nil
          · skip
            refine AllReadyH.cons (by simp only [List.getElem?_toArray, List.getElem?_cons_succ, List.getElem?_cons_zero]; exact rfl) (fun K hK => ?_) ?_
            · go_simp
              refine hK.out _ _ (HFS.out.al).low (fun hHeld => ?_)
              have HFS := Lib.hid HFS.out.al
              generalize V2.alloc (.cells #[.string ⟨#[]⟩, .slice none 0 0] 24) = V3 at HFS hHeld ⊢
              clear hK K
              try simp only [Act.put, List.setIfInBounds_toArray, List.set_cons_zero, List.set_cons_succ]
              refine wpAnyH_ready (rs := [5]) (by kernel_rfl) (by simp) ?_
              refine AllReadyH.cons (by simp only [List.getElem?_toArray, List.getElem?_cons_succ, List.getElem?_cons_zero]; exact rfl) (fun K hK => ?_) ?_
              · refine Mem.step_append_any V3 rfl (.tmp 40) (.tmp 42) 22 rfl w5.heap.size 45 i0 _ 3 40 Try.underlying22 hi hz0 hz1 hz2 rfl (by decide) _ 0 [] rfl (HFS.out.own _ _ rfl) w5.heap.size A n c _ rfl (HFS.out.reads HM5.out) (mt_one ms) (by unfold maxLen; omega) (by omega) HFS.out.low.size ?_
                intro v5a V4 hown5a hg5a hat5a
                have HFS := Lib.hid (HFS.out.app (xs' := ms) hg5a (by rw [HLM.out]; simpa using hown5a) hat5a)
                refine hK.out _ _ HFS.out.low (fun hHeld => ?_)
                clear hown5a hg5a hat5a
                clear hK K
                try simp only [Act.put, List.setIfInBounds_toArray, List.set_cons_zero, List.set_cons_succ]
                refine wpAnyH_ready (rs := [8]) (by kernel_rfl) (by simp) ?_
                refine AllReadyH.cons (by simp only [List.getElem?_toArray, List.getElem?_cons_succ, List.getElem?_cons_zero]; exact rfl) (fun K hK => ?_) ?_
                · refine Mem.step_append_any V4 rfl (.tmp 43) (.tmp 45) 22 rfl w5.heap.size 45 i0 _ 3 40 Try.underlying22 hi hz0 hz1 hz2 rfl (by decide) _ _ _ rfl (HFS.out.own _ _ rfl) _ _ 1 1 _ rfl HFS.out.last (mt_one [(mn, mv, mb)]) (by rw [HLM.out]; unfold maxLen; omega) (by rw [HLM.out]; omega) HFS.out.low.size ?_
                  intro v8a V5 hown8a hg8a hat8a
                  obtain ⟨A8, c8, rfl, hfs8⟩ := HFS.out.app1 hg8a hown8a hat8a
                  have HFS := Lib.hid hfs8
                  clear hfs8
                  refine hK.out _ _ HFS.out.low (fun hHeld => ?_)
                  clear hown8a hg8a hat8a
                  clear hK K
                  try simp only [Act.put, List.setIfInBounds_toArray, List.set_cons_zero, List.set_cons_succ]
                  refine wpAnyH_take (i := 9) (v := ?_) (by simp only [List.getElem?_toArray, List.getElem?_cons_succ, List.getElem?_cons_zero]; exact rfl) (by kernel_rfl) (by kernel_rfl) (by kernel_rfl) (by exact fun _ _ _ h => h) (Or.inl ⟨by rfl, ?_⟩) hHeld ?_
                  rotate_left
                  · intro wq hSw; go_simp; all_goals (with_reducible rfl)
                  try simp only [Act.put, List.setIfInBounds_toArray, List.set_cons_zero, List.set_cons_succ]
                  refine wpAnyH_ready (rs := [11]) (by kernel_rfl) (by simp) ?_
                  refine AllReadyH.cons (by simp only [List.getElem?_toArray, List.getElem?_cons_succ, List.getElem?_cons_zero]; exact rfl) (fun K hK => ?_) ?_
                  · obtain ⟨hg2, hblk2, hmts2, hlow2, f0, f1, g0, g1⟩ := HFS.out.fin (nm := nm) (by simp) hsza
                    go_simp
                    refine hK.out _ _ hlow2 (fun hHeld => ?_)
                    clear hK K
                    try simp only [Act.put, List.setIfInBounds_toArray, List.set_cons_zero, List.set_cons_succ]
                    refine wpAnyH_done (by kernel_rfl) ?_ _
                    go_wp2
                    go_meet
                    exact ⟨_, _, _, rfl, hg2, hblk2, hmts2, hlow2⟩
                  · skip
                    exact AllReadyH.nil
                · skip
                  exact AllReadyH.nil
              · skip
                exact AllReadyH.nil
            · skip
              exact AllReadyH.nil
        · skip
          refine AllReadyH.cons (by simp only [List.getElem?_toArray, List.getElem?_cons_succ, List.getElem?_cons_zero]; exact rfl) (fun K hK => ?_) ?_
          · go_simp
            refine hK.out _ _ (HFS.out.al).low (fun hHeld => ?_)
            have HFS := Lib.hid HFS.out.al
            generalize V1.alloc (.cells #[.string ⟨#[]⟩, .slice none 0 0] 24) = V2 at HFS hHeld ⊢
            clear hK K
            try simp only [Act.put, List.setIfInBounds_toArray, List.set_cons_zero, List.set_cons_succ]
            refine wpAnyH_ready (rs := [5, 7]) (by kernel_rfl) (by simp) ?_
            refine AllReadyH.cons (by simp only [List.getElem?_toArray, List.getElem?_cons_succ, List.getElem?_cons_zero]; exact rfl) (fun K hK => ?_) ?_
            · refine Mem.step_append_any V2 rfl (.tmp 40) (.tmp 42) 22 rfl w5.heap.size 45 i0 _ 3 40 Try.underlying22 hi hz0 hz1 hz2 rfl (by decide) _ 0 [] rfl (HFS.out.own _ _ rfl) w5.heap.size A n c _ rfl (HFS.out.reads HM5.out) (mt_one ms) (by unfold maxLen; omega) (by omega) HFS.out.low.size ?_
              intro v5a V3 hown5a hg5a hat5a
              have HFS := Lib.hid (HFS.out.app (xs' := ms) hg5a (by rw [HLM.out]; simpa using hown5a) hat5a)
              refine hK.out _ _ HFS.out.low (fun hHeld => ?_)
              clear hown5a hg5a hat5a
              clear hK K
              try simp only [Act.put, List.setIfInBounds_toArray, List.set_cons_zero, List.set_cons_succ]
              refine wpAnyH_ready (rs := [7]) (by kernel_rfl) (by simp) ?_
              refine AllReadyH.cons (by simp only [List.getElem?_toArray, List.getElem?_cons_succ, List.getElem?_cons_zero]; exact rfl) (fun K hK => ?_) ?_
              · go_simp
                refine hK.out _ _ (HFS.out.bs2).low (fun hHeld => ?_)
                have HFS := Lib.hid (show FSt w5 (mn, mv, mb) (V3.alloc (.cells #[.string mn, .string mv, .bool mb] 45)) _ _ _ from HFS.out.bs2)
                generalize V3.alloc (.cells #[.string mn, .string mv, .bool mb] 45) = V4 at HFS hHeld ⊢
                clear hK K
                try simp only [Act.put, List.setIfInBounds_toArray, List.set_cons_zero, List.set_cons_succ]
                refine wpAnyH_ready (rs := [8]) (by kernel_rfl) (by simp) ?_
                refine AllReadyH.cons (by simp only [List.getElem?_toArray, List.getElem?_cons_succ, List.getElem?_cons_zero]; exact rfl) (fun K hK => ?_) ?_
                · refine Mem.step_append_any V4 rfl (.tmp 43) (.tmp 45) 22 rfl w5.heap.size 45 i0 _ 3 40 Try.underlying22 hi hz0 hz1 hz2 rfl (by decide) _ _ _ rfl (HFS.out.own _ _ rfl) _ _ 1 1 _ rfl HFS.out.last (mt_one [(mn, mv, mb)]) (by rw [HLM.out]; unfold maxLen; omega) (by rw [HLM.out]; omega) HFS.out.low.size ?_
                  intro v8a V5 hown8a hg8a hat8a
                  obtain ⟨A8, c8, rfl, hfs8⟩ := HFS.out.app1 hg8a hown8a hat8a
                  have HFS := Lib.hid hfs8
                  clear hfs8
                  refine hK.out _ _ HFS.out.low (fun hHeld => ?_)
                  clear hown8a hg8a hat8a
                  clear hK K
                  try simp only [Act.put, List.setIfInBounds_toArray, List.set_cons_zero, List.set_cons_succ]
                  refine wpAnyH_take (i := 9) (v := ?_) (by simp only [List.getElem?_toArray, List.getElem?_cons_succ, List.getElem?_cons_zero]; exact rfl) (by kernel_rfl) (by kernel_rfl) (by kernel_rfl) (by exact fun _ _ _ h => h) (Or.inl ⟨by rfl, ?_⟩) hHeld ?_
                  rotate_left
                  · intro wq hSw; go_simp; all_goals (with_reducible rfl)
                  try simp only [Act.put, List.setIfInBounds_toArray, List.set_cons_zero, List.set_cons_succ]
                  refine wpAnyH_ready (rs := [11]) (by kernel_rfl) (by simp) ?_
                  refine AllReadyH.cons (by simp only [List.getElem?_toArray, List.getElem?_cons_succ, List.getElem?_cons_zero]; exact rfl) (fun K hK => ?_) ?_
                  · obtain ⟨hg2, hblk2, hmts2, hlow2, f0, f1, g0, g1⟩ := HFS.out.fin (nm := nm) (by simp) hsza
                    go_simp
                    refine hK.out _ _ hlow2 (fun hHeld => ?_)
                    clear hK K
                    try simp only [Act.put, List.setIfInBounds_toArray, List.set_cons_zero, List.set_cons_succ]
                    refine wpAnyH_done (by kernel_rfl) ?_ _
                    go_wp2
                    go_meet
                    exact ⟨_, _, _, rfl, hg2, hblk2, hmts2, hlow2⟩
                  · skip
                    exact AllReadyH.nil
                · skip
                  exact AllReadyH.nil
              · skip
                exact AllReadyH.nil
            · skip
              refine AllReadyH.cons (by simp only [List.getElem?_toArray, List.getElem?_cons_succ, List.getElem?_cons_zero]; exact rfl) (fun K hK => ?_) ?_
              · go_simp
                refine hK.out _ _ (HFS.out.bs2).low (fun hHeld => ?_)
                have HFS := Lib.hid (show FSt w5 (mn, mv, mb) (V2.alloc (.cells #[.string mn, .string mv, .bool mb] 45)) _ _ _ from HFS.out.bs2)
                generalize V2.alloc (.cells #[.string mn, .string mv, .bool mb] 45) = V3 at HFS hHeld ⊢
                clear hK K
                try simp only [Act.put, List.setIfInBounds_toArray, List.set_cons_zero, List.set_cons_succ]
                refine wpAnyH_ready (rs := [5]) (by kernel_rfl) (by simp) ?_
                refine AllReadyH.cons (by simp only [List.getElem?_toArray, List.getElem?_cons_succ, List.getElem?_cons_zero]; exact rfl) (fun K hK => ?_) ?_
                · refine Mem.step_append_any V3 rfl (.tmp 40) (.tmp 42) 22 rfl w5.heap.size 45 i0 _ 3 40 Try.underlying22 hi hz0 hz1 hz2 rfl (by decide) _ 0 [] rfl (HFS.out.own _ _ rfl) w5.heap.size A n c _ rfl (HFS.out.reads HM5.out) (mt_one ms) (by unfold maxLen; omega) (by omega) HFS.out.low.size ?_
                  intro v5a V4 hown5a hg5a hat5a
                  have HFS := Lib.hid (HFS.out.app (xs' := ms) hg5a (by rw [HLM.out]; simpa using hown5a) hat5a)
                  refine hK.out _ _ HFS.out.low (fun hHeld => ?_)
                  clear hown5a hg5a hat5a
                  clear hK K
                  try simp only [Act.put, List.setIfInBounds_toArray, List.set_cons_zero, List.set_cons_succ]
                  refine wpAnyH_ready (rs := [8]) (by kernel_rfl) (by simp) ?_
                  refine AllReadyH.cons (by simp only [List.getElem?_toArray, List.getElem?_cons_succ, List.getElem?_cons_zero]; exact rfl) (fun K hK => ?_) ?_
                  · refine Mem.step_append_any V4 rfl (.tmp 43) (.tmp 45) 22 rfl w5.heap.size 45 i0 _ 3 40 Try.underlying22 hi hz0 hz1 hz2 rfl (by decide) _ _ _ rfl (HFS.out.own _ _ rfl) _ _ 1 1 _ rfl HFS.out.last (mt_one [(mn, mv, mb)]) (by rw [HLM.out]; unfold maxLen; omega) (by rw [HLM.out]; omega) HFS.out.low.size ?_
                    intro v8a V5 hown8a hg8a hat8a
                    obtain ⟨A8, c8, rfl, hfs8⟩ := HFS.out.app1 hg8a hown8a hat8a
                    have HFS := Lib.hid hfs8
                    clear hfs8
                    refine hK.out _ _ HFS.out.low (fun hHeld => ?_)
                    clear hown8a hg8a hat8a
                    clear hK K
                    try simp only [Act.put, List.setIfInBounds_toArray, List.set_cons_zero, List.set_cons_succ]
                    refine wpAnyH_take (i := 9) (v := ?_) (by simp only [List.getElem?_toArray, List.getElem?_cons_succ, List.getElem?_cons_zero]; exact rfl) (by kernel_rfl) (by kernel_rfl) (by kernel_rfl) (by exact fun _ _ _ h => h) (Or.inl ⟨by rfl, ?_⟩) hHeld ?_
                    rotate_left
                    · intro wq hSw; go_simp; all_goals (with_reducible rfl)
                    try simp only [Act.put, List.setIfInBounds_toArray, List.set_cons_zero, List.set_cons_succ]
                    refine wpAnyH_ready (rs := [11]) (by kernel_rfl) (by simp) ?_
                    refine AllReadyH.cons (by simp only [List.getElem?_toArray, List.getElem?_cons_succ, List.getElem?_cons_zero]; exact rfl) (fun K hK => ?_) ?_
                    · obtain ⟨hg2, hblk2, hmts2, hlow2, f0, f1, g0, g1⟩ := HFS.out.fin (nm := nm) (by simp) hsza
                      go_simp
                      refine hK.out _ _ hlow2 (fun hHeld => ?_)
                      clear hK K
                      try simp only [Act.put, List.setIfInBounds_toArray, List.set_cons_zero, List.set_cons_succ]
                      refine wpAnyH_done (by kernel_rfl) ?_ _
                      go_wp2
                      go_meet
                      exact ⟨_, _, _, rfl, hg2, hblk2, hmts2, hlow2⟩
                    · skip
                      exact AllReadyH.nil
                  · skip
                    exact AllReadyH.nil
                · skip
                  exact AllReadyH.nil
              · skip
                exact AllReadyH.nil
          · skip
            exact AllReadyH.nil
    · skip
      refine AllReadyH.cons (by simp only [List.getElem?_toArray, List.getElem?_cons_succ, List.getElem?_cons_zero]; exact rfl) (fun K hK => ?_) ?_
      · go_simp
        refine hK.out _ _ (HFS.out.bs2).low (fun hHeld => ?_)
        have HFS := Lib.hid (show FSt w5 (mn, mv, mb) (V0.alloc (.cells #[.string mn, .string mv, .bool mb] 45)) _ _ _ from HFS.out.bs2)
        generalize V0.alloc (.cells #[.string mn, .string mv, .bool mb] 45) = V1 at HFS hHeld ⊢
        clear hK K
        try simp only [Act.put, List.setIfInBounds_toArray, List.set_cons_zero, List.set_cons_succ]
        refine wpAnyH_ready (rs := [2, 10]) (by kernel_rfl) (by simp) ?_
        refine AllReadyH.cons (by simp only [List.getElem?_toArray, List.getElem?_cons_succ, List.getElem?_cons_zero]; exact rfl) (fun K hK => ?_) ?_
        · go_simp
          refine hK.out _ _ (HFS.out.bs1).low (fun hHeld => ?_)
          have HFS := Lib.hid HFS.out.bs1
          generalize V1.alloc (.cells #[] 45) = V2 at HFS hHeld ⊢
          clear hK K
          try simp only [Act.put, List.setIfInBounds_toArray, List.set_cons_zero, List.set_cons_succ]
          refine wpAnyH_ready (rs := [5, 10]) (by kernel_rfl) (by simp) ?_
          refine AllReadyH.cons (by simp only [List.getElem?_toArray, List.getElem?_cons_succ, List.getElem?_cons_zero]; exact rfl) (fun K hK => ?_) ?_
          · refine Mem.step_append_any V2 rfl (.tmp 40) (.tmp 42) 22 rfl w5.heap.size 45 i0 _ 3 40 Try.underlying22 hi hz0 hz1 hz2 rfl (by decide) _ 0 [] rfl (HFS.out.own _ _ rfl) w5.heap.size A n c _ rfl (HFS.out.reads HM5.out) (mt_one ms) (by unfold maxLen; omega) (by omega) HFS.out.low.size ?_
            intro v5a V3 hown5a hg5a hat5a
            have HFS := Lib.hid (HFS.out.app (xs' := ms) hg5a (by rw [HLM.out]; simpa using hown5a) hat5a)
            refine hK.out _ _ HFS.out.low (fun hHeld => ?_)
            clear hown5a hg5a hat5a
            clear hK K
            try simp only [Act.put, List.setIfInBounds_toArray, List.set_cons_zero, List.set_cons_succ]
            refine wpAnyH_ready (rs := [8, 10]) (by kernel_rfl) (by simp) ?_
            refine AllReadyH.cons (by simp only [List.getElem?_toArray, List.getElem?_cons_succ, List.getElem?_cons_zero]; exact rfl) (fun K hK => ?_) ?_
            · refine Mem.step_append_any V3 rfl (.tmp 43) (.tmp 45) 22 rfl w5.heap.size 45 i0 _ 3 40 Try.underlying22 hi hz0 hz1 hz2 rfl (by decide) _ _ _ rfl (HFS.out.own _ _ rfl) _ _ 1 1 _ rfl HFS.out.last (mt_one [(mn, mv, mb)]) (by rw [HLM.out]; unfold maxLen; omega) (by rw [HLM.out]; omega) HFS.out.low.size ?_
              intro v8a V4 hown8a hg8a hat8a
              obtain ⟨A8, c8, rfl, hfs8⟩ := HFS.out.app1 hg8a hown8a hat8a
              have HFS := Lib.hid hfs8
              clear hfs8
              refine hK.out _ _ HFS.out.low (fun hHeld => ?_)
              clear hown8a hg8a hat8a
              clear hK K
              try simp only [Act.put, List.setIfInBounds_toArray, List.set_cons_zero, List.set_cons_succ]
              refine wpAnyH_take (i := 9) (v := ?_) (by simp only [List.getElem?_toArray, List.getElem?_cons_succ, List.getElem?_cons_zero]; exact rfl) (by kernel_rfl) (by kernel_rfl) (by kernel_rfl) (by exact fun _ _ _ h => h) (Or.inl ⟨by rfl, ?_⟩) hHeld ?_
              rotate_left
              · intro wq hSw; go_simp; all_goals (with_reducible rfl)
              try simp only [Act.put, List.setIfInBounds_toArray, List.set_cons_zero, List.set_cons_succ]
              refine wpAnyH_ready (rs := [10]) (by kernel_rfl) (by simp) ?_
              refine AllReadyH.cons (by simp only [List.getElem?_toArray, List.getElem?_cons_succ, List.getElem?_cons_zero]; exact rfl) (fun K hK => ?_) ?_
              · go_simp
                refine hK.out _ _ (HFS.out.al).low (fun hHeld => ?_)
                have HFS := Lib.hid HFS.out.al
                generalize V4.alloc (.cells #[.string ⟨#[]⟩, .slice none 0 0] 24) = V5 at HFS hHeld ⊢
                clear hK K
                try simp only [Act.put, List.setIfInBounds_toArray, List.set_cons_zero, List.set_cons_succ]
                refine wpAnyH_ready (rs := [11]) (by kernel_rfl) (by simp) ?_
                refine AllReadyH.cons (by simp only [List.getElem?_toArray, List.getElem?_cons_succ, List.getElem?_cons_zero]; exact rfl) (fun K hK => ?_) ?_
                · obtain ⟨hg2, hblk2, hmts2, hlow2, f0, f1, g0, g1⟩ := HFS.out.fin (nm := nm) (by simp) hsza
                  go_simp
                  refine hK.out _ _ hlow2 (fun hHeld => ?_)
                  clear hK K
                  try simp only [Act.put, List.setIfInBounds_toArray, List.set_cons_zero, List.set_cons_succ]
                  refine wpAnyH_done (by kernel_rfl) ?_ _
                  go_wp2
                  go_meet
                  exact ⟨_, _, _, rfl, hg2, hblk2, hmts2, hlow2⟩
                · skip
                  exact AllReadyH.nil
              · skip
                exact AllReadyH.nil
            · skip
              refine AllReadyH.cons (by simp only [List.getElem?_toArray, List.getElem?_cons_succ, List.getElem?_cons_zero]; exact rfl) (fun K hK => ?_) ?_
              · go_simp
                refine hK.out _ _ (HFS.out.al).low (fun hHeld => ?_)
                have HFS := Lib.hid HFS.out.al
                generalize V3.alloc (.cells #[.string ⟨#[]⟩, .slice none 0 0] 24) = V4 at HFS hHeld ⊢
                clear hK K
                try simp only [Act.put, List.setIfInBounds_toArray, List.set_cons_zero, List.set_cons_succ]
                refine wpAnyH_ready (rs := [8]) (by kernel_rfl) (by simp) ?_
                refine AllReadyH.cons (by simp only [List.getElem?_toArray, List.getElem?_cons_succ, List.getElem?_cons_zero]; exact rfl) (fun K hK => ?_) ?_
                · refine Mem.step_append_any V4 rfl (.tmp 43) (.tmp 45) 22 rfl w5.heap.size 45 i0 _ 3 40 Try.underlying22 hi hz0 hz1 hz2 rfl (by decide) _ _ _ rfl (HFS.out.own _ _ rfl) _ _ 1 1 _ rfl HFS.out.last (mt_one [(mn, mv, mb)]) (by rw [HLM.out]; unfold maxLen; omega) (by rw [HLM.out]; omega) HFS.out.low.size ?_
                  intro v8a V5 hown8a hg8a hat8a
                  obtain ⟨A8, c8, rfl, hfs8⟩ := HFS.out.app1 hg8a hown8a hat8a
                  have HFS := Lib.hid hfs8
                  clear hfs8
                  refine hK.out _ _ HFS.out.low (fun hHeld => ?_)
                  clear hown8a hg8a hat8a
                  clear hK K
                  try simp only [Act.put, List.setIfInBounds_toArray, List.set_cons_zero, List.set_cons_succ]
                  refine wpAnyH_take (i := 9) (v := ?_) (by simp only [List.getElem?_toArray, List.getElem?_cons_succ, List.getElem?_cons_zero]; exact rfl) (by kernel_rfl) (by kernel_rfl) (by kernel_rfl) (by exact fun _ _ _ h => h) (Or.inl ⟨by rfl, ?_⟩) hHeld ?_
                  rotate_left
                  · intro wq hSw; go_simp; all_goals (with_reducible rfl)
                  try simp only [Act.put, List.setIfInBounds_toArray, List.set_cons_zero, List.set_cons_succ]
                  refine wpAnyH_ready (rs := [11]) (by kernel_rfl) (by simp) ?_
                  refine AllReadyH.cons (by simp only [List.getElem?_toArray, List.getElem?_cons_succ, List.getElem?_cons_zero]; exact rfl) (fun K hK => ?_) ?_
                  · obtain ⟨hg2, hblk2, hmts2, hlow2, f0, f1, g0, g1⟩ := HFS.out.fin (nm := nm) (by simp) hsza
                    go_simp
                    refine hK.out _ _ hlow2 (fun hHeld => ?_)
                    clear hK K
                    try simp only [Act.put, List.setIfInBounds_toArray, List.set_cons_zero, List.set_cons_succ]
                    refine wpAnyH_done (by kernel_rfl) ?_ _
                    go_wp2
                    go_meet
                    exact ⟨_, _, _, rfl, hg2, hblk2, hmts2, hlow2⟩
                  · skip
                    exact AllReadyH.nil
                · skip
                  exact AllReadyH.nil
              · skip
                exact AllReadyH.nil
          · skip
            refine AllReadyH.cons (by simp only [List.getElem?_toArray, List.getElem?_cons_succ, List.getElem?_cons_zero]; exact rfl) (fun K hK => ?_) ?_
            · go_simp
              refine hK.out _ _ (HFS.out.al).low (fun hHeld => ?_)
              have HFS := Lib.hid HFS.out.al
              generalize V2.alloc (.cells #[.string ⟨#[]⟩, .slice none 0 0] 24) = V3 at HFS hHeld ⊢
              clear hK K
              try simp only [Act.put, List.setIfInBounds_toArray, List.set_cons_zero, List.set_cons_succ]
              refine wpAnyH_ready (rs := [5]) (by kernel_rfl) (by simp) ?_
              refine AllReadyH.cons (by simp only [List.getElem?_toArray, List.getElem?_cons_succ, List.getElem?_cons_zero]; exact rfl) (fun K hK => ?_) ?_
              · refine Mem.step_append_any V3 rfl (.tmp 40) (.tmp 42) 22 rfl w5.heap.size 45 i0 _ 3 40 Try.underlying22 hi hz0 hz1 hz2 rfl (by decide) _ 0 [] rfl (HFS.out.own _ _ rfl) w5.heap.size A n c _ rfl (HFS.out.reads HM5.out) (mt_one ms) (by unfold maxLen; omega) (by omega) HFS.out.low.size ?_
                intro v5a V4 hown5a hg5a hat5a
                have HFS := Lib.hid (HFS.out.app (xs' := ms) hg5a (by rw [HLM.out]; simpa using hown5a) hat5a)
                refine hK.out _ _ HFS.out.low (fun hHeld => ?_)
                clear hown5a hg5a hat5a
                clear hK K
                try simp only [Act.put, List.setIfInBounds_toArray, List.set_cons_zero, List.set_cons_succ]
                refine wpAnyH_ready (rs := [8]) (by kernel_rfl) (by simp) ?_
                refine AllReadyH.cons (by simp only [List.getElem?_toArray, List.getElem?_cons_succ, List.getElem?_cons_zero]; exact rfl) (fun K hK => ?_) ?_
                · refine Mem.step_append_any V4 rfl (.tmp 43) (.tmp 45) 22 rfl w5.heap.size 45 i0 _ 3 40 Try.underlying22 hi hz0 hz1 hz2 rfl (by decide) _ _ _ rfl (HFS.out.own _ _ rfl) _ _ 1 1 _ rfl HFS.out.last (mt_one [(mn, mv, mb)]) (by rw [HLM.out]; unfold maxLen; omega) (by rw [HLM.out]; omega) HFS.out.low.size ?_
                  intro v8a V5 hown8a hg8a hat8a
                  obtain ⟨A8, c8, rfl, hfs8⟩ := HFS.out.app1 hg8a hown8a hat8a
                  have HFS := Lib.hid hfs8
                  clear hfs8
                  refine hK.out _ _ HFS.out.low (fun hHeld => ?_)
                  clear hown8a hg8a hat8a
                  clear hK K
                  try simp only [Act.put, List.setIfInBounds_toArray, List.set_cons_zero, List.set_cons_succ]
                  refine wpAnyH_take (i := 9) (v := ?_) (by simp only [List.getElem?_toArray, List.getElem?_cons_succ, List.getElem?_cons_zero]; exact rfl) (by kernel_rfl) (by kernel_rfl) (by kernel_rfl) (by exact fun _ _ _ h => h) (Or.inl ⟨by rfl, ?_⟩) hHeld ?_
                  rotate_left
                  · intro wq hSw; go_simp; all_goals (with_reducible rfl)
                  try simp only [Act.put, List.setIfInBounds_toArray, List.set_cons_zero, List.set_cons_succ]
                  refine wpAnyH_ready (rs := [11]) (by kernel_rfl) (by simp) ?_
                  refine AllReadyH.cons (by simp only [List.getElem?_toArray, List.getElem?_cons_succ, List.getElem?_cons_zero]; exact rfl) (fun K hK => ?_) ?_
                  · obtain ⟨hg2, hblk2, hmts2, hlow2, f0, f1, g0, g1⟩ := HFS.out.fin (nm := nm) (by simp) hsza
                    go_simp
                    refine hK.out _ _ hlow2 (fun hHeld => ?_)
                    clear hK K
                    try simp only [Act.put, List.setIfInBounds_toArray, List.set_cons_zero, List.set_cons_succ]
                    refine wpAnyH_done (by kernel_rfl) ?_ _
                    go_wp2
                    go_meet
                    exact ⟨_, _, _, rfl, hg2, hblk2, hmts2, hlow2⟩
                  · skip
                    exact AllReadyH.nil
                · skip
                  exact AllReadyH.nil
              · skip
                exact AllReadyH.nil
            · skip
              exact AllReadyH.nil
        · skip
          refine AllReadyH.cons (by simp only [List.getElem?_toArray, List.getElem?_cons_succ, List.getElem?_cons_zero]; exact rfl) (fun K hK => ?_) ?_
          · go_simp
            refine hK.out _ _ (HFS.out.al).low (fun hHeld => ?_)
            have HFS := Lib.hid HFS.out.al
            generalize V1.alloc (.cells #[.string ⟨#[]⟩, .slice none 0 0] 24) = V2 at HFS hHeld ⊢
            clear hK K
            try simp only [Act.put, List.setIfInBounds_toArray, List.set_cons_zero, List.set_cons_succ]
            refine wpAnyH_ready (rs := [2]) (by kernel_rfl) (by simp) ?_
            refine AllReadyH.cons (by simp only [List.getElem?_toArray, List.getElem?_cons_succ, List.getElem?_cons_zero]; exact rfl) (fun K hK => ?_) ?_
            · go_simp
              refine hK.out _ _ (HFS.out.bs1).low (fun hHeld => ?_)
              have HFS := Lib.hid HFS.out.bs1
              generalize V2.alloc (.cells #[] 45) = V3 at HFS hHeld ⊢
              clear hK K
              try simp only [Act.put, List.setIfInBounds_toArray, List.set_cons_zero, List.set_cons_succ]
              refine wpAnyH_ready (rs := [5]) (by kernel_rfl) (by simp) ?_
              refine AllReadyH.cons (by simp only [List.getElem?_toArray, List.getElem?_cons_succ, List.getElem?_cons_zero]; exact rfl) (fun K hK => ?_) ?_
              · refine Mem.step_append_any V3 rfl (.tmp 40) (.tmp 42) 22 rfl w5.heap.size 45 i0 _ 3 40 Try.underlying22 hi hz0 hz1 hz2 rfl (by decide) _ 0 [] rfl (HFS.out.own _ _ rfl) w5.heap.size A n c _ rfl (HFS.out.reads HM5.out) (mt_one ms) (by unfold maxLen; omega) (by omega) HFS.out.low.size ?_
                intro v5a V4 hown5a hg5a hat5a
                have HFS := Lib.hid (HFS.out.app (xs' := ms) hg5a (by rw [HLM.out]; simpa using hown5a) hat5a)
                refine hK.out _ _ HFS.out.low (fun hHeld => ?_)
                clear hown5a hg5a hat5a
                clear hK K
                try simp only [Act.put, List.setIfInBounds_toArray, List.set_cons_zero, List.set_cons_succ]
                refine wpAnyH_ready (rs := [8]) (by kernel_rfl) (by simp) ?_
                refine AllReadyH.cons (by simp only [List.getElem?_toArray, List.getElem?_cons_succ, List.getElem?_cons_zero]; exact rfl) (fun K hK => ?_) ?_
                · refine Mem.step_append_any V4 rfl (.tmp 43) (.tmp 45) 22 rfl w5.heap.size 45 i0 _ 3 40 Try.underlying22 hi hz0 hz1 hz2 rfl (by decide) _ _ _ rfl (HFS.out.own _ _ rfl) _ _ 1 1 _ rfl HFS.out.last (mt_one [(mn, mv, mb)]) (by rw [HLM.out]; unfold maxLen; omega) (by rw [HLM.out]; omega) HFS.out.low.size ?_
                  intro v8a V5 hown8a hg8a hat8a
                  obtain ⟨A8, c8, rfl, hfs8⟩ := HFS.out.app1 hg8a hown8a hat8a
                  have HFS := Lib.hid hfs8
                  clear hfs8
                  refine hK.out _ _ HFS.out.low (fun hHeld => ?_)
                  clear hown8a hg8a hat8a
                  clear hK K
                  try simp only [Act.put, List.setIfInBounds_toArray, List.set_cons_zero, List.set_cons_succ]
                  refine wpAnyH_take (i := 9) (v := ?_) (by simp only [List.getElem?_toArray, List.getElem?_cons_succ, List.getElem?_cons_zero]; exact rfl) (by kernel_rfl) (by kernel_rfl) (by kernel_rfl) (by exact fun _ _ _ h => h) (Or.inl ⟨by rfl, ?_⟩) hHeld ?_
                  rotate_left
                  · intro wq hSw; go_simp; all_goals (with_reducible rfl)
                  try simp only [Act.put, List.setIfInBounds_toArray, List.set_cons_zero, List.set_cons_succ]
                  refine wpAnyH_ready (rs := [11]) (by kernel_rfl) (by simp) ?_
                  refine AllReadyH.cons (by simp only [List.getElem?_toArray, List.getElem?_cons_succ, List.getElem?_cons_zero]; exact rfl) (fun K hK => ?_) ?_
                  · obtain ⟨hg2, hblk2, hmts2, hlow2, f0, f1, g0, g1⟩ := HFS.out.fin (nm := nm) (by simp) hsza
                    go_simp
                    refine hK.out _ _ hlow2 (fun hHeld => ?_)
                    clear hK K
                    try simp only [Act.put, List.setIfInBounds_toArray, List.set_cons_zero, List.set_cons_succ]
                    refine wpAnyH_done (by kernel_rfl) ?_ _
                    go_wp2
                    go_meet
                    exact ⟨_, _, _, rfl, hg2, hblk2, hmts2, hlow2⟩
                  · skip
                    exact AllReadyH.nil
                · skip
                  exact AllReadyH.nil
              · skip
                exact AllReadyH.nil
            · skip
              exact AllReadyH.nil
          · skip
            exact AllReadyH.nil
      · skip
        refine AllReadyH.cons (by simp only [List.getElem?_toArray, List.getElem?_cons_succ, List.getElem?_cons_zero]; exact rfl) (fun K hK => ?_) ?_
        · go_simp
          refine hK.out _ _ (HFS.out.al).low (fun hHeld => ?_)
          have HFS := Lib.hid HFS.out.al
          generalize V0.alloc (.cells #[.string ⟨#[]⟩, .slice none 0 0] 24) = V1 at HFS hHeld ⊢
          clear hK K
          try simp only [Act.put, List.setIfInBounds_toArray, List.set_cons_zero, List.set_cons_succ]
          refine wpAnyH_ready (rs := [2, 7]) (by kernel_rfl) (by simp) ?_
          refine AllReadyH.cons (by simp only [List.getElem?_toArray, List.getElem?_cons_succ, List.getElem?_cons_zero]; exact rfl) (fun K hK => ?_) ?_
          · go_simp
            refine hK.out _ _ (HFS.out.bs1).low (fun hHeld => ?_)
            have HFS := Lib.hid HFS.out.bs1
            generalize V1.alloc (.cells #[] 45) = V2 at HFS hHeld ⊢
            clear hK K
            try simp only [Act.put, List.setIfInBounds_toArray, List.set_cons_zero, List.set_cons_succ]
            refine wpAnyH_ready (rs := [5, 7]) (by kernel_rfl) (by simp) ?_
            refine AllReadyH.cons (by simp only [List.getElem?_toArray, List.getElem?_cons_succ, List.getElem?_cons_zero]; exact rfl) (fun K hK => ?_) ?_
            · refine Mem.step_append_any V2 rfl (.tmp 40) (.tmp 42) 22 rfl w5.heap.size 45 i0 _ 3 40 Try.underlying22 hi hz0 hz1 hz2 rfl (by decide) _ 0 [] rfl (HFS.out.own _ _ rfl) w5.heap.size A n c _ rfl (HFS.out.reads HM5.out) (mt_one ms) (by unfold maxLen; omega) (by omega) HFS.out.low.size ?_
              intro v5a V3 hown5a hg5a hat5a
              have HFS := Lib.hid (HFS.out.app (xs' := ms) hg5a (by rw [HLM.out]; simpa using hown5a) hat5a)
              refine hK.out _ _ HFS.out.low (fun hHeld => ?_)
              clear hown5a hg5a hat5a
              clear hK K
              try simp only [Act.put, List.setIfInBounds_toArray, List.set_cons_zero, List.set_cons_succ]
              refine wpAnyH_ready (rs := [7]) (by kernel_rfl) (by simp) ?_
              refine AllReadyH.cons (by simp only [List.getElem?_toArray, List.getElem?_cons_succ, List.getElem?_cons_zero]; exact rfl) (fun K hK => ?_) ?_
              · go_simp
                refine hK.out _ _ (HFS.out.bs2).low (fun hHeld => ?_)
                have HFS := Lib.hid (show FSt w5 (mn, mv, mb) (V3.alloc (.cells #[.string mn, .string mv, .bool mb] 45)) _ _ _ from HFS.out.bs2)
                generalize V3.alloc (.cells #[.string mn, .string mv, .bool mb] 45) = V4 at HFS hHeld ⊢
                clear hK K
                try simp only [Act.put, List.setIfInBounds_toArray, List.set_cons_zero, List.set_cons_succ]
                refine wpAnyH_ready (rs := [8]) (by kernel_rfl) (by simp) ?_
                refine AllReadyH.cons (by simp only [List.getElem?_toArray, List.getElem?_cons_succ, List.getElem?_cons_zero]; exact rfl) (fun K hK => ?_) ?_
                · refine Mem.step_append_any V4 rfl (.tmp 43) (.tmp 45) 22 rfl w5.heap.size 45 i0 _ 3 40 Try.underlying22 hi hz0 hz1 hz2 rfl (by decide) _ _ _ rfl (HFS.out.own _ _ rfl) _ _ 1 1 _ rfl HFS.out.last (mt_one [(mn, mv, mb)]) (by rw [HLM.out]; unfold maxLen; omega) (by rw [HLM.out]; omega) HFS.out.low.size ?_
                  intro v8a V5 hown8a hg8a hat8a
                  obtain ⟨A8, c8, rfl, hfs8⟩ := HFS.out.app1 hg8a hown8a hat8a
                  have HFS := Lib.hid hfs8
                  clear hfs8
                  refine hK.out _ _ HFS.out.low (fun hHeld => ?_)
                  clear hown8a hg8a hat8a
                  clear hK K
                  try simp only [Act.put, List.setIfInBounds_toArray, List.set_cons_zero, List.set_cons_succ]
                  refine wpAnyH_take (i := 9) (v := ?_) (by simp only [List.getElem?_toArray, List.getElem?_cons_succ, List.getElem?_cons_zero]; exact rfl) (by kernel_rfl) (by kernel_rfl) (by kernel_rfl) (by exact fun _ _ _ h => h) (Or.inl ⟨by rfl, ?_⟩) hHeld ?_
                  rotate_left
                  · intro wq hSw; go_simp; all_goals (with_reducible rfl)
                  try simp only [Act.put, List.setIfInBounds_toArray, List.set_cons_zero, List.set_cons_succ]
                  refine wpAnyH_ready (rs := [11]) (by kernel_rfl) (by simp) ?_
                  refine AllReadyH.cons (by simp only [List.getElem?_toArray, List.getElem?_cons_succ, List.getElem?_cons_zero]; exact rfl) (fun K hK => ?_) ?_
                  · obtain ⟨hg2, hblk2, hmts2, hlow2, f0, f1, g0, g1⟩ := HFS.out.fin (nm := nm) (by simp) hsza
                    go_simp
                    refine hK.out _ _ hlow2 (fun hHeld => ?_)
                    clear hK K
                    try simp only [Act.put, List.setIfInBounds_toArray, List.set_cons_zero, List.set_cons_succ]
                    refine wpAnyH_done (by kernel_rfl) ?_ _
                    go_wp2
                    go_meet
                    exact ⟨_, _, _, rfl, hg2, hblk2, hmts2, hlow2⟩
                  · skip
                    exact AllReadyH.nil
                · skip
                  exact AllReadyH.nil
              · skip
                exact AllReadyH.nil
            · skip
              refine AllReadyH.cons (by simp only [List.getElem?_toArray, List.getElem?_cons_succ, List.getElem?_cons_zero]; exact rfl) (fun K hK => ?_) ?_
              · go_simp
                refine hK.out _ _ (HFS.out.bs2).low (fun hHeld => ?_)
                have HFS := Lib.hid (show FSt w5 (mn, mv, mb) (V2.alloc (.cells #[.string mn, .string mv, .bool mb] 45)) _ _ _ from HFS.out.bs2)
                generalize V2.alloc (.cells #[.string mn, .string mv, .bool mb] 45) = V3 at HFS hHeld ⊢
                clear hK K
                try simp only [Act.put, List.setIfInBounds_toArray, List.set_cons_zero, List.set_cons_succ]
                refine wpAnyH_ready (rs := [5]) (by kernel_rfl) (by simp) ?_
                refine AllReadyH.cons (by simp only [List.getElem?_toArray, List.getElem?_cons_succ, List.getElem?_cons_zero]; exact rfl) (fun K hK => ?_) ?_
                · refine Mem.step_append_any V3 rfl (.tmp 40) (.tmp 42) 22 rfl w5.heap.size 45 i0 _ 3 40 Try.underlying22 hi hz0 hz1 hz2 rfl (by decide) _ 0 [] rfl (HFS.out.own _ _ rfl) w5.heap.size A n c _ rfl (HFS.out.reads HM5.out) (mt_one ms) (by unfold maxLen; omega) (by omega) HFS.out.low.size ?_
                  intro v5a V4 hown5a hg5a hat5a
                  have HFS := Lib.hid (HFS.out.app (xs' := ms) hg5a (by rw [HLM.out]; simpa using hown5a) hat5a)
                  refine hK.out _ _ HFS.out.low (fun hHeld => ?_)
                  clear hown5a hg5a hat5a
                  clear hK K
                  try simp only [Act.put, List.setIfInBounds_toArray, List.set_cons_zero, List.set_cons_succ]
                  refine wpAnyH_ready (rs := [8]) (by kernel_rfl) (by simp) ?_
                  refine AllReadyH.cons (by simp only [List.getElem?_toArray, List.getElem?_cons_succ, List.getElem?_cons_zero]; exact rfl) (fun K hK => ?_) ?_
                  · refine Mem.step_append_any V4 rfl (.tmp 43) (.tmp 45) 22 rfl w5.heap.size 45 i0 _ 3 40 Try.underlying22 hi hz0 hz1 hz2 rfl (by decide) _ _ _ rfl (HFS.out.own _ _ rfl) _ _ 1 1 _ rfl HFS.out.last (mt_one [(mn, mv, mb)]) (by rw [HLM.out]; unfold maxLen; omega) (by rw [HLM.out]; omega) HFS.out.low.size ?_
                    intro v8a V5 hown8a hg8a hat8a
                    obtain ⟨A8, c8, rfl, hfs8⟩ := HFS.out.app1 hg8a hown8a hat8a
                    have HFS := Lib.hid hfs8
                    clear hfs8
                    refine hK.out _ _ HFS.out.low (fun hHeld => ?_)
                    clear hown8a hg8a hat8a
                    clear hK K
                    try simp only [Act.put, List.setIfInBounds_toArray, List.set_cons_zero, List.set_cons_succ]
                    refine wpAnyH_take (i := 9) (v := ?_) (by simp only [List.getElem?_toArray, List.getElem?_cons_succ, List.getElem?_cons_zero]; exact rfl) (by kernel_rfl) (by kernel_rfl) (by kernel_rfl) (by exact fun _ _ _ h => h) (Or.inl ⟨by rfl, ?_⟩) hHeld ?_
                    rotate_left
                    · intro wq hSw; go_simp; all_goals (with_reducible rfl)
                    try simp only [Act.put, List.setIfInBounds_toArray, List.set_cons_zero, List.set_cons_succ]
                    refine wpAnyH_ready (rs := [11]) (by kernel_rfl) (by simp) ?_
                    refine AllReadyH.cons (by simp only [List.getElem?_toArray, List.getElem?_cons_succ, List.getElem?_cons_zero]; exact rfl) (fun K hK => ?_) ?_
                    · obtain ⟨hg2, hblk2, hmts2, hlow2, f0, f1, g0, g1⟩ := HFS.out.fin (nm := nm) (by simp) hsza
                      go_simp
                      refine hK.out _ _ hlow2 (fun hHeld => ?_)
                      clear hK K
                      try simp only [Act.put, List.setIfInBounds_toArray, List.set_cons_zero, List.set_cons_succ]
                      refine wpAnyH_done (by kernel_rfl) ?_ _
                      go_wp2
                      go_meet
                      exact ⟨_, _, _, rfl, hg2, hblk2, hmts2, hlow2⟩
                    · skip
                      exact AllReadyH.nil
                  · skip
                    exact AllReadyH.nil
                · skip
                  exact AllReadyH.nil
              · skip
                exact AllReadyH.nil
          · skip
            refine AllReadyH.cons (by simp only [List.getElem?_toArray, List.getElem?_cons_succ, List.getElem?_cons_zero]; exact rfl) (fun K hK => ?_) ?_
            · go_simp
              refine hK.out _ _ (HFS.out.bs2).low (fun hHeld => ?_)
              have HFS := Lib.hid (show FSt w5 (mn, mv, mb) (V1.alloc (.cells #[.string mn, .string mv, .bool mb] 45)) _ _ _ from HFS.out.bs2)
              generalize V1.alloc (.cells #[.string mn, .string mv, .bool mb] 45) = V2 at HFS hHeld ⊢
              clear hK K
              try simp only [Act.put, List.setIfInBounds_toArray, List.set_cons_zero, List.set_cons_succ]
              refine wpAnyH_ready (rs := [2]) (by kernel_rfl) (by simp) ?_
              refine AllReadyH.cons (by simp only [List.getElem?_toArray, List.getElem?_cons_succ, List.getElem?_cons_zero]; exact rfl) (fun K hK => ?_) ?_
              · go_simp
                refine hK.out _ _ (HFS.out.bs1).low (fun hHeld => ?_)
                have HFS := Lib.hid HFS.out.bs1
                generalize V2.alloc (.cells #[] 45) = V3 at HFS hHeld ⊢
                clear hK K
                try simp only [Act.put, List.setIfInBounds_toArray, List.set_cons_zero, List.set_cons_succ]
                refine wpAnyH_ready (rs := [5]) (by kernel_rfl) (by simp) ?_
                refine AllReadyH.cons (by simp only [List.getElem?_toArray, List.getElem?_cons_succ, List.getElem?_cons_zero]; exact rfl) (fun K hK => ?_) ?_
                · refine Mem.step_append_any V3 rfl (.tmp 40) (.tmp 42) 22 rfl w5.heap.size 45 i0 _ 3 40 Try.underlying22 hi hz0 hz1 hz2 rfl (by decide) _ 0 [] rfl (HFS.out.own _ _ rfl) w5.heap.size A n c _ rfl (HFS.out.reads HM5.out) (mt_one ms) (by unfold maxLen; omega) (by omega) HFS.out.low.size ?_
                  intro v5a V4 hown5a hg5a hat5a
                  have HFS := Lib.hid (HFS.out.app (xs' := ms) hg5a (by rw [HLM.out]; simpa using hown5a) hat5a)
                  refine hK.out _ _ HFS.out.low (fun hHeld => ?_)
                  clear hown5a hg5a hat5a
                  clear hK K
                  try simp only [Act.put, List.setIfInBounds_toArray, List.set_cons_zero, List.set_cons_succ]
                  refine wpAnyH_ready (rs := [8]) (by kernel_rfl) (by simp) ?_
                  refine AllReadyH.cons (by simp only [List.getElem?_toArray, List.getElem?_cons_succ, List.getElem?_cons_zero]; exact rfl) (fun K hK => ?_) ?_
                  · refine Mem.step_append_any V4 rfl (.tmp 43) (.tmp 45) 22 rfl w5.heap.size 45 i0 _ 3 40 Try.underlying22 hi hz0 hz1 hz2 rfl (by decide) _ _ _ rfl (HFS.out.own _ _ rfl) _ _ 1 1 _ rfl HFS.out.last (mt_one [(mn, mv, mb)]) (by rw [HLM.out]; unfold maxLen; omega) (by rw [HLM.out]; omega) HFS.out.low.size ?_
                    intro v8a V5 hown8a hg8a hat8a
                    obtain ⟨A8, c8, rfl, hfs8⟩ := HFS.out.app1 hg8a hown8a hat8a
                    have HFS := Lib.hid hfs8
                    clear hfs8
                    refine hK.out _ _ HFS.out.low (fun hHeld => ?_)
                    clear hown8a hg8a hat8a
                    clear hK K
                    try simp only [Act.put, List.setIfInBounds_toArray, List.set_cons_zero, List.set_cons_succ]
                    refine wpAnyH_take (i := 9) (v := ?_) (by simp only [List.getElem?_toArray, List.getElem?_cons_succ, List.getElem?_cons_zero]; exact rfl) (by kernel_rfl) (by kernel_rfl) (by kernel_rfl) (by exact fun _ _ _ h => h) (Or.inl ⟨by rfl, ?_⟩) hHeld ?_
                    rotate_left
                    · intro wq hSw; go_simp; all_goals (with_reducible rfl)
                    try simp only [Act.put, List.setIfInBounds_toArray, List.set_cons_zero, List.set_cons_succ]
                    refine wpAnyH_ready (rs := [11]) (by kernel_rfl) (by simp) ?_
                    refine AllReadyH.cons (by simp only [List.getElem?_toArray, List.getElem?_cons_succ, List.getElem?_cons_zero]; exact rfl) (fun K hK => ?_) ?_
                    · obtain ⟨hg2, hblk2, hmts2, hlow2, f0, f1, g0, g1⟩ := HFS.out.fin (nm := nm) (by simp) hsza
                      go_simp
                      refine hK.out _ _ hlow2 (fun hHeld => ?_)
                      clear hK K
                      try simp only [Act.put, List.setIfInBounds_toArray, List.set_cons_zero, List.set_cons_succ]
                      refine wpAnyH_done (by kernel_rfl) ?_ _
                      go_wp2
                      go_meet
                      exact ⟨_, _, _, rfl, hg2, hblk2, hmts2, hlow2⟩
                    · skip
                      exact AllReadyH.nil
                  · skip
                    exact AllReadyH.nil
                · skip
                  exact AllReadyH.nil
              · skip
                exact AllReadyH.nil
            · skip
              exact AllReadyH.nil
        · skip
          exact AllReadyH.nil
  case rest =>
    obtain ⟨g9, A9, c9, rfl, hg9, hbl9, hM9, hb9⟩ := hcut
    have hB5 := hB2.trans (hC5.mono hB2.size)
    have u0 := (hb9.cell (p := ⟨w.heap.size, 0, none⟩) hlA5).trans u0
    have u1 := (hb9.cell (p := ⟨w.heap.size, 1, none⟩) hlA5).trans u1
    have v0 := (hb9.cell (p := ⟨w.heap.size + 1, 0, none⟩) hlB5).trans v0
    have v1 := (hb9.cell (p := ⟨w.heap.size + 1, 1, none⟩) hlB5).trans v1
    have v2 := (hb9.cell (p := ⟨w.heap.size + 1, 2, none⟩) hlB5).trans v2
    have hlA9 := Nat.lt_of_lt_of_le hlA5 hb9.size
    have hlB9 := Nat.lt_of_lt_of_le hlB5 hb9.size
    have hl9 := hbl9.lt
    have V2 : ∀ o, (wc.alloc o).cell? ⟨w.heap.size + 1, 2, none⟩ = some (.bool mb) := fun o => (World.cell?_alloc_lt wc o _ hlB9).trans v2
    go_upto_region 8 with fail
    have ha10 := (Below.refl wc.heap.size wc).alloc (Nat.le_refl _) (.cells #[.string mn, .string mv, .bool !mb] 45)
    have hbn := Mem.Blk.new wc 45 #[.string mn, .string mv, .bool !mb]
    have hln : wc.heap.size < (wc.alloc (.cells #[.string mn, .string mv, .bool !mb] 45)).heap.size := by simp
    generalize wc.alloc (.cells #[.string mn, .string mv, .bool !mb] 45) = w10 at ha10 hbn hln ⊢
    have u0 := (ha10.cell (p := ⟨w.heap.size, 0, none⟩) hlA9).trans u0
    have u1 := (ha10.cell (p := ⟨w.heap.size, 1, none⟩) hlA9).trans u1
    have y0 := hbn.cell 0
    have y1 := hbn.cell 1
    have y2 := hbn.cell 2
    rw [show (#[.string mn, .string mv, .bool !mb] : Array Value)[0]? = some (.string mn) from rfl] at y0
    rw [show (#[.string mn, .string mv, .bool !mb] : Array Value)[1]? = some (.string mv) from rfl] at y1
    rw [show (#[.string mn, .string mv, .bool !mb] : Array Value)[2]? = some (.bool !mb) from rfl] at y2
    have hlA10 := Nat.lt_of_lt_of_le hlA9 ha10.size
    have hb10 := hb9.trans (ha10.mono hb9.size)
    have HM10 := Lib.hid (HM5.out.later hb10)
    have HP10 := Lib.hid ((HP.out.later hC5).later hb10)
    have HBL := Lib.hid (hbl9.below ha10 hl9)
    have HMA := Lib.hid (hM9.later ha10)
    have hB10 := hB5.trans (hb10.mono hB5.size)
    have HFS0 := Lib.hid (FSt.start w10 (mn, mv, !mb))
    have hszb : ∀ p ∈ ms ++ [(mn, mv, !mb)], p.1.size ≤ 9223372036854775807 ∧ p.2.1.size ≤ 9223372036854775807 := by
      intro p hp
      rw [List.mem_append, List.mem_singleton] at hp
      rcases hp with hp | rfl
      · exact HM.out.2 p hp
      · exact ⟨hm1, hm2⟩
    clear V2 v0 v1 v2 hlB9 hbl9 hM9 hbn ha10 hb9 hb10 hsza hl9
    go_cut [11] from 53 to 62 (fun s11 wx => ∃ g A2 c9, s11 = .pointer (some ⟨g, 0, none⟩) ∧ w10.heap.size ≤ g ∧ Mem.Blk wx g 24 #[.string nm, .slice A2 (ms.length + 1) c9] ∧ Mts wx wx.heap.size A2 (ms.length + 1) c9 (ms ++ [(mn, mv, !mb)]) ∧ Below w10.heap.size w10 wx)
    case first =>
      refine wp_region_held_drew (S := fun W' => Below w10.heap.size w10 W') (by kernel_rfl) (Below.refl _ _).drew (fun hHeld => ?_)
      refine wpAnyH_take (i := 0) (v := ?_) (by simp only [List.getElem?_toArray, List.getElem?_cons_succ, List.getElem?_cons_zero]; exact rfl) (by kernel_rfl) (by kernel_rfl) (by kernel_rfl) (by exact fun _ _ _ h => h) (Or.inl ⟨by rfl, ?_⟩) hHeld ?_
      rotate_left
      · intro wq hSw; go_simp; all_goals (with_reducible rfl)
      try simp only [Act.put, List.setIfInBounds_toArray, List.set_cons_zero, List.set_cons_succ]
      refine wpAnyH_take (i := 1) (v := ?_) (by simp only [List.getElem?_toArray, List.getElem?_cons_succ, List.getElem?_cons_zero]; exact rfl) (by kernel_rfl) (by kernel_rfl) (by kernel_rfl) (by exact fun _ _ _ h => h) (Or.inl ⟨by rfl, ?_⟩) hHeld ?_
      rotate_left
      · intro wq hSw; have u0 := (hSw.cell (p := ⟨w.heap.size, 0, none⟩) hlA10).trans u0; go_simp; all_goals (with_reducible rfl)
      try simp only [Act.put, List.setIfInBounds_toArray, List.set_cons_zero, List.set_cons_succ]
      refine wpAnyH_take (i := 3) (v := ?_) (by simp only [List.getElem?_toArray, List.getElem?_cons_succ, List.getElem?_cons_zero]; exact rfl) (by kernel_rfl) (by kernel_rfl) (by kernel_rfl) (by exact fun _ _ _ h => h) (Or.inl ⟨by rfl, ?_⟩) hHeld ?_
      rotate_left
      · intro wq hSw; go_simp; all_goals (with_reducible rfl)
      try simp only [Act.put, List.setIfInBounds_toArray, List.set_cons_zero, List.set_cons_succ]
      refine wpAnyH_take (i := 4) (v := ?_) (by simp only [List.getElem?_toArray, List.getElem?_cons_succ, List.getElem?_cons_zero]; exact rfl) (by kernel_rfl) (by kernel_rfl) (by kernel_rfl) (by exact fun _ _ _ h => h) (Or.inl ⟨by rfl, ?_⟩) hHeld ?_
      rotate_left
      · intro wq hSw; have u1 := (hSw.cell (p := ⟨w.heap.size, 1, none⟩) hlA10).trans u1; go_simp; all_goals (with_reducible rfl)
      try simp only [Act.put, List.setIfInBounds_toArray, List.set_cons_zero, List.set_cons_succ]
      refine wpAnyH_take (i := 6) (v := ?_) (by simp only [List.getElem?_toArray, List.getElem?_cons_succ, List.getElem?_cons_zero]; exact rfl) (by kernel_rfl) (by kernel_rfl) (by kernel_rfl) (by exact fun _ _ _ h => h) (Or.inl ⟨by rfl, ?_⟩) hHeld ?_
      rotate_left
      · intro wq hSw; have v0 := (hSw.cell (p := ⟨wc.heap.size, 0, none⟩) hln).trans y0; have v1 := (hSw.cell (p := ⟨wc.heap.size, 1, none⟩) hln).trans y1; have v2 := (hSw.cell (p := ⟨wc.heap.size, 2, none⟩) hln).trans y2; go_simp; all_goals (with_reducible rfl)
      try simp only [Act.put, List.setIfInBounds_toArray, List.set_cons_zero, List.set_cons_succ]
      have HFS := Lib.hid HFS0.out.drew
      generalize w10.drew = V0 at HFS hHeld ⊢
      refine wpAnyH_ready (rs := [2, 7, 10]) (by kernel_rfl) (by simp) ?_
      refine AllReadyH.cons (by simp only [List.getElem?_toArray, List.getElem?_cons_succ, List.getElem?_cons_zero]; exact rfl) (fun K hK => ?_) ?_
      · go_simp
        refine hK.out _ _ (HFS.out.bs1).low (fun hHeld => ?_)
        have HFS := Lib.hid HFS.out.bs1
        generalize V0.alloc (.cells #[] 45) = V1 at HFS hHeld ⊢
        clear hK K
        try simp only [Act.put, List.setIfInBounds_toArray, List.set_cons_zero, List.set_cons_succ]
        refine wpAnyH_ready (rs := [5, 7, 10]) (by kernel_rfl) (by simp) ?_
        refine AllReadyH.cons (by simp only [List.getElem?_toArray, List.getElem?_cons_succ, List.getElem?_cons_zero]; exact rfl) (fun K hK => ?_) ?_
        · refine Mem.step_append_any V1 rfl (.tmp 55) (.tmp 57) 22 rfl w10.heap.size 45 i0 _ 3 40 Try.underlying22 hi hz0 hz1 hz2 rfl (by decide) _ 0 [] rfl (HFS.out.own _ _ rfl) w10.heap.size A n c _ rfl (HFS.out.reads HM10.out) (mt_one ms) (by unfold maxLen; omega) (by omega) HFS.out.low.size ?_
          intro v5a V2 hown5a hg5a hat5a
          have HFS := Lib.hid (HFS.out.app (xs' := ms) hg5a (by rw [HLM.out]; simpa using hown5a) hat5a)
          refine hK.out _ _ HFS.out.low (fun hHeld => ?_)
          clear hown5a hg5a hat5a
          clear hK K
          try simp only [Act.put, List.setIfInBounds_toArray, List.set_cons_zero, List.set_cons_succ]
          refine wpAnyH_ready (rs := [7, 10]) (by kernel_rfl) (by simp) ?_
          refine AllReadyH.cons (by simp only [List.getElem?_toArray, List.getElem?_cons_succ, List.getElem?_cons_zero]; exact rfl) (fun K hK => ?_) ?_
          · go_simp
            refine hK.out _ _ (HFS.out.bs2).low (fun hHeld => ?_)
            have HFS := Lib.hid (show FSt w10 (mn, mv, !mb) (V2.alloc (.cells #[.string mn, .string mv, .bool !mb] 45)) _ _ _ from HFS.out.bs2)
            generalize V2.alloc (.cells #[.string mn, .string mv, .bool !mb] 45) = V3 at HFS hHeld ⊢
            clear hK K
            try simp only [Act.put, List.setIfInBounds_toArray, List.set_cons_zero, List.set_cons_succ]
            refine wpAnyH_ready (rs := [8, 10]) (by kernel_rfl) (by simp) ?_
            refine AllReadyH.cons (by simp only [List.getElem?_toArray, List.getElem?_cons_succ, List.getElem?_cons_zero]; exact rfl) (fun K hK => ?_) ?_
            · refine Mem.step_append_any V3 rfl (.tmp 58) (.tmp 60) 22 rfl w10.heap.size 45 i0 _ 3 40 Try.underlying22 hi hz0 hz1 hz2 rfl (by decide) _ _ _ rfl (HFS.out.own _ _ rfl) _ _ 1 1 _ rfl HFS.out.last (mt_one [(mn, mv, !mb)]) (by rw [HLM.out]; unfold maxLen; omega) (by rw [HLM.out]; omega) HFS.out.low.size ?_
              intro v8a V4 hown8a hg8a hat8a
              obtain ⟨A8, c8, rfl, hfs8⟩ := HFS.out.app1 hg8a hown8a hat8a
              have HFS := Lib.hid hfs8
              clear hfs8
              refine hK.out _ _ HFS.out.low (fun hHeld => ?_)
              clear hown8a hg8a hat8a
              clear hK K
              try simp only [Act.put, List.setIfInBounds_toArray, List.set_cons_zero, List.set_cons_succ]
              refine wpAnyH_take (i := 9) (v := ?_) (by simp only [List.getElem?_toArray, List.getElem?_cons_succ, List.getElem?_cons_zero]; exact rfl) (by kernel_rfl) (by kernel_rfl) (by kernel_rfl) (by exact fun _ _ _ h => h) (Or.inl ⟨by rfl, ?_⟩) hHeld ?_
              rotate_left
              · intro wq hSw; go_simp; all_goals (with_reducible rfl)
              try simp only [Act.put, List.setIfInBounds_toArray, List.set_cons_zero, List.set_cons_succ]
              refine wpAnyH_ready (rs := [10]) (by kernel_rfl) (by simp) ?_
              refine AllReadyH.cons (by simp only [List.getElem?_toArray, List.getElem?_cons_succ, List.getElem?_cons_zero]; exact rfl) (fun K hK => ?_) ?_
              · go_simp
                refine hK.out _ _ (HFS.out.al).low (fun hHeld => ?_)
                have HFS := Lib.hid HFS.out.al
                generalize V4.alloc (.cells #[.string ⟨#[]⟩, .slice none 0 0] 24) = V5 at HFS hHeld ⊢
                clear hK K
                try simp only [Act.put, List.setIfInBounds_toArray, List.set_cons_zero, List.set_cons_succ]
                refine wpAnyH_ready (rs := [11]) (by kernel_rfl) (by simp) ?_
                refine AllReadyH.cons (by simp only [List.getElem?_toArray, List.getElem?_cons_succ, List.getElem?_cons_zero]; exact rfl) (fun K hK => ?_) ?_
                · obtain ⟨hg2, hblk2, hmts2, hlow2, f0, f1, g0, g1⟩ := HFS.out.fin (nm := nm) (by simp) hszb
                  go_simp
                  refine hK.out _ _ hlow2 (fun hHeld => ?_)
                  clear hK K
                  try simp only [Act.put, List.setIfInBounds_toArray, List.set_cons_zero, List.set_cons_succ]
                  refine wpAnyH_done (by kernel_rfl) ?_ _
                  go_wp2
                  go_meet
                  exact ⟨_, _, _, rfl, hg2, hblk2, hmts2, hlow2⟩
                · skip
                  exact AllReadyH.nil
              · skip
                exact AllReadyH.nil
            · skip
              refine AllReadyH.cons (by simp only [List.getElem?_toArray, List.getElem?_cons_succ, List.getElem?_cons_zero]; exact rfl) (fun K hK => ?_) ?_
              · go_simp
                refine hK.out _ _ (HFS.out.al).low (fun hHeld => ?_)
                have HFS := Lib.hid HFS.out.al
                generalize V3.alloc (.cells #[.string ⟨#[]⟩, .slice none 0 0] 24) = V4 at HFS hHeld ⊢
                clear hK K
                try simp only [Act.put, List.setIfInBounds_toArray, List.set_cons_zero, List.set_cons_succ]
                refine wpAnyH_ready (rs := [8]) (by kernel_rfl) (by simp) ?_
                refine AllReadyH.cons (by simp only [List.getElem?_toArray, List.getElem?_cons_succ, List.getElem?_cons_zero]; exact rfl) (fun K hK => ?_) ?_
                · refine Mem.step_append_any V4 rfl (.tmp 58) (.tmp 60) 22 rfl w10.heap.size 45 i0 _ 3 40 Try.underlying22 hi hz0 hz1 hz2 rfl (by decide) _ _ _ rfl (HFS.out.own _ _ rfl) _ _ 1 1 _ rfl HFS.out.last (mt_one [(mn, mv, !mb)]) (by rw [HLM.out]; unfold maxLen; omega) (by rw [HLM.out]; omega) HFS.out.low.size ?_
                  intro v8a V5 hown8a hg8a hat8a
                  obtain ⟨A8, c8, rfl, hfs8⟩ := HFS.out.app1 hg8a hown8a hat8a
                  have HFS := Lib.hid hfs8
                  clear hfs8
                  refine hK.out _ _ HFS.out.low (fun hHeld => ?_)
                  clear hown8a hg8a hat8a
                  clear hK K
                  try simp only [Act.put, List.setIfInBounds_toArray, List.set_cons_zero, List.set_cons_succ]
                  refine wpAnyH_take (i := 9) (v := ?_) (by simp only [List.getElem?_toArray, List.getElem?_cons_succ, List.getElem?_cons_zero]; exact rfl) (by kernel_rfl) (by kernel_rfl) (by kernel_rfl) (by exact fun _ _ _ h => h) (Or.inl ⟨by rfl, ?_⟩) hHeld ?_
                  rotate_left
                  · intro wq hSw; go_simp; all_goals (with_reducible rfl)
                  try simp only [Act.put, List.setIfInBounds_toArray, List.set_cons_zero, List.set_cons_succ]
                  refine wpAnyH_ready (rs := [11]) (by kernel_rfl) (by simp) ?_
                  refine AllReadyH.cons (by simp only [List.getElem?_toArray, List.getElem?_cons_succ, List.getElem?_cons_zero]; exact rfl) (fun K hK => ?_) ?_
                  · obtain ⟨hg2, hblk2, hmts2, hlow2, f0, f1, g0, g1⟩ := HFS.out.fin (nm := nm) (by simp) hszb
                    go_simp
                    refine hK.out _ _ hlow2 (fun hHeld => ?_)
                    clear hK K
                    try simp only [Act.put, List.setIfInBounds_toArray, List.set_cons_zero, List.set_cons_succ]
                    refine wpAnyH_done (by kernel_rfl) ?_ _
                    go_wp2
                    go_meet
                    exact ⟨_, _, _, rfl, hg2, hblk2, hmts2, hlow2⟩
                  · skip
                    exact AllReadyH.nil
                · skip
                  exact AllReadyH.nil
              · skip
                exact AllReadyH.nil
          · skip
            refine AllReadyH.cons (by simp only [List.getElem?_toArray, List.getElem?_cons_succ, List.getElem?_cons_zero]; exact rfl) (fun K hK => ?_) ?_
            · go_simp
              refine hK.out _ _ (HFS.out.al).low (fun hHeld => ?_)
              have HFS := Lib.hid HFS.out.al
              generalize V2.alloc (.cells #[.string ⟨#[]⟩, .slice none 0 0] 24) = V3 at HFS hHeld ⊢
              clear hK K
              try simp only [Act.put, List.setIfInBounds_toArray, List.set_cons_zero, List.set_cons_succ]
              refine wpAnyH_ready (rs := [7]) (by kernel_rfl) (by simp) ?_
              refine AllReadyH.cons (by simp only [List.getElem?_toArray, List.getElem?_cons_succ, List.getElem?_cons_zero]; exact rfl) (fun K hK => ?_) ?_
              · go_simp
                refine hK.out _ _ (HFS.out.bs2).low (fun hHeld => ?_)
                have HFS := Lib.hid (show FSt w10 (mn, mv, !mb) (V3.alloc (.cells #[.string mn, .string mv, .bool !mb] 45)) _ _ _ from HFS.out.bs2)
                generalize V3.alloc (.cells #[.string mn, .string mv, .bool !mb] 45) = V4 at HFS hHeld ⊢
                clear hK K
                try simp only [Act.put, List.setIfInBounds_toArray, List.set_cons_zero, List.set_cons_succ]
                refine wpAnyH_ready (rs := [8]) (by kernel_rfl) (by simp) ?_
                refine AllReadyH.cons (by simp only [List.getElem?_toArray, List.getElem?_cons_succ, List.getElem?_cons_zero]; exact rfl) (fun K hK => ?_) ?_
                · refine Mem.step_append_any V4 rfl (.tmp 58) (.tmp 60) 22 rfl w10.heap.size 45 i0 _ 3 40 Try.underlying22 hi hz0 hz1 hz2 rfl (by decide) _ _ _ rfl (HFS.out.own _ _ rfl) _ _ 1 1 _ rfl HFS.out.last (mt_one [(mn, mv, !mb)]) (by rw [HLM.out]; unfold maxLen; omega) (by rw [HLM.out]; omega) HFS.out.low.size ?_
                  intro v8a V5 hown8a hg8a hat8a
                  obtain ⟨A8, c8, rfl, hfs8⟩ := HFS.out.app1 hg8a hown8a hat8a
                  have HFS := Lib.hid hfs8
                  clear hfs8
                  refine hK.out _ _ HFS.out.low (fun hHeld => ?_)
                  clear hown8a hg8a hat8a
                  clear hK K
                  try simp only [Act.put, List.setIfInBounds_toArray, List.set_cons_zero, List.set_cons_succ]
                  refine wpAnyH_take (i := 9) (v := ?_) (by simp only [List.getElem?_toArray, List.getElem?_cons_succ, List.getElem?_cons_zero]; exact rfl) (by kernel_rfl) (by kernel_rfl) (by kernel_rfl) (by exact fun _ _ _ h => h) (Or.inl ⟨by rfl, ?_⟩) hHeld ?_
                  rotate_left
                  · intro wq hSw; go_simp; all_goals (with_reducible rfl)
                  try simp only [Act.put, List.setIfInBounds_toArray, List.set_cons_zero, List.set_cons_succ]
                  refine wpAnyH_ready (rs := [11]) (by kernel_rfl) (by simp) ?_
                  refine AllReadyH.cons (by simp only [List.getElem?_toArray, List.getElem?_cons_succ, List.getElem?_cons_zero]; exact rfl) (fun K hK => ?_) ?_
                  · obtain ⟨hg2, hblk2, hmts2, hlow2, f0, f1, g0, g1⟩ := HFS.out.fin (nm := nm) (by simp) hszb
                    go_simp
                    refine hK.out _ _ hlow2 (fun hHeld => ?_)
                    clear hK K
                    try simp only [Act.put, List.setIfInBounds_toArray, List.set_cons_zero, List.set_cons_succ]
                    refine wpAnyH_done (by kernel_rfl) ?_ _
                    go_wp2
                    go_meet
                    exact ⟨_, _, _, rfl, hg2, hblk2, hmts2, hlow2⟩
                  · skip
                    exact AllReadyH.nil
                · skip
                  exact AllReadyH.nil
              · skip
                exact AllReadyH.nil
            · skip
              exact AllReadyH.nil
        · skip
          refine AllReadyH.cons (by simp only [List.getElem?_toArray, List.getElem?_cons_succ, List.getElem?_cons_zero]; exact rfl) (fun K hK => ?_) ?_
          · go_simp
            refine hK.out _ _ (HFS.out.bs2).low (fun hHeld => ?_)
            have HFS := Lib.hid (show FSt w10 (mn, mv, !mb) (V1.alloc (.cells #[.string mn, .string mv, .bool !mb] 45)) _ _ _ from HFS.out.bs2)
            generalize V1.alloc (.cells #[.string mn, .string mv, .bool !mb] 45) = V2 at HFS hHeld ⊢
            clear hK K
            try simp only [Act.put, List.setIfInBounds_toArray, List.set_cons_zero, List.set_cons_succ]
            refine wpAnyH_ready (rs := [5, 10]) (by kernel_rfl) (by simp) ?_
            refine AllReadyH.cons (by simp only [List.getElem?_toArray, List.getElem?_cons_succ, List.getElem?_cons_zero]; exact rfl) (fun K hK => ?_) ?_
            · refine Mem.step_append_any V2 rfl (.tmp 55) (.tmp 57) 22 rfl w10.heap.size 45 i0 _ 3 40 Try.underlying22 hi hz0 hz1 hz2 rfl (by decide) _ 0 [] rfl (HFS.out.own _ _ rfl) w10.heap.size A n c _ rfl (HFS.out.reads HM10.out) (mt_one ms) (by unfold maxLen; omega) (by omega) HFS.out.low.size ?_
              intro v5a V3 hown5a hg5a hat5a
              have HFS := Lib.hid (HFS.out.app (xs' := ms) hg5a (by rw [HLM.out]; simpa using hown5a) hat5a)
              refine hK.out _ _ HFS.out.low (fun hHeld => ?_)
              clear hown5a hg5a hat5a
              clear hK K
              try simp only [Act.put, List.setIfInBounds_toArray, List.set_cons_zero, List.set_cons_succ]
              refine wpAnyH_ready (rs := [8, 10]) (by kernel_rfl) (by simp) ?_
              refine AllReadyH.cons (by simp only [List.getElem?_toArray, List.getElem?_cons_succ, List.getElem?_cons_zero]; exact rfl) (fun K hK => ?_) ?_
              · refine Mem.step_append_any V3 rfl (.tmp 58) (.tmp 60) 22 rfl w10.heap.size 45 i0 _ 3 40 Try.underlying22 hi hz0 hz1 hz2 rfl (by decide) _ _ _ rfl (HFS.out.own _ _ rfl) _ _ 1 1 _ rfl HFS.out.last (mt_one [(mn, mv, !mb)]) (by rw [HLM.out]; unfold maxLen; omega) (by rw [HLM.out]; omega) HFS.out.low.size ?_
                intro v8a V4 hown8a hg8a hat8a
                obtain ⟨A8, c8, rfl, hfs8⟩ := HFS.out.app1 hg8a hown8a hat8a
                have HFS := Lib.hid hfs8
                clear hfs8
                refine hK.out _ _ HFS.out.low (fun hHeld => ?_)
                clear hown8a hg8a hat8a
                clear hK K
                try simp only [Act.put, List.setIfInBounds_toArray, List.set_cons_zero, List.set_cons_succ]
                refine wpAnyH_take (i := 9) (v := ?_) (by simp only [List.getElem?_toArray, List.getElem?_cons_succ, List.getElem?_cons_zero]; exact rfl) (by kernel_rfl) (by kernel_rfl) (by kernel_rfl) (by exact fun _ _ _ h => h) (Or.inl ⟨by rfl, ?_⟩) hHeld ?_
                rotate_left
                · intro wq hSw; go_simp; all_goals (with_reducible rfl)
                try simp only [Act.put, List.setIfInBounds_toArray, List.set_cons_zero, List.set_cons_succ]
                refine wpAnyH_ready (rs := [10]) (by kernel_rfl) (by simp) ?_
                refine AllReadyH.cons (by simp only [List.getElem?_toArray, List.getElem?_cons_succ, List.getElem?_cons_zero]; exact rfl) (fun K hK => ?_) ?_
                · go_simp
                  refine hK.out _ _ (HFS.out.al).low (fun hHeld => ?_)
                  have HFS := Lib.hid HFS.out.al
                  generalize V4.alloc (.cells #[.string ⟨#[]⟩, .slice none 0 0] 24) = V5 at HFS hHeld ⊢
                  clear hK K
                  try simp only [Act.put, List.setIfInBounds_toArray, List.set_cons_zero, List.set_cons_succ]
                  refine wpAnyH_ready (rs := [11]) (by kernel_rfl) (by simp) ?_
                  refine AllReadyH.cons (by simp only [List.getElem?_toArray, List.getElem?_cons_succ, List.getElem?_cons_zero]; exact rfl) (fun K hK => ?_) ?_
                  · obtain ⟨hg2, hblk2, hmts2, hlow2, f0, f1, g0, g1⟩ := HFS.out.fin (nm := nm) (by simp) hszb
                    go_simp
                    refine hK.out _ _ hlow2 (fun hHeld => ?_)
                    clear hK K
                    try simp only [Act.put, List.setIfInBounds_toArray, List.set_cons_zero, List.set_cons_succ]
                    refine wpAnyH_done (by kernel_rfl) ?_ _
                    go_wp2
                    go_meet
                    exact ⟨_, _, _, rfl, hg2, hblk2, hmts2, hlow2⟩
                  · skip
                    exact AllReadyH.nil
                · skip
                  exact AllReadyH.nil
              · skip
                refine AllReadyH.cons (by simp only [List.getElem?_toArray, List.getElem?_cons_succ, List.getElem?_cons_zero]; exact rfl) (fun K hK => ?_) ?_
                · go_simp
                  refine hK.out _ _ (HFS.out.al).low (fun hHeld => ?_)
                  have HFS := Lib.hid HFS.out.al
                  generalize V3.alloc (.cells #[.string ⟨#[]⟩, .slice none 0 0] 24) = V4 at HFS hHeld ⊢
                  clear hK K
                  try simp only [Act.put, List.setIfInBounds_toArray, List.set_cons_zero, List.set_cons_succ]
                  refine wpAnyH_ready (rs := [8]) (by kernel_rfl) (by simp) ?_
                  refine AllReadyH.cons (by simp only [List.getElem?_toArray, List.getElem?_cons_succ, List.getElem?_cons_zero]; exact rfl) (fun K hK => ?_) ?_
                  · refine Mem.step_append_any V4 rfl (.tmp 58) (.tmp 60) 22 rfl w10.heap.size 45 i0 _ 3 40 Try.underlying22 hi hz0 hz1 hz2 rfl (by decide) _ _ _ rfl (HFS.out.own _ _ rfl) _ _ 1 1 _ rfl HFS.out.last (mt_one [(mn, mv, !mb)]) (by rw [HLM.out]; unfold maxLen; omega) (by rw [HLM.out]; omega) HFS.out.low.size ?_
                    intro v8a V5 hown8a hg8a hat8a
                    obtain ⟨A8, c8, rfl, hfs8⟩ := HFS.out.app1 hg8a hown8a hat8a
                    have HFS := Lib.hid hfs8
                    clear hfs8
                    refine hK.out _ _ HFS.out.low (fun hHeld => ?_)
                    clear hown8a hg8a hat8a
                    clear hK K
                    try simp only [Act.put, List.setIfInBounds_toArray, List.set_cons_zero, List.set_cons_succ]
                    refine wpAnyH_take (i := 9) (v := ?_) (by simp only [List.getElem?_toArray, List.getElem?_cons_succ, List.getElem?_cons_zero]; exact rfl) (by kernel_rfl) (by kernel_rfl) (by kernel_rfl) (by exact fun _ _ _ h => h) (Or.inl ⟨by rfl, ?_⟩) hHeld ?_
                    rotate_left
                    · intro wq hSw; go_simp; all_goals (with_reducible rfl)
                    try simp only [Act.put, List.setIfInBounds_toArray, List.set_cons_zero, List.set_cons_succ]
                    refine wpAnyH_ready (rs := [11]) (by kernel_rfl) (by simp) ?_
                    refine AllReadyH.cons (by simp only [List.getElem?_toArray, List.getElem?_cons_succ, List.getElem?_cons_zero]; exact rfl) (fun K hK => ?_) ?_
                    · obtain ⟨hg2, hblk2, hmts2, hlow2, f0, f1, g0, g1⟩ := HFS.out.fin (nm := nm) (by simp) hszb
                      go_simp
                      refine hK.out _ _ hlow2 (fun hHeld => ?_)
                      clear hK K
                      try simp only [Act.put, List.setIfInBounds_toArray, List.set_cons_zero, List.set_cons_succ]
                      refine wpAnyH_done (by kernel_rfl) ?_ _
                      go_wp2
                      go_meet
                      exact ⟨_, _, _, rfl, hg2, hblk2, hmts2, hlow2⟩
                    · skip
                      exact AllReadyH.nil
                  · skip
                    exact AllReadyH.nil
                · skip
                  exact AllReadyH.nil
            · skip
              refine AllReadyH.cons (by simp only [List.getElem?_toArray, List.getElem?_cons_succ, List.getElem?_cons_zero]; exact rfl) (fun K hK => ?_) ?_
              · go_simp
                refine hK.out _ _ (HFS.out.al).low (fun hHeld => ?_)
                have HFS := Lib.hid HFS.out.al
                generalize V2.alloc (.cells #[.string ⟨#[]⟩, .slice none 0 0] 24) = V3 at HFS hHeld ⊢
                clear hK K
                try simp only [Act.put, List.setIfInBounds_toArray, List.set_cons_zero, List.set_cons_succ]
                refine wpAnyH_ready (rs := [5]) (by kernel_rfl) (by simp) ?_
                refine AllReadyH.cons (by simp only [List.getElem?_toArray, List.getElem?_cons_succ, List.getElem?_cons_zero]; exact rfl) (fun K hK => ?_) ?_
                · refine Mem.step_append_any V3 rfl (.tmp 55) (.tmp 57) 22 rfl w10.heap.size 45 i0 _ 3 40 Try.underlying22 hi hz0 hz1 hz2 rfl (by decide) _ 0 [] rfl (HFS.out.own _ _ rfl) w10.heap.size A n c _ rfl (HFS.out.reads HM10.out) (mt_one ms) (by unfold maxLen; omega) (by omega) HFS.out.low.size ?_
                  intro v5a V4 hown5a hg5a hat5a
                  have HFS := Lib.hid (HFS.out.app (xs' := ms) hg5a (by rw [HLM.out]; simpa using hown5a) hat5a)
                  refine hK.out _ _ HFS.out.low (fun hHeld => ?_)
                  clear hown5a hg5a hat5a
                  clear hK K
                  try simp only [Act.put, List.setIfInBounds_toArray, List.set_cons_zero, List.set_cons_succ]
                  refine wpAnyH_ready (rs := [8]) (by kernel_rfl) (by simp) ?_
                  refine AllReadyH.cons (by simp only [List.getElem?_toArray, List.getElem?_cons_succ, List.getElem?_cons_zero]; exact rfl) (fun K hK => ?_) ?_
                  · refine Mem.step_append_any V4 rfl (.tmp 58) (.tmp 60) 22 rfl w10.heap.size 45 i0 _ 3 40 Try.underlying22 hi hz0 hz1 hz2 rfl (by decide) _ _ _ rfl (HFS.out.own _ _ rfl) _ _ 1 1 _ rfl HFS.out.last (mt_one [(mn, mv, !mb)]) (by rw [HLM.out]; unfold maxLen; omega) (by rw [HLM.out]; omega) HFS.out.low.size ?_
                    intro v8a V5 hown8a hg8a hat8a
                    obtain ⟨A8, c8, rfl, hfs8⟩ := HFS.out.app1 hg8a hown8a hat8a
                    have HFS := Lib.hid hfs8
                    clear hfs8
                    refine hK.out _ _ HFS.out.low (fun hHeld => ?_)
                    clear hown8a hg8a hat8a
                    clear hK K
                    try simp only [Act.put, List.setIfInBounds_toArray, List.set_cons_zero, List.set_cons_succ]
                    refine wpAnyH_take (i := 9) (v := ?_) (by simp only [List.getElem?_toArray, List.getElem?_cons_succ, List.getElem?_cons_zero]; exact rfl) (by kernel_rfl) (by kernel_rfl) (by kernel_rfl) (by exact fun _ _ _ h => h) (Or.inl ⟨by rfl, ?_⟩) hHeld ?_
                    rotate_left
                    · intro wq hSw; go_simp; all_goals (with_reducible rfl)
                    try simp only [Act.put, List.setIfInBounds_toArray, List.set_cons_zero, List.set_cons_succ]
                    refine wpAnyH_ready (rs := [11]) (by kernel_rfl) (by simp) ?_
                    refine AllReadyH.cons (by simp only [List.getElem?_toArray, List.getElem?_cons_succ, List.getElem?_cons_zero]; exact rfl) (fun K hK => ?_) ?_
                    · obtain ⟨hg2, hblk2, hmts2, hlow2, f0, f1, g0, g1⟩ := HFS.out.fin (nm := nm) (by simp) hszb
                      go_simp
                      refine hK.out _ _ hlow2 (fun hHeld => ?_)
                      clear hK K
                      try simp only [Act.put, List.setIfInBounds_toArray, List.set_cons_zero, List.set_cons_succ]
                      refine wpAnyH_done (by kernel_rfl) ?_ _
                      go_wp2
                      go_meet
                      exact ⟨_, _, _, rfl, hg2, hblk2, hmts2, hlow2⟩
                    · skip
                      exact AllReadyH.nil
                  · skip
                    exact AllReadyH.nil
                · skip
                  exact AllReadyH.nil
              · skip
                exact AllReadyH.nil
          · skip
            refine AllReadyH.cons (by simp only [List.getElem?_toArray, List.getElem?_cons_succ, List.getElem?_cons_zero]; exact rfl) (fun K hK => ?_) ?_
            · go_simp
              refine hK.out _ _ (HFS.out.al).low (fun hHeld => ?_)
              have HFS := Lib.hid HFS.out.al
              generalize V1.alloc (.cells #[.string ⟨#[]⟩, .slice none 0 0] 24) = V2 at HFS hHeld ⊢
              clear hK K
              try simp only [Act.put, List.setIfInBounds_toArray, List.set_cons_zero, List.set_cons_succ]
              refine wpAnyH_ready (rs := [5, 7]) (by kernel_rfl) (by simp) ?_
              refine AllReadyH.cons (by simp only [List.getElem?_toArray, List.getElem?_cons_succ, List.getElem?_cons_zero]; exact rfl) (fun K hK => ?_) ?_
              · refine Mem.step_append_any V2 rfl (.tmp 55) (.tmp 57) 22 rfl w10.heap.size 45 i0 _ 3 40 Try.underlying22 hi hz0 hz1 hz2 rfl (by decide) _ 0 [] rfl (HFS.out.own _ _ rfl) w10.heap.size A n c _ rfl (HFS.out.reads HM10.out) (mt_one ms) (by unfold maxLen; omega) (by omega) HFS.out.low.size ?_
                intro v5a V3 hown5a hg5a hat5a
                have HFS := Lib.hid (HFS.out.app (xs' := ms) hg5a (by rw [HLM.out]; simpa using hown5a) hat5a)
                refine hK.out _ _ HFS.out.low (fun hHeld => ?_)
                clear hown5a hg5a hat5a
                clear hK K
                try simp only [Act.put, List.setIfInBounds_toArray, List.set_cons_zero, List.set_cons_succ]
                refine wpAnyH_ready (rs := [7]) (by kernel_rfl) (by simp) ?_
                refine AllReadyH.cons (by simp only [List.getElem?_toArray, List.getElem?_cons_succ, List.getElem?_cons_zero]; exact rfl) (fun K hK => ?_) ?_
                · go_simp
                  refine hK.out _ _ (HFS.out.bs2).low (fun hHeld => ?_)
                  have HFS := Lib.hid (show FSt w10 (mn, mv, !mb) (V3.alloc (.cells #[.string mn, .string mv, .bool !mb] 45)) _ _ _ from HFS.out.bs2)
                  generalize V3.alloc (.cells #[.string mn, .string mv, .bool !mb] 45) = V4 at HFS hHeld ⊢
                  clear hK K
                  try simp only [Act.put, List.setIfInBounds_toArray, List.set_cons_zero, List.set_cons_succ]
                  refine wpAnyH_ready (rs := [8]) (by kernel_rfl) (by simp) ?_
                  refine AllReadyH.cons (by simp only [List.getElem?_toArray, List.getElem?_cons_succ, List.getElem?_cons_zero]; exact rfl) (fun K hK => ?_) ?_
                  · refine Mem.step_append_any V4 rfl (.tmp 58) (.tmp 60) 22 rfl w10.heap.size 45 i0 _ 3 40 Try.underlying22 hi hz0 hz1 hz2 rfl (by decide) _ _ _ rfl (HFS.out.own _ _ rfl) _ _ 1 1 _ rfl HFS.out.last (mt_one [(mn, mv, !mb)]) (by rw [HLM.out]; unfold maxLen; omega) (by rw [HLM.out]; omega) HFS.out.low.size ?_
                    intro v8a V5 hown8a hg8a hat8a
                    obtain ⟨A8, c8, rfl, hfs8⟩ := HFS.out.app1 hg8a hown8a hat8a
                    have HFS := Lib.hid hfs8
                    clear hfs8
                    refine hK.out _ _ HFS.out.low (fun hHeld => ?_)
                    clear hown8a hg8a hat8a
                    clear hK K
                    try simp only [Act.put, List.setIfInBounds_toArray, List.set_cons_zero, List.set_cons_succ]
                    refine wpAnyH_take (i := 9) (v := ?_) (by simp only [List.getElem?_toArray, List.getElem?_cons_succ, List.getElem?_cons_zero]; exact rfl) (by kernel_rfl) (by kernel_rfl) (by kernel_rfl) (by exact fun _ _ _ h => h) (Or.inl ⟨by rfl, ?_⟩) hHeld ?_
                    rotate_left
                    · intro wq hSw; go_simp; all_goals (with_reducible rfl)
                    try simp only [Act.put, List.setIfInBounds_toArray, List.set_cons_zero, List.set_cons_succ]
                    refine wpAnyH_ready (rs := [11]) (by kernel_rfl) (by simp) ?_
                    refine AllReadyH.cons (by simp only [List.getElem?_toArray, List.getElem?_cons_succ, List.getElem?_cons_zero]; exact rfl) (fun K hK => ?_) ?_
                    · obtain ⟨hg2, hblk2, hmts2, hlow2, f0, f1, g0, g1⟩ := HFS.out.fin (nm := nm) (by simp) hszb
                      go_simp
                      refine hK.out _ _ hlow2 (fun hHeld => ?_)
                      clear hK K
                      try simp only [Act.put, List.setIfInBounds_toArray, List.set_cons_zero, List.set_cons_succ]
                      refine wpAnyH_done (by kernel_rfl) ?_ _
                      go_wp2
                      go_meet
                      exact ⟨_, _, _, rfl, hg2, hblk2, hmts2, hlow2⟩
                    · skip
                      exact AllReadyH.nil
                  · skip
                    exact AllReadyH.nil
                · skip
                  exact AllReadyH.nil
              · skip
                refine AllReadyH.cons (by simp only [List.getElem?_toArray, List.getElem?_cons_succ, List.getElem?_cons_zero]; exact rfl) (fun K hK => ?_) ?_
                · go_simp
                  refine hK.out _ _ (HFS.out.bs2).low (fun hHeld => ?_)
                  have HFS := Lib.hid (show FSt w10 (mn, mv, !mb) (V2.alloc (.cells #[.string mn, .string mv, .bool !mb] 45)) _ _ _ from HFS.out.bs2)
                  generalize V2.alloc (.cells #[.string mn, .string mv, .bool !mb] 45) = V3 at HFS hHeld ⊢
                  clear hK K
                  try simp only [Act.put, List.setIfInBounds_toArray, List.set_cons_zero, List.set_cons_succ]
                  refine wpAnyH_ready (rs := [5]) (by kernel_rfl) (by simp) ?_
                  refine AllReadyH.cons (by simp only [List.getElem?_toArray, List.getElem?_cons_succ, List.getElem?_cons_zero]; exact rfl) (fun K hK => ?_) ?_
                  · refine Mem.step_append_any V3 rfl (.tmp 55) (.tmp 57) 22 rfl w10.heap.size 45 i0 _ 3 40 Try.underlying22 hi hz0 hz1 hz2 rfl (by decide) _ 0 [] rfl (HFS.out.own _ _ rfl) w10.heap.size A n c _ rfl (HFS.out.reads HM10.out) (mt_one ms) (by unfold maxLen; omega) (by omega) HFS.out.low.size ?_
                    intro v5a V4 hown5a hg5a hat5a
                    have HFS := Lib.hid (HFS.out.app (xs' := ms) hg5a (by rw [HLM.out]; simpa using hown5a) hat5a)
                    refine hK.out _ _ HFS.out.low (fun hHeld => ?_)
                    clear hown5a hg5a hat5a
                    clear hK K
                    try simp only [Act.put, List.setIfInBounds_toArray, List.set_cons_zero, List.set_cons_succ]
                    refine wpAnyH_ready (rs := [8]) (by kernel_rfl) (by simp) ?_
                    refine AllReadyH.cons (by simp only [List.getElem?_toArray, List.getElem?_cons_succ, List.getElem?_cons_zero]; exact rfl) (fun K hK => ?_) ?_
                    · refine Mem.step_append_any V4 rfl (.tmp 58) (.tmp 60) 22 rfl w10.heap.size 45 i0 _ 3 40 Try.underlying22 hi hz0 hz1 hz2 rfl (by decide) _ _ _ rfl (HFS.out.own _ _ rfl) _ _ 1 1 _ rfl HFS.out.last (mt_one [(mn, mv, !mb)]) (by rw [HLM.out]; unfold maxLen; omega) (by rw [HLM.out]; omega) HFS.out.low.size ?_
                      intro v8a V5 hown8a hg8a hat8a
                      obtain ⟨A8, c8, rfl, hfs8⟩ := HFS.out.app1 hg8a hown8a hat8a
                      have HFS := Lib.hid hfs8
                      clear hfs8
                      refine hK.out _ _ HFS.out.low (fun hHeld => ?_)
                      clear hown8a hg8a hat8a
                      clear hK K
                      try simp only [Act.put, List.setIfInBounds_toArray, List.set_cons_zero, List.set_cons_succ]
                      refine wpAnyH_take (i := 9) (v := ?_) (by simp only [List.getElem?_toArray, List.getElem?_cons_succ, List.getElem?_cons_zero]; exact rfl) (by kernel_rfl) (by kernel_rfl) (by kernel_rfl) (by exact fun _ _ _ h => h) (Or.inl ⟨by rfl, ?_⟩) hHeld ?_
                      rotate_left
                      · intro wq hSw; go_simp; all_goals (with_reducible rfl)
                      try simp only [Act.put, List.setIfInBounds_toArray, List.set_cons_zero, List.set_cons_succ]
                      refine wpAnyH_ready (rs := [11]) (by kernel_rfl) (by simp) ?_
                      refine AllReadyH.cons (by simp only [List.getElem?_toArray, List.getElem?_cons_succ, List.getElem?_cons_zero]; exact rfl) (fun K hK => ?_) ?_
                      · obtain ⟨hg2, hblk2, hmts2, hlow2, f0, f1, g0, g1⟩ := HFS.out.fin (nm := nm) (by simp) hszb
                        go_simp
                        refine hK.out _ _ hlow2 (fun hHeld => ?_)
                        clear hK K
                        try simp only [Act.put, List.setIfInBounds_toArray, List.set_cons_zero, List.set_cons_succ]
                        refine wpAnyH_done (by kernel_rfl) ?_ _
                        go_wp2
                        go_meet
                        exact ⟨_, _, _, rfl, hg2, hblk2, hmts2, hlow2⟩
                      · skip
                        exact AllReadyH.nil
                    · skip
                      exact AllReadyH.nil
                  · skip
                    exact AllReadyH.nil
                · skip
                  exact AllReadyH.nil
            · skip
              exact AllReadyH.nil
      · skip
        refine AllReadyH.cons (by simp only [List.getElem?_toArray, List.getElem?_cons_succ, List.getElem?_cons_zero]; exact rfl) (fun K hK => ?_) ?_
        · go_simp
          refine hK.out _ _ (HFS.out.bs2).low (fun hHeld => ?_)
          have HFS := Lib.hid (show FSt w10 (mn, mv, !mb) (V0.alloc (.cells #[.string mn, .string mv, .bool !mb] 45)) _ _ _ from HFS.out.bs2)
          generalize V0.alloc (.cells #[.string mn, .string mv, .bool !mb] 45) = V1 at HFS hHeld ⊢
          clear hK K
          try simp only [Act.put, List.setIfInBounds_toArray, List.set_cons_zero, List.set_cons_succ]
          refine wpAnyH_ready (rs := [2, 10]) (by kernel_rfl) (by simp) ?_
          refine AllReadyH.cons (by simp only [List.getElem?_toArray, List.getElem?_cons_succ, List.getElem?_cons_zero]; exact rfl) (fun K hK => ?_) ?_
          · go_simp
            refine hK.out _ _ (HFS.out.bs1).low (fun hHeld => ?_)
            have HFS := Lib.hid HFS.out.bs1
            generalize V1.alloc (.cells #[] 45) = V2 at HFS hHeld ⊢
            clear hK K
            try simp only [Act.put, List.setIfInBounds_toArray, List.set_cons_zero, List.set_cons_succ]
            refine wpAnyH_ready (rs := [5, 10]) (by kernel_rfl) (by simp) ?_
            refine AllReadyH.cons (by simp only [List.getElem?_toArray, List.getElem?_cons_succ, List.getElem?_cons_zero]; exact rfl) (fun K hK => ?_) ?_
            · refine Mem.step_append_any V2 rfl (.tmp 55) (.tmp 57) 22 rfl w10.heap.size 45 i0 _ 3 40 Try.underlying22 hi hz0 hz1 hz2 rfl (by decide) _ 0 [] rfl (HFS.out.own _ _ rfl) w10.heap.size A n c _ rfl (HFS.out.reads HM10.out) (mt_one ms) (by unfold maxLen; omega) (by omega) HFS.out.low.size ?_
              intro v5a V3 hown5a hg5a hat5a
              have HFS := Lib.hid (HFS.out.app (xs' := ms) hg5a (by rw [HLM.out]; simpa using hown5a) hat5a)
              refine hK.out _ _ HFS.out.low (fun hHeld => ?_)
              clear hown5a hg5a hat5a
              clear hK K
              try simp only [Act.put, List.setIfInBounds_toArray, List.set_cons_zero, List.set_cons_succ]
              refine wpAnyH_ready (rs := [8, 10]) (by kernel_rfl) (by simp) ?_
              refine AllReadyH.cons (by simp only [List.getElem?_toArray, List.getElem?_cons_succ, List.getElem?_cons_zero]; exact rfl) (fun K hK => ?_) ?_
              · refine Mem.step_append_any V3 rfl (.tmp 58) (.tmp 60) 22 rfl w10.heap.size 45 i0 _ 3 40 Try.underlying22 hi hz0 hz1 hz2 rfl (by decide) _ _ _ rfl (HFS.out.own _ _ rfl) _ _ 1 1 _ rfl HFS.out.last (mt_one [(mn, mv, !mb)]) (by rw [HLM.out]; unfold maxLen; omega) (by rw [HLM.out]; omega) HFS.out.low.size ?_
                intro v8a V4 hown8a hg8a hat8a
                obtain ⟨A8, c8, rfl, hfs8⟩ := HFS.out.app1 hg8a hown8a hat8a
                have HFS := Lib.hid hfs8
                clear hfs8
                refine hK.out _ _ HFS.out.low (fun hHeld => ?_)
                clear hown8a hg8a hat8a
                clear hK K
                try simp only [Act.put, List.setIfInBounds_toArray, List.set_cons_zero, List.set_cons_succ]
                refine wpAnyH_take (i := 9) (v := ?_) (by simp only [List.getElem?_toArray, List.getElem?_cons_succ, List.getElem?_cons_zero]; exact rfl) (by kernel_rfl) (by kernel_rfl) (by kernel_rfl) (by exact fun _ _ _ h => h) (Or.inl ⟨by rfl, ?_⟩) hHeld ?_
                rotate_left
                · intro wq hSw; go_simp; all_goals (with_reducible rfl)
                try simp only [Act.put, List.setIfInBounds_toArray, List.set_cons_zero, List.set_cons_succ]
                refine wpAnyH_ready (rs := [10]) (by kernel_rfl) (by simp) ?_
                refine AllReadyH.cons (by simp only [List.getElem?_toArray, List.getElem?_cons_succ, List.getElem?_cons_zero]; exact rfl) (fun K hK => ?_) ?_
                · go_simp
                  refine hK.out _ _ (HFS.out.al).low (fun hHeld => ?_)
                  have HFS := Lib.hid HFS.out.al
                  generalize V4.alloc (.cells #[.string ⟨#[]⟩, .slice none 0 0] 24) = V5 at HFS hHeld ⊢
                  clear hK K
                  try simp only [Act.put, List.setIfInBounds_toArray, List.set_cons_zero, List.set_cons_succ]
                  refine wpAnyH_ready (rs := [11]) (by kernel_rfl) (by simp) ?_
                  refine AllReadyH.cons (by simp only [List.getElem?_toArray, List.getElem?_cons_succ, List.getElem?_cons_zero]; exact rfl) (fun K hK => ?_) ?_
                  · obtain ⟨hg2, hblk2, hmts2, hlow2, f0, f1, g0, g1⟩ := HFS.out.fin (nm := nm) (by simp) hszb
                    go_simp
                    refine hK.out _ _ hlow2 (fun hHeld => ?_)
                    clear hK K
                    try simp only [Act.put, List.setIfInBounds_toArray, List.set_cons_zero, List.set_cons_succ]
                    refine wpAnyH_done (by kernel_rfl) ?_ _
                    go_wp2
                    go_meet
                    exact ⟨_, _, _, rfl, hg2, hblk2, hmts2, hlow2⟩
                  · skip
                    exact AllReadyH.nil
                · skip
                  exact AllReadyH.nil
              · skip
                refine AllReadyH.cons (by simp only [List.getElem?_toArray, List.getElem?_cons_succ, List.getElem?_cons_zero]; exact rfl) (fun K hK => ?_) ?_
                · go_simp
                  refine hK.out _ _ (HFS.out.al).low (fun hHeld => ?_)
                  have HFS := Lib.hid HFS.out.al
                  generalize V3.alloc (.cells #[.string ⟨#[]⟩, .slice none 0 0] 24) = V4 at HFS hHeld ⊢
                  clear hK K
                  try simp only [Act.put, List.setIfInBounds_toArray, List.set_cons_zero, List.set_cons_succ]
                  refine wpAnyH_ready (rs := [8]) (by kernel_rfl) (by simp) ?_
                  refine AllReadyH.cons (by simp only [List.getElem?_toArray, List.getElem?_cons_succ, List.getElem?_cons_zero]; exact rfl) (fun K hK => ?_) ?_
                  · refine Mem.step_append_any V4 rfl (.tmp 58) (.tmp 60) 22 rfl w10.heap.size 45 i0 _ 3 40 Try.underlying22 hi hz0 hz1 hz2 rfl (by decide) _ _ _ rfl (HFS.out.own _ _ rfl) _ _ 1 1 _ rfl HFS.out.last (mt_one [(mn, mv, !mb)]) (by rw [HLM.out]; unfold maxLen; omega) (by rw [HLM.out]; omega) HFS.out.low.size ?_
                    intro v8a V5 hown8a hg8a hat8a
                    obtain ⟨A8, c8, rfl, hfs8⟩ := HFS.out.app1 hg8a hown8a hat8a
                    have HFS := Lib.hid hfs8
                    clear hfs8
                    refine hK.out _ _ HFS.out.low (fun hHeld => ?_)
                    clear hown8a hg8a hat8a
                    clear hK K
                    try simp only [Act.put, List.setIfInBounds_toArray, List.set_cons_zero, List.set_cons_succ]
                    refine wpAnyH_take (i := 9) (v := ?_) (by simp only [List.getElem?_toArray, List.getElem?_cons_succ, List.getElem?_cons_zero]; exact rfl) (by kernel_rfl) (by kernel_rfl) (by kernel_rfl) (by exact fun _ _ _ h => h) (Or.inl ⟨by rfl, ?_⟩) hHeld ?_
                    rotate_left
                    · intro wq hSw; go_simp; all_goals (with_reducible rfl)
                    try simp only [Act.put, List.setIfInBounds_toArray, List.set_cons_zero, List.set_cons_succ]
                    refine wpAnyH_ready (rs := [11]) (by kernel_rfl) (by simp) ?_
                    refine AllReadyH.cons (by simp only [List.getElem?_toArray, List.getElem?_cons_succ, List.getElem?_cons_zero]; exact rfl) (fun K hK => ?_) ?_
                    · obtain ⟨hg2, hblk2, hmts2, hlow2, f0, f1, g0, g1⟩ := HFS.out.fin (nm := nm) (by simp) hszb
                      go_simp
                      refine hK.out _ _ hlow2 (fun hHeld => ?_)
                      clear hK K
                      try simp only [Act.put, List.setIfInBounds_toArray, List.set_cons_zero, List.set_cons_succ]
                      refine wpAnyH_done (by kernel_rfl) ?_ _
                      go_wp2
                      go_meet
                      exact ⟨_, _, _, rfl, hg2, hblk2, hmts2, hlow2⟩
                    · skip
                      exact AllReadyH.nil
                  · skip
                    exact AllReadyH.nil
                · skip
                  exact AllReadyH.nil
            · skip
              refine AllReadyH.cons (by simp only [List.getElem?_toArray, List.getElem?_cons_succ, List.getElem?_cons_zero]; exact rfl) (fun K hK => ?_) ?_
              · go_simp
                refine hK.out _ _ (HFS.out.al).low (fun hHeld => ?_)
                have HFS := Lib.hid HFS.out.al
                generalize V2.alloc (.cells #[.string ⟨#[]⟩, .slice none 0 0] 24) = V3 at HFS hHeld ⊢
                clear hK K
                try simp only [Act.put, List.setIfInBounds_toArray, List.set_cons_zero, List.set_cons_succ]
                refine wpAnyH_ready (rs := [5]) (by kernel_rfl) (by simp) ?_
                refine AllReadyH.cons (by simp only [List.getElem?_toArray, List.getElem?_cons_succ, List.getElem?_cons_zero]; exact rfl) (fun K hK => ?_) ?_
                · refine Mem.step_append_any V3 rfl (.tmp 55) (.tmp 57) 22 rfl w10.heap.size 45 i0 _ 3 40 Try.underlying22 hi hz0 hz1 hz2 rfl (by decide) _ 0 [] rfl (HFS.out.own _ _ rfl) w10.heap.size A n c _ rfl (HFS.out.reads HM10.out) (mt_one ms) (by unfold maxLen; omega) (by omega) HFS.out.low.size ?_
                  intro v5a V4 hown5a hg5a hat5a
                  have HFS := Lib.hid (HFS.out.app (xs' := ms) hg5a (by rw [HLM.out]; simpa using hown5a) hat5a)
                  refine hK.out _ _ HFS.out.low (fun hHeld => ?_)
                  clear hown5a hg5a hat5a
                  clear hK K
                  try simp only [Act.put, List.setIfInBounds_toArray, List.set_cons_zero, List.set_cons_succ]
                  refine wpAnyH_ready (rs := [8]) (by kernel_rfl) (by simp) ?_
                  refine AllReadyH.cons (by simp only [List.getElem?_toArray, List.getElem?_cons_succ, List.getElem?_cons_zero]; exact rfl) (fun K hK => ?_) ?_
                  · refine Mem.step_append_any V4 rfl (.tmp 58) (.tmp 60) 22 rfl w10.heap.size 45 i0 _ 3 40 Try.underlying22 hi hz0 hz1 hz2 rfl (by decide) _ _ _ rfl (HFS.out.own _ _ rfl) _ _ 1 1 _ rfl HFS.out.last (mt_one [(mn, mv, !mb)]) (by rw [HLM.out]; unfold maxLen; omega) (by rw [HLM.out]; omega) HFS.out.low.size ?_
                    intro v8a V5 hown8a hg8a hat8a
                    obtain ⟨A8, c8, rfl, hfs8⟩ := HFS.out.app1 hg8a hown8a hat8a
                    have HFS := Lib.hid hfs8
                    clear hfs8
                    refine hK.out _ _ HFS.out.low (fun hHeld => ?_)
                    clear hown8a hg8a hat8a
                    clear hK K
                    try simp only [Act.put, List.setIfInBounds_toArray, List.set_cons_zero, List.set_cons_succ]
                    refine wpAnyH_take (i := 9) (v := ?_) (by simp only [List.getElem?_toArray, List.getElem?_cons_succ, List.getElem?_cons_zero]; exact rfl) (by kernel_rfl) (by kernel_rfl) (by kernel_rfl) (by exact fun _ _ _ h => h) (Or.inl ⟨by rfl, ?_⟩) hHeld ?_
                    rotate_left
                    · intro wq hSw; go_simp; all_goals (with_reducible rfl)
                    try simp only [Act.put, List.setIfInBounds_toArray, List.set_cons_zero, List.set_cons_succ]
                    refine wpAnyH_ready (rs := [11]) (by kernel_rfl) (by simp) ?_
                    refine AllReadyH.cons (by simp only [List.getElem?_toArray, List.getElem?_cons_succ, List.getElem?_cons_zero]; exact rfl) (fun K hK => ?_) ?_
                    · obtain ⟨hg2, hblk2, hmts2, hlow2, f0, f1, g0, g1⟩ := HFS.out.fin (nm := nm) (by simp) hszb
                      go_simp
                      refine hK.out _ _ hlow2 (fun hHeld => ?_)
                      clear hK K
                      try simp only [Act.put, List.setIfInBounds_toArray, List.set_cons_zero, List.set_cons_succ]
                      refine wpAnyH_done (by kernel_rfl) ?_ _
                      go_wp2
                      go_meet
                      exact ⟨_, _, _, rfl, hg2, hblk2, hmts2, hlow2⟩
                    · skip
                      exact AllReadyH.nil
                  · skip
                    exact AllReadyH.nil
                · skip
                  exact AllReadyH.nil
              · skip
                exact AllReadyH.nil
          · skip
            refine AllReadyH.cons (by simp only [List.getElem?_toArray, List.getElem?_cons_succ, List.getElem?_cons_zero]; exact rfl) (fun K hK => ?_) ?_
            · go_simp
              refine hK.out _ _ (HFS.out.al).low (fun hHeld => ?_)
              have HFS := Lib.hid HFS.out.al
              generalize V1.alloc (.cells #[.string ⟨#[]⟩, .slice none 0 0] 24) = V2 at HFS hHeld ⊢
              clear hK K
              try simp only [Act.put, List.setIfInBounds_toArray, List.set_cons_zero, List.set_cons_succ]
              refine wpAnyH_ready (rs := [2]) (by kernel_rfl) (by simp) ?_
              refine AllReadyH.cons (by simp only [List.getElem?_toArray, List.getElem?_cons_succ, List.getElem?_cons_zero]; exact rfl) (fun K hK => ?_) ?_
              · go_simp
                refine hK.out _ _ (HFS.out.bs1).low (fun hHeld => ?_)
                have HFS := Lib.hid HFS.out.bs1
                generalize V2.alloc (.cells #[] 45) = V3 at HFS hHeld ⊢
                clear hK K
                try simp only [Act.put, List.setIfInBounds_toArray, List.set_cons_zero, List.set_cons_succ]
                refine wpAnyH_ready (rs := [5]) (by kernel_rfl) (by simp) ?_
                refine AllReadyH.cons (by simp only [List.getElem?_toArray, List.getElem?_cons_succ, List.getElem?_cons_zero]; exact rfl) (fun K hK => ?_) ?_
                · refine Mem.step_append_any V3 rfl (.tmp 55) (.tmp 57) 22 rfl w10.heap.size 45 i0 _ 3 40 Try.underlying22 hi hz0 hz1 hz2 rfl (by decide) _ 0 [] rfl (HFS.out.own _ _ rfl) w10.heap.size A n c _ rfl (HFS.out.reads HM10.out) (mt_one ms) (by unfold maxLen; omega) (by omega) HFS.out.low.size ?_
                  intro v5a V4 hown5a hg5a hat5a
                  have HFS := Lib.hid (HFS.out.app (xs' := ms) hg5a (by rw [HLM.out]; simpa using hown5a) hat5a)
                  refine hK.out _ _ HFS.out.low (fun hHeld => ?_)
                  clear hown5a hg5a hat5a
                  clear hK K
                  try simp only [Act.put, List.setIfInBounds_toArray, List.set_cons_zero, List.set_cons_succ]
                  refine wpAnyH_ready (rs := [8]) (by kernel_rfl) (by simp) ?_
                  refine AllReadyH.cons (by simp only [List.getElem?_toArray, List.getElem?_cons_succ, List.getElem?_cons_zero]; exact rfl) (fun K hK => ?_) ?_
                  · refine Mem.step_append_any V4 rfl (.tmp 58) (.tmp 60) 22 rfl w10.heap.size 45 i0 _ 3 40 Try.underlying22 hi hz0 hz1 hz2 rfl (by decide) _ _ _ rfl (HFS.out.own _ _ rfl) _ _ 1 1 _ rfl HFS.out.last (mt_one [(mn, mv, !mb)]) (by rw [HLM.out]; unfold maxLen; omega) (by rw [HLM.out]; omega) HFS.out.low.size ?_
                    intro v8a V5 hown8a hg8a hat8a
                    obtain ⟨A8, c8, rfl, hfs8⟩ := HFS.out.app1 hg8a hown8a hat8a
                    have HFS := Lib.hid hfs8
                    clear hfs8
                    refine hK.out _ _ HFS.out.low (fun hHeld => ?_)
                    clear hown8a hg8a hat8a
                    clear hK K
                    try simp only [Act.put, List.setIfInBounds_toArray, List.set_cons_zero, List.set_cons_succ]
                    refine wpAnyH_take (i := 9) (v := ?_) (by simp only [List.getElem?_toArray, List.getElem?_cons_succ, List.getElem?_cons_zero]; exact rfl) (by kernel_rfl) (by kernel_rfl) (by kernel_rfl) (by exact fun _ _ _ h => h) (Or.inl ⟨by rfl, ?_⟩) hHeld ?_
                    rotate_left
                    · intro wq hSw; go_simp; all_goals (with_reducible rfl)
                    try simp only [Act.put, List.setIfInBounds_toArray, List.set_cons_zero, List.set_cons_succ]
                    refine wpAnyH_ready (rs := [11]) (by kernel_rfl) (by simp) ?_
                    refine AllReadyH.cons (by simp only [List.getElem?_toArray, List.getElem?_cons_succ, List.getElem?_cons_zero]; exact rfl) (fun K hK => ?_) ?_
                    · obtain ⟨hg2, hblk2, hmts2, hlow2, f0, f1, g0, g1⟩ := HFS.out.fin (nm := nm) (by simp) hszb
                      go_simp
                      refine hK.out _ _ hlow2 (fun hHeld => ?_)
                      clear hK K
                      try simp only [Act.put, List.setIfInBounds_toArray, List.set_cons_zero, List.set_cons_succ]
                      refine wpAnyH_done (by kernel_rfl) ?_ _
                      go_wp2
                      go_meet
                      exact ⟨_, _, _, rfl, hg2, hblk2, hmts2, hlow2⟩
                    · skip
                      exact AllReadyH.nil
                  · skip
                    exact AllReadyH.nil
                · skip
                  exact AllReadyH.nil
              · skip
                exact AllReadyH.nil
            · skip
              exact AllReadyH.nil
        · skip
          refine AllReadyH.cons (by simp only [List.getElem?_toArray, List.getElem?_cons_succ, List.getElem?_cons_zero]; exact rfl) (fun K hK => ?_) ?_
          · go_simp
            refine hK.out _ _ (HFS.out.al).low (fun hHeld => ?_)
            have HFS := Lib.hid HFS.out.al
            generalize V0.alloc (.cells #[.string ⟨#[]⟩, .slice none 0 0] 24) = V1 at HFS hHeld ⊢
            clear hK K
            try simp only [Act.put, List.setIfInBounds_toArray, List.set_cons_zero, List.set_cons_succ]
            refine wpAnyH_ready (rs := [2, 7]) (by kernel_rfl) (by simp) ?_
            refine AllReadyH.cons (by simp only [List.getElem?_toArray, List.getElem?_cons_succ, List.getElem?_cons_zero]; exact rfl) (fun K hK => ?_) ?_
            · go_simp
              refine hK.out _ _ (HFS.out.bs1).low (fun hHeld => ?_)
              have HFS := Lib.hid HFS.out.bs1
              generalize V1.alloc (.cells #[] 45) = V2 at HFS hHeld ⊢
              clear hK K
              try simp only [Act.put, List.setIfInBounds_toArray, List.set_cons_zero, List.set_cons_succ]
              refine wpAnyH_ready (rs := [5, 7]) (by kernel_rfl) (by simp) ?_
              refine AllReadyH.cons (by simp only [List.getElem?_toArray, List.getElem?_cons_succ, List.getElem?_cons_zero]; exact rfl) (fun K hK => ?_) ?_
              · refine Mem.step_append_any V2 rfl (.tmp 55) (.tmp 57) 22 rfl w10.heap.size 45 i0 _ 3 40 Try.underlying22 hi hz0 hz1 hz2 rfl (by decide) _ 0 [] rfl (HFS.out.own _ _ rfl) w10.heap.size A n c _ rfl (HFS.out.reads HM10.out) (mt_one ms) (by unfold maxLen; omega) (by omega) HFS.out.low.size ?_
                intro v5a V3 hown5a hg5a hat5a
                have HFS := Lib.hid (HFS.out.app (xs' := ms) hg5a (by rw [HLM.out]; simpa using hown5a) hat5a)
                refine hK.out _ _ HFS.out.low (fun hHeld => ?_)
                clear hown5a hg5a hat5a
                clear hK K
                try simp only [Act.put, List.setIfInBounds_toArray, List.set_cons_zero, List.set_cons_succ]
                refine wpAnyH_ready (rs := [7]) (by kernel_rfl) (by simp) ?_
                refine AllReadyH.cons (by simp only [List.getElem?_toArray, List.getElem?_cons_succ, List.getElem?_cons_zero]; exact rfl) (fun K hK => ?_) ?_
                · go_simp
                  refine hK.out _ _ (HFS.out.bs2).low (fun hHeld => ?_)
                  have HFS := Lib.hid (show FSt w10 (mn, mv, !mb) (V3.alloc (.cells #[.string mn, .string mv, .bool !mb] 45)) _ _ _ from HFS.out.bs2)
                  generalize V3.alloc (.cells #[.string mn, .string mv, .bool !mb] 45) = V4 at HFS hHeld ⊢
                  clear hK K
                  try simp only [Act.put, List.setIfInBounds_toArray, List.set_cons_zero, List.set_cons_succ]
                  refine wpAnyH_ready (rs := [8]) (by kernel_rfl) (by simp) ?_
                  refine AllReadyH.cons (by simp only [List.getElem?_toArray, List.getElem?_cons_succ, List.getElem?_cons_zero]; exact rfl) (fun K hK => ?_) ?_
                  · refine Mem.step_append_any V4 rfl (.tmp 58) (.tmp 60) 22 rfl w10.heap.size 45 i0 _ 3 40 Try.underlying22 hi hz0 hz1 hz2 rfl (by decide) _ _ _ rfl (HFS.out.own _ _ rfl) _ _ 1 1 _ rfl HFS.out.last (mt_one [(mn, mv, !mb)]) (by rw [HLM.out]; unfold maxLen; omega) (by rw [HLM.out]; omega) HFS.out.low.size ?_
                    intro v8a V5 hown8a hg8a hat8a
                    obtain ⟨A8, c8, rfl, hfs8⟩ := HFS.out.app1 hg8a hown8a hat8a
                    have HFS := Lib.hid hfs8
                    clear hfs8
                    refine hK.out _ _ HFS.out.low (fun hHeld => ?_)
                    clear hown8a hg8a hat8a
                    clear hK K
                    try simp only [Act.put, List.setIfInBounds_toArray, List.set_cons_zero, List.set_cons_succ]
                    refine wpAnyH_take (i := 9) (v := ?_) (by simp only [List.getElem?_toArray, List.getElem?_cons_succ, List.getElem?_cons_zero]; exact rfl) (by kernel_rfl) (by kernel_rfl) (by kernel_rfl) (by exact fun _ _ _ h => h) (Or.inl ⟨by rfl, ?_⟩) hHeld ?_
                    rotate_left
                    · intro wq hSw; go_simp; all_goals (with_reducible rfl)
                    try simp only [Act.put, List.setIfInBounds_toArray, List.set_cons_zero, List.set_cons_succ]
                    refine wpAnyH_ready (rs := [11]) (by kernel_rfl) (by simp) ?_
                    refine AllReadyH.cons (by simp only [List.getElem?_toArray, List.getElem?_cons_succ, List.getElem?_cons_zero]; exact rfl) (fun K hK => ?_) ?_
                    · obtain ⟨hg2, hblk2, hmts2, hlow2, f0, f1, g0, g1⟩ := HFS.out.fin (nm := nm) (by simp) hszb
                      go_simp
                      refine hK.out _ _ hlow2 (fun hHeld => ?_)
                      clear hK K
                      try simp only [Act.put, List.setIfInBounds_toArray, List.set_cons_zero, List.set_cons_succ]
                      refine wpAnyH_done (by kernel_rfl) ?_ _
                      go_wp2
                      go_meet
                      exact ⟨_, _, _, rfl, hg2, hblk2, hmts2, hlow2⟩
                    · skip
                      exact AllReadyH.nil
                  · skip
                    exact AllReadyH.nil
                · skip
                  exact AllReadyH.nil
              · skip
                refine AllReadyH.cons (by simp only [List.getElem?_toArray, List.getElem?_cons_succ, List.getElem?_cons_zero]; exact rfl) (fun K hK => ?_) ?_
                · go_simp
                  refine hK.out _ _ (HFS.out.bs2).low (fun hHeld => ?_)
                  have HFS := Lib.hid (show FSt w10 (mn, mv, !mb) (V2.alloc (.cells #[.string mn, .string mv, .bool !mb] 45)) _ _ _ from HFS.out.bs2)
                  generalize V2.alloc (.cells #[.string mn, .string mv, .bool !mb] 45) = V3 at HFS hHeld ⊢
                  clear hK K
                  try simp only [Act.put, List.setIfInBounds_toArray, List.set_cons_zero, List.set_cons_succ]
                  refine wpAnyH_ready (rs := [5]) (by kernel_rfl) (by simp) ?_
                  refine AllReadyH.cons (by simp only [List.getElem?_toArray, List.getElem?_cons_succ, List.getElem?_cons_zero]; exact rfl) (fun K hK => ?_) ?_
                  · refine Mem.step_append_any V3 rfl (.tmp 55) (.tmp 57) 22 rfl w10.heap.size 45 i0 _ 3 40 Try.underlying22 hi hz0 hz1 hz2 rfl (by decide) _ 0 [] rfl (HFS.out.own _ _ rfl) w10.heap.size A n c _ rfl (HFS.out.reads HM10.out) (mt_one ms) (by unfold maxLen; omega) (by omega) HFS.out.low.size ?_
                    intro v5a V4 hown5a hg5a hat5a
                    have HFS := Lib.hid (HFS.out.app (xs' := ms) hg5a (by rw [HLM.out]; simpa using hown5a) hat5a)
                    refine hK.out _ _ HFS.out.low (fun hHeld => ?_)
                    clear hown5a hg5a hat5a
                    clear hK K
                    try simp only [Act.put, List.setIfInBounds_toArray, List.set_cons_zero, List.set_cons_succ]
                    refine wpAnyH_ready (rs := [8]) (by kernel_rfl) (by simp) ?_
                    refine AllReadyH.cons (by simp only [List.getElem?_toArray, List.getElem?_cons_succ, List.getElem?_cons_zero]; exact rfl) (fun K hK => ?_) ?_
                    · refine Mem.step_append_any V4 rfl (.tmp 58) (.tmp 60) 22 rfl w10.heap.size 45 i0 _ 3 40 Try.underlying22 hi hz0 hz1 hz2 rfl (by decide) _ _ _ rfl (HFS.out.own _ _ rfl) _ _ 1 1 _ rfl HFS.out.last (mt_one [(mn, mv, !mb)]) (by rw [HLM.out]; unfold maxLen; omega) (by rw [HLM.out]; omega) HFS.out.low.size ?_
                      intro v8a V5 hown8a hg8a hat8a
                      obtain ⟨A8, c8, rfl, hfs8⟩ := HFS.out.app1 hg8a hown8a hat8a
                      have HFS := Lib.hid hfs8
                      clear hfs8
                      refine hK.out _ _ HFS.out.low (fun hHeld => ?_)
                      clear hown8a hg8a hat8a
                      clear hK K
                      try simp only [Act.put, List.setIfInBounds_toArray, List.set_cons_zero, List.set_cons_succ]
                      refine wpAnyH_take (i := 9) (v := ?_) (by simp only [List.getElem?_toArray, List.getElem?_cons_succ, List.getElem?_cons_zero]; exact rfl) (by kernel_rfl) (by kernel_rfl) (by kernel_rfl) (by exact fun _ _ _ h => h) (Or.inl ⟨by rfl, ?_⟩) hHeld ?_
                      rotate_left
                      · intro wq hSw; go_simp; all_goals (with_reducible rfl)
                      try simp only [Act.put, List.setIfInBounds_toArray, List.set_cons_zero, List.set_cons_succ]
                      refine wpAnyH_ready (rs := [11]) (by kernel_rfl) (by simp) ?_
                      refine AllReadyH.cons (by simp only [List.getElem?_toArray, List.getElem?_cons_succ, List.getElem?_cons_zero]; exact rfl) (fun K hK => ?_) ?_
                      · obtain ⟨hg2, hblk2, hmts2, hlow2, f0, f1, g0, g1⟩ := HFS.out.fin (nm := nm) (by simp) hszb
                        go_simp
                        refine hK.out _ _ hlow2 (fun hHeld => ?_)
                        clear hK K
                        try simp only [Act.put, List.setIfInBounds_toArray, List.set_cons_zero, List.set_cons_succ]
                        refine wpAnyH_done (by kernel_rfl) ?_ _
                        go_wp2
                        go_meet
                        exact ⟨_, _, _, rfl, hg2, hblk2, hmts2, hlow2⟩
                      · skip
                        exact AllReadyH.nil
                    · skip
                      exact AllReadyH.nil
                  · skip
                    exact AllReadyH.nil
                · skip
                  exact AllReadyH.nil
            · skip
              refine AllReadyH.cons (by simp only [List.getElem?_toArray, List.getElem?_cons_succ, List.getElem?_cons_zero]; exact rfl) (fun K hK => ?_) ?_
              · go_simp
                refine hK.out _ _ (HFS.out.bs2).low (fun hHeld => ?_)
                have HFS := Lib.hid (show FSt w10 (mn, mv, !mb) (V1.alloc (.cells #[.string mn, .string mv, .bool !mb] 45)) _ _ _ from HFS.out.bs2)
                generalize V1.alloc (.cells #[.string mn, .string mv, .bool !mb] 45) = V2 at HFS hHeld ⊢
                clear hK K
                try simp only [Act.put, List.setIfInBounds_toArray, List.set_cons_zero, List.set_cons_succ]
                refine wpAnyH_ready (rs := [2]) (by kernel_rfl) (by simp) ?_
                refine AllReadyH.cons (by simp only [List.getElem?_toArray, List.getElem?_cons_succ, List.getElem?_cons_zero]; exact rfl) (fun K hK => ?_) ?_
                · go_simp
                  refine hK.out _ _ (HFS.out.bs1).low (fun hHeld => ?_)
                  have HFS := Lib.hid HFS.out.bs1
                  generalize V2.alloc (.cells #[] 45) = V3 at HFS hHeld ⊢
                  clear hK K
                  try simp only [Act.put, List.setIfInBounds_toArray, List.set_cons_zero, List.set_cons_succ]
                  refine wpAnyH_ready (rs := [5]) (by kernel_rfl) (by simp) ?_
                  refine AllReadyH.cons (by simp only [List.getElem?_toArray, List.getElem?_cons_succ, List.getElem?_cons_zero]; exact rfl) (fun K hK => ?_) ?_
                  · refine Mem.step_append_any V3 rfl (.tmp 55) (.tmp 57) 22 rfl w10.heap.size 45 i0 _ 3 40 Try.underlying22 hi hz0 hz1 hz2 rfl (by decide) _ 0 [] rfl (HFS.out.own _ _ rfl) w10.heap.size A n c _ rfl (HFS.out.reads HM10.out) (mt_one ms) (by unfold maxLen; omega) (by omega) HFS.out.low.size ?_
                    intro v5a V4 hown5a hg5a hat5a
                    have HFS := Lib.hid (HFS.out.app (xs' := ms) hg5a (by rw [HLM.out]; simpa using hown5a) hat5a)
                    refine hK.out _ _ HFS.out.low (fun hHeld => ?_)
                    clear hown5a hg5a hat5a
                    clear hK K
                    try simp only [Act.put, List.setIfInBounds_toArray, List.set_cons_zero, List.set_cons_succ]
                    refine wpAnyH_ready (rs := [8]) (by kernel_rfl) (by simp) ?_
                    refine AllReadyH.cons (by simp only [List.getElem?_toArray, List.getElem?_cons_succ, List.getElem?_cons_zero]; exact rfl) (fun K hK => ?_) ?_
                    · refine Mem.step_append_any V4 rfl (.tmp 58) (.tmp 60) 22 rfl w10.heap.size 45 i0 _ 3 40 Try.underlying22 hi hz0 hz1 hz2 rfl (by decide) _ _ _ rfl (HFS.out.own _ _ rfl) _ _ 1 1 _ rfl HFS.out.last (mt_one [(mn, mv, !mb)]) (by rw [HLM.out]; unfold maxLen; omega) (by rw [HLM.out]; omega) HFS.out.low.size ?_
                      intro v8a V5 hown8a hg8a hat8a
                      obtain ⟨A8, c8, rfl, hfs8⟩ := HFS.out.app1 hg8a hown8a hat8a
                      have HFS := Lib.hid hfs8
                      clear hfs8
                      refine hK.out _ _ HFS.out.low (fun hHeld => ?_)
                      clear hown8a hg8a hat8a
                      clear hK K
                      try simp only [Act.put, List.setIfInBounds_toArray, List.set_cons_zero, List.set_cons_succ]
                      refine wpAnyH_take (i := 9) (v := ?_) (by simp only [List.getElem?_toArray, List.getElem?_cons_succ, List.getElem?_cons_zero]; exact rfl) (by kernel_rfl) (by kernel_rfl) (by kernel_rfl) (by exact fun _ _ _ h => h) (Or.inl ⟨by rfl, ?_⟩) hHeld ?_
                      rotate_left
                      · intro wq hSw; go_simp; all_goals (with_reducible rfl)
                      try simp only [Act.put, List.setIfInBounds_toArray, List.set_cons_zero, List.set_cons_succ]
                      refine wpAnyH_ready (rs := [11]) (by kernel_rfl) (by simp) ?_
                      refine AllReadyH.cons (by simp only [List.getElem?_toArray, List.getElem?_cons_succ, List.getElem?_cons_zero]; exact rfl) (fun K hK => ?_) ?_
                      · obtain ⟨hg2, hblk2, hmts2, hlow2, f0, f1, g0, g1⟩ := HFS.out.fin (nm := nm) (by simp) hszb
                        go_simp
                        refine hK.out _ _ hlow2 (fun hHeld => ?_)
                        clear hK K
                        try simp only [Act.put, List.setIfInBounds_toArray, List.set_cons_zero, List.set_cons_succ]
                        refine wpAnyH_done (by kernel_rfl) ?_ _
                        go_wp2
                        go_meet
                        exact ⟨_, _, _, rfl, hg2, hblk2, hmts2, hlow2⟩
                      · skip
                        exact AllReadyH.nil
                    · skip
                      exact AllReadyH.nil
                  · skip
                    exact AllReadyH.nil
                · skip
                  exact AllReadyH.nil
              · skip
                exact AllReadyH.nil
          · skip
            exact AllReadyH.nil
    case rest =>
      obtain ⟨g11, A11, c11, rfl, hg11, hbl11, hM11, hb11⟩ := hcut
      have u0 := (hb11.cell (p := ⟨w.heap.size, 0, none⟩) hlA10).trans u0
      have u1 := (hb11.cell (p := ⟨w.heap.size, 1, none⟩) hlA10).trans u1
      have hlA11 := Nat.lt_of_lt_of_le hlA10 hb11.size
      have hl9 := HBL.out.lt
      have hbl9 := HBL.out.below hb11 hl9
      have hMA := HMA.out.later hb11
      have hP11 := HP10.out.later hb11
      have hMS := HM10.out.later hb11
      have hB11 := hB10.trans (hb11.mono hB10.size)
      obtain ⟨x, hx⟩ : ∃ b, Sel.fits nm (ms ++ [(mn, mv, mb)]) l = b := ⟨_, rfl⟩
      have HX := Lib.hid hx
      clear hx
      obtain ⟨y, hy⟩ : ∃ y, Sel.fits nm (ms ++ [(mn, mv, !mb)]) l = y := ⟨_, rfl⟩
      have hlaw := Sel.fits_law nm ms (mn, mv, mb) l f x y HF.out HX.out hy
      have HY := Lib.hid hy
      have hlb11 := hbl11.lt
      have hlb9 := hbl9.lt
      clear hy
      have a0 := hbl9.cell 0
      have a1 := hbl9.cell 1
      have b0 := hbl11.cell 0
      have b1 := hbl11.cell 1
      rw [show (#[.string nm, .slice A9 (ms.length + 1) c9] : Array Value)[0]? = some (.string nm) from rfl] at a0
      rw [show (#[.string nm, .slice A9 (ms.length + 1) c9] : Array Value)[1]? = some (.slice A9 (ms.length + 1) c9) from rfl] at a1
      rw [show (#[.string nm, .slice A11 (ms.length + 1) c11] : Array Value)[0]? = some (.string nm) from rfl] at b0
      rw [show (#[.string nm, .slice A11 (ms.length + 1) c11] : Array Value)[1]? = some (.slice A11 (ms.length + 1) c11) from rfl] at b1
      go_wp2_with fail
      refine (fits_is nm (by omega) A9 _ c9 _ B n2 c2 l x HX.out _ hMA hP11).mono ?_
      rintro e w12 ⟨rfl, hb12⟩
      have u0 := (hb12.cell (p := ⟨w.heap.size, 0, none⟩) hlA11).trans u0
      have u1 := (hb12.cell (p := ⟨w.heap.size, 1, none⟩) hlA11).trans u1
      have a0 := (hb12.cell (p := ⟨g9, 0, none⟩) hlb9).trans a0
      have a1 := (hb12.cell (p := ⟨g9, 1, none⟩) hlb9).trans a1
      have b0 := (hb12.cell (p := ⟨g11, 0, none⟩) hlb11).trans b0
      have b1 := (hb12.cell (p := ⟨g11, 1, none⟩) hlb11).trans b1
      go_wp2_with fail
      refine (fits_is nm (by omega) A11 _ c11 _ B n2 c2 l y HY.out w12 (hM11.later hb12) (hP11.later hb12)).mono ?_
      rintro e w13 ⟨rfl, hb13⟩
      have hb1113 := hb12.trans (hb13.mono hb12.size)
      have hlA12 := Nat.lt_of_lt_of_le hlA11 hb12.size
      have hlb912 := Nat.lt_of_lt_of_le hlb9 hb12.size
      have u0 := (hb13.cell (p := ⟨w.heap.size, 0, none⟩) hlA12).trans u0
      have u1 := (hb13.cell (p := ⟨w.heap.size, 1, none⟩) hlA12).trans u1
      have a0 := (hb13.cell (p := ⟨g9, 0, none⟩) hlb912).trans a0
      have a1 := (hb13.cell (p := ⟨g9, 1, none⟩) hlb912).trans a1
      have hlA13 := Nat.lt_of_lt_of_le hlA12 hb13.size
      have hlb913 := Nat.lt_of_lt_of_le hlb912 hb13.size
      have HMS := Lib.hid (hMS.later hb1113)
      have HMA := Lib.hid (hMA.later hb1113)
      have HP13 := Lib.hid (hP11.later hb1113)
      have hB13 := hB11.trans (hb1113.mono hB11.size)
      have hns : ¬ 9223372036854775807 < nm.size + 1 := by omega
      have hon : (nm ++ ⟨#[95]⟩ : ByteArray).size ≤ 9223372036854775807 := by
        rw [ByteArray.size_append]
        show nm.size + 1 ≤ _
        omega
      have HON := Lib.hid hon
      have U0 : ∀ o, (w13.alloc o).cell? ⟨w.heap.size, 0, none⟩ = some (.string nm) := fun o => (World.cell?_alloc_lt w13 o _ hlA13).trans u0
      have U1 : ∀ o, (w13.alloc o).cell? ⟨w.heap.size, 1, none⟩ = some (.slice A n c) := fun o => (World.cell?_alloc_lt w13 o _ hlA13).trans u1
      have A0 : ∀ o, (w13.alloc o).cell? ⟨g9, 0, none⟩ = some (.string nm) := fun o => (World.cell?_alloc_lt w13 o _ hlb913).trans a0
      have A1 : ∀ o, (w13.alloc o).cell? ⟨g9, 1, none⟩ = some (.slice A9 (ms.length + 1) c9) := fun o => (World.cell?_alloc_lt w13 o _ hlb913).trans a1
      have ha14 := (Below.refl w13.heap.size w13).alloc (Nat.le_refl _) (.cells #[.string (nm ++ ⟨#[95]⟩), .slice A n c] 24)
      have hblo := Mem.Blk.new w13 24 #[.string (nm ++ ⟨#[95]⟩), .slice A n c]
      clear hb12 hb13 hb1113 hMS hMA hP11 hM11 hbl11 hbl9 hon b0 b1
      rcases f with _ | _
      · obtain ⟨rfl, rfl⟩ := hlaw.2.1 rfl
        go_wp2
        go_ret
        exact ⟨rfl, hB13.alloc hB13.size _⟩
      · obtain ⟨hls, hss⟩ := hlaw.2.2.1 rfl
        have hl4 := hlaw.2.2.2 rfl
        have hxy := hlaw.1
        have HLS := Lib.hid hls
        have HSS := Lib.hid hss
        have HFO := Lib.hid (Sel.fits_other HF.out (Sel.name_more nm))
        obtain ⟨sa, hsa⟩ : ∃ b, Lab.selSane nm (ms ++ [(mn, mv, mb)]) = b := ⟨_, rfl⟩
        rw [hsa] at hl4
        have HSA := Lib.hid hsa
        clear hlaw hls hss hsa
        rcases x with _ | _
        · rcases y with _ | _
          · have hsf : sa = false := by
              cases sa
              · rfl
              · exact absurd (hl4 rfl rfl) (by decide)
            subst hsf
            clear hl4
            have hM14 := HMS.out.later ha14
            have hMA14 := HMA.out.later ha14
            have hP14 := HP13.out.later ha14
            have hlo : w13.heap.size < (w13.alloc (.cells #[.string (nm ++ ⟨#[95]⟩), .slice A n c] 24)).heap.size := by simp
            have hB14 := hB13.trans (ha14.mono hB13.size)
            have u0 := U0 (.cells #[.string (nm ++ ⟨#[95]⟩), .slice A n c] 24)
            have u1 := U1 (.cells #[.string (nm ++ ⟨#[95]⟩), .slice A n c] 24)
            have a0 := A0 (.cells #[.string (nm ++ ⟨#[95]⟩), .slice A n c] 24)
            have a1 := A1 (.cells #[.string (nm ++ ⟨#[95]⟩), .slice A n c] 24)
            have o0 := hblo.cell 0
            have o1 := hblo.cell 1
            rw [show (#[.string (nm ++ ⟨#[95]⟩), .slice A n c] : Array Value)[0]? = some (.string (nm ++ ⟨#[95]⟩)) from rfl] at o0
            rw [show (#[.string (nm ++ ⟨#[95]⟩), .slice A n c] : Array Value)[1]? = some (.slice A n c) from rfl] at o1
            have hlA14 : w.heap.size < (w13.alloc (.cells #[.string (nm ++ ⟨#[95]⟩), .slice A n c] 24)).heap.size := by omega
            have hlb914 : g9 < (w13.alloc (.cells #[.string (nm ++ ⟨#[95]⟩), .slice A n c] 24)).heap.size := by omega
            go_wp2_with fail
            generalize w13.alloc (.cells #[.string (nm ++ ⟨#[95]⟩), .slice A n c] 24) = w14 at hM14 hMA14 hP14 hlo hB14 u0 u1 a0 a1 o0 o1 hlA14 hlb914 ⊢
            generalize (nm ++ ⟨#[95]⟩ : ByteArray) = nu at HON HFO o0 ⊢
            have hx := labSane_any B n2 c2 l w14 hP14
            rw [HLS.out] at hx
            refine hx.mono ?_
            rintro e w15 ⟨rfl, hb15⟩
            have u0 := (hb15.cell (p := ⟨w.heap.size, 0, none⟩) hlA14).trans u0
            have u1 := (hb15.cell (p := ⟨w.heap.size, 1, none⟩) hlA14).trans u1
            have a0 := (hb15.cell (p := ⟨g9, 0, none⟩) hlb914).trans a0
            have a1 := (hb15.cell (p := ⟨g9, 1, none⟩) hlb914).trans a1
            have o0 := (hb15.cell (p := ⟨w13.heap.size, 0, none⟩) hlo).trans o0
            have o1 := (hb15.cell (p := ⟨w13.heap.size, 1, none⟩) hlo).trans o1
            have hlb915 := Nat.lt_of_lt_of_le hlb914 hb15.size
            have hlo15 := Nat.lt_of_lt_of_le hlo hb15.size
            go_wp2_with fail
            refine (selSane_is nm A n c ms true HSS.out w15 (hM14.later hb15)).mono ?_
            rintro e w16 ⟨rfl, hb16⟩
            have a0 := (hb16.cell (p := ⟨g9, 0, none⟩) hlb915).trans a0
            have a1 := (hb16.cell (p := ⟨g9, 1, none⟩) hlb915).trans a1
            have o0 := (hb16.cell (p := ⟨w13.heap.size, 0, none⟩) hlo15).trans o0
            have o1 := (hb16.cell (p := ⟨w13.heap.size, 1, none⟩) hlo15).trans o1
            have hlb916 := Nat.lt_of_lt_of_le hlb915 hb16.size
            have hb1416 := hb15.trans (hb16.mono hb15.size)
            go_wp2_with fail
            refine (fits_is nu HON.out A n c ms B n2 c2 l false HFO.out w16 (hM14.later hb1416) (hP14.later hb1416)).mono ?_
            rintro e w17 ⟨rfl, hb17⟩
            have a0 := (hb17.cell (p := ⟨g9, 0, none⟩) hlb916).trans a0
            have a1 := (hb17.cell (p := ⟨g9, 1, none⟩) hlb916).trans a1
            have hb1417 := hb1416.trans (hb17.mono hb1416.size)
            have hB17 := hB14.trans (hb1417.mono hB14.size)
            go_wp2_with fail
            refine (selSane_is nm A9 _ c9 _ false HSA.out w17 (hMA14.later hb1417)).mono ?_
            rintro e w18 ⟨rfl, hb18⟩
            have hB18 := hB17.trans (hb18.mono hB17.size)
            go_wp2
            go_ret
            exact ⟨rfl, hB18⟩
          · clear hl4
            rcases sa with _ | _
            all_goals
              have hM14 := HMS.out.later ha14
              have hMA14 := HMA.out.later ha14
              have hP14 := HP13.out.later ha14
              have hlo : w13.heap.size < (w13.alloc (.cells #[.string (nm ++ ⟨#[95]⟩), .slice A n c] 24)).heap.size := by simp
              have hB14 := hB13.trans (ha14.mono hB13.size)
              have u0 := U0 (.cells #[.string (nm ++ ⟨#[95]⟩), .slice A n c] 24)
              have u1 := U1 (.cells #[.string (nm ++ ⟨#[95]⟩), .slice A n c] 24)
              have a0 := A0 (.cells #[.string (nm ++ ⟨#[95]⟩), .slice A n c] 24)
              have a1 := A1 (.cells #[.string (nm ++ ⟨#[95]⟩), .slice A n c] 24)
              have o0 := hblo.cell 0
              have o1 := hblo.cell 1
              rw [show (#[.string (nm ++ ⟨#[95]⟩), .slice A n c] : Array Value)[0]? = some (.string (nm ++ ⟨#[95]⟩)) from rfl] at o0
              rw [show (#[.string (nm ++ ⟨#[95]⟩), .slice A n c] : Array Value)[1]? = some (.slice A n c) from rfl] at o1
              have hlA14 : w.heap.size < (w13.alloc (.cells #[.string (nm ++ ⟨#[95]⟩), .slice A n c] 24)).heap.size := by omega
              have hlb914 : g9 < (w13.alloc (.cells #[.string (nm ++ ⟨#[95]⟩), .slice A n c] 24)).heap.size := by omega
              go_wp2_with fail
              generalize w13.alloc (.cells #[.string (nm ++ ⟨#[95]⟩), .slice A n c] 24) = w14 at hM14 hMA14 hP14 hlo hB14 u0 u1 a0 a1 o0 o1 hlA14 hlb914 ⊢
              generalize (nm ++ ⟨#[95]⟩ : ByteArray) = nu at HON HFO o0 ⊢
              have hx := labSane_any B n2 c2 l w14 hP14
              rw [HLS.out] at hx
              refine hx.mono ?_
              rintro e w15 ⟨rfl, hb15⟩
              have u0 := (hb15.cell (p := ⟨w.heap.size, 0, none⟩) hlA14).trans u0
              have u1 := (hb15.cell (p := ⟨w.heap.size, 1, none⟩) hlA14).trans u1
              have a0 := (hb15.cell (p := ⟨g9, 0, none⟩) hlb914).trans a0
              have a1 := (hb15.cell (p := ⟨g9, 1, none⟩) hlb914).trans a1
              have o0 := (hb15.cell (p := ⟨w13.heap.size, 0, none⟩) hlo).trans o0
              have o1 := (hb15.cell (p := ⟨w13.heap.size, 1, none⟩) hlo).trans o1
              have hlb915 := Nat.lt_of_lt_of_le hlb914 hb15.size
              have hlo15 := Nat.lt_of_lt_of_le hlo hb15.size
              go_wp2_with fail
              refine (selSane_is nm A n c ms true HSS.out w15 (hM14.later hb15)).mono ?_
              rintro e w16 ⟨rfl, hb16⟩
              have a0 := (hb16.cell (p := ⟨g9, 0, none⟩) hlb915).trans a0
              have a1 := (hb16.cell (p := ⟨g9, 1, none⟩) hlb915).trans a1
              have o0 := (hb16.cell (p := ⟨w13.heap.size, 0, none⟩) hlo15).trans o0
              have o1 := (hb16.cell (p := ⟨w13.heap.size, 1, none⟩) hlo15).trans o1
              have hlb916 := Nat.lt_of_lt_of_le hlb915 hb16.size
              have hb1416 := hb15.trans (hb16.mono hb15.size)
              go_wp2_with fail
              refine (fits_is nu HON.out A n c ms B n2 c2 l false HFO.out w16 (hM14.later hb1416) (hP14.later hb1416)).mono ?_
              rintro e w17 ⟨rfl, hb17⟩
              have a0 := (hb17.cell (p := ⟨g9, 0, none⟩) hlb916).trans a0
              have a1 := (hb17.cell (p := ⟨g9, 1, none⟩) hlb916).trans a1
              have hb1417 := hb1416.trans (hb17.mono hb1416.size)
              have hB17 := hB14.trans (hb1417.mono hB14.size)
              go_wp2_with fail
              refine (selSane_is nm A9 _ c9 _ _ HSA.out w17 (hMA14.later hb1417)).mono ?_
              rintro e w18 ⟨rfl, hb18⟩
              have hB18 := hB17.trans (hb18.mono hB17.size)
              go_wp2
              go_ret
              exact ⟨rfl, hB18⟩
        · rcases y with _ | _
          · clear hl4
            rcases sa with _ | _
            all_goals
              have hM14 := HMS.out.later ha14
              have hMA14 := HMA.out.later ha14
              have hP14 := HP13.out.later ha14
              have hlo : w13.heap.size < (w13.alloc (.cells #[.string (nm ++ ⟨#[95]⟩), .slice A n c] 24)).heap.size := by simp
              have hB14 := hB13.trans (ha14.mono hB13.size)
              have u0 := U0 (.cells #[.string (nm ++ ⟨#[95]⟩), .slice A n c] 24)
              have u1 := U1 (.cells #[.string (nm ++ ⟨#[95]⟩), .slice A n c] 24)
              have a0 := A0 (.cells #[.string (nm ++ ⟨#[95]⟩), .slice A n c] 24)
              have a1 := A1 (.cells #[.string (nm ++ ⟨#[95]⟩), .slice A n c] 24)
              have o0 := hblo.cell 0
              have o1 := hblo.cell 1
              rw [show (#[.string (nm ++ ⟨#[95]⟩), .slice A n c] : Array Value)[0]? = some (.string (nm ++ ⟨#[95]⟩)) from rfl] at o0
              rw [show (#[.string (nm ++ ⟨#[95]⟩), .slice A n c] : Array Value)[1]? = some (.slice A n c) from rfl] at o1
              have hlA14 : w.heap.size < (w13.alloc (.cells #[.string (nm ++ ⟨#[95]⟩), .slice A n c] 24)).heap.size := by omega
              have hlb914 : g9 < (w13.alloc (.cells #[.string (nm ++ ⟨#[95]⟩), .slice A n c] 24)).heap.size := by omega
              go_wp2_with fail
              generalize w13.alloc (.cells #[.string (nm ++ ⟨#[95]⟩), .slice A n c] 24) = w14 at hM14 hMA14 hP14 hlo hB14 u0 u1 a0 a1 o0 o1 hlA14 hlb914 ⊢
              generalize (nm ++ ⟨#[95]⟩ : ByteArray) = nu at HON HFO o0 ⊢
              have hx := labSane_any B n2 c2 l w14 hP14
              rw [HLS.out] at hx
              refine hx.mono ?_
              rintro e w15 ⟨rfl, hb15⟩
              have u0 := (hb15.cell (p := ⟨w.heap.size, 0, none⟩) hlA14).trans u0
              have u1 := (hb15.cell (p := ⟨w.heap.size, 1, none⟩) hlA14).trans u1
              have a0 := (hb15.cell (p := ⟨g9, 0, none⟩) hlb914).trans a0
              have a1 := (hb15.cell (p := ⟨g9, 1, none⟩) hlb914).trans a1
              have o0 := (hb15.cell (p := ⟨w13.heap.size, 0, none⟩) hlo).trans o0
              have o1 := (hb15.cell (p := ⟨w13.heap.size, 1, none⟩) hlo).trans o1
              have hlb915 := Nat.lt_of_lt_of_le hlb914 hb15.size
              have hlo15 := Nat.lt_of_lt_of_le hlo hb15.size
              go_wp2_with fail
              refine (selSane_is nm A n c ms true HSS.out w15 (hM14.later hb15)).mono ?_
              rintro e w16 ⟨rfl, hb16⟩
              have a0 := (hb16.cell (p := ⟨g9, 0, none⟩) hlb915).trans a0
              have a1 := (hb16.cell (p := ⟨g9, 1, none⟩) hlb915).trans a1
              have o0 := (hb16.cell (p := ⟨w13.heap.size, 0, none⟩) hlo15).trans o0
              have o1 := (hb16.cell (p := ⟨w13.heap.size, 1, none⟩) hlo15).trans o1
              have hlb916 := Nat.lt_of_lt_of_le hlb915 hb16.size
              have hb1416 := hb15.trans (hb16.mono hb15.size)
              go_wp2_with fail
              refine (fits_is nu HON.out A n c ms B n2 c2 l false HFO.out w16 (hM14.later hb1416) (hP14.later hb1416)).mono ?_
              rintro e w17 ⟨rfl, hb17⟩
              have a0 := (hb17.cell (p := ⟨g9, 0, none⟩) hlb916).trans a0
              have a1 := (hb17.cell (p := ⟨g9, 1, none⟩) hlb916).trans a1
              have hb1417 := hb1416.trans (hb17.mono hb1416.size)
              have hB17 := hB14.trans (hb1417.mono hB14.size)
              go_wp2_with fail
              refine (selSane_is nm A9 _ c9 _ _ HSA.out w17 (hMA14.later hb1417)).mono ?_
              rintro e w18 ⟨rfl, hb18⟩
              have hB18 := hB17.trans (hb18.mono hB17.size)
              go_wp2
              go_ret
              exact ⟨rfl, hB18⟩
          · exact absurd hxy (by decide)
end Go.Proofs.Ytbdochcajpempaa
