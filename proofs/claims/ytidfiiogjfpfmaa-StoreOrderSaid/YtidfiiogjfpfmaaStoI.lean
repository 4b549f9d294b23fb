/- The walk of slices.Insert at series where there is no room; all its roads in one. -/
import Derived.Test.YtidfiiogjfpfmaaStoH
import Derived.Lib.AppendZerosOnto
namespace Go.Proofs.Ytidfiiogjfpfmaa
open Go.RowKit
set_option linter.unusedSimpArgs false
set_option linter.unusedVariables false

theorem ins_list2 {R cells : List Value} {n i G : Nat} {x y : Value} (hR : R.take (i * 2) = cells.take (i * 2)) (hL : R.length = G * 2) (hc : cells.length = n * 2) (hn : n + 1 ≤ G) (hi : i < n) :
    (((R.take (i * 2) ++ [x, y] ++ R.drop (i * 2 + [x, y].length)).toArray.toList.take ((i + 1) * 2) ++ cells.drop (i * 2) ++ (R.take (i * 2) ++ [x, y] ++ R.drop (i * 2 + [x, y].length)).toArray.toList.drop ((i + 1) * 2 + (cells.drop (i * 2)).length)).toArray.toList).take ((n + 1) * 2) = insC cells i x y := by
  obtain ⟨S, hS⟩ : ∃ S, S = R.drop (i * 2 + [x, y].length) := ⟨_, rfl⟩
  rw [← hS]
  simp only [List.toList_toArray]
  have h1 : (R.take (i * 2) ++ [x, y] ++ S).take ((i + 1) * 2) = R.take (i * 2) ++ [x, y] := by
    rw [List.take_append_of_le_length (by simp only [List.length_append, List.length_take, List.length_cons, List.length_nil]; omega), List.take_of_length_le (by simp only [List.length_append, List.length_take, List.length_cons, List.length_nil]; omega)]
  rw [h1, hR]
  unfold insC
  rw [List.take_append_of_le_length (by simp only [List.length_append, List.length_take, List.length_drop, List.length_cons, List.length_nil, hc]; omega), List.take_of_length_le (by simp only [List.length_append, List.length_take, List.length_drop, List.length_cons, List.length_nil, hc]; omega)]

set_option maxRecDepth 100000 in
set_option maxHeartbeats 8000000 in
theorem ins_grow (base g n i : Nat) (cur : Array Value) (cells : List Value) (vb : Nat) (x y : Value) (w : World) (hbw : base ≤ w.heap.size) (hg : w.heap[g]? = some (.cells cur 50 (0, 0))) (hcur : cur.size = n * 2) (hcl : cur.toList.take (n * 2) = cells) (hi : i < n)
    (hvb : Mem.Blk w vb 50 #[x, y]) (hx : x.oneCell' = true) (hy : y.oneCell' = true) (h1 : ∀ u ∈ cells, u.oneCell' = true) (hn : n ≤ 31) :
    Calls Try.prog 28 #[.slice (some ⟨g, 0, none⟩) n n, .int .i64 (i : Nat), .slice (some ⟨vb, 0, none⟩) 1 1] w fun e w' => ∃ v', e = .returned v' ∧ w'.ownsRow base 50 2 v' (n + 1) (insC cells i x y) ∧ Below base w w' := by
  have hne : ((i : Int) == (n : Int)) = false := by rw [beq_eq_false_iff_ne]; omega
  obtain ⟨i0, hi0, hz0, hz1, hz2⟩ := info_parts serInfo
  have hsz2 : (Try.prog.info? 50).map (·.size) = some 2 := by rw [hi0]; simp [hz1]
  have hlen : cells.length = n * 2 := by rw [← hcl, List.length_take, Array.length_toList]; omega
  have hdl : (cells.drop (i * 2)).length = 2 * (n - i) := by rw [List.length_drop, hlen]; omega
  have hgl := (Array.getElem?_eq_some_iff.1 hg).1
  have hcell : ∀ j v, cells[j]? = some v → w.cell? ⟨g, j, none⟩ = some v := fun j v hj => by
    rw [Lib.cell_of_heap hg]
    rw [← hcl, List.getElem?_take] at hj
    split at hj
    · rw [← hj, Array.getElem?_toList]
    · cases hj
  have hold : (Builtin.firstCells i0.size i (.slice (some ⟨g, 0, none⟩) i n)).run Try.prog w.drew = .ok (cells.take (i * 2)).toArray w.drew := by
    rw [hz1]
    exact run_firstCells_some w.drew 2 i ⟨g, 0, none⟩ i n (cells.take (i * 2)) (by rw [List.length_take]; omega) (fun j v hj => by
      rw [show (⟨g, 0, none⟩ : Addr).add j = ⟨g, j, none⟩ by simp [Addr.add]; exact fun h => h.symm]
      rw [List.getElem?_take] at hj
      split at hj
      · exact hcell j v hj
      · cases hj)
  obtain ⟨G, hG⟩ : ∃ G, G = grownCap w (n + 1) n 50 := ⟨_, rfl⟩
  have hGn : n + 1 ≤ G := by rw [hG]; exact grownCap_ge w _ _ _
  have hG63 : G ≤ maxLen := by rw [hG]; exact grownCap_le_maxLen w _ _ _ (by unfold maxLen; omega)
  obtain ⟨ROW, hROW⟩ : ∃ ROW : Array Value, ROW = (cells.take (i * 2)).toArray ++ Builtin.zeroCells (Value.agg #[.slice none 0 0, .slice none 0 0]).cells (n + 1 - i) ++ Builtin.zeroCells (Value.agg #[.slice none 0 0, .slice none 0 0]).cells (G - (n + 1)) := ⟨_, rfl⟩
  have hRs : ROW.size = G * 2 := by
    rw [hROW]
    simp [Builtin.zeroCells, Value.cells, hlen]
    omega
  have hRt : ROW.toList.take (i * 2) = cells.take (i * 2) := by
    rw [hROW]
    simp only [Array.toList_append, List.append_assoc]
    rw [List.take_append_of_le_length (by simp [hlen]; omega)]
    simp [List.take_take]
  have hrz : ∀ ty, (Builtin.append_ #[22, 3] ty #[.slice (some ⟨g, 0, none⟩) i n, .int .i64 ((n : Int) + 1 - (i : Int))]).run Try.prog w = .ok (.slice (some ⟨w.heap.size, 0, none⟩) (n + 1) G) (w.drew.alloc (.cells ROW 50)) := fun ty => by
    have hik : i + (n + 1 - i) = n + 1 := by omega
    have h := Lib.run_append_grow_zeros w 22 3 ty 50 i0 _ .i64 .i64 Try.underlying22 Try.underlying3 hi0 hz0 (some ⟨g, 0, none⟩) i n (cells.take (i * 2)) hold (n + 1 - i) (by omega) (by omega) (by omega) (by omega) (by rw [hz2]; omega) (by rw [hz2, hik]; exact growslice_fits (by omega) (by omega))
    rw [hik, ← hG, ← hROW] at h
    rw [show (n : Int) + 1 - (i : Int) = ((n + 1 - i : Nat) : Int) by omega]
    exact h
  obtain ⟨c1, hc1⟩ : ∃ c : Array Value, c = (ROW.toList.take (i * 2) ++ [x, y] ++ ROW.toList.drop (i * 2 + [x, y].length)).toArray := ⟨_, rfl⟩
  have hc1s : c1.size = G * 2 := by rw [hc1]; simp only [List.size_toArray, List.length_append, List.length_take, List.length_drop, Array.length_toList, hRs, List.length_cons, List.length_nil]; omega
  obtain ⟨c2, hc2⟩ : ∃ c : Array Value, c = (c1.toList.take ((i + 1) * 2) ++ cells.drop (i * 2) ++ c1.toList.drop ((i + 1) * 2 + (cells.drop (i * 2)).length)).toArray := ⟨_, rfl⟩
  have hc2s : c2.size = G * 2 := by rw [hc2]; simp only [List.size_toArray, List.length_append, List.length_take, List.length_drop, Array.length_toList, hc1s, hlen]; omega
  have hn1 : ((w.alloc (.cells ROW 50)).drew).heap[w.heap.size]? = some (.cells ROW 50 (0, 0)) := heap_alloc_new w _
  have hv1 : ((w.alloc (.cells ROW 50)).drew).heap[vb]? = some (.cells #[x, y] 50 (0, 0)) := Mem.Blk.alloc hvb _
  have hcpA : ∀ ty, (Builtin.copy_ #[22, 22] ty #[.slice (some ⟨w.heap.size, i * 2, none⟩) (n + 1 - i) (G - i), .slice (some ⟨vb, 0, none⟩) 1 1]).run Try.prog ((w.alloc (.cells ROW 50)).drew) = .ok (goInt ((1 : Nat) : Int)) (((w.alloc (.cells ROW 50)).drew).setRow w.heap.size c1) := fun ty => by
    rw [hc1]
    exact run_copy_rowK 2 _ _ _ ty 50 w.heap.size (i * 2) (n + 1 - i) (G - i) ⟨vb, 0, none⟩ 1 1 1 ROW 50 [x, y] Try.underlying22 hsz2 hn1 (by simp only [Nat.min_def]; split <;> omega) rfl
      (fun j v hj => by
        rw [show (⟨vb, 0, none⟩ : Addr).add j = ⟨vb, j, none⟩ by simp [Addr.add]; exact fun h => h.symm, Lib.cell_of_heap hv1]
        simpa using hj)
      (by simp only [List.length_cons, List.length_nil, hRs]; omega) (fun v hv => by
        simp only [List.mem_cons, List.not_mem_nil, or_false] at hv
        rcases hv with rfl | rfl <;> assumption)
  have hn2 : ((((w.alloc (.cells ROW 50)).drew).setRow w.heap.size c1).drew).heap[w.heap.size]? = some (.cells c1 50 (0, 0)) := setRow_heap _ w.heap.size ROW c1 _ _ hn1
  have hg2 : ((((w.alloc (.cells ROW 50)).drew).setRow w.heap.size c1).drew).heap[g]? = some (.cells cur 50 (0, 0)) := (setRow_ne _ c1 (by omega)).trans ((Below.heap_alloc w _ g hgl).trans hg)
  have hcpB : ∀ ty, (Builtin.copy_ #[22, 22] ty #[.slice (some ⟨w.heap.size, (i + 1) * 2, none⟩) (n - i) (G - (i + 1)), .slice (some ⟨g, i * 2, none⟩) (n - i) (n - i)]).run Try.prog ((((w.alloc (.cells ROW 50)).drew).setRow w.heap.size c1).drew) = .ok (goInt ((n - i : Nat) : Int)) (((((w.alloc (.cells ROW 50)).drew).setRow w.heap.size c1).drew).setRow w.heap.size c2) := fun ty => by
    rw [hc2]
    exact run_copy_rowK 2 _ _ _ ty 50 w.heap.size ((i + 1) * 2) (n - i) (G - (i + 1)) ⟨g, i * 2, none⟩ (n - i) (n - i) (n - i) c1 50 (cells.drop (i * 2)) Try.underlying22 hsz2 hn2 (by simp only [Nat.min_def]; split <;> omega) hdl
      (fun j v hj => by
        rw [show (⟨g, i * 2, none⟩ : Addr).add j = ⟨g, i * 2 + j, none⟩ by simp [Addr.add], Lib.cell_of_heap hg2]
        rw [List.getElem?_drop, ← hcl, List.getElem?_take] at hj
        split at hj
        · rw [← hj, Array.getElem?_toList]
        · cases hj)
      (by rw [hdl, hc1s]; omega) (fun v hv => h1 v (List.mem_of_mem_drop hv))
  have HOWN2 := Lib.hid (show (((((w.alloc (.cells ROW 50)).drew).setRow w.heap.size c1).drew).setRow w.heap.size c2).ownsRow base 50 2 (.slice (some ⟨w.heap.size, 0, none⟩) (n + 1) G) (n + 1) (insC cells i x y) from by
    refine ⟨by unfold insC; simp only [List.length_append, List.length_take, List.length_drop, List.length_cons, List.length_nil, hlen]; omega, .inr ⟨w.heap.size, G, c2, rfl, hbw, setRow_heap _ w.heap.size c1 c2 _ _ hn2, hGn, hG63, hc2s, ?_⟩⟩
    rw [hc2, hc1]
    exact ins_list2 hRt (by rw [Array.length_toList]; exact hRs) hlen hGn hi)
  have HB := Lib.hid (show Below base w (((((w.alloc (.cells ROW 50)).drew).setRow w.heap.size c1).drew).setRow w.heap.size c2) from below_setRow (below_setRow (((Below.refl base w).alloc hbw _).drew) hbw).drew hbw)
  have hw1 : IntKind.i64.wrap ((i : Int) + 1) = (i : Int) + 1 := IntWalk.i64_in _ (by omega)
  have hb1 : (0 : Int) ≤ (i : Int) + 1 := by omega
  have hb2 : i ≤ n := by omega
  have hb3 : (i : Int) ≤ (n : Int) + 1 := by omega
  have hb4 : ¬ G = i + 1 := by omega
  have hb5 : ¬ G = i := by omega
  have hb6 : ¬ n = i := by omega
  have hb7 : (i : Int) ≤ (n : Int) := by omega
  have hGi : G ≤ 9223372036854775807 := by unfold maxLen at hG63; omega
  clear hG hROW hRs hRt hc1 hc1s hc2 hc2s hn1 hv1 hn2 hg2 hold hcell hlen hdl hsz2 hG63
  go_enter Try.func28, Try.ntmps28
  go_wp2_with (first
    | (at_builtin; refine Lib.wpList_append_run _ rfl _ _ _ _ rfl _ _ rfl rfl _ _ (hrz _) ?_)
    | (at_builtin; refine wpList_copy_runI _ rfl _ _ 22 22 rfl _ _ rfl rfl (hcpA _) ?_))
  refine wp_region_held_drew (S := fun W' => Below base w W') (by kernel_rfl) (below_setRow (((Below.refl base w).alloc hbw _).drew) hbw).drew (fun hHeld => ?_)
  refine wpAnyH_take (i := 0) (v := ?_) (by simp only [List.getElem?_toArray, List.getElem?_cons_succ, List.getElem?_cons_zero]; exact rfl) (by kernel_rfl) (by kernel_rfl) (by kernel_rfl) (by exact fun _ _ _ h => h) (Or.inl ⟨by rfl, ?_⟩) hHeld ?_
  rotate_left
  · intro wq hSw; go_simp; all_goals (with_reducible rfl)
  try simp only [Act.put, List.setIfInBounds_toArray, List.set_cons_zero, List.set_cons_succ]
  refine wpAnyH_take (i := 1) (v := ?_) (by simp only [List.getElem?_toArray, List.getElem?_cons_succ, List.getElem?_cons_zero]; exact rfl) (by kernel_rfl) (by kernel_rfl) (by kernel_rfl) (by exact fun _ _ _ h => h) (Or.inl ⟨by rfl, ?_⟩) hHeld ?_
  rotate_left
  · intro wq hSw; go_simp; all_goals (with_reducible rfl)
  try simp only [Act.put, List.setIfInBounds_toArray, List.set_cons_zero, List.set_cons_succ]
  refine wpAnyH_take (i := 2) (v := ?_) (by simp only [List.getElem?_toArray, List.getElem?_cons_succ, List.getElem?_cons_zero]; exact rfl) (by kernel_rfl) (by kernel_rfl) (by kernel_rfl) (by exact fun _ _ _ h => h) (Or.inl ⟨by rfl, ?_⟩) hHeld ?_
  rotate_left
  · intro wq hSw; go_simp; all_goals (with_reducible rfl)
  try simp only [Act.put, List.setIfInBounds_toArray, List.set_cons_zero, List.set_cons_succ]
  refine wpAnyH_take (i := 3) (v := ?_) (by simp only [List.getElem?_toArray, List.getElem?_cons_succ, List.getElem?_cons_zero]; exact rfl) (by kernel_rfl) (by kernel_rfl) (by kernel_rfl) (by exact fun _ _ _ h => h) (Or.inl ⟨by rfl, ?_⟩) hHeld ?_
  rotate_left
  · intro wq hSw; go_simp; all_goals (with_reducible rfl)
  try simp only [Act.put, List.setIfInBounds_toArray, List.set_cons_zero, List.set_cons_succ]
  refine wpAnyH_take (i := 4) (v := ?_) (by simp only [List.getElem?_toArray, List.getElem?_cons_succ, List.getElem?_cons_zero]; exact rfl) (by kernel_rfl) (by kernel_rfl) (by kernel_rfl) (by exact fun _ _ _ h => h) (Or.inl ⟨by rfl, ?_⟩) hHeld ?_
  rotate_left
  · intro wq hSw; go_simp; all_goals (with_reducible rfl)
  try simp only [Act.put, List.setIfInBounds_toArray, List.set_cons_zero, List.set_cons_succ]
  refine wpAnyH_take (i := 5) (v := ?_) (by simp only [List.getElem?_toArray, List.getElem?_cons_succ, List.getElem?_cons_zero]; exact rfl) (by kernel_rfl) (by kernel_rfl) (by kernel_rfl) (by exact fun _ _ _ h => h) (Or.inl ⟨by rfl, ?_⟩) hHeld ?_
  rotate_left
  · intro wq hSw; go_simp; all_goals (with_reducible rfl)
  try simp only [Act.put, List.setIfInBounds_toArray, List.set_cons_zero, List.set_cons_succ]
  refine wpAnyH_take (i := 6) (v := ?_) (by simp only [List.getElem?_toArray, List.getElem?_cons_succ, List.getElem?_cons_zero]; exact rfl) (by kernel_rfl) (by kernel_rfl) (by kernel_rfl) (by exact fun _ _ _ h => h) (Or.inl ⟨by rfl, ?_⟩) hHeld ?_
  rotate_left
  · intro wq hSw; go_simp; all_goals (with_reducible rfl)
  try simp only [Act.put, List.setIfInBounds_toArray, List.set_cons_zero, List.set_cons_succ]
  refine wpAnyH_take (i := 7) (v := ?_) (by simp only [List.getElem?_toArray, List.getElem?_cons_succ, List.getElem?_cons_zero]; exact rfl) (by kernel_rfl) (by kernel_rfl) (by kernel_rfl) (by exact fun _ _ _ h => h) (Or.inl ⟨by rfl, ?_⟩) hHeld ?_
  rotate_left
  · intro wq hSw; go_simp; all_goals (with_reducible rfl)
  try simp only [Act.put, List.setIfInBounds_toArray, List.set_cons_zero, List.set_cons_succ]
  refine wpAnyH_ready (rs := [8]) (by kernel_rfl) (by simp) ?_
  refine AllReadyH.cons (by simp only [List.getElem?_toArray, List.getElem?_cons_succ, List.getElem?_cons_zero]; exact rfl) (fun K hK => ?_) ?_
  · refine step_copy_runI rfl _ _ 22 22 rfl _ _ (by simp [Act.eval, Act.put]) (by simp [Act.eval, Act.put]) (hcpB _) ?_
    refine hK.out _ _ HB.out (fun hHeld => ?_)
    clear hK K
    try simp only [Act.put, List.setIfInBounds_toArray, List.set_cons_zero, List.set_cons_succ]
    refine wpAnyH_done (by kernel_rfl) ?_ _
    go_wp2
    go_ret
    exact ⟨_, rfl, HOWN2.out, HB.out⟩
  · exact AllReadyH.nil
/-- ONE MORE into a row of the call's own, at a place -/
theorem insS_any (base : Nat) (v : Value) (n i : Nat) (cells : List Value) (vb : Nat) (x y : Value) (w : World) (hbase : base ≤ w.heap.size) (hown : w.ownsRow base 50 2 v n cells) (hvb : Mem.Blk w vb 50 #[x, y]) (hvne : v.ownBlock ≠ some vb) (hx : x.oneCell' = true) (hy : y.oneCell' = true) (h1 : ∀ u ∈ cells, u.oneCell' = true) (hi : i ≤ n) (hn : n ≤ 31) :
    Calls Try.prog 28 #[v, .int .i64 (i : Nat), .slice (some ⟨vb, 0, none⟩) 1 1] w fun e w' => ∃ v', e = .returned v' ∧ w'.ownsRow base 50 2 v' (n + 1) (insC cells i x y) ∧ Below base w w' := by
  have hlen := hown.1
  by_cases hin : i = n
  · subst hin
    have he : insC cells i x y = cells ++ [x, y] := by unfold insC; rw [List.take_of_length_le (by omega), List.drop_eq_nil_of_le (by omega), List.append_nil]
    rw [he]
    refine ins_end base v i ?_ cells vb x y w hbase hown hvb hx hy hn
    rcases hown.2 with ⟨h, _⟩ | ⟨g, cap, cur, h, _, _, h2, h3, _⟩
    · exact .inl h
    · exact .inr ⟨g, cap, h, h2, by unfold maxLen at h3; omega⟩
  · rcases hown.2 with ⟨h, h0⟩ | ⟨g, cap, cur, rfl, hbg, hg, h2, h3, hcs, hct⟩
    · omega
    · by_cases hroom : n + 1 ≤ cap
      · exact ins_shift base g n cap i cur cells vb x y w hbg hg hcs hct hroom (by unfold maxLen at h3; omega) (by omega) hvb (fun e => hvne (by rw [e]; rfl)) hx hy h1 hn
      · obtain rfl : cap = n := by omega
        exact ins_grow base g cap i cur cells vb x y w hbase hg hcs hct (by omega) hvb hx hy h1 hn
end Go.Proofs.Ytidfiiogjfpfmaa
