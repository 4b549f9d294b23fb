/- The walk of slices.Insert at series: one more into a row of the call's own. -/
import Derived.Test.YtidfiiogjfpfmaaStoG
import Derived.Shelf.Spec.SlicesInsert
namespace Go.Proofs.Ytidfiiogjfpfmaa
open Go.RowKit
set_option linter.unusedSimpArgs false
set_option linter.unusedVariables false

/-- the row with one more -/
def insC (cells : List Value) (i : Nat) (x y : Value) : List Value := cells.take (i * 2) ++ [x, y] ++ cells.drop (i * 2)

theorem sizeOf_se (w : World) : (Go.sizeOf 50).run Try.prog w = .ok 2 w := by
  obtain ⟨i0, hi0, hz0, hz1, hz2⟩ := info_parts serInfo
  simp [sizeOf, typeInfo, hi0, hz1]
theorem shape_blk {w : World} {g : Nat} {cs : Array Value} {t : TypeId} {fr : Nat × Nat} (h : w.heap[g]? = some (.cells cs t fr)) : w.shape? g = some (t, cs.size) := by
  unfold World.shape?
  rw [h]
theorem setRow_ne (w : World) {g k : Nat} (cs : Array Value) (h : k ≠ g) : (w.setRow g cs).heap[k]? = w.heap[k]? := by
  unfold World.setRow
  simp [Array.getElem?_modify, Ne.symm h]
theorem below_setRow {B g : Nat} {w W : World} {cs : Array Value} (h : Below B w W) (hg : B ≤ g) : Below B w (W.setRow g cs) :=
  ⟨h.os, h.tape, h.output, by unfold World.setRow; simp; exact h.size, fun k hk => (setRow_ne W cs (by omega)).trans (h.block k hk)⟩
theorem ins_list {L cells : List Value} {n i cap : Nat} {x y : Value} (hc : L.take (n * 2) = cells) (hL : L.length = cap * 2) (hn : n + 1 ≤ cap) (hi : i < n) :
    ((((L.take ((i + 1) * 2) ++ cells.drop (i * 2) ++ L.drop ((i + 1) * 2 + (cells.drop (i * 2)).length)).toArray.toList.take (i * 2) ++ [x, y] ++ (L.take ((i + 1) * 2) ++ cells.drop (i * 2) ++ L.drop ((i + 1) * 2 + (cells.drop (i * 2)).length)).toArray.toList.drop (i * 2 + [x, y].length)).toArray).toList).take ((n + 1) * 2) = insC cells i x y := by
  have hlen : cells.length = n * 2 := by rw [← hc, List.length_take]; omega
  obtain ⟨R, hR⟩ : ∃ R, R = L.drop ((i + 1) * 2 + (cells.drop (i * 2)).length) := ⟨_, rfl⟩
  rw [← hR]
  have h1 : (L.take ((i + 1) * 2) ++ cells.drop (i * 2) ++ R).take (i * 2) = cells.take (i * 2) := by
    rw [List.append_assoc, List.take_append_of_le_length (by rw [List.length_take]; omega), List.take_take, ← hc, List.take_take]
    congr 1
    omega
  have h2 : (L.take ((i + 1) * 2) ++ cells.drop (i * 2) ++ R).drop (i * 2 + 2) = cells.drop (i * 2) ++ R := by
    rw [List.append_assoc, List.drop_append, List.drop_eq_nil_of_le (by rw [List.length_take]; omega), List.nil_append, List.length_take]
    rw [show i * 2 + 2 - min ((i + 1) * 2) L.length = 0 by omega, List.drop_zero]
  simp only [List.toList_toArray, List.length_cons, List.length_nil, Nat.zero_add]
  rw [h1, show i * 2 + (1 + 1) = i * 2 + 2 from rfl, h2]
  unfold insC
  rw [← List.append_assoc, List.take_append_of_le_length (by simp only [List.length_append, List.length_take, List.length_drop, List.length_cons, List.length_nil, hlen]; omega), List.take_of_length_le (by simp only [List.length_append, List.length_take, List.length_drop, List.length_cons, List.length_nil, hlen]; omega)]

set_option maxRecDepth 100000 in
set_option maxHeartbeats 8000000 in
theorem ins_end (base : Nat) (v : Value) (n : Nat) (hv : v = .slice none 0 0 ∨ ∃ g cap, v = .slice (some ⟨g, 0, none⟩) n cap ∧ n ≤ cap ∧ cap ≤ 9223372036854775807) (cells : List Value) (vb : Nat) (x y : Value) (w : World) (hbase : base ≤ w.heap.size) (hown : w.ownsRow base 50 2 v n cells) (hvb : Mem.Blk w vb 50 #[x, y]) (hx : x.oneCell' = true) (hy : y.oneCell' = true) (hn : n ≤ 31) :
    Calls Try.prog 28 #[v, .int .i64 (n : Nat), .slice (some ⟨vb, 0, none⟩) 1 1] w fun e w' => ∃ v', e = .returned v' ∧ w'.ownsRow base 50 2 v' (n + 1) (cells ++ [x, y]) ∧ Below base w w' := by
  obtain ⟨i0, hi0, hz0, hz1, hz2⟩ := info_parts serInfo
  have HOWN := Lib.hid hown
  have HVB := Lib.hid hvb
  have hnn : ((n : Int) == (n : Int)) = true := beq_self_eq_true _
  rcases hv with rfl | ⟨g, cap, rfl, hnc, hcm⟩
  · have hn0 : n = 0 := by
      rcases hown.2 with ⟨_, h0⟩ | ⟨g, cap, cur, h0, _⟩
      · exact h0
      · cases h0
    subst hn0
    clear hown hvb
    go_enter Try.func28, Try.ntmps28
    go_wp2_with (at_builtin; refine wpList_append_own _ rfl _ _ 22 rfl base 50 i0 _ 2 48 Try.underlying22 hi0 hz0 hz1 hz2 rfl (by decide) _ _ cells rfl HOWN.out ⟨vb, 0, none⟩ 1 1 [x, y] rfl rfl ?c1 ?c2 ?c3 ?c4 ?c5 ?_)
    case c1 =>
      intro j u hj
      match j, hj with
      | 0, hj => simp at hj; subst hj; simpa [Addr.add] using HVB.out.cell 0
      | 1, hj => simp at hj; subst hj; simpa [Addr.add] using HVB.out.cell 1
    case c2 => intro u hu; simp at hu; rcases hu with rfl | rfl <;> assumption
    case c3 => unfold maxLen; omega
    case c4 => omega
    case c5 => exact hbase
    intro v2 w2 hown2 hg2 _
    go_wp2
    go_ret
    exact ⟨_, rfl, hown2, (Below.refl base w).grown hg2 hbase (fun k e => by cases e)⟩
  · have h0 : (0 : Int) ≤ (n : Int) := by omega
    clear hown hvb
    by_cases hcn : cap = n
    · go_enter Try.func28, Try.ntmps28
      go_wp2_with (at_builtin; refine wpList_append_own _ rfl _ _ 22 rfl base 50 i0 _ 2 48 Try.underlying22 hi0 hz0 hz1 hz2 rfl (by decide) _ _ cells rfl HOWN.out ⟨vb, 0, none⟩ 1 1 [x, y] rfl rfl ?c1 ?c2 ?c3 ?c4 ?c5 ?_)
      case c1 =>
        intro j u hj
        match j, hj with
        | 0, hj => simp at hj; subst hj; simpa [Addr.add] using HVB.out.cell 0
        | 1, hj => simp at hj; subst hj; simpa [Addr.add] using HVB.out.cell 1
      case c2 => intro u hu; simp at hu; rcases hu with rfl | rfl <;> assumption
      case c3 => unfold maxLen; omega
      case c4 => omega
      case c5 => exact hbase
      intro v2 w2 hown2 hg2 _
      go_wp2
      go_ret
      exact ⟨_, rfl, hown2, (Below.refl base w).grown hg2 hbase (fun k e => SerW.own_ge HOWN.out e)⟩
    · go_enter Try.func28, Try.ntmps28
      go_wp2_with (at_builtin; refine wpList_append_own _ rfl _ _ 22 rfl base 50 i0 _ 2 48 Try.underlying22 hi0 hz0 hz1 hz2 rfl (by decide) _ _ cells rfl HOWN.out ⟨vb, 0, none⟩ 1 1 [x, y] rfl rfl ?c1 ?c2 ?c3 ?c4 ?c5 ?_)
      case c1 =>
        intro j u hj
        match j, hj with
        | 0, hj => simp at hj; subst hj; simpa [Addr.add] using HVB.out.cell 0
        | 1, hj => simp at hj; subst hj; simpa [Addr.add] using HVB.out.cell 1
      case c2 => intro u hu; simp at hu; rcases hu with rfl | rfl <;> assumption
      case c3 => unfold maxLen; omega
      case c4 => omega
      case c5 => exact hbase
      intro v2 w2 hown2 hg2 _
      go_wp2
      go_ret
      exact ⟨_, rfl, hown2, (Below.refl base w).grown hg2 hbase (fun k e => SerW.own_ge HOWN.out e)⟩
set_option maxRecDepth 100000 in
set_option maxHeartbeats 8000000 in
theorem ins_shift (base g n cap i : Nat) (cur : Array Value) (cells : List Value) (vb : Nat) (x y : Value) (w : World) (hbg : base ≤ g) (hg : w.heap[g]? = some (.cells cur 50 (0, 0))) (hcur : cur.size = cap * 2) (hcl : cur.toList.take (n * 2) = cells) (hnc : n + 1 ≤ cap) (hcm : cap ≤ 9223372036854775807) (hi : i < n)
    (hvb : Mem.Blk w vb 50 #[x, y]) (hvg : vb ≠ g) (hx : x.oneCell' = true) (hy : y.oneCell' = true) (h1 : ∀ u ∈ cells, u.oneCell' = true) (hn : n ≤ 31) :
    Calls Try.prog 28 #[.slice (some ⟨g, 0, none⟩) n cap, .int .i64 (i : Nat), .slice (some ⟨vb, 0, none⟩) 1 1] w fun e w' => ∃ v', e = .returned v' ∧ w'.ownsRow base 50 2 v' (n + 1) (insC cells i x y) ∧ Below base w w' := by
  have hne : ((i : Int) == (n : Int)) = false := by rw [beq_eq_false_iff_ne]; omega
  obtain ⟨i1, hi1⟩ : ∃ y, y = i + 1 := ⟨_, rfl⟩
  obtain ⟨n1, hn1⟩ : ∃ y, y = n + 1 := ⟨_, rfl⟩
  have hw1 : IntKind.i64.wrap ((n : Int) + 1) = ((n1 : Nat) : Int) := by rw [hn1, show (n : Int) + 1 = ((n + 1 : Nat) : Int) by omega]; exact IntWalk.i64_in _ (by omega)
  have hw2 : IntKind.i64.wrap ((i : Int) + 1) = ((i1 : Nat) : Int) := by rw [hi1, show (i : Int) + 1 = ((i + 1 : Nat) : Int) by omega]; exact IntWalk.i64_in _ (by omega)
  have hd : decide ((cap : Int) < (n1 : Int)) = false := decide_eq_false (by omega)
  have hov : ∀ b lb cb, b.block = g → (callFunc 44 #[.slice (some ⟨vb, 0, none⟩) 1 1, .slice (some b) lb cb]).run Try.prog w = .ok (.value (.bool false)) w := fun b lb cb hb => by
    subst hb
    rw [run_callFunc_extern Try.func44 (by kernel_rfl) (by kernel_rfl) (by kernel_rfl) (e := Extern.SlicesOverlaps.overlaps #[22, 22] #[4]) (by kernel_rfl),
      Lib.run_overlaps_apart w 22 4 50 Try.underlying22 2 sizeOf_se ⟨vb, 0, none⟩ b 1 1 lb cb hvg 50 50 2 cur.size (shape_blk hvb) (shape_blk hg) (by omega) (hvb.frozen 0) (hvb.frozen 2)]
    rfl
  have HVB := Lib.hid hvb
  have hlen : cells.length = n * 2 := by rw [← hcl, List.length_take, Array.length_toList]; omega
  have hdl : (cells.drop (i * 2)).length = 2 * (n - i) := by rw [List.length_drop, hlen]; omega
  obtain ⟨cur1, hcur1⟩ : ∃ c : Array Value, c = (cur.toList.take ((i + 1) * 2) ++ cells.drop (i * 2) ++ cur.toList.drop ((i + 1) * 2 + (cells.drop (i * 2)).length)).toArray := ⟨_, rfl⟩
  have hcs1 : cur1.size = cap * 2 := by rw [hcur1]; simp only [List.size_toArray, List.length_append, List.length_take, List.length_drop, Array.length_toList, hcur, hlen]; omega
  have hg1 : (w.drew.setRow g cur1).heap[g]? = some (.cells cur1 50 (0, 0)) := setRow_heap w.drew g cur cur1 _ _ hg
  have hsz2 : (Try.prog.info? 50).map (·.size) = some 2 := by
    obtain ⟨i0, hi0, hz0, hz1, hz2⟩ := info_parts serInfo
    rw [hi0]; simp [hz1]
  have hcp1 : ∀ ty, (Builtin.copy_ #[22, 22] ty #[.slice (some ⟨g, (i + 1) * 2, none⟩) (n - i) (cap - (i + 1)), .slice (some ⟨g, i * 2, none⟩) (n + 1 - i) (cap - i)]).run Try.prog w.drew = .ok (goInt ((n - i : Nat) : Int)) (w.drew.setRow g cur1) := fun ty => by
    rw [hcur1]
    exact run_copy_rowK 2 w.drew _ _ ty 50 g ((i + 1) * 2) (n - i) (cap - (i + 1)) ⟨g, i * 2, none⟩ (n + 1 - i) (cap - i) (n - i) cur 50 (cells.drop (i * 2)) Try.underlying22 hsz2 hg (by simp only [Nat.min_def]; split <;> omega) hdl
      (fun j v hj => by
        rw [show (⟨g, i * 2, none⟩ : Addr).add j = ⟨g, i * 2 + j, none⟩ by simp [Addr.add]]
        have hg' : w.drew.heap[g]? = some (.cells cur 50 (0, 0)) := hg
        rw [Lib.cell_of_heap hg']
        rw [List.getElem?_drop, ← hcl, List.getElem?_take] at hj
        split at hj
        · rw [← hj, Array.getElem?_toList]
        · cases hj)
      (by rw [hdl, hcur]; omega) (fun v hv => h1 v (List.mem_of_mem_drop hv))
  have hcp2 : ∀ ty, (Builtin.copy_ #[22, 22] ty #[.slice (some ⟨g, i * 2, none⟩) (n + 1 - i) (cap - i), .slice (some ⟨vb, 0, none⟩) 1 1]).run Try.prog (w.drew.setRow g cur1) = .ok (goInt ((1 : Nat) : Int)) ((w.drew.setRow g cur1).setRow g (cur1.toList.take (i * 2) ++ [x, y] ++ cur1.toList.drop (i * 2 + [x, y].length)).toArray) := fun ty => by
    have hvb2 : (w.drew.setRow g cur1).heap[vb]? = some (.cells #[x, y] 50 (0, 0)) := (setRow_ne w.drew cur1 hvg).trans hvb
    exact run_copy_rowK 2 _ _ _ ty 50 g (i * 2) (n + 1 - i) (cap - i) ⟨vb, 0, none⟩ 1 1 1 cur1 50 [x, y] Try.underlying22 hsz2 hg1 (by simp only [Nat.min_def]; split <;> omega) rfl
      (fun j v hj => by
        rw [show (⟨vb, 0, none⟩ : Addr).add j = ⟨vb, j, none⟩ by simp [Addr.add]; exact fun h => h.symm, Lib.cell_of_heap hvb2]
        simpa using hj)
      (by simp only [List.length_cons, List.length_nil]; omega) (fun v hv => by
        simp only [List.mem_cons, List.not_mem_nil, or_false] at hv
        rcases hv with rfl | rfl <;> assumption)
  have HOWN2 := Lib.hid (show ((w.drew.setRow g cur1).setRow g (cur1.toList.take (i * 2) ++ [x, y] ++ cur1.toList.drop (i * 2 + [x, y].length)).toArray).ownsRow base 50 2 (.slice (some ⟨g, 0, none⟩) (n + 1) cap) (n + 1) (insC cells i x y) from by
    refine ⟨by unfold insC; simp only [List.length_append, List.length_take, List.length_drop, List.length_cons, List.length_nil, hlen]; omega, .inr ⟨g, cap, _, rfl, hbg, setRow_heap _ g cur1 _ _ _ hg1, hnc, by unfold maxLen; omega, ?_, ?_⟩⟩
    · simp only [List.size_toArray, List.length_append, List.length_take, List.length_drop, Array.length_toList, hcs1, List.length_cons, List.length_nil]; omega
    · rw [hcur1]; exact ins_list hcl (by rw [Array.length_toList]; exact hcur) hnc hi)
  clear hcur1 hg1 hsz2 hlen hdl hcs1
  have b1 : (0 : Int) ≤ (i : Int) + 1 := by omega
  have b2 : i ≤ n := by omega
  have b3 : (i : Int) ≤ (n : Int) + 1 := by omega
  have b4 : ¬ cap = i + 1 := by omega
  have b5 : ¬ cap = i := by omega
  go_enter Try.func28, Try.ntmps28
  go_wp2_with fail
  refine wp_region_held_drew (S := fun W' => Below base w W') (by kernel_rfl) (Below.refl _ _).drew (fun hHeld => ?_)
  refine wpAnyH_take (i := 0) (v := ?_) (by simp only [List.getElem?_toArray, List.getElem?_cons_succ, List.getElem?_cons_zero]; exact rfl) (by kernel_rfl) (by kernel_rfl) (by kernel_rfl) (by exact fun _ _ _ h => h) (Or.inl ⟨by rfl, ?_⟩) hHeld ?_
  rotate_left
  · intro wq hSw; go_simp; all_goals (with_reducible rfl)
  try simp only [Act.put, List.setIfInBounds_toArray, List.set_cons_zero, List.set_cons_succ]
  refine wpAnyH_take (i := 1) (v := ?_) (by simp only [List.getElem?_toArray, List.getElem?_cons_succ, List.getElem?_cons_zero]; exact rfl) (by kernel_rfl) (by kernel_rfl) (by kernel_rfl) (by exact fun _ _ _ h => h) (Or.inl ⟨by rfl, ?_⟩) hHeld ?_
  rotate_left
  · intro wq hSw; go_simp; all_goals (with_reducible rfl)
  try simp only [Act.put, List.setIfInBounds_toArray, List.set_cons_zero, List.set_cons_succ]
  refine wpAnyH_take (i := 2) (v := ?_) (by simp only [List.getElem?_toArray, List.getElem?_cons_succ, List.getElem?_cons_zero]; exact rfl) (by kernel_rfl) (by kernel_rfl) (by kernel_rfl) (by exact fun _ _ _ h => h) (Or.inl ⟨by rfl, ?_⟩) hHeld ?_
  rotate_left
  · intro wq hSw; go_simp; all_goals (with_reducible rfl)
  try simp only [Act.put, List.setIfInBounds_toArray, List.set_cons_zero, List.set_cons_succ]
  refine wpAnyH_take (i := 3) (v := ?_) (by simp only [List.getElem?_toArray, List.getElem?_cons_succ, List.getElem?_cons_zero]; exact rfl) (by kernel_rfl) (by kernel_rfl) (by kernel_rfl) (by exact fun _ _ _ h => h) (Or.inl ⟨by rfl, ?_⟩) hHeld ?_
  rotate_left
  · intro wq hSw; go_simp; all_goals (with_reducible rfl)
  try simp only [Act.put, List.setIfInBounds_toArray, List.set_cons_zero, List.set_cons_succ]
  refine wpAnyH_take (i := 4) (v := ?_) (by simp only [List.getElem?_toArray, List.getElem?_cons_succ, List.getElem?_cons_zero]; exact rfl) (by kernel_rfl) (by kernel_rfl) (by kernel_rfl) (by exact fun _ _ _ h => h) (Or.inl ⟨by rfl, ?_⟩) hHeld ?_
  rotate_left
  · intro wq hSw; go_simp; all_goals (with_reducible rfl)
  try simp only [Act.put, List.setIfInBounds_toArray, List.set_cons_zero, List.set_cons_succ]
  refine wpAnyH_take (i := 5) (v := ?_) (by simp only [List.getElem?_toArray, List.getElem?_cons_succ, List.getElem?_cons_zero]; exact rfl) (by kernel_rfl) (by kernel_rfl) (by kernel_rfl) (by exact fun _ _ _ h => h) (Or.inl ⟨by rfl, ?_⟩) hHeld ?_
  rotate_left
  · intro wq hSw; go_simp; all_goals (with_reducible rfl)
  try simp only [Act.put, List.setIfInBounds_toArray, List.set_cons_zero, List.set_cons_succ]
  refine wpAnyH_take (i := 6) (v := ?_) (by simp only [List.getElem?_toArray, List.getElem?_cons_succ, List.getElem?_cons_zero]; exact rfl) (by kernel_rfl) (by kernel_rfl) (by kernel_rfl) (by exact fun _ _ _ h => h) (Or.inl ⟨by rfl, ?_⟩) hHeld ?_
  rotate_left
  · intro wq hSw; go_simp; all_goals (with_reducible rfl)
  try simp only [Act.put, List.setIfInBounds_toArray, List.set_cons_zero, List.set_cons_succ]
  refine wpAnyH_take (i := 7) (v := ?_) (by simp only [List.getElem?_toArray, List.getElem?_cons_succ, List.getElem?_cons_zero]; exact rfl) (by kernel_rfl) (by kernel_rfl) (by kernel_rfl) (by exact fun _ _ _ h => h) (Or.inl ⟨by rfl, ?_⟩) hHeld ?_
  rotate_left
  · intro wq hSw; go_simp; all_goals (with_reducible rfl)
  try simp only [Act.put, List.setIfInBounds_toArray, List.set_cons_zero, List.set_cons_succ]
  refine wpAnyH_ready (rs := [8]) (by kernel_rfl) (by simp) ?_
  refine AllReadyH.cons (by simp only [List.getElem?_toArray, List.getElem?_cons_succ, List.getElem?_cons_zero]; exact rfl) (fun K hK => ?_) ?_
  · refine step_copy_runI rfl _ _ 22 22 rfl _ _ (by simp [Act.eval, Act.put]) (by simp [Act.eval, Act.put]) (hcp1 _) ?_
    refine hK.out _ _ (below_setRow (Below.refl _ _).drew hbg) (fun hHeld => ?_)
    clear hK K
    try simp only [Act.put, List.setIfInBounds_toArray, List.set_cons_zero, List.set_cons_succ]
    refine wpAnyH_done (by kernel_rfl) ?_ _
    go_wp2_with (at_builtin; refine wpList_copy_runI _ rfl _ _ 22 22 rfl _ _ rfl rfl (hcp2 _) ?_)
    go_ret
    refine ⟨_, rfl, ?_, below_setRow (below_setRow (Below.refl _ _).drew hbg) hbg⟩
    simpa using HOWN2.out
  · exact AllReadyH.nil
end Go.Proofs.Ytidfiiogjfpfmaa
