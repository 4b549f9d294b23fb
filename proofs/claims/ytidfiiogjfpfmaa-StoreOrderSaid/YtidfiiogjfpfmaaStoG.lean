/- The walk of slices.Clone at series; copying rows of two cells an element. -/
import Derived.Test.YtidfiiogjfpfmaaStoF
import Derived.Laws.CopyRow
import Derived.Lib.AppendZeros
import Derived.Lib.Overlaps
import Derived.Laws.Externs
import Derived.Shelf.RegionOpenPlain
import Derived.Lib.JoinLaws
import Derived.Lib.SliceRun
namespace Go.Proofs.Ytidfiiogjfpfmaa
open Go.RowKit
set_option linter.unusedSimpArgs false
set_option linter.unusedVariables false

theorem nilEqlS (w : World) (a : Option Addr) (n c : Nat) : (binOp .eql 22 (.slice a n c) (.slice none 0 0)).run Try.prog w = .ok (.bool a.isNone) w := Lib.run_eql_slice_nil w _ _ a n c 0 0 Try.underlying22
theorem serInfo : (Try.prog.info? 50).map (fun i => (i.zero, i.size, i.bytes)) = some (some (.agg #[.slice none 0 0, .slice none 0 0]), 2, 48) := by kernel_rfl
theorem se_one (ses : List Sto.Se) : ∀ u ∈ ses.flatMap seCells, u.oneCell' = true := by
  intro u hu
  obtain ⟨t, _, ht⟩ := List.mem_flatMap.1 hu
  simp only [seCells, List.mem_cons, List.not_mem_nil, or_false] at ht
  rcases ht with rfl | rfl <;> rfl
theorem se_len (ses : List Sto.Se) : (ses.flatMap seCells).length = ses.length * 2 := by
  induction ses with
  | nil => rfl
  | cons a l ih => rw [List.flatMap_cons, List.length_append, ih, List.length_cons]; show 2 + _ = _; omega

set_option maxHeartbeats 400000 in
theorem cloneS_any (A : Option Addr) (n c : Nat) (ses : List Sto.Se) (w : World) (h : Stt w w.heap.size A n c ses) (hn : n ≤ 32) :
    Calls Try.prog 27 #[.slice A n c] w fun e w' => ∃ v, e = .returned v ∧ w'.ownsRow w.heap.size 50 2 v n (ses.flatMap seCells) ∧ Below w.heap.size w w' := by
  obtain ⟨i0, hi0, hz0, hz1, hz2⟩ := info_parts serInfo
  have hR := Recs.reads seCells_len (by decide) h.1
  rcases A with _ | a
  · have hq := nilEqlS w none n c
    simp only [Option.isNone] at hq
    go_enter Try.func27, Try.ntmps27
    go_wp2
    go_ret
    obtain rfl : n = 0 := by
      rcases Nat.eq_zero_or_pos n with h0 | h0
      · exact h0
      · obtain ⟨_, _, _, e, _⟩ := h.at_ h0; cases e
    have hx : ses = [] := List.eq_nil_of_length_eq_zero h.len
    subst hx
    exact ⟨_, rfl, World.ownsRow_nil _ _ _ _, Below.refl _ _⟩
  · have hq := nilEqlS w (some a) n c
    simp only [Option.isNone] at hq
    go_enter Try.func27, Try.ntmps27
    have hown0 : (w.alloc (.cells #[] 50)).ownsRow w.heap.size 50 2 (.slice (some ⟨w.heap.size, 0, none⟩) 0 0) 0 [] := ⟨by simp, .inr ⟨w.heap.size, 0, #[], rfl, Nat.le_refl _, heap_alloc_new w _, Nat.le_refl _, by unfold maxLen; omega, rfl, rfl⟩⟩
    have HR := Lib.hid (hR.alloc (Nat.le_refl _) (.cells #[] 50))
    have HONE := Lib.hid (se_one ses)
    have HOWN := Lib.hid hown0
    clear hR hown0 h
    go_wp2_with (at_builtin; refine Mem.wpList_append_any _ rfl (.tmp 5) (.tmp 6) 22 rfl w.heap.size 50 i0 _ 2 48 Try.underlying22 hi0 hz0 hz1 hz2 rfl (by decide) (.slice (some ⟨w.heap.size, 0, none⟩) 0 0) 0 [] rfl HOWN.out w.heap.size (some a) n c _ rfl HR.out HONE.out (by unfold maxLen; omega) (by omega) (by simp) ?_; intro v1 w1 hown1 hg1 hat1)
    go_ret
    refine ⟨_, rfl, by simpa using hown1, ?_⟩
    exact ((Below.refl _ _).alloc (Nat.le_refl _) _).grown hg1 (by simp) (fun k e => by simp [Value.ownBlock] at e; omega)

/-- copying elements of k cells into a row: all is read before anything is written -/
theorem run_copy_rowK {P : Program} (k : Nat) (w : World) (dT sT ty elem : TypeId) (g o dLen dCap : Nat) (a : Addr) (sLen sCap m : Nat) (cur : Array Value) (t : TypeId) (cs : List Value)
    (hu : P.underlying dT = some (.slice elem)) (hs : (P.info? elem).map (·.size) = some k)
    (hg : w.heap[g]? = some (.cells cur t (0, 0))) (hm : Nat.min sLen dLen = m) (hn : cs.length = k * m)
    (hsrc : ∀ j v, cs[j]? = some v → w.cell? (a.add j) = some v) (hfit : o + cs.length ≤ cur.size) (h1 : ∀ v ∈ cs, v.oneCell' = true) :
    (Builtin.copy_ #[dT, sT] ty #[.slice (some ⟨g, o, none⟩) dLen dCap, .slice (some a) sLen sCap]).run P w =
      .ok (goInt m) (w.setRow g (cur.toList.take o ++ cs ++ cur.toList.drop (o + cs.length)).toArray) := by
  have hl := run_loadCells_list (P := P) w a cs hsrc
  have hst := run_storeCells_at P g o t cs 0 cur w hg (by simpa using hfit) h1
  cases hq : P.info? elem with
  | none => simp [hq] at hs
  | some i =>
    have hi : i.size = k := by simpa [hq] using hs
    simp only [Builtin.copy_, run_underlying hu, Builtin.lenOf, Builtin.firstCells, sizeOf, typeInfo, hq, hi, hm]
    rw [hn] at hl
    simp [run_underlying hu, hq, hi, hl, hst, hm, Nat.mul_comm]
end Go.Proofs.Ytidfiiogjfpfmaa
