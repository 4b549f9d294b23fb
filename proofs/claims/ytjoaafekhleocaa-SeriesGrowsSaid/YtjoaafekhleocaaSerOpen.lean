/- How an argument that is a slice of samples, or a sample, is opened. -/
import Derived.Test.YtjoaafekhleocaaRows
import Derived.Test.YtjoaafekhleocaaRow
import Derived.Test.YtjoaafekhleocaaSerMem
namespace Go.Proofs.Ytjoaafekhleocaa
open Go.RowKit Go.WideShapes Go.ChangeShapes Go.Joins Go.Deep

theorem Tryown : ownKnob Try.prog.godebug = none := by kernel_rfl
theorem TrylaidOut : laidOutB Try.prog = true := by kernel_rfl
theorem smpOne : oneCellFields Try.prog (Try.prog.fieldsOf 24) = true := by kernel_rfl
theorem smpCells : Try.prog.cellsOf 24 = 2 := by kernel_rfl

section
variable {H : Type} {enc : TypeId × Value → H} {W : World} {base : Nat}
theorem open_smps {v : Value} {d : DataW H} {p : List MemPlace} (hv : Value.okWide Try.prog W .any base 22 v) (h : DataW.Trod enc Try.prog W 0 (fun _ => true) true 22 v d p) :
    ∃ A n c xs, v = .slice A n c ∧ Smp W W.heap.size A n c xs := by
  obtain ⟨a0, len, cap, rfl⟩ := okWide_slice Try.underlying22 hv
  obtain ⟨fuel, hf⟩ := h
  rcases Mem.open_slice_fields Try.underlying22 Try.underlying24 smpOne smpCells hf with ⟨hcs, _⟩ | ⟨a, len', cap', m, D, Pl, hcs, _, hl, hm, hmm, _, hi⟩
  · change [Value.slice a0 len cap] = _ at hcs
    cases hcs
    exact ⟨none, 0, 0, [], rfl, Smp.none_ _ _⟩
  · change [Value.slice a0 len cap] = _ at hcs
    cases hcs
    have hcl : ∀ i, i < len → ∃ x y : Int, W.cell? (a.add (i * 2)) = some (.int .i64 x) ∧ W.cell? (a.add (i * 2 + 1)) = some (.int .i64 y) := by
      intro i hil
      obtain ⟨ys, n, _, _, _, hF⟩ := hi i (by rw [hmm]; show i < cap; omega)
      obtain ⟨v0, y0, c0, _, t0⟩ := hF 0 _ rfl
      obtain ⟨v1, y1, c1, _, t1⟩ := hF 1 _ rfl
      obtain ⟨x0, e0, _, _⟩ := DataW.trod_int Try.underlying3 t0
      obtain ⟨x1, e1, _, _⟩ := DataW.trod_int Try.underlying3 t1
      cases e0
      cases e1
      exact ⟨x0, x1, c0, c1⟩
    have hcl' : ∀ i, ∃ x : Int × Int, i < len → W.cell? (a.add (i * 2)) = some (.int .i64 x.1) ∧ W.cell? (a.add (i * 2 + 1)) = some (.int .i64 x.2) := by
      intro i
      by_cases hil : i < len
      · obtain ⟨x, y, h1, h2⟩ := hcl i hil
        exact ⟨(x, y), fun _ => ⟨h1, h2⟩⟩
      · exact ⟨(0, 0), fun h => absurd h hil⟩
    obtain ⟨F, hF⟩ := Classical.axiomOfChoice hcl'
    refine ⟨some a, len, cap, (List.range len).map F, rfl, by simp, hl, by unfold maxLen at hm; exact hm, fun h0 => ?_⟩
    obtain ⟨b, off, spot⟩ := a
    have hspot : spot = none := by simpa [Addr.add] using World.cell?_spot (hF 0 h0).1
    subst hspot
    refine ⟨b, off, rfl, World.block_lt_of_cell? W ⟨b, off + 0 * 2, none⟩ (by have := (hF 0 h0).1; rwa [Go.WideShapes.add_plain] at this), fun j hj => ?_⟩
    have e : ((List.range len).map F)[j]?.getD (0, 0) = F j := by rw [List.getElem?_map, List.getElem?_range hj]; rfl
    unfold Ser.tAt Ser.vAt
    rw [e]
    have := hF j hj
    rw [Go.WideShapes.add_plain, Go.WideShapes.add_plain] at this
    exact ⟨this.1, by rw [Nat.add_assoc]; exact this.2⟩
theorem open_smp {v : Value} {d : DataW H} {p : List MemPlace} (hv : Value.okWide Try.prog W .any base 24 v) (h : DataW.Trod enc Try.prog W 0 (fun _ => true) true 24 v d p) :
    ∃ x : Int × Int, v = .agg #[.int .i64 x.1, .int .i64 x.2] ∧ (Lit.int .i64 x.1).wf = true ∧ (Lit.int .i64 x.2).wf = true := by
  obtain ⟨c0, c1, y0, y1, m, rfl, _, _, h0, h1⟩ := open_agg2 Try.underlying24 smpOne smpCells hv h
  obtain ⟨x0, e0, _, w0⟩ := DataW.trod_int Try.underlying3 h0
  obtain ⟨x1, e1, _, w1⟩ := DataW.trod_int Try.underlying3 h1
  cases e0
  cases e1
  exact ⟨(x0, x1), rfl, w0, w1⟩
end
end Go.Proofs.Ytjoaafekhleocaa
