/- The law SelFits is true of any selector, labels and match. No condition. -/
import Derived.Test.YtbdochcajpempaaSelFa
import Derived.Test.YtbdochcajpempaaSelOpen
namespace Go.Proofs.Ytbdochcajpempaa
open Go.ChangeShapes Go.WideShapes Go.ChangeAt Go.RowKit Go.ChangeMaps

set_option maxRecDepth 100000 in
theorem selFits_lifted (os : Os) (started : os.Started) (H : Type) (enc : TypeId × Value → H) :
    ReturnsInHanded {} Try.checked os 6 .any (Rows.selFitsSpec.pre6 enc Try.prog Try.f6 Rows.selFitsRow.domain false) (Rows.selFitsSpec.post enc Try.prog Try.f6 false true false false) := by
  refine returnsInHanded_of_change_sized (C := Try.checked) Tryown started (by kernel_rfl) Try.func6
    (ChangeSpec.witness6 (enc := enc) (C := Try.checked) false ⟨#[], #[.agg #[.string ⟨#[]⟩, .slice none 0 0], .slice none 0 0, .agg #[.string ⟨#[]⟩, .string ⟨#[]⟩, .bool false]], []⟩ 8 (by kernel_rfl) (by kernel_rfl) (by kernel_rfl) (by kernel_rfl)) ?_
  intro W base args ds gs before hval0 hW _ hsized _
  have hval : ∀ (j : Nat) t v, Try.f6.params[j]? = some t → args[j]? = some v → Value.okWide Try.prog W .any base t v := hval0
  have hW0 := hW
  obtain ⟨p, q, hA0, hV, rfl, _, _⟩ := hW
  have hA : DataW.TrodAll enc Try.prog W 0 (fun _ => true) true Try.f6.params.toList args.toList ds p := hA0
  rw [Try.params6] at hA hval
  obtain ⟨v0, vs0, d0, ds0, p0, q0, hargs, rfl, rfl, h0, r0⟩ := trodAll_cons hA
  obtain ⟨v1, vs1, d1, ds1, p1, q1, rfl, rfl, rfl, h1, r1⟩ := trodAll_cons r0
  obtain ⟨v2, vs2, d2, ds2, p2, q2, rfl, rfl, rfl, h2, r2⟩ := trodAll_cons r1
  obtain ⟨rfl, rfl, rfl⟩ := trodAll_nil r2
  obtain rfl : args = #[v0, v1, v2] := by cases args; simp_all
  obtain ⟨rfl, rfl⟩ := trodVars_none hV
  obtain ⟨sN, sA, sn, sc, s, rfl, ms, hs⟩ := open_sel_sized (hval 0 _ v0 rfl rfl) h0
  obtain ⟨lA, ln, lc, l, rfl, hl⟩ := open_prs (hval 1 _ v1 rfl rfl) h1
  obtain ⟨m, rfl, zm, ym⟩ := open_match (hval 2 _ v2 rfl rfl) h2
  have hsz : sN.size < 140737488355328 := by
    have h1 := List.all_eq_true.1 hsized sN.size (DataW.weights_mem_each (j := 0) (t := 24) (d := d0) (by rw [Try.params6]; rfl) rfl _ ms)
    have h2 : sN.size ≤ reachBytes := by simpa using h1
    have h3 : reachBytes < 140737488355328 := by decide
    omega
  refine (selFits_any sN hsz sA sn sc s lA ln lc l m W hs hl zm ym).mono fun e W' h => ?_
  exact law_close hW0 TrylaidOut (by decide +kernel) rfl (by kernel_rfl) Try.underlying4 rfl rfl rfl h

theorem selFits_holds : Rows.SelFitsSaid :=
  OpenClaim.holds_of_wide 6 Try.f6 rfl rfl rfl rfl rfl rfl rfl ⟨rfl, rfl, rfl, rfl, rfl⟩ rfl rfl rfl rfl rfl (by kernel_rfl) Try.func6 (by kernel_rfl)
    (of_decide_eq_true (by kernel_rfl)) (by unfold Func.isWrapper; first | (rw [if_pos (by decide +kernel)]; kernel_rfl) | (rw [if_neg (by decide +kernel)]; exact ⟨rfl, rfl⟩))
    (fun os started H enc _ => selFits_lifted os started H enc)
end Go.Proofs.Ytbdochcajpempaa
