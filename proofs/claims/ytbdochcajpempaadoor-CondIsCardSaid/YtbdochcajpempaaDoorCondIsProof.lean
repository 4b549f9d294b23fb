/- The tied card of the law CondIs is true of any question, tokens, place and values: what may be asked, what holds, the other op, what is printed and what is parsed is what the document says. The form's own reach bounds each string; no other condition but that the listed variables lie as the program lays them, which the card ties. -/
import Derived.Test.YtbdochcajpempaaDoorCondM
import Derived.Test.YtbdochcajpempaaDoorCondOpn
import Derived.Test.YtbdochcajpempaaDoorCards
import Derived.Test.YtbdochcajpempaaDoorTie
namespace Go.Proofs.YtbdochcajpempaaDoor
open Go.ChangeShapes Go.WideShapes Go.ChangeAt Go.RowKit Go.ChangeMaps

set_option maxRecDepth 100000 in
theorem condIs_lifted (os : Os) (started : os.Started) (H : Type) (enc : TypeId × Value → H) :
    ReturnsInHanded {} Tryd.checked os 3 .any (fun w args => (Rows.condIsSpec.pre enc Tryd.prog Tryd.f3 [] false w args ∧ laidMetH Tryd.prog laid4 w) ∧ sizedMet enc Tryd.prog Tryd.f3 (OpenSpec.ofChange Rows.condIsSpec) false w args) (Rows.condIsSpec.post enc Tryd.prog Tryd.f3 false true false false) := by
  refine returnsInHanded_of_change_and (C := Tryd.checked) (X := fun w _ => laidMetH Tryd.prog laid4 w) (fun _ _ _ hh h => h.of_heap hh) Trydown started (by kernel_rfl) Tryd.func3
    (ChangeSpec.witness_shaped (enc := enc) (C := Tryd.checked) (os := os) (X := fun w _ => laidMetH Tryd.prog laid4 w) false (World.laidAll Tryd.prog os laid4) #[.agg #[.string ⟨#[]⟩, .slice none 0 0, .int .i64 0, .int .i64 0], .slice none 0 0, .int .i64 0, .int .i64 0, .int .i64 0] 8 (World.laidAll_os _ _ _) (World.shaped_of_ZipB (by kernel_rfl) (by kernel_rfl)) (by kernel_rfl) (by kernel_rfl) (by kernel_rfl) (door_met os _)) ?_
  intro W base args ds gs before hval0 hW _ hsized hL _
  have hG := glob_of_laid hL
  clear hL
  have hval : ∀ (j : Nat) t v, Tryd.f3.params[j]? = some t → args[j]? = some v → Value.okWide Tryd.prog W .any base t v := hval0
  have hW0 := hW
  obtain ⟨p, q, hA0, hV, rfl, _, _⟩ := hW
  have hA : DataW.TrodAll enc Tryd.prog W 0 (fun _ => true) true Tryd.f3.params.toList args.toList ds p := hA0
  rw [Tryd.params3] at hA hval
  obtain ⟨v0, vs0, d0, ds0, p0, q0, hargs, rfl, rfl, h0, r0⟩ := trodAll_cons hA
  obtain ⟨v1, vs1, d1, ds1, p1, q1, rfl, rfl, rfl, h1, r1⟩ := trodAll_cons r0
  obtain ⟨v2, vs2, d2, ds2, p2, q2, rfl, rfl, rfl, h2, r2⟩ := trodAll_cons r1
  obtain ⟨v3, vs3, d3, ds3, p3, q3, rfl, rfl, rfl, h3, r3⟩ := trodAll_cons r2
  obtain ⟨v4, vs4, d4, ds4, p4, q4, rfl, rfl, rfl, h4, r4⟩ := trodAll_cons r3
  obtain ⟨rfl, rfl, rfl⟩ := trodAll_nil r4
  obtain rfl : args = #[v0, v1, v2, v3, v4] := by cases args; simp_all
  obtain ⟨rfl, rfl⟩ := trodVars_none hV
  obtain ⟨sN, sA, sn, sc, s, so, sv, rfl, zs, hs⟩ := open_expr (hval 0 _ v0 rfl rfl) h0
  obtain ⟨lA, ln, lc, l, rfl, hl, ml⟩ := open_toks (hval 1 _ v1 rfl rfl) h1
  have zl : ∀ t ∈ l, t.2.2.size ≤ 4611686018427387904 := fun t ht => by
    have h1 := List.all_eq_true.1 hsized t.2.2.size (DataW.weights_mem_each (j := 1) (t := 27) (d := d1) (by rw [Tryd.params3]; rfl) rfl _ (ml t ht))
    have h2 : t.2.2.size ≤ reachBytes := by simpa using h1
    have h3 : reachBytes < 140737488355328 := by decide
    omega
  obtain ⟨x, rfl, rfl, rfl, wx⟩ := open_int Tryd.underlying3 (hval 2 _ v2 rfl rfl) h2
  obtain ⟨y, rfl, rfl, rfl, wy⟩ := open_int Tryd.underlying3 (hval 3 _ v3 rfl rfl) h3
  obtain ⟨z, rfl, rfl, rfl, wz⟩ := open_int Tryd.underlying3 (hval 4 _ v4 rfl rfl) h4
  refine (condIs_any sN zs sA sn sc s so sv lA ln lc l x y z zl W hG hs hl).mono fun e W' h => ?_
  exact law_close hW0 TrydlaidOut (by decide +kernel) rfl (by kernel_rfl) Tryd.underlying4 rfl rfl rfl h

theorem condIs_row : Rows.CondIsSaid :=
  OpenClaim.holds_of_wide 3 Tryd.f3 rfl rfl rfl rfl rfl rfl rfl ⟨rfl, rfl, rfl, rfl, rfl⟩ rfl rfl rfl rfl rfl (by kernel_rfl) Tryd.func3 (by kernel_rfl)
    (of_decide_eq_true (by kernel_rfl)) (by unfold Func.isWrapper; first | (rw [if_pos (by decide +kernel)]; kernel_rfl) | (rw [if_neg (by decide +kernel)]; exact ⟨rfl, rfl⟩))
    (fun os started H enc _ => condIs_lifted os started H enc)

theorem condIs_holds : Rows.CondIsCardSaid :=
  Claim7.holds_tied_plain_at .later [] [.data, .data, .data, .data, .data, .pinned] true (true, "56c9c7903e90f2a9617de1fdd5206c0a48f911933f5edebc56f96c9e50fe88b5") false
    condIs_row (fun _ h => by cases h) (by kernel_rfl) (fun _ h => by cases h) condIs_row_tie rfl ⟨rfl, rfl⟩ (by kernel_rfl) rfl
    (fun f fn hf hfn => by
      obtain rfl : f = 3 := Option.some.inj ((show Tryd.prog.funcNamed "watchtower/watchtowerlaw09.CondIs" = some 3 by kernel_rfl).symm.trans hf) |>.symm
      obtain rfl : fn = Tryd.f3 := (Option.some.inj (Tryd.func3.symm.trans hfn)).symm
      exact ⟨by kernel_rfl, fun j t ht => by
        rw [Tryd.params3] at ht
        have hm : t ∈ [26, 27, 3, 3, 3] := by simpa using Array.mem_of_getElem? ht
        have hall : ([26, 27, 3, 3, 3].all fun u => !Tryd.prog.wantsStandIn u) = true := by kernel_rfl
        exact (show Tryd.prog.wantsStandIn t = false by simpa using List.all_eq_true.1 hall t hm)⟩)
    (by kernel_rfl)
end Go.Proofs.YtbdochcajpempaaDoor
