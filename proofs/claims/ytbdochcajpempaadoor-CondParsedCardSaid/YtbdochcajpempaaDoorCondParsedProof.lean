/- The tied card of the law CondParsed is true of any tokens and place: what is parsed may be asked, and printed and parsed again it is the same. The form's own reach bounds each string; no other condition but that the listed variables lie as the program lays them, which the card ties. -/
import Derived.Test.YtbdochcajpempaaDoorCondN
import Derived.Test.YtbdochcajpempaaDoorCondOpn
import Derived.Test.YtbdochcajpempaaDoorCards
import Derived.Test.YtbdochcajpempaaDoorTie
namespace Go.Proofs.YtbdochcajpempaaDoor
open Go.ChangeShapes Go.WideShapes Go.ChangeAt Go.RowKit Go.ChangeMaps

set_option maxRecDepth 100000 in
theorem condParsed_lifted (os : Os) (started : os.Started) (H : Type) (enc : TypeId × Value → H) :
    ReturnsInHanded {} Tryd.checked os 6 .any (fun w args => (Rows.condParsedSpec.pre enc Tryd.prog Tryd.f6 [] false w args ∧ laidMetH Tryd.prog laid4 w) ∧ sizedMet enc Tryd.prog Tryd.f6 (OpenSpec.ofChange Rows.condParsedSpec) false w args) (Rows.condParsedSpec.post enc Tryd.prog Tryd.f6 false true false false) := by
  refine returnsInHanded_of_change_and (C := Tryd.checked) (X := fun w _ => laidMetH Tryd.prog laid4 w) (fun _ _ _ hh h => h.of_heap hh) Trydown started (by kernel_rfl) Tryd.func6
    (ChangeSpec.witness_shaped (enc := enc) (C := Tryd.checked) (os := os) (X := fun w _ => laidMetH Tryd.prog laid4 w) false (World.laidAll Tryd.prog os laid4) #[.slice none 0 0, .int .i64 0] 8 (World.laidAll_os _ _ _) (World.shaped_of_ZipB (by kernel_rfl) (by kernel_rfl)) (by kernel_rfl) (by kernel_rfl) (by kernel_rfl) (door_met os _)) ?_
  intro W base args ds gs before hval0 hW _ hsized hL _
  have hG := glob_of_laid hL
  clear hL
  have hval : ∀ (j : Nat) t v, Tryd.f6.params[j]? = some t → args[j]? = some v → Value.okWide Tryd.prog W .any base t v := hval0
  have hW0 := hW
  obtain ⟨p, q, hA0, hV, rfl, _, _⟩ := hW
  have hA : DataW.TrodAll enc Tryd.prog W 0 (fun _ => true) true Tryd.f6.params.toList args.toList ds p := hA0
  rw [Tryd.params6] at hA hval
  obtain ⟨v0, vs0, d0, ds0, p0, q0, hargs, rfl, rfl, h0, r0⟩ := trodAll_cons hA
  obtain ⟨v1, vs1, d1, ds1, p1, q1, rfl, rfl, rfl, h1, r1⟩ := trodAll_cons r0
  obtain ⟨rfl, rfl, rfl⟩ := trodAll_nil r1
  obtain rfl : args = #[v0, v1] := by cases args; simp_all
  obtain ⟨rfl, rfl⟩ := trodVars_none hV
  obtain ⟨lA, ln, lc, l, rfl, hl, ml⟩ := open_toks (hval 0 _ v0 rfl rfl) h0
  have zl : ∀ t ∈ l, t.2.2.size ≤ 4611686018427387904 := fun t ht => by
    have h1 := List.all_eq_true.1 hsized t.2.2.size (DataW.weights_mem_each (j := 0) (t := 27) (d := d0) (by rw [Tryd.params6]; rfl) rfl _ (ml t ht))
    have h2 : t.2.2.size ≤ reachBytes := by simpa using h1
    have h3 : reachBytes < 140737488355328 := by decide
    omega
  obtain ⟨x, rfl, rfl, rfl, wx⟩ := open_int Tryd.underlying3 (hval 1 _ v1 rfl rfl) h1
  refine (condParsed_any lA ln lc l x zl W hG hl).mono fun e W' h => ?_
  exact law_close hW0 TrydlaidOut (by decide +kernel) rfl (by kernel_rfl) Tryd.underlying4 rfl rfl rfl h

theorem condParsed_row : Rows.CondParsedSaid :=
  OpenClaim.holds_of_wide 6 Tryd.f6 rfl rfl rfl rfl rfl rfl rfl ⟨rfl, rfl, rfl, rfl, rfl⟩ rfl rfl rfl rfl rfl (by kernel_rfl) Tryd.func6 (by kernel_rfl)
    (of_decide_eq_true (by kernel_rfl)) (by unfold Func.isWrapper; first | (rw [if_pos (by decide +kernel)]; kernel_rfl) | (rw [if_neg (by decide +kernel)]; exact ⟨rfl, rfl⟩))
    (fun os started H enc _ => condParsed_lifted os started H enc)

theorem condParsed_holds : Rows.CondParsedCardSaid :=
  Claim7.holds_tied_plain_at .later [] [.data, .data, .data, .data, .data, .pinned] true (true, "56c9c7903e90f2a9617de1fdd5206c0a48f911933f5edebc56f96c9e50fe88b5") false
    condParsed_row (fun _ h => by cases h) (by kernel_rfl) (fun _ h => by cases h) condParsed_row_tie rfl ⟨rfl, rfl⟩ (by kernel_rfl) rfl
    (fun f fn hf hfn => by
      obtain rfl : f = 6 := Option.some.inj ((show Tryd.prog.funcNamed "watchtower/watchtowerlaw09.CondParsed" = some 6 by kernel_rfl).symm.trans hf) |>.symm
      obtain rfl : fn = Tryd.f6 := (Option.some.inj (Tryd.func6.symm.trans hfn)).symm
      exact ⟨by kernel_rfl, fun j t ht => by
        rw [Tryd.params6] at ht
        have hm : t ∈ [27, 3] := by simpa using Array.mem_of_getElem? ht
        have hall : ([27, 3].all fun u => !Tryd.prog.wantsStandIn u) = true := by kernel_rfl
        exact (show Tryd.prog.wantsStandIn t = false by simpa using List.all_eq_true.1 hall t hm)⟩)
    (by kernel_rfl)
end Go.Proofs.YtbdochcajpempaaDoor
