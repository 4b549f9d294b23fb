/- The plain law of the document's example. -/
import Derived.Test.YtidfiiogjfpfmaaStoP
namespace Go.Proofs.Ytidfiiogjfpfmaa
open Go.RowKit
set_option linter.unusedSimpArgs false
set_option linter.unusedVariables false

namespace Sto
theorem Cut.zero {es : List E} {l : List Lab.Pr} {p : Nat} (h : Cut es l p) (h0 : ¬ 0 < cmpAt es l 0) : p = 0 := by
  rcases Nat.eq_zero_or_pos p with h1 | h1
  · exact h1
  · exact absurd (h.lo 0 h1) h0
def up1 : List Lab.Pr := up ⟨#[49]⟩
def up2 : List Lab.Pr := up ⟨#[50]⟩
def aa : List Lab.Pr := [(⟨#[97]⟩, ⟨#[]⟩)]
def mA : List Lab.Mt := [(⟨#[97]⟩, ⟨#[49]⟩, true)]
def exS : List E := [(up2, [(1, 5)])]
def exT : List E := [(up1, [(1, 6)]), (up2, [(1, 5)])]
theorem ex_add1 {r : List E × Int} (h : AddR [] up2 (1, 5) r) : r = (exS, 0) := by
  unfold AddR at h
  rw [if_pos (by decide +kernel)] at h
  obtain ⟨p, hp, rfl⟩ := h
  have := hp.zero (by decide +kernel)
  subst this
  decide +kernel
theorem ex_add2 {r : List E × Int} (h : AddR exS up1 (1, 6) r) : r = (exT, 0) := by
  unfold AddR at h
  rw [if_pos (by decide +kernel)] at h
  obtain ⟨p, hp, rfl⟩ := h
  have := hp.zero (by decide +kernel)
  subst this
  decide +kernel
theorem ex_add3 {r : List E × Int} (h : AddR exT aa (0, 0) r) : r = (exT, 7) := by
  unfold AddR at h
  rw [if_neg (by decide +kernel)] at h
  subst h
  decide +kernel
theorem ex_get {s : List (Int × Int)} (h : GetR exT up1 s) : s = [(1, 6)] := by
  obtain ⟨p, hp, rfl⟩ := h
  have := hp.zero (by decide +kernel)
  subst this
  decide +kernel
theorem ex_sane : sane exT = true := by decide +kernel
theorem ex_sel : selE (counted exT) ⟨#[117, 112]⟩ mA 3 9 = [(up2, (1, 5))] := by decide +kernel
end Sto
end Go.Proofs.Ytidfiiogjfpfmaa
