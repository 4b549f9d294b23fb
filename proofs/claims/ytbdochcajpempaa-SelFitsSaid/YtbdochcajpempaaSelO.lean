/- The walk of the reference's Parse. -/
import Derived.Test.YtbdochcajpempaaSelM
import Derived.Test.YtbdochcajpempaaSelN
namespace Go.Proofs.Ytbdochcajpempaa
open Go.RowKit
set_option linter.unusedSimpArgs false
set_option linter.unusedVariables false

set_option maxRecDepth 100000 in
set_option maxHeartbeats 8000000 in
theorem rParse_bad (A : Option Addr) (n c i : Nat) (ts : List Sel.Tk) (j : Nat) (hj : j = min i n) (e0 : Int) (he : Sel.nameE ts i = e0) (h1 : e0 ≠ 0) (w : World) (hT : Tks w w.heap.size A n c ts) :
    Calls Try.prog 13 #[.slice A n c, .int .i64 (i : Nat)] w fun e w' => ∃ A' n' c', e = .returned (.tuple #[.agg #[.string ⟨#[]⟩, .slice A' n' c'], .int .i64 (j : Nat), .int .i64 e0]) ∧ Mts w' w'.heap.size A' n' c' [] ∧ Below w.heap.size w w' := by
  have HT := Lib.hid hT
  have HE0 := Lib.hid he
  have HJ := Lib.hid hj
  clear hT he hj
  go_enter Try.func13, Try.ntmps13
  go_wp2_with fail
  have HT2 := Lib.hid (((HT.out.alloc (Nat.le_refl _) (.cells #[.string ⟨#[]⟩, .slice none 0 0] 24)).alloc (by simp) (.cells #[.string ⟨#[]⟩, .slice none 0 0] 24)).more (show w.heap.size ≤ ((w.alloc (.cells #[.string ⟨#[]⟩, .slice none 0 0] 24)).alloc (.cells #[.string ⟨#[]⟩, .slice none 0 0] 24)).heap.size by simp; omega))
  refine (rNameAt_is _ n c i ts e0 HE0.out _ HT2.out).mono ?_
  rintro e w' ⟨rfl, rfl⟩
  go_wp2
  go_region_with (go_at_call 25; refine (place_is _ n c i j HJ.out _).mono ?_; rintro e w' ⟨rfl, rfl⟩)
  all_goals
    go_wp2
    refine bodyPost_ret (v := .tuple #[.agg #[.string ⟨#[]⟩, .slice none 0 0], .int .i64 ((j : Nat) : Int), .int .i64 e0]) (by simp [results, Try.results13, go_sem, Act.put]) (by first | rfl | simp [Act.put]) ⟨none, 0, 0, by rfl, mts_none _, (by repeat (first | assumption | exact Below.refl _ _ | apply Mem.below_drewN | apply Below.drew | refine Below.alloc ?_ (by first | assumption | omega | (simp; done) | (simp; omega)) _ | refine Below.setCell ?_ (by first | assumption | omega | (simp; done) | (simp; omega)) _))⟩
set_option maxRecDepth 100000 in
set_option maxHeartbeats 8000000 in
theorem rParse_neg (A : Option Addr) (n c : Nat) (x : Int) (hx : x < 0) (ts : List Sel.Tk) (w : World) (hT : Tks w w.heap.size A n c ts) :
    Calls Try.prog 13 #[.slice A n c, .int .i64 x] w fun e w' => ∃ A' n' c', e = .returned (.tuple #[.agg #[.string ⟨#[]⟩, .slice A' n' c'], .int .i64 0, .int .i64 3]) ∧ Mts w' w'.heap.size A' n' c' [] ∧ Below w.heap.size w w' := by
  have HT := Lib.hid hT
  clear hT
  go_enter Try.func13, Try.ntmps13
  go_wp2_with fail
  have HT2 := Lib.hid (((HT.out.alloc (Nat.le_refl _) (.cells #[.string ⟨#[]⟩, .slice none 0 0] 24)).alloc (by simp) (.cells #[.string ⟨#[]⟩, .slice none 0 0] 24)).more (show w.heap.size ≤ ((w.alloc (.cells #[.string ⟨#[]⟩, .slice none 0 0] 24)).alloc (.cells #[.string ⟨#[]⟩, .slice none 0 0] 24)).heap.size by simp; omega))
  refine (rNameAt_neg _ n c x hx _).mono ?_
  rintro e w' ⟨rfl, rfl⟩
  go_wp2
  go_region_with (go_at_call 25; refine (place_neg _ n c x hx _).mono ?_; rintro e w' ⟨rfl, rfl⟩)
  all_goals
    go_wp2
    refine bodyPost_ret (v := .tuple #[.agg #[.string ⟨#[]⟩, .slice none 0 0], .int .i64 0, .int .i64 3]) (by simp [results, Try.results13, go_sem, Act.put]) (by first | rfl | simp [Act.put]) ⟨none, 0, 0, by rfl, mts_none _, (by repeat (first | assumption | exact Below.refl _ _ | apply Mem.below_drewN | apply Below.drew | refine Below.alloc ?_ (by first | assumption | omega | (simp; done) | (simp; omega)) _ | refine Below.setCell ?_ (by first | assumption | omega | (simp; done) | (simp; omega)) _))⟩
end Go.Proofs.Ytbdochcajpempaa
