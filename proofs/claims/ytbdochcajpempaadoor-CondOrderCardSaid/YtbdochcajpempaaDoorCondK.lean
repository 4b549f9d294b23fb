/- The walk of CondOrder. -/
import Derived.Test.YtbdochcajpempaaDoorCondJ
namespace Go.Proofs.YtbdochcajpempaaDoor
open Go.RowKit
set_option linter.unusedSimpArgs false
set_option linter.unusedVariables false

namespace Cond
theorem up1 {a b t : Int} (h : a ≤ b) : holds 1 a t = false ∨ (holds 1 a t = true ∧ holds 1 b t = true) := by
  show decide (t < a) = false ∨ (decide (t < a) = true ∧ decide (t < b) = true)
  by_cases hh : t < a
  · right; exact ⟨decide_eq_true hh, decide_eq_true (by omega)⟩
  · left; exact decide_eq_false hh
theorem up2 {a b t : Int} (h : a ≤ b) : holds 2 a t = false ∨ (holds 2 a t = true ∧ holds 2 b t = true) := by
  show decide (t ≤ a) = false ∨ (decide (t ≤ a) = true ∧ decide (t ≤ b) = true)
  by_cases hh : t ≤ a
  · right; exact ⟨decide_eq_true hh, decide_eq_true (by omega)⟩
  · left; exact decide_eq_false hh
theorem up3 {a b t : Int} (h : a ≤ b) : holds 3 b t = false ∨ (holds 3 b t = true ∧ holds 3 a t = true) := by
  show decide (b < t) = false ∨ (decide (b < t) = true ∧ decide (a < t) = true)
  by_cases hh : b < t
  · right; exact ⟨decide_eq_true hh, decide_eq_true (by omega)⟩
  · left; exact decide_eq_false hh
theorem up4 {a b t : Int} (h : a ≤ b) : holds 4 b t = false ∨ (holds 4 b t = true ∧ holds 4 a t = true) := by
  show decide (b ≤ t) = false ∨ (decide (b ≤ t) = true ∧ decide (a ≤ t) = true)
  by_cases hh : b ≤ t
  · right; exact ⟨decide_eq_true hh, decide_eq_true (by omega)⟩
  · left; exact decide_eq_false hh
end Cond

set_option maxRecDepth 100000 in
set_option maxHeartbeats 16000000 in
theorem condOrder_any (v u t : Int) (w : World) (hG : CGlob w) : Calls Tryd.prog 7 #[.int .i64 v, .int .i64 u, .int .i64 t] w fun e w' => LawR w e w' := by
  have HG := Lib.hid hG
  clear hG
  obtain ⟨a, ha⟩ : ∃ a, min v u = a := ⟨_, rfl⟩
  obtain ⟨b, hb⟩ : ∃ b, max v u = b := ⟨_, rfl⟩
  have hab : a ≤ b := by omega
  have e1 : Cond.holds 1 v v = false := decide_eq_false (Int.lt_irrefl v)
  have e5 : Cond.holds 5 v v = true := beq_self_eq_true v
  have e6 : Cond.holds 6 v u = (v != u) := rfl
  have x1 := Cond.up1 (t := t) hab
  have x2 := Cond.up2 (t := t) hab
  have x3 := Cond.up3 (t := t) hab
  have x4 := Cond.up4 (t := t) hab
  clear hab
  go_enter Tryd.func7, Tryd.ntmps7
  go_wp2_with fail
  refine (awake_any w HG.out).mono ?_
  rintro e w1 ⟨rfl, hb1⟩
  rcases x1 with x1 | ⟨x1, y1⟩ <;> rcases x2 with x2 | ⟨x2, y2⟩ <;> rcases x3 with x3 | ⟨x3, y3⟩ <;> rcases x4 with x4 | ⟨x4, y4⟩
  all_goals
    go_wp2_with (go_at_call 15; refine (holds_any _ _ _ _).mono ?_; rintro e w' ⟨rfl, rfl⟩)
    go_ret
    exact ⟨by first | rfl | simp, hb1⟩
end Go.Proofs.YtbdochcajpempaaDoor
