/- The walk of the reference's Order of a file that may not be, and of its Times. -/
import Derived.Test.YthjnhifaejoigaaSchP
namespace Go.Proofs.Ythjnhifaejoigaa
open Go.RowKit
set_option linter.unusedSimpArgs false
set_option linter.unusedVariables false

set_option maxRecDepth 100000 in
set_option maxHeartbeats 16000000 in
theorem rOrder_none (A0 : Option Addr) (n c : Nat) (gs : List Lab.Gr) (LA : Option Addr) (Ln Lc : Nat) (ls : List Int) (now : Int) (hs : Lab.fiSane gs = false) (w : World) (h : FiIn w w.heap.size A0 n c gs) :
    Calls Try.prog 17 #[.slice A0 n c, .slice LA Ln Lc, .int .i64 now] w (IntsR w (Sch.order gs ls now)) := by
  have HHA := Lib.hid h
  have HS := Lib.hid hs
  have HR := Lib.hid (show Sch.order gs ls now = [] by unfold Sch.order; rw [hs, if_neg (by decide)])
  clear hs h
  go_enter Try.func17, Try.ntmps17
  go_wp2
  go_loopw [7, 8] (fun s7 s8 wr => s7 = .slice none 0 0 ∧ s8 = .int .i64 0 ∧ w = wr) (fun _ _ _ => 0)
  case atStart => exact ⟨rfl, rfl, rfl⟩
  case round =>
    obtain ⟨rfl, rfl, hbr⟩ := hrel
    subst hbr
    by_cases hlt : 0 < n
    · have hdk : decide (0 < n) = true := decide_eq_true hlt
      go_wp2_with fail
      refine (rFiSane_is A0 n c gs false HS.out _ HHA.out).mono ?_
      rintro e w4 ⟨rfl, hb4⟩
      go_wp2
      go_ret
      exact ⟨none, 0, 0, rfl, by rw [HR.out]; exact Recs.none_ _ _, hb4⟩
    · have hdk : decide (0 < n) = false := decide_eq_false hlt
      go_wp2
      go_ret
      exact ⟨none, 0, 0, rfl, by rw [HR.out]; exact Recs.none_ _ _, Below.refl _ _⟩
theorem rOrder_any (A0 : Option Addr) (n c : Nat) (gs : List Lab.Gr) (LA : Option Addr) (Ln Lc : Nat) (ls : List Int) (now : Int) (w : World) (h : FiIn w w.heap.size A0 n c gs) (hL : Recs intCells 1 w w.heap.size LA Ln Lc ls) :
    Calls Try.prog 17 #[.slice A0 n c, .slice LA Ln Lc, .int .i64 now] w (IntsR w (Sch.order gs ls now)) := by
  rcases hs : Lab.fiSane gs with _ | _
  · exact rOrder_none A0 n c gs LA Ln Lc ls now hs w h
  · exact rOrder_some A0 n c gs LA Ln Lc ls now hs w h hL
end Go.Proofs.Ythjnhifaejoigaa
