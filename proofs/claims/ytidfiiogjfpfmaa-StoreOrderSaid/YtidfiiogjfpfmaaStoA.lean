/- How labels compare: the plain law; the walks of cmp.Compare, cmp.Or, of label.Compare's function and of slices.CompareFunc. -/
import Derived.Test.YtidfiiogjfpfmaaSelH
import Derived.LoopTactic
import Derived.Deep.RegionHeld3
namespace Go.Proofs.Ytidfiiogjfpfmaa
open Go.RowKit
set_option linter.unusedSimpArgs false
set_option linter.unusedVariables false

namespace Lab
/-- how two texts compare -/
def cmpB (a b : ByteArray) : Int := if Op.bytesLess a.toList b.toList = true then -1 else if (a.toList == b.toList) = true then 0 else 1
def cmpP (p q : Pr) : Int := if cmpB p.1 q.1 ≠ 0 then cmpB p.1 q.1 else cmpB p.2 q.2
def cmpL : List Pr → List Pr → Int
  | [], [] => 0
  | [], _ :: _ => -1
  | _ :: _, [] => 1
  | p :: xs, q :: ys => if cmpP p q ≠ 0 then cmpP p q else cmpL xs ys
end Lab
theorem str_lss (t : TypeId) (a b : ByteArray) : binOp .lss t (.string a) (.string b) = pure (.bool (Op.bytesLess a.toList b.toList)) := by simp [binOp, Op.stringOp]
theorem str_gtr (t : TypeId) (a b : ByteArray) : binOp .gtr t (.string a) (.string b) = pure (.bool (!Op.bytesLess a.toList b.toList && !(a.toList == b.toList))) := by simp [binOp, Op.stringOp]
attribute [local go_sem ↓] str_lss str_gtr

set_option maxRecDepth 100000 in
set_option maxHeartbeats 4000000 in
theorem isNaN_any (a : ByteArray) (w : World) : Calls Try.prog 48 #[.string a] w fun e w' => e = .returned (.bool false) ∧ w = w' := by
  go_enter Try.func48, Try.ntmps48
  go_wp2
  go_ret
  exact ⟨rfl, rfl⟩
set_option maxRecDepth 100000 in
set_option maxHeartbeats 4000000 in
theorem cmpB_is (a b : ByteArray) (c : Int) (hc : Lab.cmpB a b = c) (w : World) : Calls Try.prog 41 #[.string a, .string b] w fun e w' => e = .returned (.int .i64 c) ∧ w = w' := by
  subst hc
  unfold Lab.cmpB
  rcases h1 : Op.bytesLess a.toList b.toList with _ | _
  · rcases h2 : (a.toList == b.toList) with _ | _
    · go_enter Try.func41, Try.ntmps41
      go_wp2_with (go_at_call 48; refine (isNaN_any _ _).mono ?_; rintro e w' ⟨rfl, rfl⟩)
      go_ret
      exact ⟨rfl, rfl⟩
    · go_enter Try.func41, Try.ntmps41
      go_wp2_with (go_at_call 48; refine (isNaN_any _ _).mono ?_; rintro e w' ⟨rfl, rfl⟩)
      go_ret
      exact ⟨rfl, rfl⟩
  · go_enter Try.func41, Try.ntmps41
    go_wp2_with (go_at_call 48; refine (isNaN_any _ _).mono ?_; rintro e w' ⟨rfl, rfl⟩)
    go_ret
    exact ⟨rfl, rfl⟩
set_option maxRecDepth 100000 in
set_option maxHeartbeats 4000000 in
theorem cmpOr_is (g : Nat) (c d r : Int) (hr : (if c ≠ 0 then c else d) = r) (ty : TypeId) (w : World) (hb : Mem.Blk w g ty #[.int .i64 c, .int .i64 d]) :
    Calls Try.prog 40 #[.slice (some ⟨g, 0, none⟩) 2 2] w fun e w' => e = .returned (.int .i64 r) ∧ w = w' := by
  have h0 := hb.cell 0
  have h1 := hb.cell 1
  simp only [List.getElem?_toArray, List.getElem?_cons_zero, List.getElem?_cons_succ] at h0 h1
  have HB := Lib.hid hb
  clear hb
  by_cases hc : c = 0
  · subst hc
    rw [if_neg (fun h => h rfl)] at hr
    subst hr
    by_cases hd : d = 0
    · subst hd
      go_enter Try.func40, Try.ntmps40
      go_wp2
      go_loopw [8] (fun i wr => ∃ k : Nat, k ≤ 2 ∧ i = .int .i64 (k : Nat) ∧ w = wr) (fun i _ => 2 - (intOf i).toNat)
      case atStart => exact ⟨0, by omega, rfl, rfl⟩
      case round =>
        obtain ⟨k, hk, rfl, rfl⟩ := hrel
        obtain rfl | rfl | rfl : k = 0 ∨ k = 1 ∨ k = 2 := by omega
        · go_wp2
          go_roundw
          case rel => exact ⟨1, by omega, rfl, by first | rfl | trivial⟩
          case measure => simp [intOf]
        · go_wp2
          go_roundw
          case rel => exact ⟨2, by omega, rfl, by first | rfl | trivial⟩
          case measure => simp [intOf]
        · go_wp2
          go_ret
          exact ⟨rfl, rfl⟩
    · go_enter Try.func40, Try.ntmps40
      go_wp2
      go_loopw [8] (fun i wr => ∃ k : Nat, k ≤ 1 ∧ i = .int .i64 (k : Nat) ∧ w = wr) (fun i _ => 2 - (intOf i).toNat)
      case atStart => exact ⟨0, by omega, rfl, rfl⟩
      case round =>
        obtain ⟨k, hk, rfl, rfl⟩ := hrel
        obtain rfl | rfl : k = 0 ∨ k = 1 := by omega
        · go_wp2
          go_roundw
          case rel => exact ⟨1, by omega, rfl, by first | rfl | trivial⟩
          case measure => simp [intOf]
        · go_wp2
          go_ret
          exact ⟨rfl, rfl⟩
  · rw [if_pos hc] at hr
    subst hr
    go_enter Try.func40, Try.ntmps40
    go_wp2
    go_loopw [8] (fun i wr => ∃ k : Nat, k ≤ 0 ∧ i = .int .i64 (k : Nat) ∧ w = wr) (fun i _ => 2 - (intOf i).toNat)
    case atStart => exact ⟨0, by omega, rfl, rfl⟩
    case round =>
      obtain ⟨k, hk, rfl, rfl⟩ := hrel
      obtain rfl : k = 0 := by omega
      go_wp2
      go_ret
      exact ⟨rfl, rfl⟩
end Go.Proofs.Ytidfiiogjfpfmaa
