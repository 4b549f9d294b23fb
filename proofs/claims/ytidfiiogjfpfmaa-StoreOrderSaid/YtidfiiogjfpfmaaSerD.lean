/- Going over a series backwards: the function that hands the iterator out, and the iterator's contract. -/
import Derived.RangeFuncNested
import Derived.RangeFuncBound
import Derived.RangeFuncCalls
import Derived.RangeFuncLeaves
import Derived.RangeFuncBox
import Derived.Shelf.Abstract
import Derived.Shelf.RegionOpen
import Derived.WalkKit
import Derived.OwnWalkIn
import Derived.TacticsInMore
import Derived.LoopNIn
import Derived.LoopIn
import Derived.Test.YtidfiiogjfpfmaaSerPlain2
import Derived.Test.YtidfiiogjfpfmaaSerC
namespace Go.Proofs.Ytidfiiogjfpfmaa.SerW
open Go.RowKit Go.Shelf

attribute [local go_sem] Oper.semAt_some

/-- what a round keeps: all that lies below n₀, and block Bs -/
def KB (n₀ Bs : Nat) (W W' : World) : Prop := Below n₀ W W' ∧ W'.heap[Bs]? = W.heap[Bs]?
theorem KB.refl (n₀ Bs : Nat) (W : World) : KB n₀ Bs W W := ⟨Below.refl _ _, rfl⟩
theorem KB.trans {n₀ Bs : Nat} {A B C : World} (h : KB n₀ Bs A B) (k : KB n₀ Bs B C) : KB n₀ Bs A C := ⟨h.1.trans k.1, k.2.trans h.2⟩
theorem KB.cell {n₀ Bs : Nat} {A B : World} (h : KB n₀ Bs A B) : B.cell? ⟨Bs, 0, none⟩ = A.cell? ⟨Bs, 0, none⟩ := World.cell?_of_block h.2
theorem kb_b {n₀ Bs : Nat} {w : World} (hn : n₀ ≤ w.heap.size) (hBs : Bs < w.heap.size) (W : World) (l : Nat) (o o' : Obj) (hl : w.heap.size ≤ l) (h : W.heap[l]? = some o) (hc : o.isCells = false) (hw : o.isWalk = false) : KB n₀ Bs W (W.putObj l o') := by
  refine ⟨belowK_b hn W l o o' hl h hc hw, ?_⟩
  exact (grownBy_putObj' W l o').block Bs (by have := (Array.getElem?_eq_some_iff.1 h).1; omega) (fun e => by injection e with e; omega)

def encS (x : Int × Int) : Array Value := #[.agg #[.int .i64 x.1, .int .i64 x.2]]

set_option maxRecDepth 100000 in
set_option maxHeartbeats 2000000 in
theorem bk1_in (F : Fence) (n : Nat) (h28 : F.fn 46) (hro : F.round = none) (hn : 1 ≤ n) (l Bs n₀ m c : Nat) (A : Option Addr) (xs : List (Int × Int)) (J Jx : List (Int × Int) → World → Prop)
    (hY : ∀ pre x W, J pre W → pre.length < m → YieldAt F (n - 1) Try.prog l (encS x) W fun e W' =>
      (e = .returned (.bool true) ∧ J (pre ++ [x]) W' ∧ KB n₀ Bs W W') ∨ (e = .returned (.bool false) ∧ Jx (pre ++ [x]) W'))
    (W : World) (hBs : W.cell? ⟨Bs, 0, none⟩ = some (.slice A m c)) (hS : Smp W n₀ A m c xs) (h0 : J [] W) :
    CallsIn F n Try.prog 46 #[.func (.yield l) #[] #[], .pointer (some ⟨Bs, 0, none⟩)] W fun e W' => (∃ v, e = .returned v) ∧
      ((∃ ys, ys = xs.reverse ∧ J ys W') ∨ (∃ pre, pre <+: xs.reverse ∧ Jx pre W')) := by
  have hm := hS.1
  have hc1 := hS.2.1
  have hc2 := hS.2.2.1
  refine callsIn_of_wp Try.func46 rfl h28 ?_ hro
  simp only [Try.ntmps46, List.size_toArray, List.length_cons, List.length_nil, Nat.reduceAdd, Nat.reduceSub, Array.replicate_succ, Array.replicate_zero, List.push_toArray, List.append_toArray, List.nil_append, List.cons_append]
  have HM := Lib.hid hm
  clear hm
  gi_wp2
  gi_loopw [3] (fun i wr => ∃ r : Nat, r ≤ m ∧ i = .int .i64 ((r : Int) - 1) ∧ J (Ser.revTo xs r) wr ∧ KB n₀ Bs W wr)
    (fun i _ => (intOf i + 1).toNat)
  case atStart => exact ⟨m, Nat.le_refl _, by go_num, by rw [← HM.out, Ser.revTo_none]; exact h0, KB.refl _ _ _⟩
  case round =>
    obtain ⟨r, hr, rfl, hJs, hk⟩ := hrel
    rcases r with _ | s
    · gi_wp2
      go_end0
      exact ⟨⟨_, rfl⟩, .inl ⟨_, rfl, by rw [← Ser.revTo_all]; exact hJs⟩⟩
    · have es : ((s + 1 : Nat) : Int) - 1 = (s : Int) := by omega
      rw [es]
      clear es
      have hlt : s < m := by omega
      obtain ⟨b, off, rfl, hbB, hcell⟩ := hS.at_ hlt
      have h1 := (hk.1.cell (p := ⟨b, off + s * 2, none⟩) hbB).trans (hcell s hlt).1
      have h2 := (hk.1.cell (p := ⟨b, off + s * 2 + 1, none⟩) hbB).trans (hcell s hlt).2
      have hbx := hk.cell.trans hBs
      obtain ⟨fn, tmps, assign, body, hy, hR⟩ := hY _ (Ser.tAt xs s, Ser.vAt xs s) wr hJs (by rw [Ser.revTo_length, HM.out]; omega)
      dsimp only [encS] at hy
      have HC := Lib.hid hcell
      have HS := Lib.hid hS
      clear hcell hS
      gi_wp2
      refine hR.mono ?_
      rintro e W3 (⟨rfl, hJ3, hk3⟩ | ⟨rfl, hJx3⟩)
      · gi_wp2
        go_roundw
        case rel => exact ⟨s, by omega, by go_num, by rw [Ser.revTo_step (by rw [HM.out]; omega)] at hJ3; exact hJ3, hk.trans hk3⟩
        case measure => simp [intOf]
      · gi_wp2
        refine bodyPost_ret (results_none rfl _ _ _) rfl ?_
        exact ⟨⟨_, rfl⟩, .inr ⟨_, by rw [Ser.revTo_step (by rw [HM.out]; omega)]; exact Ser.revTo_prefix _ _, hJx3⟩⟩

set_option maxHeartbeats 1000000 in
theorem bk_in (F : Fence) (n : Nat) (h22 : F.fn 32) (hro : F.round = none) (a : Option Addr) (len cap : Nat) (w : World) :
    CallsIn F n Try.prog 32 #[.slice a len cap] w fun e w' => e = .returned (.func (.func 46) #[] #[.pointer (some ⟨w.heap.size, 0, none⟩)]) ∧ w' = w.alloc (.cells #[.slice a len cap] 33) := by
  refine callsIn_of_wp Try.func32 rfl h22 ?_ hro
  simp only [Try.ntmps32, List.size_toArray, List.length_cons, List.length_nil, Nat.reduceAdd, Nat.reduceSub, Array.replicate_succ, Array.replicate_zero, List.push_toArray, List.append_toArray, List.nil_append, List.cons_append]
  gi_wp2
  go_ret
  exact ⟨rfl, rfl⟩

theorem bk_stops (F : Fence) (n : Nat) (h28 : F.fn 46) (hro : F.round = none) (hn : 1 ≤ n) (Bs n₀ m c : Nat) (A : Option Addr) (xs : List (Int × Int)) (w : World) (hBs : Bs < w.heap.size) (hn₀ : n₀ ≤ w.heap.size)
    (hc : w.cell? ⟨Bs, 0, none⟩ = some (.slice A m c)) (hS : Smp w n₀ A m c xs) :
    SeqStopsK F n Try.prog 46 #[.pointer (some ⟨Bs, 0, none⟩)] encS (KB n₀ Bs) (fun ys => ys = xs.reverse) (fun pre => pre <+: xs.reverse) m w := fun l J Jx W hW _ _ hY h0 =>
  bk1_in F n h28 hro hn l Bs n₀ m c A xs J Jx hY W ((hW.cell (p := ⟨Bs, 0, none⟩) hBs).trans hc) (hS.below (hW.mono hn₀)) h0
end Go.Proofs.Ytidfiiogjfpfmaa.SerW
