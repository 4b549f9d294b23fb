/- The walk of the reference's Same, of labels. -/
import Derived.Test.YtidfiiogjfpfmaaStoN
import Derived.Laws.StructEq
namespace Go.Proofs.Ytidfiiogjfpfmaa
open Go.RowKit
set_option linter.unusedSimpArgs false
set_option linter.unusedVariables false

/-- '!=' between two pairs -/
theorem prp_eqIn (w : World) (a b c d : ByteArray) : (Op.equalIn 10000 61 (.agg #[.string a, .string b]) (.agg #[.string c, .string d])).run Try.prog w = .ok (a.toList == c.toList && b.toList == d.toList) w := by
  have u3 := Try.underlying9
  have a3 := Try.isAgg9
  have z3 := Try.sizeOf9
  have hS : Try.prog.underlying 61 = some (.struct (Try.prog.fieldsOf 61)) := by kernel_rfl
  have hp : Try.prog.stoodInHeld 61 = false := by kernel_rfl
  rw [show (10000 : Nat) = 9999 + 1 from rfl, run_equalIn_agg w 9999 61 _ _ hS hp]
  simp only [Program.fieldsOf, Try.underlying61]
  go_simp
  by_cases h1 : a.toList = c.toList <;> by_cases h2 : b.toList = d.toList <;> simp [h1, h2]
theorem prp_neq (w : World) (a b c d : ByteArray) : (binOp .neq 61 (.agg #[.string a, .string b]) (.agg #[.string c, .string d])).run Try.prog w = .ok (.bool (!(a.toList == c.toList && b.toList == d.toList))) w := by
  rw [run_neq_struct, prp_eqIn]; rfl
theorem prp_guard (w : World) (op : BinOp) (x y : Operand) (xs ys : Array Value) : (eqGuard op 61 x y (.agg xs) (.agg ys)).run Try.prog w = .ok () w := run_eqGuard_agg w op _ x y xs ys (by kernel_rfl)
attribute [local go_sem ↓] prp_neq prp_guard
theorem toList_inj {a b : ByteArray} (h : a.toList = b.toList) : a = b := by
  rw [ByteArray.toList_eq, ByteArray.toList_eq] at h
  cases a; cases b
  exact congrArg _ (Array.toList_inj.1 h)
theorem pr_same {p q : Lab.Pr} : ((p.1.toList == q.1.toList && p.2.toList == q.2.toList) = true) ↔ p = q := by
  rw [Bool.and_eq_true, beq_iff_eq, beq_iff_eq]
  constructor
  · rintro ⟨h1, h2⟩
    obtain ⟨p1, p2⟩ := p
    obtain ⟨q1, q2⟩ := q
    rw [show p1 = q1 from toList_inj h1, show p2 = q2 from toList_inj h2]
  · rintro rfl; exact ⟨rfl, rfl⟩
theorem take_snoc {α : Type} {xs ys : List α} {k : Nat} {p q : α} (h : xs.take k = ys.take k) (hp : xs[k]? = some p) (hq : ys[k]? = some q) (e : p = q) : xs.take (k + 1) = ys.take (k + 1) := by
  rw [List.take_add_one, List.take_add_one, h, hp, hq, e]
theorem take_ne {α : Type} {xs ys : List α} {k : Nat} {p q : α} (hp : xs[k]? = some p) (hq : ys[k]? = some q) (e : p ≠ q) : xs ≠ ys := by
  rintro rfl
  rw [hp] at hq
  injection hq with hq
  exact e hq

set_option maxRecDepth 100000 in
set_option maxHeartbeats 4000000 in
theorem same3_any (A D : Option Addr) (n c m d : Nat) (xs ys : List Lab.Pr) (w : World) (h : Prs w w.heap.size A n c xs) (g : Prs w w.heap.size D m d ys) :
    Calls Try.prog 15 #[.slice A n c, .slice D m d] w fun e w' => e = .returned (.bool (decide (xs = ys))) ∧ Below w.heap.size w w' := by
  have HLX := Lib.hid h.len
  have HLY := Lib.hid g.len
  have hc := Nat.le_trans h.1.2.1 h.1.2.2.1
  by_cases hnm : n = m
  · subst hnm
    have hN : ((n : Int) != (n : Int)) = false := by simp
    go_enter Try.func15, Try.ntmps15
    go_wp2
    go_loopw [5] (fun i wr => ∃ k : Nat, k ≤ n ∧ i = .int .i64 k ∧ xs.take k = ys.take k ∧ Below w.heap.size w wr) (fun i _ => n - (intOf i).toNat)
    case atStart => exact ⟨0, Nat.zero_le _, rfl, rfl, Below.refl _ _⟩
    case round =>
      obtain ⟨k, hk, rfl, hok, hb⟩ := hrel
      by_cases hlt : k < n
      · have hdk : decide (k < n) = true := decide_eq_true hlt
        obtain ⟨b, off, rfl, hbB, hcell⟩ := h.at_ hlt
        obtain ⟨b2, off2, rfl, hbB2, hcell2⟩ := g.at_ hlt
        obtain ⟨p, hp⟩ : ∃ p, xs[k]? = some p := ⟨_, List.getElem?_eq_getElem (by rw [HLX.out]; exact hlt)⟩
        obtain ⟨q, hq⟩ : ∃ q, ys[k]? = some q := ⟨_, List.getElem?_eq_getElem (by rw [HLY.out]; exact hlt)⟩
        obtain ⟨p1, p2⟩ := p
        obtain ⟨q1, q2⟩ := q
        have h1 := (hb.cell (p := ⟨b, off + k * 2, none⟩) hbB).trans (hcell k _ hp).1
        have h2 := (hb.cell (p := ⟨b, off + k * 2 + 1, none⟩) hbB).trans (hcell k _ hp).2
        have g1 := (hb.cell (p := ⟨b2, off2 + k * 2, none⟩) hbB2).trans (hcell2 k _ hq).1
        have g2 := (hb.cell (p := ⟨b2, off2 + k * 2 + 1, none⟩) hbB2).trans (hcell2 k _ hq).2
        have HSN := Lib.hid (take_snoc hok hp hq)
        have HNE := Lib.hid (take_ne hp hq)
        have HPS := Lib.hid (pr_same (p := (p1, p2)) (q := (q1, q2)))
        have hbs := hb.size
        have j0 : (0 : Int) ≤ (k : Int) := by omega
        have j1 : (k : Int) < (n : Int) := by omega
        clear hok hcell hcell2 h g hp hq
        go_wp2
        go_quiet (fail)
        go_wp2
        · have hne : (!p1.toList == q1.toList) = true ∨ (!p2.toList == q2.toList) = true := by assumption
          go_ret
          refine ⟨SerW.ret_bool (decide_eq_false (HNE.out fun e => ?_)).symm, (by repeat (first | assumption | exact Below.refl _ _ | apply Mem.below_drewN | apply Below.drew | refine Below.alloc ?_ (by first | assumption | omega | (simp; done) | (simp; omega)) _ | refine Below.setCell ?_ (by first | assumption | omega | (simp; done) | (simp; omega)) _))⟩
          have := HPS.out.2 e
          rw [Bool.and_eq_true] at this
          rw [this.1, this.2] at hne
          rcases hne with h | h <;> cases h
        · have he : (!p1.toList == q1.toList) = false ∧ (!p2.toList == q2.toList) = false := by assumption
          have hpq : (p1, p2) = (q1, q2) := HPS.out.1 (by rw [Bool.and_eq_true]; exact ⟨by simpa using he.1, by simpa using he.2⟩)
          go_roundw
          case rel => exact ⟨k + 1, by omega, by go_num, HSN.out hpq, (by repeat (first | assumption | exact Below.refl _ _ | apply Mem.below_drewN | apply Below.drew | refine Below.alloc ?_ (by first | assumption | omega | (simp; done) | (simp; omega)) _ | refine Below.setCell ?_ (by first | assumption | omega | (simp; done) | (simp; omega)) _))⟩
          case measure => simp [intOf]; omega
      · obtain rfl : k = n := by omega
        have hdk : decide (k < k) = false := decide_eq_false (by omega)
        go_wp2
        go_ret
        rw [List.take_of_length_le (by have := HLX.out; omega), List.take_of_length_le (by have := HLY.out; omega)] at hok
        exact ⟨SerW.ret_bool (decide_eq_true hok).symm, hb⟩
  · have hN : ((n : Int) != (m : Int)) = true := by simp; omega
    go_enter Try.func15, Try.ntmps15
    go_wp2
    go_ret
    exact ⟨SerW.ret_bool (decide_eq_false (by rintro rfl; have := HLX.out; have := HLY.out; omega)).symm, Below.refl _ _⟩
end Go.Proofs.Ytidfiiogjfpfmaa
