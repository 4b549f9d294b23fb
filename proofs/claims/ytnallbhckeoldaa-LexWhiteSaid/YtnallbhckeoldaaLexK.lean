/- The walks: whether two lists of tokens are the same; tokens without their places. -/
import Derived.Test.YtnallbhckeoldaaLexJ
import Derived.Laws.StructEq
import Derived.StillTailTactics
namespace Go.Proofs.Ytnallbhckeoldaa
open Go.RowKit

/-- '==' and '!=' between two tokens -/
theorem tok_eqIn (w : World) (a b c d : Int) (s t : ByteArray) : (Op.equalIn 10000 32 (.agg #[.int .i64 a, .int .i64 b, .string s]) (.agg #[.int .i64 c, .int .i64 d, .string t])).run Try.prog w = .ok (decide (a = c ∧ b = d ∧ s = t)) w := by
  have u3 := Try.underlying3
  have a3 := Try.isAgg3
  have z3 := Try.sizeOf3
  have u9 := Try.underlying9
  have a9 := Try.isAgg9
  have z9 := Try.sizeOf9
  have hS : Try.prog.underlying 32 = some (.struct (Try.prog.fieldsOf 32)) := by kernel_rfl
  have hp : Try.prog.stoodInHeld 32 = false := by kernel_rfl
  rw [show (10000 : Nat) = 9999 + 1 from rfl, run_equalIn_agg w 9999 32 _ _ hS hp]
  simp only [Program.fieldsOf, Try.underlying32]
  go_simp
  simp only [Lib.toList_data]
  have hst : s.data.toList = t.data.toList ↔ s = t := ⟨fun h => Lex.ba_ext h, fun h => by rw [h]⟩
  by_cases h1 : a = c <;> by_cases h2 : b = d <;> by_cases h3 : s = t <;> simp [h1, h2, h3, hst]
theorem tok_neq (w : World) (a b c d : Int) (s t : ByteArray) : (binOp .neq 32 (.agg #[.int .i64 a, .int .i64 b, .string s]) (.agg #[.int .i64 c, .int .i64 d, .string t])).run Try.prog w = .ok (.bool (!decide (a = c ∧ b = d ∧ s = t))) w := by
  rw [run_neq_struct, tok_eqIn]; rfl
theorem tok_eql (w : World) (a b c d : Int) (s t : ByteArray) : (binOp .eql 32 (.agg #[.int .i64 a, .int .i64 b, .string s]) (.agg #[.int .i64 c, .int .i64 d, .string t])).run Try.prog w = .ok (.bool (decide (a = c ∧ b = d ∧ s = t))) w := by
  rw [run_eql_struct, tok_eqIn]; rfl
theorem tok_guard (w : World) (op : BinOp) (x y : Operand) (xs ys : Array Value) : (eqGuard op 32 x y (.agg xs) (.agg ys)).run Try.prog w = .ok () w := run_eqGuard_agg w op _ x y xs ys (by kernel_rfl)
theorem tok_neq_same (w : World) (a b : Int) (s : ByteArray) : (binOp .neq 32 (.agg #[.int .i64 a, .int .i64 b, .string s]) (.agg #[.int .i64 a, .int .i64 b, .string s])).run Try.prog w = .ok (.bool false) w := by
  rw [tok_neq]; simp
theorem tok_eql_same (w : World) (a b : Int) (s : ByteArray) : (binOp .eql 32 (.agg #[.int .i64 a, .int .i64 b, .string s]) (.agg #[.int .i64 a, .int .i64 b, .string s])).run Try.prog w = .ok (.bool true) w := by
  rw [tok_eql]; simp
attribute [local go_sem ↓] tok_neq_same tok_eql_same tok_guard

namespace Lex
theorem tok_at {xs : List Tok} {n k : Nat} (h : xs.length = n) (hk : k < n) : ∃ x, xs[k]? = some x := ⟨_, List.getElem?_eq_getElem (by omega)⟩
end Lex
/-- two equal lists are the same -/
theorem same_eq (A D : Option Addr) (n c m d : Nat) (xs : List Lex.Tok) (w : World) (h : Toks w w.heap.size A n c xs) (g : Toks w w.heap.size D m d xs) :
    Calls Try.prog 11 #[.slice A n c, .slice D m d] w fun e w' => e = .returned (.bool true) ∧ Below w.heap.size w w' := by
  have hlen := h.1
  have hc := h.2.1
  have hc2 := h.2.2.1
  obtain rfl : n = m := hlen.symm.trans g.1
  have hN : ((n : Int) != (n : Int)) = false := by simp
  go_enter Try.func11, Try.ntmps11
  go_wp2
  go_loopw [5] (fun i wr => ∃ k : Nat, k ≤ n ∧ i = .int .i64 k ∧ Below w.heap.size w wr) (fun i _ => n - (intOf i).toNat)
  case atStart => exact ⟨0, Nat.zero_le _, rfl, Below.refl _ _⟩
  case round =>
    obtain ⟨k, hk, rfl, hb⟩ := hrel
    by_cases hlt : k < n
    · obtain ⟨b, off, rfl, hbB, hcell⟩ := h.at_ (by omega)
      obtain ⟨b2, off2, rfl, hbB2, hcell2⟩ := g.at_ (by omega)
      obtain ⟨x, hx⟩ := Lex.tok_at hlen hlt
      have h1 := (hb.cell (p := ⟨b, off + k * 3, none⟩) hbB).trans (hcell k x hx 0 _ rfl)
      have h2 := (hb.cell (p := ⟨b, off + k * 3 + 1, none⟩) hbB).trans (hcell k x hx 1 _ rfl)
      have h3 := (hb.cell (p := ⟨b, off + k * 3 + 2, none⟩) hbB).trans (hcell k x hx 2 _ rfl)
      have g1 := (hb.cell (p := ⟨b2, off2 + k * 3, none⟩) hbB2).trans (hcell2 k x hx 0 _ rfl)
      have g2 := (hb.cell (p := ⟨b2, off2 + k * 3 + 1, none⟩) hbB2).trans (hcell2 k x hx 1 _ rfl)
      have g3 := (hb.cell (p := ⟨b2, off2 + k * 3 + 2, none⟩) hbB2).trans (hcell2 k x hx 2 _ rfl)
      have hbs := hb.size
      clear hcell hcell2 h g hlen hx
      have j0 : (0 : Int) ≤ (k : Int) := by omega
      have j1 : (k : Int) < (n : Int) := by omega
      go_wp2
      go_quiet (fail)
      go_wp2
      go_roundw
      case rel => exact ⟨k + 1, by omega, by go_num, (by repeat (first | assumption | exact Below.refl _ _ | apply Mem.below_drewN | apply Below.drew | refine Below.alloc ?_ (by first | assumption | omega | (simp; done) | (simp; omega)) _ | refine Below.setCell ?_ (by first | assumption | omega | (simp; done) | (simp; omega)) _))⟩
      case measure => simp [intOf]; omega
    · obtain rfl : k = n := by omega
      go_wp2
      go_ret
      exact ⟨rfl, hb⟩
end Go.Proofs.Ytnallbhckeoldaa
