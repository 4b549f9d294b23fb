/- The walk of lex's awake: the document's example holds. -/
import Derived.Test.YtnallbhckeoldaaLexL
namespace Go.Proofs.Ytnallbhckeoldaa
open Go.RowKit
attribute [local go_sem ↓] tok_neq_same tok_eql_same tok_guard

theorem all_is (s : ByteArray) (hs : s.size ≤ 60000) (w : World) (l : List Lex.Tok) (n : Nat) (e : Int) (h : Lex.all (s.size + 1) (Lex.bl s) s.size = (l, n, e)) :
    Calls Try.prog 9 #[.string s] w fun en w' => ∃ A m c, en = .returned (.tuple #[.slice A m c, .int .i64 (n : Int), .int .i64 e]) ∧ Toks w' w'.heap.size A m c l ∧ Below w.heap.size w w' := by
  refine (all_any s hs w).mono ?_
  rintro en w' ⟨A, m, c, h1, h2, h3⟩
  rw [h] at h1 h2
  exact ⟨A, m, c, h1, h2, h3⟩
theorem ex1 : Lex.all 9 (Lex.bl ⟨#[97, 62, 61, 49, 115, 35, 32, 120]⟩) 8 = ([⟨1, 0, [97]⟩, ⟨4, 1, [62, 61]⟩, ⟨2, 3, [49, 115]⟩], 8, 0) := by rfl
theorem ex2 : Lex.all 5 (Lex.bl ⟨#[97, 32, 34, 98]⟩) 4 = ([⟨1, 0, [97]⟩], 2, 12) := by rfl
theorem ex3 : Lex.quote (Lex.bl ⟨#[97, 34, 10]⟩) = [34, 97, 92, 34, 92, 110, 34] := by rfl
theorem ex4 : Lex.join (Lex.bare [⟨1, 0, [97]⟩, ⟨4, 1, [62, 61]⟩, ⟨2, 3, [49, 115]⟩]) = [97, 32, 62, 61, 32, 49, 115] := by rfl

set_option maxRecDepth 100000 in
set_option maxHeartbeats 4000000 in
theorem awake_any (w : World) : Calls Try.prog 8 #[] w fun e w' => e = .returned (.bool true) ∧ Below w.heap.size w w' := by
  go_enter Try.func8, Try.ntmps8
  go_wp2_with fail
  refine (all_is ⟨#[97, 62, 61, 49, 115, 35, 32, 120]⟩ (by decide) w _ _ _ ex1).mono ?_
  rintro e w1 ⟨A, m, c, rfl, hT, hb1⟩
  obtain rfl : 3 = m := hT.1
  obtain ⟨b, off, rfl, hbB, hcell⟩ := hT.at_ (by decide)
  go_wp2_with fail
  refine (all_is ⟨#[97, 32, 34, 98]⟩ (by decide) w1 _ _ _ ex2).mono ?_
  rintro e w2 ⟨A2, m2, c2, rfl, hT2, hb2⟩
  have k0 := fun i u h => (hb2.cell (p := ⟨b, off + 0 * 3 + i, none⟩) hbB).trans (hcell 0 _ rfl i u h)
  have k1 := fun i u h => (hb2.cell (p := ⟨b, off + 1 * 3 + i, none⟩) hbB).trans (hcell 1 _ rfl i u h)
  have k2 := fun i u h => (hb2.cell (p := ⟨b, off + 2 * 3 + i, none⟩) hbB).trans (hcell 2 _ rfl i u h)
  have h00 := k0 0 _ rfl
  have h01 := k0 1 _ rfl
  have h02 := k0 2 _ rfl
  have h10 := k1 0 _ rfl
  have h11 := k1 1 _ rfl
  have h12 := k1 2 _ rfl
  have h20 := k2 0 _ rfl
  have h21 := k2 1 _ rfl
  have h22 := k2 2 _ rfl
  have HC := Lib.hid hcell
  have HT := Lib.hid (hT.later hb2)
  clear hcell k0 k1 k2 hT hT2
  simp only [Nat.zero_mul, Nat.add_zero, Nat.one_mul, show 2 * 3 = 6 from rfl, Nat.add_assoc, show 3 + 1 = 4 from rfl, show 3 + 2 = 5 from rfl, show 6 + 1 = 7 from rfl, show 6 + 2 = 8 from rfl] at h00 h01 h02 h10 h11 h12 h20 h21 h22
  have hbA : Below w.heap.size w w2 := hb1.trans (hb2.mono hb1.size)
  go_wp2_with fail
  refine (quote_any ⟨#[97, 34, 10]⟩ (by decide) w2).mono ?_
  rintro e w3 ⟨rfl, hb3⟩
  rw [ex3]
  have HT3 := Lib.hid (HT.out.later hb3)
  have hbB3 : Below w.heap.size w w3 := hbA.trans (hb3.mono hbA.size)
  clear h00 h01 h02 h10 h11 h12 h20 h21 h22
  go_wp2_with fail
  refine (join_any _ _ _ _ w3 HT3.out (by decide)).mono ?_
  rintro e w4 ⟨rfl, hb4⟩
  rw [ex4]
  have hbB4 : Below w.heap.size w w4 := hbB3.trans (hb4.mono hbB3.size)
  go_wp2
  go_ret
  exact ⟨rfl, hbB4⟩
end Go.Proofs.Ytnallbhckeoldaa
