/- The walk of lex's begins: what begins with an octet. -/
import Derived.Test.YtbdochcajpempaaLexC
import Derived.Test.YtbdochcajpempaaLexShelf
import Derived.Lib.Index
import Derived.Lib.IndexLaws
namespace Go.Proofs.Ytbdochcajpempaa
open Go.RowKit

namespace Lex
theorem first_in (s : ByteArray) (p : UInt8 → Bool) (h : 1 < s.size) : firstIs p ((bl s).drop 1) = p s[1] := by rw [drop_cons s 1 h]; rfl
theorem first_out (s : ByteArray) (p : UInt8 → Bool) (h : ¬ 1 < s.size) : firstIs p ((bl s).drop 1) = false := by rw [drop_all s 1 (by omega)]; rfl
end Lex
theorem index_any (s : ByteArray) (c : UInt8) (w : World) :
    Calls Try.prog 49 #[.string s, .int .u8 (c.toNat : Int)] w fun e w' => ∃ j : Int, e = .returned (.int .i64 j) ∧ w = w' ∧ (0 ≤ j ↔ (Lex.bl s).contains c = true) := by
  refine (Try.strings_IndexByte s (c.toNat : Int) w).mono ?_
  rintro e w' ⟨rfl, rfl⟩
  refine ⟨_, rfl, rfl, ?_⟩
  have hc : (c.toNat : Int).toNat.toUInt8 = c := by simp
  rw [hc]
  constructor
  · intro h
    obtain ⟨o, ho⟩ := Int.eq_ofNat_of_zero_le h
    exact List.contains_iff_mem.2 (List.mem_of_getElem? (Lib.indexByte_some ho).1)
  · intro h
    rcases Int.lt_or_le (Lib.indexByte (Lex.bl s) c) 0 with h0 | h0
    · have : -1 ≤ Lib.indexByte (Lex.bl s) c := Lib.indexByte_ge s.data.toList c
      obtain ⟨k, hk⟩ := List.mem_iff_getElem?.1 (List.contains_iff_mem.1 h)
      exact absurd hk (Lib.indexByte_none (by omega) k)
    · exact h0
theorem ret_two {a b : Int} {x y : Nat} (h : (x, y) = (a.toNat, b.toNat)) (ha : 0 ≤ a) (hb : 0 ≤ b) : Ending.returned (.tuple #[.int .i64 a, .int .i64 b]) = .returned (.tuple #[.int .i64 (x : Int), .int .i64 (y : Int)]) := by
  injection h with h1 h2
  rw [h1, h2, Int.toNat_of_nonneg ha, Int.toNat_of_nonneg hb]

theorem letter_at (x : Int) (c : UInt8) (b : Bool) (w : World) (hx : x = (c.toNat : Int)) (hb : Lex.letter c = b) : Calls Try.prog 47 #[.int .u8 x] w fun e w' => e = .returned (.bool b) ∧ w = w' := by
  subst hx hb
  exact letter_any c w
theorem digit_at (x : Int) (c : UInt8) (b : Bool) (w : World) (hx : x = (c.toNat : Int)) (hb : Lex.digit c = b) : Calls Try.prog 48 #[.int .u8 x] w fun e w' => e = .returned (.bool b) ∧ w = w' := by
  subst hx hb
  exact digit_any c w
theorem index_in (s : ByteArray) (x : Int) (c : UInt8) (w : World) (hx : x = (c.toNat : Int)) (hb : (Lex.bl s).contains c = true) :
    Calls Try.prog 49 #[.string s, .int .u8 x] w fun e w' => ∃ j : Int, e = .returned (.int .i64 j) ∧ w = w' ∧ 0 ≤ j := by
  subst hx
  refine (index_any s c w).mono ?_
  rintro e w' ⟨j, h1, h2, h3⟩
  exact ⟨j, h1, h2, h3.2 hb⟩
theorem index_out (s : ByteArray) (x : Int) (c : UInt8) (w : World) (hx : x = (c.toNat : Int)) (hb : (Lex.bl s).contains c = false) :
    Calls Try.prog 49 #[.string s, .int .u8 x] w fun e w' => ∃ j : Int, e = .returned (.int .i64 j) ∧ w = w' ∧ j < 0 := by
  subst hx
  refine (index_any s c w).mono ?_
  rintro e w' ⟨j, h1, h2, h3⟩
  refine ⟨j, h1, h2, ?_⟩
  rcases Int.lt_or_le j 0 with h | h
  · exact h
  · have := h3.1 h
    rw [hb] at this
    cases this

set_option maxHeartbeats 1000000 in
theorem begins_letter (s : ByteArray) (c : UInt8) (h0 : 0 < s.size) (hc : s[0] = c) (hl : Lex.letter c = true) (w : World) :
    Calls Try.prog 36 #[.string s] w fun e w' => e = .returned (.tuple #[.int .i64 1, .int .i64 0]) ∧ w = w' := by
  have HL := Lib.hid hl
  clear hl
  go_enter Try.func36, Try.ntmps36
  go_wp2_with fail
  refine (letter_at _ c true _ rfl HL.out).mono ?_
  rintro e w' ⟨rfl, rfl⟩
  go_wp2
  go_ret2
  exact ⟨rfl, rfl⟩
set_option maxHeartbeats 1000000 in
theorem begins_digit (s : ByteArray) (c : UInt8) (h0 : 0 < s.size) (hc : s[0] = c) (hl : Lex.letter c = false) (hd : Lex.digit c = true) (w : World) :
    Calls Try.prog 36 #[.string s] w fun e w' => e = .returned (.tuple #[.int .i64 2, .int .i64 0]) ∧ w = w' := by
  have HL := Lib.hid hl
  have HD := Lib.hid hd
  clear hl hd
  go_enter Try.func36, Try.ntmps36
  go_wp2_with fail
  refine (letter_at _ c false _ rfl HL.out).mono ?_
  rintro e w' ⟨rfl, rfl⟩
  go_wp2_with fail
  refine (digit_at _ c true _ rfl HD.out).mono ?_
  rintro e w' ⟨rfl, rfl⟩
  go_wp2
  go_ret2
  exact ⟨rfl, rfl⟩
set_option maxHeartbeats 1000000 in
theorem begins_minus (s : ByteArray) (c d : UInt8) (h0 : 1 < s.size) (hc : s[0] = c) (hd : s[1] = d) (hl : Lex.letter c = false) (hn : Lex.digit c = false) (h45 : (c.toNat : Int) = 45) (hn1 : Lex.digit d = true) (w : World) :
    Calls Try.prog 36 #[.string s] w fun e w' => e = .returned (.tuple #[.int .i64 2, .int .i64 0]) ∧ w = w' := by
  have HL := Lib.hid hl
  have HD := Lib.hid hn
  have HD1 := Lib.hid hn1
  have H45 := Lib.hid h45
  clear hl hn hn1 h45
  go_enter Try.func36, Try.ntmps36
  go_wp2_with fail
  refine (letter_at _ c false _ rfl HL.out).mono ?_
  rintro e w' ⟨rfl, rfl⟩
  go_wp2_with fail
  refine (digit_at _ c false _ rfl HD.out).mono ?_
  rintro e w' ⟨rfl, rfl⟩
  have h45 := H45.out
  go_wp2_with fail
  refine (digit_at _ d true _ rfl HD1.out).mono ?_
  rintro e w' ⟨rfl, rfl⟩
  go_wp2
  go_ret2
  exact ⟨rfl, rfl⟩
set_option maxHeartbeats 1000000 in
theorem begins_m0 (s : ByteArray) (c : UInt8) (h0 : 0 < s.size) (hc : s[0] = c) (h1 : ¬ 1 < s.size) (hl : Lex.letter c = false) (hn : Lex.digit c = false) (h45 : (c.toNat : Int) = 45) (htw : (Lex.bl ⟨#[61, 33, 60, 62]⟩).contains c = false) (hon : (Lex.bl ⟨#[123, 125, 40, 41, 44, 58, 59, 61, 60, 62]⟩).contains c = false) (w : World) :
    Calls Try.prog 36 #[.string s] w fun e w' => e = .returned (.tuple #[.int .i64 0, .int .i64 0]) ∧ w = w' := by
  have hz : decide ((1 : Int) < (s.size : Int)) = false := by simp; omega
  have Hhl := Lib.hid hl
  have Hhn := Lib.hid hn
  have Hh45 := Lib.hid h45
  have Hhtw := Lib.hid htw
  have Hhon := Lib.hid hon
  clear hl hn h45 htw hon
  go_enter Try.func36, Try.ntmps36
  go_wp2_with fail
  refine (letter_at _ c false _ rfl Hhl.out).mono ?_
  rintro e w' ⟨rfl, rfl⟩
  go_wp2_with fail
  refine (digit_at _ c false _ rfl Hhn.out).mono ?_
  rintro e w' ⟨rfl, rfl⟩
  have h45 := Hh45.out
  go_wp2_with fail
  refine (index_out _ _ c _ (by simp [h45]) Hhtw.out).mono ?_
  rintro e w' ⟨j, rfl, rfl, hj⟩
  go_wp2_with fail
  refine (index_out _ _ c _ (by simp [h45]) Hhon.out).mono ?_
  rintro e w' ⟨j2, rfl, rfl, hj2⟩
  go_wp2
  go_ret2
  exact ⟨rfl, rfl⟩
set_option maxHeartbeats 1000000 in
theorem begins_m1 (s : ByteArray) (c d : UInt8) (h0 : 1 < s.size) (hc : s[0] = c) (hd : s[1] = d) (hl : Lex.letter c = false) (hn : Lex.digit c = false) (h45 : (c.toNat : Int) = 45) (hn1 : Lex.digit d = false) (htw : (Lex.bl ⟨#[61, 33, 60, 62]⟩).contains c = false) (hon : (Lex.bl ⟨#[123, 125, 40, 41, 44, 58, 59, 61, 60, 62]⟩).contains c = false) (w : World) :
    Calls Try.prog 36 #[.string s] w fun e w' => e = .returned (.tuple #[.int .i64 0, .int .i64 0]) ∧ w = w' := by
  have hz : decide ((1 : Int) < (s.size : Int)) = true := by simp; omega
  have Hhl := Lib.hid hl
  have Hhn := Lib.hid hn
  have Hh45 := Lib.hid h45
  have Hhn1 := Lib.hid hn1
  have Hhtw := Lib.hid htw
  have Hhon := Lib.hid hon
  clear hl hn h45 hn1 htw hon
  go_enter Try.func36, Try.ntmps36
  go_wp2_with fail
  refine (letter_at _ c false _ rfl Hhl.out).mono ?_
  rintro e w' ⟨rfl, rfl⟩
  go_wp2_with fail
  refine (digit_at _ c false _ rfl Hhn.out).mono ?_
  rintro e w' ⟨rfl, rfl⟩
  have h45 := Hh45.out
  go_wp2_with fail
  refine (digit_at _ d false _ rfl Hhn1.out).mono ?_
  rintro e w' ⟨rfl, rfl⟩
  go_wp2_with fail
  refine (index_out _ _ c _ (by simp [h45]) Hhtw.out).mono ?_
  rintro e w' ⟨j, rfl, rfl, hj⟩
  go_wp2_with fail
  refine (index_out _ _ c _ (by simp [h45]) Hhon.out).mono ?_
  rintro e w' ⟨j2, rfl, rfl, hj2⟩
  go_wp2
  go_ret2
  exact ⟨rfl, rfl⟩
set_option maxHeartbeats 1000000 in
theorem begins_q (s : ByteArray) (c : UInt8) (h0 : 0 < s.size) (hc : s[0] = c) (hl : Lex.letter c = false) (hn : Lex.digit c = false) (h34 : (c.toNat : Int) = 34) (w : World) :
    Calls Try.prog 36 #[.string s] w fun e w' => e = .returned (.tuple #[.int .i64 3, .int .i64 0]) ∧ w = w' := by
  have Hhl := Lib.hid hl
  have Hhn := Lib.hid hn
  have Hh34 := Lib.hid h34
  clear hl hn h34
  go_enter Try.func36, Try.ntmps36
  go_wp2_with fail
  refine (letter_at _ c false _ rfl Hhl.out).mono ?_
  rintro e w' ⟨rfl, rfl⟩
  go_wp2_with fail
  refine (digit_at _ c false _ rfl Hhn.out).mono ?_
  rintro e w' ⟨rfl, rfl⟩
  have h34 := Hh34.out
  go_wp2
  go_ret2
  exact ⟨rfl, rfl⟩
set_option maxHeartbeats 1000000 in
theorem begins_two (s : ByteArray) (c d : UInt8) (h0 : 1 < s.size) (hc : s[0] = c) (hd : s[1] = d) (hl : Lex.letter c = false) (hn : Lex.digit c = false) (n45 : ((c.toNat : Int) == 45) = false) (n34 : ((c.toNat : Int) == 34) = false) (h61 : (d.toNat : Int) = 61) (htw : (Lex.bl ⟨#[61, 33, 60, 62]⟩).contains c = true) (w : World) :
    Calls Try.prog 36 #[.string s] w fun e w' => e = .returned (.tuple #[.int .i64 4, .int .i64 2]) ∧ w = w' := by
  have hz : decide ((1 : Int) < (s.size : Int)) = true := by simp; omega
  have Hhl := Lib.hid hl
  have Hhn := Lib.hid hn
  have Hn45 := Lib.hid n45
  have Hn34 := Lib.hid n34
  have Hh61 := Lib.hid h61
  have Hhtw := Lib.hid htw
  clear hl hn n45 n34 h61 htw
  go_enter Try.func36, Try.ntmps36
  go_wp2_with fail
  refine (letter_at _ c false _ rfl Hhl.out).mono ?_
  rintro e w' ⟨rfl, rfl⟩
  go_wp2_with fail
  refine (digit_at _ c false _ rfl Hhn.out).mono ?_
  rintro e w' ⟨rfl, rfl⟩
  have n45 := Hn45.out
  have n34 := Hn34.out
  have h61 := Hh61.out
  go_wp2_with fail
  refine (index_in _ _ c _ rfl Hhtw.out).mono ?_
  rintro e w' ⟨j, rfl, rfl, hj⟩
  go_wp2
  go_ret2
  exact ⟨rfl, rfl⟩
set_option maxHeartbeats 1000000 in
theorem begins_a1 (s : ByteArray) (c : UInt8) (h0 : 0 < s.size) (hc : s[0] = c) (h1 : ¬ 1 < s.size) (hl : Lex.letter c = false) (hn : Lex.digit c = false) (n45 : ((c.toNat : Int) == 45) = false) (n34 : ((c.toNat : Int) == 34) = false) (htw : (Lex.bl ⟨#[61, 33, 60, 62]⟩).contains c = true) (hon : (Lex.bl ⟨#[123, 125, 40, 41, 44, 58, 59, 61, 60, 62]⟩).contains c = true) (w : World) :
    Calls Try.prog 36 #[.string s] w fun e w' => e = .returned (.tuple #[.int .i64 4, .int .i64 1]) ∧ w = w' := by
  have hz : decide ((1 : Int) < (s.size : Int)) = false := by simp; omega
  have Hhl := Lib.hid hl
  have Hhn := Lib.hid hn
  have Hn45 := Lib.hid n45
  have Hn34 := Lib.hid n34
  have Hhtw := Lib.hid htw
  have Hhon := Lib.hid hon
  clear hl hn n45 n34 htw hon
  go_enter Try.func36, Try.ntmps36
  go_wp2_with fail
  refine (letter_at _ c false _ rfl Hhl.out).mono ?_
  rintro e w' ⟨rfl, rfl⟩
  go_wp2_with fail
  refine (digit_at _ c false _ rfl Hhn.out).mono ?_
  rintro e w' ⟨rfl, rfl⟩
  have n45 := Hn45.out
  have n34 := Hn34.out
  go_wp2_with fail
  refine (index_in _ _ c _ rfl Hhtw.out).mono ?_
  rintro e w' ⟨j, rfl, rfl, hj⟩
  go_wp2_with fail
  refine (index_in _ _ c _ rfl Hhon.out).mono ?_
  rintro e w' ⟨j2, rfl, rfl, hj2⟩
  go_wp2
  go_ret2
  exact ⟨rfl, rfl⟩
set_option maxHeartbeats 1000000 in
theorem begins_a0 (s : ByteArray) (c : UInt8) (h0 : 0 < s.size) (hc : s[0] = c) (h1 : ¬ 1 < s.size) (hl : Lex.letter c = false) (hn : Lex.digit c = false) (n45 : ((c.toNat : Int) == 45) = false) (n34 : ((c.toNat : Int) == 34) = false) (htw : (Lex.bl ⟨#[61, 33, 60, 62]⟩).contains c = true) (hon : (Lex.bl ⟨#[123, 125, 40, 41, 44, 58, 59, 61, 60, 62]⟩).contains c = false) (w : World) :
    Calls Try.prog 36 #[.string s] w fun e w' => e = .returned (.tuple #[.int .i64 0, .int .i64 0]) ∧ w = w' := by
  have hz : decide ((1 : Int) < (s.size : Int)) = false := by simp; omega
  have Hhl := Lib.hid hl
  have Hhn := Lib.hid hn
  have Hn45 := Lib.hid n45
  have Hn34 := Lib.hid n34
  have Hhtw := Lib.hid htw
  have Hhon := Lib.hid hon
  clear hl hn n45 n34 htw hon
  go_enter Try.func36, Try.ntmps36
  go_wp2_with fail
  refine (letter_at _ c false _ rfl Hhl.out).mono ?_
  rintro e w' ⟨rfl, rfl⟩
  go_wp2_with fail
  refine (digit_at _ c false _ rfl Hhn.out).mono ?_
  rintro e w' ⟨rfl, rfl⟩
  have n45 := Hn45.out
  have n34 := Hn34.out
  go_wp2_with fail
  refine (index_in _ _ c _ rfl Hhtw.out).mono ?_
  rintro e w' ⟨j, rfl, rfl, hj⟩
  go_wp2_with fail
  refine (index_out _ _ c _ rfl Hhon.out).mono ?_
  rintro e w' ⟨j2, rfl, rfl, hj2⟩
  go_wp2
  go_ret2
  exact ⟨rfl, rfl⟩
set_option maxHeartbeats 1000000 in
theorem begins_b1 (s : ByteArray) (c d : UInt8) (h0 : 1 < s.size) (hc : s[0] = c) (hd : s[1] = d) (hl : Lex.letter c = false) (hn : Lex.digit c = false) (n45 : ((c.toNat : Int) == 45) = false) (n34 : ((c.toNat : Int) == 34) = false) (n61 : ((d.toNat : Int) == 61) = false) (htw : (Lex.bl ⟨#[61, 33, 60, 62]⟩).contains c = true) (hon : (Lex.bl ⟨#[123, 125, 40, 41, 44, 58, 59, 61, 60, 62]⟩).contains c = true) (w : World) :
    Calls Try.prog 36 #[.string s] w fun e w' => e = .returned (.tuple #[.int .i64 4, .int .i64 1]) ∧ w = w' := by
  have hz : decide ((1 : Int) < (s.size : Int)) = true := by simp; omega
  have Hhl := Lib.hid hl
  have Hhn := Lib.hid hn
  have Hn45 := Lib.hid n45
  have Hn34 := Lib.hid n34
  have Hn61 := Lib.hid n61
  have Hhtw := Lib.hid htw
  have Hhon := Lib.hid hon
  clear hl hn n45 n34 n61 htw hon
  go_enter Try.func36, Try.ntmps36
  go_wp2_with fail
  refine (letter_at _ c false _ rfl Hhl.out).mono ?_
  rintro e w' ⟨rfl, rfl⟩
  go_wp2_with fail
  refine (digit_at _ c false _ rfl Hhn.out).mono ?_
  rintro e w' ⟨rfl, rfl⟩
  have n45 := Hn45.out
  have n34 := Hn34.out
  have n61 := Hn61.out
  go_wp2_with fail
  refine (index_in _ _ c _ rfl Hhtw.out).mono ?_
  rintro e w' ⟨j, rfl, rfl, hj⟩
  go_wp2_with fail
  refine (index_in _ _ c _ rfl Hhon.out).mono ?_
  rintro e w' ⟨j2, rfl, rfl, hj2⟩
  go_wp2
  go_ret2
  exact ⟨rfl, rfl⟩
set_option maxHeartbeats 1000000 in
theorem begins_b0 (s : ByteArray) (c d : UInt8) (h0 : 1 < s.size) (hc : s[0] = c) (hd : s[1] = d) (hl : Lex.letter c = false) (hn : Lex.digit c = false) (n45 : ((c.toNat : Int) == 45) = false) (n34 : ((c.toNat : Int) == 34) = false) (n61 : ((d.toNat : Int) == 61) = false) (htw : (Lex.bl ⟨#[61, 33, 60, 62]⟩).contains c = true) (hon : (Lex.bl ⟨#[123, 125, 40, 41, 44, 58, 59, 61, 60, 62]⟩).contains c = false) (w : World) :
    Calls Try.prog 36 #[.string s] w fun e w' => e = .returned (.tuple #[.int .i64 0, .int .i64 0]) ∧ w = w' := by
  have hz : decide ((1 : Int) < (s.size : Int)) = true := by simp; omega
  have Hhl := Lib.hid hl
  have Hhn := Lib.hid hn
  have Hn45 := Lib.hid n45
  have Hn34 := Lib.hid n34
  have Hn61 := Lib.hid n61
  have Hhtw := Lib.hid htw
  have Hhon := Lib.hid hon
  clear hl hn n45 n34 n61 htw hon
  go_enter Try.func36, Try.ntmps36
  go_wp2_with fail
  refine (letter_at _ c false _ rfl Hhl.out).mono ?_
  rintro e w' ⟨rfl, rfl⟩
  go_wp2_with fail
  refine (digit_at _ c false _ rfl Hhn.out).mono ?_
  rintro e w' ⟨rfl, rfl⟩
  have n45 := Hn45.out
  have n34 := Hn34.out
  have n61 := Hn61.out
  go_wp2_with fail
  refine (index_in _ _ c _ rfl Hhtw.out).mono ?_
  rintro e w' ⟨j, rfl, rfl, hj⟩
  go_wp2_with fail
  refine (index_out _ _ c _ rfl Hhon.out).mono ?_
  rintro e w' ⟨j2, rfl, rfl, hj2⟩
  go_wp2
  go_ret2
  exact ⟨rfl, rfl⟩
set_option maxHeartbeats 1000000 in
theorem begins_c1 (s : ByteArray) (c : UInt8) (h0 : 0 < s.size) (hc : s[0] = c) (hl : Lex.letter c = false) (hn : Lex.digit c = false) (n45 : ((c.toNat : Int) == 45) = false) (n34 : ((c.toNat : Int) == 34) = false) (htw : (Lex.bl ⟨#[61, 33, 60, 62]⟩).contains c = false) (hon : (Lex.bl ⟨#[123, 125, 40, 41, 44, 58, 59, 61, 60, 62]⟩).contains c = true) (w : World) :
    Calls Try.prog 36 #[.string s] w fun e w' => e = .returned (.tuple #[.int .i64 4, .int .i64 1]) ∧ w = w' := by
  have Hhl := Lib.hid hl
  have Hhn := Lib.hid hn
  have Hn45 := Lib.hid n45
  have Hn34 := Lib.hid n34
  have Hhtw := Lib.hid htw
  have Hhon := Lib.hid hon
  clear hl hn n45 n34 htw hon
  go_enter Try.func36, Try.ntmps36
  go_wp2_with fail
  refine (letter_at _ c false _ rfl Hhl.out).mono ?_
  rintro e w' ⟨rfl, rfl⟩
  go_wp2_with fail
  refine (digit_at _ c false _ rfl Hhn.out).mono ?_
  rintro e w' ⟨rfl, rfl⟩
  have n45 := Hn45.out
  have n34 := Hn34.out
  go_wp2_with fail
  refine (index_out _ _ c _ rfl Hhtw.out).mono ?_
  rintro e w' ⟨j, rfl, rfl, hj⟩
  go_wp2_with fail
  refine (index_in _ _ c _ rfl Hhon.out).mono ?_
  rintro e w' ⟨j2, rfl, rfl, hj2⟩
  go_wp2
  go_ret2
  exact ⟨rfl, rfl⟩
set_option maxHeartbeats 1000000 in
theorem begins_c0 (s : ByteArray) (c : UInt8) (h0 : 0 < s.size) (hc : s[0] = c) (hl : Lex.letter c = false) (hn : Lex.digit c = false) (n45 : ((c.toNat : Int) == 45) = false) (n34 : ((c.toNat : Int) == 34) = false) (htw : (Lex.bl ⟨#[61, 33, 60, 62]⟩).contains c = false) (hon : (Lex.bl ⟨#[123, 125, 40, 41, 44, 58, 59, 61, 60, 62]⟩).contains c = false) (w : World) :
    Calls Try.prog 36 #[.string s] w fun e w' => e = .returned (.tuple #[.int .i64 0, .int .i64 0]) ∧ w = w' := by
  have Hhl := Lib.hid hl
  have Hhn := Lib.hid hn
  have Hn45 := Lib.hid n45
  have Hn34 := Lib.hid n34
  have Hhtw := Lib.hid htw
  have Hhon := Lib.hid hon
  clear hl hn n45 n34 htw hon
  go_enter Try.func36, Try.ntmps36
  go_wp2_with fail
  refine (letter_at _ c false _ rfl Hhl.out).mono ?_
  rintro e w' ⟨rfl, rfl⟩
  go_wp2_with fail
  refine (digit_at _ c false _ rfl Hhn.out).mono ?_
  rintro e w' ⟨rfl, rfl⟩
  have n45 := Hn45.out
  have n34 := Hn34.out
  go_wp2_with fail
  refine (index_out _ _ c _ rfl Hhtw.out).mono ?_
  rintro e w' ⟨j, rfl, rfl, hj⟩
  go_wp2_with fail
  refine (index_out _ _ c _ rfl Hhon.out).mono ?_
  rintro e w' ⟨j2, rfl, rfl, hj2⟩
  go_wp2
  go_ret2
  exact ⟨rfl, rfl⟩

end Go.Proofs.Ytbdochcajpempaa
