/- The texts LexD, LexE, Byt, LexF in one. -/
import Derived.Test.YtbdochcajpempaaDoorLexC
import Derived.Test.YtbdochcajpempaaDoorLexShelf
import Derived.Lib.Index
import Derived.Lib.IndexLaws
import Derived.Test.YtbdochcajpempaaDoorProg
import Derived.Lib.Strings
import Derived.Lib.Slices
import Derived.Lib.Builder
import Derived.Lib.OthersKept
import Derived.Lib.AppendStr
import Derived.WalkKit
import Derived.WalkSpells
import Derived.WalkLawsBesides
import Derived.Laws.Externs
import Derived.Laws.BytesArg
import Derived.Laws.OwnMore
import Derived.Below
/- The walk of lex's begins: what begins with an octet. -/
namespace Go.Proofs.YtbdochcajpempaaDoor
open Go.RowKit

namespace Lex
theorem first_in (s : ByteArray) (p : UInt8 → Bool) (h : 1 < s.size) : firstIs p ((bl s).drop 1) = p s[1] := by rw [drop_cons s 1 h]; rfl
theorem first_out (s : ByteArray) (p : UInt8 → Bool) (h : ¬ 1 < s.size) : firstIs p ((bl s).drop 1) = false := by rw [drop_all s 1 (by omega)]; rfl
end Lex
theorem index_any (s : ByteArray) (c : UInt8) (w : World) :
    Calls Tryd.prog 59 #[.string s, .int .u8 (c.toNat : Int)] w fun e w' => ∃ j : Int, e = .returned (.int .i64 j) ∧ w = w' ∧ (0 ≤ j ↔ (Lex.bl s).contains c = true) := by
  refine (Tryd.strings_IndexByte s (c.toNat : Int) w).mono ?_
  rintro e w' ⟨rfl, rfl⟩
  refine ⟨_, rfl, rfl, ?_⟩
  have hc : (c.toNat : Int).toNat.toUInt8 = c := by simp
  rw [hc]
  constructor
  · intro h
    obtain ⟨o, ho⟩ := Int.eq_ofNat_of_zero_le h
    exact List.contains_iff_mem.2 (List.mem_of_getElem? (Lib.indexByte_some ho).1)
  · intro h
    rcases Int.lt_or_le (Lib.indexByte (Lex.bl s) c) 0 with h0 | h0
    · have : -1 ≤ Lib.indexByte (Lex.bl s) c := Lib.indexByte_ge s.data.toList c
      obtain ⟨k, hk⟩ := List.mem_iff_getElem?.1 (List.contains_iff_mem.1 h)
      exact absurd hk (Lib.indexByte_none (by omega) k)
    · exact h0
theorem ret_two {a b : Int} {x y : Nat} (h : (x, y) = (a.toNat, b.toNat)) (ha : 0 ≤ a) (hb : 0 ≤ b) : Ending.returned (.tuple #[.int .i64 a, .int .i64 b]) = .returned (.tuple #[.int .i64 (x : Int), .int .i64 (y : Int)]) := by
  injection h with h1 h2
  rw [h1, h2, Int.toNat_of_nonneg ha, Int.toNat_of_nonneg hb]

theorem letter_at (x : Int) (c : UInt8) (b : Bool) (w : World) (hx : x = (c.toNat : Int)) (hb : Lex.letter c = b) : Calls Tryd.prog 57 #[.int .u8 x] w fun e w' => e = .returned (.bool b) ∧ w = w' := by
  subst hx hb
  exact letter_any c w
theorem digit_at (x : Int) (c : UInt8) (b : Bool) (w : World) (hx : x = (c.toNat : Int)) (hb : Lex.digit c = b) : Calls Tryd.prog 58 #[.int .u8 x] w fun e w' => e = .returned (.bool b) ∧ w = w' := by
  subst hx hb
  exact digit_any c w
theorem index_in (s : ByteArray) (x : Int) (c : UInt8) (w : World) (hx : x = (c.toNat : Int)) (hb : (Lex.bl s).contains c = true) :
    Calls Tryd.prog 59 #[.string s, .int .u8 x] w fun e w' => ∃ j : Int, e = .returned (.int .i64 j) ∧ w = w' ∧ 0 ≤ j := by
  subst hx
  refine (index_any s c w).mono ?_
  rintro e w' ⟨j, h1, h2, h3⟩
  exact ⟨j, h1, h2, h3.2 hb⟩
theorem index_out (s : ByteArray) (x : Int) (c : UInt8) (w : World) (hx : x = (c.toNat : Int)) (hb : (Lex.bl s).contains c = false) :
    Calls Tryd.prog 59 #[.string s, .int .u8 x] w fun e w' => ∃ j : Int, e = .returned (.int .i64 j) ∧ w = w' ∧ j < 0 := by
  subst hx
  refine (index_any s c w).mono ?_
  rintro e w' ⟨j, h1, h2, h3⟩
  refine ⟨j, h1, h2, ?_⟩
  rcases Int.lt_or_le j 0 with h | h
  · exact h
  · have := h3.1 h
    rw [hb] at this
    cases this

set_option maxHeartbeats 1000000 in
theorem begins_letter (s : ByteArray) (c : UInt8) (h0 : 0 < s.size) (hc : s[0] = c) (hl : Lex.letter c = true) (w : World) :
    Calls Tryd.prog 40 #[.string s] w fun e w' => e = .returned (.tuple #[.int .i64 1, .int .i64 0]) ∧ w = w' := by
  have HL := Lib.hid hl
  clear hl
  go_enter Tryd.func40, Tryd.ntmps40
  go_wp2_with fail
  refine (letter_at _ c true _ rfl HL.out).mono ?_
  rintro e w' ⟨rfl, rfl⟩
  go_wp2
  go_ret2
  exact ⟨rfl, rfl⟩
set_option maxHeartbeats 1000000 in
theorem begins_digit (s : ByteArray) (c : UInt8) (h0 : 0 < s.size) (hc : s[0] = c) (hl : Lex.letter c = false) (hd : Lex.digit c = true) (w : World) :
    Calls Tryd.prog 40 #[.string s] w fun e w' => e = .returned (.tuple #[.int .i64 2, .int .i64 0]) ∧ w = w' := by
  have HL := Lib.hid hl
  have HD := Lib.hid hd
  clear hl hd
  go_enter Tryd.func40, Tryd.ntmps40
  go_wp2_with fail
  refine (letter_at _ c false _ rfl HL.out).mono ?_
  rintro e w' ⟨rfl, rfl⟩
  go_wp2_with fail
  refine (digit_at _ c true _ rfl HD.out).mono ?_
  rintro e w' ⟨rfl, rfl⟩
  go_wp2
  go_ret2
  exact ⟨rfl, rfl⟩
set_option maxHeartbeats 1000000 in
theorem begins_minus (s : ByteArray) (c d : UInt8) (h0 : 1 < s.size) (hc : s[0] = c) (hd : s[1] = d) (hl : Lex.letter c = false) (hn : Lex.digit c = false) (h45 : (c.toNat : Int) = 45) (hn1 : Lex.digit d = true) (w : World) :
    Calls Tryd.prog 40 #[.string s] w fun e w' => e = .returned (.tuple #[.int .i64 2, .int .i64 0]) ∧ w = w' := by
  have HL := Lib.hid hl
  have HD := Lib.hid hn
  have HD1 := Lib.hid hn1
  have H45 := Lib.hid h45
  clear hl hn hn1 h45
  go_enter Tryd.func40, Tryd.ntmps40
  go_wp2_with fail
  refine (letter_at _ c false _ rfl HL.out).mono ?_
  rintro e w' ⟨rfl, rfl⟩
  go_wp2_with fail
  refine (digit_at _ c false _ rfl HD.out).mono ?_
  rintro e w' ⟨rfl, rfl⟩
  have h45 := H45.out
  go_wp2_with fail
  refine (digit_at _ d true _ rfl HD1.out).mono ?_
  rintro e w' ⟨rfl, rfl⟩
  go_wp2
  go_ret2
  exact ⟨rfl, rfl⟩
set_option maxHeartbeats 1000000 in
theorem begins_m0 (s : ByteArray) (c : UInt8) (h0 : 0 < s.size) (hc : s[0] = c) (h1 : ¬ 1 < s.size) (hl : Lex.letter c = false) (hn : Lex.digit c = false) (h45 : (c.toNat : Int) = 45) (htw : (Lex.bl ⟨#[61, 33, 60, 62]⟩).contains c = false) (hon : (Lex.bl ⟨#[123, 125, 40, 41, 44, 58, 59, 61, 60, 62]⟩).contains c = false) (w : World) :
    Calls Tryd.prog 40 #[.string s] w fun e w' => e = .returned (.tuple #[.int .i64 0, .int .i64 0]) ∧ w = w' := by
  have hz : decide ((1 : Int) < (s.size : Int)) = false := by simp; omega
  have Hhl := Lib.hid hl
  have Hhn := Lib.hid hn
  have Hh45 := Lib.hid h45
  have Hhtw := Lib.hid htw
  have Hhon := Lib.hid hon
  clear hl hn h45 htw hon
  go_enter Tryd.func40, Tryd.ntmps40
  go_wp2_with fail
  refine (letter_at _ c false _ rfl Hhl.out).mono ?_
  rintro e w' ⟨rfl, rfl⟩
  go_wp2_with fail
  refine (digit_at _ c false _ rfl Hhn.out).mono ?_
  rintro e w' ⟨rfl, rfl⟩
  have h45 := Hh45.out
  go_wp2_with fail
  refine (index_out _ _ c _ (by simp [h45]) Hhtw.out).mono ?_
  rintro e w' ⟨j, rfl, rfl, hj⟩
  go_wp2_with fail
  refine (index_out _ _ c _ (by simp [h45]) Hhon.out).mono ?_
  rintro e w' ⟨j2, rfl, rfl, hj2⟩
  go_wp2
  go_ret2
  exact ⟨rfl, rfl⟩
set_option maxHeartbeats 1000000 in
theorem begins_m1 (s : ByteArray) (c d : UInt8) (h0 : 1 < s.size) (hc : s[0] = c) (hd : s[1] = d) (hl : Lex.letter c = false) (hn : Lex.digit c = false) (h45 : (c.toNat : Int) = 45) (hn1 : Lex.digit d = false) (htw : (Lex.bl ⟨#[61, 33, 60, 62]⟩).contains c = false) (hon : (Lex.bl ⟨#[123, 125, 40, 41, 44, 58, 59, 61, 60, 62]⟩).contains c = false) (w : World) :
    Calls Tryd.prog 40 #[.string s] w fun e w' => e = .returned (.tuple #[.int .i64 0, .int .i64 0]) ∧ w = w' := by
  have hz : decide ((1 : Int) < (s.size : Int)) = true := by simp; omega
  have Hhl := Lib.hid hl
  have Hhn := Lib.hid hn
  have Hh45 := Lib.hid h45
  have Hhn1 := Lib.hid hn1
  have Hhtw := Lib.hid htw
  have Hhon := Lib.hid hon
  clear hl hn h45 hn1 htw hon
  go_enter Tryd.func40, Tryd.ntmps40
  go_wp2_with fail
  refine (letter_at _ c false _ rfl Hhl.out).mono ?_
  rintro e w' ⟨rfl, rfl⟩
  go_wp2_with fail
  refine (digit_at _ c false _ rfl Hhn.out).mono ?_
  rintro e w' ⟨rfl, rfl⟩
  have h45 := Hh45.out
  go_wp2_with fail
  refine (digit_at _ d false _ rfl Hhn1.out).mono ?_
  rintro e w' ⟨rfl, rfl⟩
  go_wp2_with fail
  refine (index_out _ _ c _ (by simp [h45]) Hhtw.out).mono ?_
  rintro e w' ⟨j, rfl, rfl, hj⟩
  go_wp2_with fail
  refine (index_out _ _ c _ (by simp [h45]) Hhon.out).mono ?_
  rintro e w' ⟨j2, rfl, rfl, hj2⟩
  go_wp2
  go_ret2
  exact ⟨rfl, rfl⟩
set_option maxHeartbeats 1000000 in
theorem begins_q (s : ByteArray) (c : UInt8) (h0 : 0 < s.size) (hc : s[0] = c) (hl : Lex.letter c = false) (hn : Lex.digit c = false) (h34 : (c.toNat : Int) = 34) (w : World) :
    Calls Tryd.prog 40 #[.string s] w fun e w' => e = .returned (.tuple #[.int .i64 3, .int .i64 0]) ∧ w = w' := by
  have Hhl := Lib.hid hl
  have Hhn := Lib.hid hn
  have Hh34 := Lib.hid h34
  clear hl hn h34
  go_enter Tryd.func40, Tryd.ntmps40
  go_wp2_with fail
  refine (letter_at _ c false _ rfl Hhl.out).mono ?_
  rintro e w' ⟨rfl, rfl⟩
  go_wp2_with fail
  refine (digit_at _ c false _ rfl Hhn.out).mono ?_
  rintro e w' ⟨rfl, rfl⟩
  have h34 := Hh34.out
  go_wp2
  go_ret2
  exact ⟨rfl, rfl⟩
set_option maxHeartbeats 1000000 in
theorem begins_two (s : ByteArray) (c d : UInt8) (h0 : 1 < s.size) (hc : s[0] = c) (hd : s[1] = d) (hl : Lex.letter c = false) (hn : Lex.digit c = false) (n45 : ((c.toNat : Int) == 45) = false) (n34 : ((c.toNat : Int) == 34) = false) (h61 : (d.toNat : Int) = 61) (htw : (Lex.bl ⟨#[61, 33, 60, 62]⟩).contains c = true) (w : World) :
    Calls Tryd.prog 40 #[.string s] w fun e w' => e = .returned (.tuple #[.int .i64 4, .int .i64 2]) ∧ w = w' := by
  have hz : decide ((1 : Int) < (s.size : Int)) = true := by simp; omega
  have Hhl := Lib.hid hl
  have Hhn := Lib.hid hn
  have Hn45 := Lib.hid n45
  have Hn34 := Lib.hid n34
  have Hh61 := Lib.hid h61
  have Hhtw := Lib.hid htw
  clear hl hn n45 n34 h61 htw
  go_enter Tryd.func40, Tryd.ntmps40
  go_wp2_with fail
  refine (letter_at _ c false _ rfl Hhl.out).mono ?_
  rintro e w' ⟨rfl, rfl⟩
  go_wp2_with fail
  refine (digit_at _ c false _ rfl Hhn.out).mono ?_
  rintro e w' ⟨rfl, rfl⟩
  have n45 := Hn45.out
  have n34 := Hn34.out
  have h61 := Hh61.out
  go_wp2_with fail
  refine (index_in _ _ c _ rfl Hhtw.out).mono ?_
  rintro e w' ⟨j, rfl, rfl, hj⟩
  go_wp2
  go_ret2
  exact ⟨rfl, rfl⟩
set_option maxHeartbeats 1000000 in
theorem begins_a1 (s : ByteArray) (c : UInt8) (h0 : 0 < s.size) (hc : s[0] = c) (h1 : ¬ 1 < s.size) (hl : Lex.letter c = false) (hn : Lex.digit c = false) (n45 : ((c.toNat : Int) == 45) = false) (n34 : ((c.toNat : Int) == 34) = false) (htw : (Lex.bl ⟨#[61, 33, 60, 62]⟩).contains c = true) (hon : (Lex.bl ⟨#[123, 125, 40, 41, 44, 58, 59, 61, 60, 62]⟩).contains c = true) (w : World) :
    Calls Tryd.prog 40 #[.string s] w fun e w' => e = .returned (.tuple #[.int .i64 4, .int .i64 1]) ∧ w = w' := by
  have hz : decide ((1 : Int) < (s.size : Int)) = false := by simp; omega
  have Hhl := Lib.hid hl
  have Hhn := Lib.hid hn
  have Hn45 := Lib.hid n45
  have Hn34 := Lib.hid n34
  have Hhtw := Lib.hid htw
  have Hhon := Lib.hid hon
  clear hl hn n45 n34 htw hon
  go_enter Tryd.func40, Tryd.ntmps40
  go_wp2_with fail
  refine (letter_at _ c false _ rfl Hhl.out).mono ?_
  rintro e w' ⟨rfl, rfl⟩
  go_wp2_with fail
  refine (digit_at _ c false _ rfl Hhn.out).mono ?_
  rintro e w' ⟨rfl, rfl⟩
  have n45 := Hn45.out
  have n34 := Hn34.out
  go_wp2_with fail
  refine (index_in _ _ c _ rfl Hhtw.out).mono ?_
  rintro e w' ⟨j, rfl, rfl, hj⟩
  go_wp2_with fail
  refine (index_in _ _ c _ rfl Hhon.out).mono ?_
  rintro e w' ⟨j2, rfl, rfl, hj2⟩
  go_wp2
  go_ret2
  exact ⟨rfl, rfl⟩
set_option maxHeartbeats 1000000 in
theorem begins_a0 (s : ByteArray) (c : UInt8) (h0 : 0 < s.size) (hc : s[0] = c) (h1 : ¬ 1 < s.size) (hl : Lex.letter c = false) (hn : Lex.digit c = false) (n45 : ((c.toNat : Int) == 45) = false) (n34 : ((c.toNat : Int) == 34) = false) (htw : (Lex.bl ⟨#[61, 33, 60, 62]⟩).contains c = true) (hon : (Lex.bl ⟨#[123, 125, 40, 41, 44, 58, 59, 61, 60, 62]⟩).contains c = false) (w : World) :
    Calls Tryd.prog 40 #[.string s] w fun e w' => e = .returned (.tuple #[.int .i64 0, .int .i64 0]) ∧ w = w' := by
  have hz : decide ((1 : Int) < (s.size : Int)) = false := by simp; omega
  have Hhl := Lib.hid hl
  have Hhn := Lib.hid hn
  have Hn45 := Lib.hid n45
  have Hn34 := Lib.hid n34
  have Hhtw := Lib.hid htw
  have Hhon := Lib.hid hon
  clear hl hn n45 n34 htw hon
  go_enter Tryd.func40, Tryd.ntmps40
  go_wp2_with fail
  refine (letter_at _ c false _ rfl Hhl.out).mono ?_
  rintro e w' ⟨rfl, rfl⟩
  go_wp2_with fail
  refine (digit_at _ c false _ rfl Hhn.out).mono ?_
  rintro e w' ⟨rfl, rfl⟩
  have n45 := Hn45.out
  have n34 := Hn34.out
  go_wp2_with fail
  refine (index_in _ _ c _ rfl Hhtw.out).mono ?_
  rintro e w' ⟨j, rfl, rfl, hj⟩
  go_wp2_with fail
  refine (index_out _ _ c _ rfl Hhon.out).mono ?_
  rintro e w' ⟨j2, rfl, rfl, hj2⟩
  go_wp2
  go_ret2
  exact ⟨rfl, rfl⟩
set_option maxHeartbeats 1000000 in
theorem begins_b1 (s : ByteArray) (c d : UInt8) (h0 : 1 < s.size) (hc : s[0] = c) (hd : s[1] = d) (hl : Lex.letter c = false) (hn : Lex.digit c = false) (n45 : ((c.toNat : Int) == 45) = false) (n34 : ((c.toNat : Int) == 34) = false) (n61 : ((d.toNat : Int) == 61) = false) (htw : (Lex.bl ⟨#[61, 33, 60, 62]⟩).contains c = true) (hon : (Lex.bl ⟨#[123, 125, 40, 41, 44, 58, 59, 61, 60, 62]⟩).contains c = true) (w : World) :
    Calls Tryd.prog 40 #[.string s] w fun e w' => e = .returned (.tuple #[.int .i64 4, .int .i64 1]) ∧ w = w' := by
  have hz : decide ((1 : Int) < (s.size : Int)) = true := by simp; omega
  have Hhl := Lib.hid hl
  have Hhn := Lib.hid hn
  have Hn45 := Lib.hid n45
  have Hn34 := Lib.hid n34
  have Hn61 := Lib.hid n61
  have Hhtw := Lib.hid htw
  have Hhon := Lib.hid hon
  clear hl hn n45 n34 n61 htw hon
  go_enter Tryd.func40, Tryd.ntmps40
  go_wp2_with fail
  refine (letter_at _ c false _ rfl Hhl.out).mono ?_
  rintro e w' ⟨rfl, rfl⟩
  go_wp2_with fail
  refine (digit_at _ c false _ rfl Hhn.out).mono ?_
  rintro e w' ⟨rfl, rfl⟩
  have n45 := Hn45.out
  have n34 := Hn34.out
  have n61 := Hn61.out
  go_wp2_with fail
  refine (index_in _ _ c _ rfl Hhtw.out).mono ?_
  rintro e w' ⟨j, rfl, rfl, hj⟩
  go_wp2_with fail
  refine (index_in _ _ c _ rfl Hhon.out).mono ?_
  rintro e w' ⟨j2, rfl, rfl, hj2⟩
  go_wp2
  go_ret2
  exact ⟨rfl, rfl⟩
set_option maxHeartbeats 1000000 in
theorem begins_b0 (s : ByteArray) (c d : UInt8) (h0 : 1 < s.size) (hc : s[0] = c) (hd : s[1] = d) (hl : Lex.letter c = false) (hn : Lex.digit c = false) (n45 : ((c.toNat : Int) == 45) = false) (n34 : ((c.toNat : Int) == 34) = false) (n61 : ((d.toNat : Int) == 61) = false) (htw : (Lex.bl ⟨#[61, 33, 60, 62]⟩).contains c = true) (hon : (Lex.bl ⟨#[123, 125, 40, 41, 44, 58, 59, 61, 60, 62]⟩).contains c = false) (w : World) :
    Calls Tryd.prog 40 #[.string s] w fun e w' => e = .returned (.tuple #[.int .i64 0, .int .i64 0]) ∧ w = w' := by
  have hz : decide ((1 : Int) < (s.size : Int)) = true := by simp; omega
  have Hhl := Lib.hid hl
  have Hhn := Lib.hid hn
  have Hn45 := Lib.hid n45
  have Hn34 := Lib.hid n34
  have Hn61 := Lib.hid n61
  have Hhtw := Lib.hid htw
  have Hhon := Lib.hid hon
  clear hl hn n45 n34 n61 htw hon
  go_enter Tryd.func40, Tryd.ntmps40
  go_wp2_with fail
  refine (letter_at _ c false _ rfl Hhl.out).mono ?_
  rintro e w' ⟨rfl, rfl⟩
  go_wp2_with fail
  refine (digit_at _ c false _ rfl Hhn.out).mono ?_
  rintro e w' ⟨rfl, rfl⟩
  have n45 := Hn45.out
  have n34 := Hn34.out
  have n61 := Hn61.out
  go_wp2_with fail
  refine (index_in _ _ c _ rfl Hhtw.out).mono ?_
  rintro e w' ⟨j, rfl, rfl, hj⟩
  go_wp2_with fail
  refine (index_out _ _ c _ rfl Hhon.out).mono ?_
  rintro e w' ⟨j2, rfl, rfl, hj2⟩
  go_wp2
  go_ret2
  exact ⟨rfl, rfl⟩
set_option maxHeartbeats 1000000 in
theorem begins_c1 (s : ByteArray) (c : UInt8) (h0 : 0 < s.size) (hc : s[0] = c) (hl : Lex.letter c = false) (hn : Lex.digit c = false) (n45 : ((c.toNat : Int) == 45) = false) (n34 : ((c.toNat : Int) == 34) = false) (htw : (Lex.bl ⟨#[61, 33, 60, 62]⟩).contains c = false) (hon : (Lex.bl ⟨#[123, 125, 40, 41, 44, 58, 59, 61, 60, 62]⟩).contains c = true) (w : World) :
    Calls Tryd.prog 40 #[.string s] w fun e w' => e = .returned (.tuple #[.int .i64 4, .int .i64 1]) ∧ w = w' := by
  have Hhl := Lib.hid hl
  have Hhn := Lib.hid hn
  have Hn45 := Lib.hid n45
  have Hn34 := Lib.hid n34
  have Hhtw := Lib.hid htw
  have Hhon := Lib.hid hon
  clear hl hn n45 n34 htw hon
  go_enter Tryd.func40, Tryd.ntmps40
  go_wp2_with fail
  refine (letter_at _ c false _ rfl Hhl.out).mono ?_
  rintro e w' ⟨rfl, rfl⟩
  go_wp2_with fail
  refine (digit_at _ c false _ rfl Hhn.out).mono ?_
  rintro e w' ⟨rfl, rfl⟩
  have n45 := Hn45.out
  have n34 := Hn34.out
  go_wp2_with fail
  refine (index_out _ _ c _ rfl Hhtw.out).mono ?_
  rintro e w' ⟨j, rfl, rfl, hj⟩
  go_wp2_with fail
  refine (index_in _ _ c _ rfl Hhon.out).mono ?_
  rintro e w' ⟨j2, rfl, rfl, hj2⟩
  go_wp2
  go_ret2
  exact ⟨rfl, rfl⟩
set_option maxHeartbeats 1000000 in
theorem begins_c0 (s : ByteArray) (c : UInt8) (h0 : 0 < s.size) (hc : s[0] = c) (hl : Lex.letter c = false) (hn : Lex.digit c = false) (n45 : ((c.toNat : Int) == 45) = false) (n34 : ((c.toNat : Int) == 34) = false) (htw : (Lex.bl ⟨#[61, 33, 60, 62]⟩).contains c = false) (hon : (Lex.bl ⟨#[123, 125, 40, 41, 44, 58, 59, 61, 60, 62]⟩).contains c = false) (w : World) :
    Calls Tryd.prog 40 #[.string s] w fun e w' => e = .returned (.tuple #[.int .i64 0, .int .i64 0]) ∧ w = w' := by
  have Hhl := Lib.hid hl
  have Hhn := Lib.hid hn
  have Hn45 := Lib.hid n45
  have Hn34 := Lib.hid n34
  have Hhtw := Lib.hid htw
  have Hhon := Lib.hid hon
  clear hl hn n45 n34 htw hon
  go_enter Tryd.func40, Tryd.ntmps40
  go_wp2_with fail
  refine (letter_at _ c false _ rfl Hhl.out).mono ?_
  rintro e w' ⟨rfl, rfl⟩
  go_wp2_with fail
  refine (digit_at _ c false _ rfl Hhn.out).mono ?_
  rintro e w' ⟨rfl, rfl⟩
  have n45 := Hn45.out
  have n34 := Hn34.out
  go_wp2_with fail
  refine (index_out _ _ c _ rfl Hhtw.out).mono ?_
  rintro e w' ⟨j, rfl, rfl, hj⟩
  go_wp2_with fail
  refine (index_out _ _ c _ rfl Hhon.out).mono ?_
  rintro e w' ⟨j2, rfl, rfl, hj2⟩
  go_wp2
  go_ret2
  exact ⟨rfl, rfl⟩

end Go.Proofs.YtbdochcajpempaaDoor

/- lex's begins: the cases joined. -/
namespace Go.Proofs.YtbdochcajpempaaDoor
open Go.RowKit

namespace Lex
theorem begins_eq (c : UInt8) (l : Bs) (hl : letter c = false) (hn : digit c = false) :
    begins c l = if (c == 45 && firstIs digit l) = true then (2, 0) else if (c == 34) = true then (3, 0) else if (twos.contains c && firstIs (· == 61) l) = true then (4, 2) else if ones.contains c = true then (4, 1) else (0, 0) := by
  unfold begins
  rw [if_neg (by rw [hl]; decide), hn]
  simp only [Bool.false_or]
theorem int_ne {c : UInt8} {n : Nat} (hn : n < 256) (h : (c == UInt8.ofNat n) = false) : ((c.toNat : Int) == (n : Int)) = false := by
  rw [beq_eq_false_iff_ne] at h ⊢
  exact fun e => h ((n_eq c n hn).2 e)
theorem int_eq {c : UInt8} {n : Nat} (hn : n < 256) (h : (c == UInt8.ofNat n) = true) : (c.toNat : Int) = (n : Int) := (n_eq c n hn).1 (eq_of_beq h)
end Lex

theorem begins_any (s : ByteArray) (h0 : 0 < s.size) (w : World) :
    Calls Tryd.prog 40 #[.string s] w fun e w' => e = .returned (.tuple #[.int .i64 ((Lex.begins s[0] ((Lex.bl s).drop 1)).1 : Nat), .int .i64 ((Lex.begins s[0] ((Lex.bl s).drop 1)).2 : Nat)]) ∧ w = w' := by
  obtain ⟨c, hc⟩ : ∃ c, s[0] = c := ⟨_, rfl⟩
  rw [hc]
  have conv : ∀ (a b : Nat), Lex.begins c ((Lex.bl s).drop 1) = (a, b) → (∀ e w', (e = Ending.returned (.tuple #[.int .i64 (a : Int), .int .i64 (b : Int)]) ∧ w = w') → e = .returned (.tuple #[.int .i64 ((Lex.begins c ((Lex.bl s).drop 1)).1 : Nat), .int .i64 ((Lex.begins c ((Lex.bl s).drop 1)).2 : Nat)]) ∧ w = w') := by
    intro a b h e w' hh
    rw [h]
    exact hh
  rcases hl : Lex.letter c with _ | _
  · rcases hn : Lex.digit c with _ | _
    · have hb := Lex.begins_eq c ((Lex.bl s).drop 1) hl hn
      rcases h45 : (c == 45) with _ | _
      · rw [h45, Bool.false_and, if_neg (by decide)] at hb
        have n45 := Lex.int_ne (n := 45) (by decide) h45
        rcases h34 : (c == 34) with _ | _
        · rw [h34, if_neg (by decide)] at hb
          have n34 := Lex.int_ne (n := 34) (by decide) h34
          rcases htw : Lex.twos.contains c with _ | _
          · rw [htw, Bool.false_and, if_neg (by decide)] at hb
            rcases hon : Lex.ones.contains c with _ | _
            · rw [hon, if_neg (by decide)] at hb
              exact (begins_c0 s c h0 hc hl hn n45 n34 htw hon w).mono (conv 0 0 hb)
            · rw [hon, if_pos rfl] at hb
              exact (begins_c1 s c h0 hc hl hn n45 n34 htw hon w).mono (conv 4 1 hb)
          · rw [htw, Bool.true_and] at hb
            by_cases h1 : 1 < s.size
            · rw [Lex.first_in s _ h1] at hb
              obtain ⟨d, hd⟩ : ∃ d, s[1] = d := ⟨_, rfl⟩
              rw [hd] at hb
              rcases h61 : (d == 61) with _ | _
              · rw [h61, if_neg (by decide)] at hb
                have n61 := Lex.int_ne (n := 61) (by decide) h61
                rcases hon : Lex.ones.contains c with _ | _
                · rw [hon, if_neg (by decide)] at hb
                  exact (begins_b0 s c d h1 hc hd hl hn n45 n34 n61 htw hon w).mono (conv 0 0 hb)
                · rw [hon, if_pos rfl] at hb
                  exact (begins_b1 s c d h1 hc hd hl hn n45 n34 n61 htw hon w).mono (conv 4 1 hb)
              · rw [h61, if_pos rfl] at hb
                exact (begins_two s c d h1 hc hd hl hn n45 n34 (Lex.int_eq (n := 61) (by decide) h61) htw w).mono (conv 4 2 hb)
            · rw [Lex.first_out s _ h1, if_neg (by decide)] at hb
              rcases hon : Lex.ones.contains c with _ | _
              · rw [hon, if_neg (by decide)] at hb
                exact (begins_a0 s c h0 hc h1 hl hn n45 n34 htw hon w).mono (conv 0 0 hb)
              · rw [hon, if_pos rfl] at hb
                exact (begins_a1 s c h0 hc h1 hl hn n45 n34 htw hon w).mono (conv 4 1 hb)
        · rw [h34, if_pos rfl] at hb
          exact (begins_q s c h0 hc hl hn (Lex.int_eq (n := 34) (by decide) h34) w).mono (conv 3 0 hb)
      · rw [h45, Bool.true_and] at hb
        have e45 := Lex.int_eq (n := 45) (by decide) h45
        have c45 : c = 45 := eq_of_beq h45
        have htw : (Lex.bl ⟨#[61, 33, 60, 62]⟩).contains c = false := by rw [c45]; rfl
        have hon : (Lex.bl ⟨#[123, 125, 40, 41, 44, 58, 59, 61, 60, 62]⟩).contains c = false := by rw [c45]; rfl
        have hz : (if (c == 34) = true then (3, 0) else if (Lex.twos.contains c && Lex.firstIs (· == 61) ((Lex.bl s).drop 1)) = true then (4, 2) else if Lex.ones.contains c = true then (4, 1) else (0, 0)) = ((0, 0) : Nat × Nat) := by
          rw [c45]
          rfl
        rw [hz] at hb
        by_cases h1 : 1 < s.size
        · rw [Lex.first_in s _ h1] at hb
          obtain ⟨d, hd⟩ : ∃ d, s[1] = d := ⟨_, rfl⟩
          rw [hd] at hb
          rcases hn1 : Lex.digit d with _ | _
          · rw [hn1, if_neg (by decide)] at hb
            exact (begins_m1 s c d h1 hc hd hl hn e45 hn1 htw hon w).mono (conv 0 0 hb)
          · rw [hn1, if_pos rfl] at hb
            exact (begins_minus s c d h1 hc hd hl hn e45 hn1 w).mono (conv 2 0 hb)
        · rw [Lex.first_out s _ h1, if_neg (by decide)] at hb
          exact (begins_m0 s c h0 hc h1 hl hn e45 htw hon w).mono (conv 0 0 hb)
    · exact (begins_digit s c h0 hc hl hn w).mono (conv 2 0 (by unfold Lex.begins; rw [if_neg (by rw [hl]; decide), if_pos (by rw [hn]; rfl)]))
  · exact (begins_letter s c h0 hc hl w).mono (conv 1 0 (by unfold Lex.begins; rw [if_pos hl]))
end Go.Proofs.YtbdochcajpempaaDoor

/- A row of octets that the call owns: as a string; and one octet more. -/
namespace Go.Proofs.YtbdochcajpempaaDoor.Byt
open Go.RowKit

theorem infoByte : (Tryd.prog.info? 5).map (fun i => (i.zero, i.size, i.bytes)) = some (some (.int .u8 0), 1, 1) := by kernel_rfl
theorem own_string {w : World} {B : Nat} {v : Value} {l : List UInt8} (h : w.ownsRow B 5 1 v l.length (Lib.byteCells l)) :
    (convert 83 9 v).run Tryd.prog w = .ok (.string ⟨l.toArray⟩) w := by
  rcases h.2 with ⟨rfl, h0⟩ | ⟨g, cap, cur, rfl, hbg, hg, hnc, hcm, hcs, htk⟩
  · have : l = [] := List.eq_nil_of_length_eq_zero h0
    subst this
    rw [run_convert_bytes_nil w 83 5 Tryd.underlying83 Tryd.underlying5 0 0 9 Tryd.underlying9]
    rfl
  · refine run_convert_bytes_back w 83 9 5 ⟨g, 0, none⟩ cap l Tryd.underlying83 Tryd.underlying5 Tryd.underlying9 ?_
    intro j hj
    have := h.cells (g := g) rfl j (.int .u8 l[j].toNat) (by simp [Lib.byteCells, hj])
    simpa [Addr.add] using this
theorem cells_snoc (l : List UInt8) (c : UInt8) : Lib.byteCells (l ++ [c]) = Lib.byteCells l ++ [.int .u8 (c.toNat : Int)] := by simp [Lib.byteCells]
theorem cells_len (l : List UInt8) : (Lib.byteCells l).length = l.length := Lib.byteCells_length l
theorem own_snoc {w : World} {B : Nat} {v : Value} {l : List UInt8} {c : UInt8} (h : w.ownsRow B 5 1 v (l.length + 1) (Lib.byteCells l ++ [.int .u8 (c.toNat : Int)])) :
    w.ownsRow B 5 1 v (l ++ [c]).length (Lib.byteCells (l ++ [c])) := by
  rw [cells_snoc, List.length_append]
  exact h
theorem own_ge {w : World} {B : Nat} {v : Value} {n : Nat} {xs : List Value} {g : Nat} (h : w.ownsRow B 5 1 v n xs) (e : v.ownBlock = some g) : B ≤ g := (h.lt g e).1
end Go.Proofs.YtbdochcajpempaaDoor.Byt

/- The walk of lex's text: what stands between quotes. -/
namespace Go.Proofs.YtbdochcajpempaaDoor
open Go.RowKit

namespace Lex
theorem text_nil (i : Nat) : text [] i = .error (0, 12) := by unfold text; rfl
theorem text_end (l : Bs) (i : Nat) : text (34 :: l) i = .ok ([], l) := by unfold text; rw [if_pos rfl]
theorem text_lf (l : Bs) (i : Nat) : text (10 :: l) i = .error (0, 12) := by unfold text; rw [if_neg (by decide), if_pos rfl]
theorem text_plain {c : UInt8} (l : Bs) (i : Nat) (h1 : c ≠ 34) (h2 : c ≠ 10) (h3 : c ≠ 92) : text (c :: l) i = (text l (i + 1)).map (fun r => (c :: r.1, r.2)) := by
  conv => lhs; unfold text
  rw [if_neg h1, if_neg h2, if_neg h3]
theorem text_cut1 (i : Nat) : text [92] i = .error (0, 12) := by unfold text; rw [if_neg (by decide), if_neg (by decide), if_pos rfl]
theorem text_esc {d : UInt8} (l : Bs) (i : Nat) (h : d = 92 ∨ d = 34) : text (92 :: d :: l) i = (text l (i + 2)).map (fun r => (d :: r.1, r.2)) := by
  conv => lhs; unfold text
  rw [if_neg (by decide), if_neg (by decide), if_pos rfl]
  simp only [h, if_true]
theorem text_n (l : Bs) (i : Nat) : text (92 :: 110 :: l) i = (text l (i + 2)).map (fun r => (10 :: r.1, r.2)) := by
  conv => lhs; unfold text
  rw [if_neg (by decide), if_neg (by decide), if_pos rfl]
  simp only [show ¬ ((110 : UInt8) = 92 ∨ (110 : UInt8) = 34) by decide, if_false, if_true]
theorem text_bad {d : UInt8} (l : Bs) (i : Nat) (h : ¬ (d = 92 ∨ d = 34)) (hn : d ≠ 110) : text (92 :: d :: l) i = .error (i, 1) := by
  conv => lhs; unfold text
  rw [if_neg (by decide), if_neg (by decide), if_pos rfl]
  simp only [h, hn, if_false]
/-- what has been read, put ahead -/
def ahead (acc : Bs) (x : Except (Nat × Int) (Bs × Bs)) : Except (Nat × Int) (Bs × Bs) := x.map fun r => (acc ++ r.1, r.2)
theorem ahead_nil (x : Except (Nat × Int) (Bs × Bs)) : ahead [] x = x := by cases x <;> rfl
theorem ahead_snoc (acc : Bs) (c : UInt8) (x : Except (Nat × Int) (Bs × Bs)) : ahead acc (x.map fun r => (c :: r.1, r.2)) = ahead (acc ++ [c]) x := by
  cases x with
  | error e => rfl
  | ok v => simp [ahead, Except.map]
theorem ahead_err (acc : Bs) (m : Nat) (e : Int) : ahead acc (.error (m, e)) = .error (m, e) := rfl
/-- what text hands back -/
def textV (n : Nat) : Except (Nat × Int) (Bs × Bs) → Value
  | .error (m, e) => .tuple #[.string ⟨#[]⟩, .int .i64 (m : Int), .int .i64 e]
  | .ok (p, r) => .tuple #[.string ⟨p.toArray⟩, .int .i64 ((n - r.length : Nat) : Int), .int .i64 0]
theorem textV_ok {s : ByteArray} (acc : Bs) (k : Nat) (h : k < s.size) : Ending.returned (.tuple #[.string ⟨acc.toArray⟩, .int .i64 ((k : Int) + 1), .int .i64 0]) = .returned (textV s.size (.ok (acc, (bl s).drop (k + 1)))) := by
  have : s.size - ((bl s).drop (k + 1)).length = k + 1 := by
    rw [List.length_drop, bl_len]
    omega
  show _ = Ending.returned (.tuple #[.string ⟨acc.toArray⟩, .int .i64 ((s.size - ((bl s).drop (k + 1)).length : Nat) : Int), .int .i64 0])
  rw [this]
  rfl
end Lex

set_option maxHeartbeats 4000000 in
theorem text_any (s : ByteArray) (h0 : 1 ≤ s.size) (hs : s.size ≤ 70000000000000) (w : World) :
    Calls Tryd.prog 41 #[.string s] w fun e w' => e = .returned (Lex.textV s.size (Lex.text ((Lex.bl s).drop 1) 1)) ∧ Below w.heap.size w w' := by
  obtain ⟨i0, hi, hz0, hz1, hz2⟩ := info_parts Byt.infoByte
  go_enter Tryd.func41, Tryd.ntmps41
  go_wp2
  go_loopw [5, 6] (fun v i wr => ∃ (k : Nat) (acc : Lex.Bs), 1 ≤ k ∧ k ≤ s.size ∧ i = .int .i64 k ∧ acc.length ≤ k ∧ wr.ownsRow w.heap.size 5 1 v acc.length (Lib.byteCells acc) ∧ Below w.heap.size w wr ∧
      Lex.text ((Lex.bl s).drop 1) 1 = Lex.ahead acc (Lex.text ((Lex.bl s).drop k) k)) (fun _ i _ => s.size - (intOf i).toNat)
  case atStart => exact ⟨1, [], Nat.le_refl _, h0, rfl, Nat.zero_le _, World.ownsRow_nil _ _ _ _, Below.refl _ _, (Lex.ahead_nil _).symm⟩
  case round =>
    obtain ⟨k, acc, h1k, hk, rfl, hacc, hown, hb, ht⟩ := hrel
    have HT := Lib.hid ht
    have HO := Lib.hid hown
    clear ht hown
    by_cases hlt : k < s.size
    · obtain ⟨c, hc⟩ : ∃ c, s[k] = c := ⟨_, rfl⟩
      have hd := Lex.drop_cons s k hlt
      rw [hc] at hd
      have HD := Lib.hid hd
      clear hd
      have hbs := hb.size
      rcases h34 : (c == 34) with _ | _
      · have n34 : ((c.toNat : Int) == 34) = false := Lex.int_ne (n := 34) (by decide) h34
        have c34 : c ≠ 34 := ne_of_beq_false h34
        rcases h10 : (c == 10) with _ | _
        · have n10 : ((c.toNat : Int) == 10) = false := Lex.int_ne (n := 10) (by decide) h10
          have c10 : c ≠ 10 := ne_of_beq_false h10
          rcases h92 : (c == 92) with _ | _
          · have n92 : ((c.toNat : Int) != 92) = true := by
              have := Lex.int_ne (n := 92) (by decide) h92
              simpa using this
            have c92 : c ≠ 92 := ne_of_beq_false h92
            have HN := Lib.hid (show Lex.text ((Lex.bl s).drop 1) 1 = Lex.ahead (acc ++ [c]) (Lex.text ((Lex.bl s).drop (k + 1)) (k + 1)) by
              rw [HT.out, HD.out, Lex.text_plain _ _ c34 c10 c92, Lex.ahead_snoc])
            clear h34 h10 h92 c34 c10 c92
            go_wp2_with (at_builtin; refine wpList_append_own _ rfl _ _ 83 rfl w.heap.size 5 i0 (.int .u8 0) 1 1 Tryd.underlying83 hi hz0 hz1 hz2 rfl (by decide) _ _ _ rfl (HO.out.alloc _) ⟨wr.heap.size, 0, none⟩ 1 1 [.int .u8 (c.toNat : Int)] rfl rfl ?c1 ?c2 ?c3 ?c4 ?c5 ?_)
            case c1 =>
              intro j u hj
              match j, hj with
              | 0, hj => simp at hj; subst hj; simp [Addr.add]
            case c2 => intro u hu; simp at hu; subst hu; rfl
            case c3 => unfold maxLen; omega
            case c4 => omega
            case c5 => simp; omega
            intro v' w2 hown' hgrow _
            have hb2 : Below w.heap.size w w2 := (hb.alloc hbs _).grown hgrow (by simp; omega) (fun g e => Byt.own_ge HO.out e)
            clear hgrow
            go_wp2
            go_roundw
            case rel => exact ⟨k + 1, acc ++ [c], by omega, by omega, by go_num, by simp; omega, Byt.own_snoc hown', hb2, HN.out⟩
            case measure => simp [intOf]; omega
          · have e92 : (c.toNat : Int) = 92 := Lex.int_eq (n := 92) (by decide) h92
            have c92 : c = 92 := eq_of_beq h92
            clear h34 h10 h92 c34 c10
            by_cases h1 : k + 1 < s.size
            · have hz : ((k : Int) + 1 == (s.size : Int)) = false := by simp; omega
              have hz' : (k : Int) + 1 < (s.size : Int) := by omega
              obtain ⟨d, hd⟩ : ∃ d, s[k + 1] = d := ⟨_, rfl⟩
              have hdd := Lex.drop_cons s (k + 1) h1
              rw [hd] at hdd
              have HD2 := Lib.hid (show (Lex.bl s).drop k = 92 :: d :: (Lex.bl s).drop (k + 2) by rw [HD.out, c92, hdd])
              clear hdd
              rcases d92 : (d == 92) with _ | _
              · have m92 : ((d.toNat : Int) == 92) = false := Lex.int_ne (n := 92) (by decide) d92
                rcases d34 : (d == 34) with _ | _
                · have m34 : ((d.toNat : Int) == 34) = false := Lex.int_ne (n := 34) (by decide) d34
                  rcases d110 : (d == 110) with _ | _
                  · have m110 : ((d.toNat : Int) == 110) = false := Lex.int_ne (n := 110) (by decide) d110
                    have HE := Lib.hid (show Lex.text ((Lex.bl s).drop 1) 1 = .error (k, 1) by
                      rw [HT.out, HD2.out, Lex.text_bad _ _ (fun h => h.elim (ne_of_beq_false d92) (ne_of_beq_false d34)) (ne_of_beq_false d110)]
                      rfl)
                    clear d92 d34 d110 c92
                    go_wp2
                    go_ret3
                    exact ⟨by rw [HE.out]; rfl, hb⟩
                  · have m110 : (d.toNat : Int) = 110 := Lex.int_eq (n := 110) (by decide) d110
                    have HN := Lib.hid (show Lex.text ((Lex.bl s).drop 1) 1 = Lex.ahead (acc ++ [10]) (Lex.text ((Lex.bl s).drop (k + 2)) (k + 2)) by
                      rw [HT.out, HD2.out, eq_of_beq d110, Lex.text_n, Lex.ahead_snoc])
                    clear d92 d34 d110 c92
                    go_wp2_with (at_builtin; refine wpList_append_own _ rfl _ _ 83 rfl w.heap.size 5 i0 (.int .u8 0) 1 1 Tryd.underlying83 hi hz0 hz1 hz2 rfl (by decide) _ _ _ rfl (HO.out.alloc _) ⟨wr.heap.size, 0, none⟩ 1 1 [.int .u8 10] rfl rfl ?c1 ?c2 ?c3 ?c4 ?c5 ?_)
                    case c1 =>
                      intro j u hj
                      match j, hj with
                      | 0, hj => simp at hj; subst hj; simp [Addr.add]
                    case c2 => intro u hu; simp at hu; subst hu; rfl
                    case c3 => unfold maxLen; omega
                    case c4 => omega
                    case c5 => simp; omega
                    intro v' w2 hown' hgrow _
                    have hb2 : Below w.heap.size w w2 := (hb.alloc hbs _).grown hgrow (by simp; omega) (fun g e => Byt.own_ge HO.out e)
                    clear hgrow
                    go_wp2
                    go_roundw
                    case rel => exact ⟨k + 2, acc ++ [10], by omega, by omega, by go_num, by simp; omega, Byt.own_snoc (c := 10) hown', hb2, HN.out⟩
                    case measure => simp [intOf]; omega
                · have m34 : (d.toNat : Int) = 34 := Lex.int_eq (n := 34) (by decide) d34
                  have HN := Lib.hid (show Lex.text ((Lex.bl s).drop 1) 1 = Lex.ahead (acc ++ [34]) (Lex.text ((Lex.bl s).drop (k + 2)) (k + 2)) by
                    rw [HT.out, HD2.out, eq_of_beq d34, Lex.text_esc _ _ (.inr rfl), Lex.ahead_snoc])
                  clear d92 d34 c92
                  go_wp2_with (at_builtin; refine wpList_append_own _ rfl _ _ 83 rfl w.heap.size 5 i0 (.int .u8 0) 1 1 Tryd.underlying83 hi hz0 hz1 hz2 rfl (by decide) _ _ _ rfl (HO.out.alloc _) ⟨wr.heap.size, 0, none⟩ 1 1 [.int .u8 34] rfl rfl ?c1 ?c2 ?c3 ?c4 ?c5 ?_)
                  case c1 =>
                    intro j u hj
                    match j, hj with
                    | 0, hj => simp at hj; subst hj; simp [Addr.add]
                  case c2 => intro u hu; simp at hu; subst hu; rfl
                  case c3 => unfold maxLen; omega
                  case c4 => omega
                  case c5 => simp; omega
                  intro v' w2 hown' hgrow _
                  have hb2 : Below w.heap.size w w2 := (hb.alloc hbs _).grown hgrow (by simp; omega) (fun g e => Byt.own_ge HO.out e)
                  clear hgrow
                  go_wp2
                  go_roundw
                  case rel => exact ⟨k + 2, acc ++ [34], by omega, by omega, by go_num, by simp; omega, Byt.own_snoc (c := 34) hown', hb2, HN.out⟩
                  case measure => simp [intOf]; omega
              · have m92 : (d.toNat : Int) = 92 := Lex.int_eq (n := 92) (by decide) d92
                have HN := Lib.hid (show Lex.text ((Lex.bl s).drop 1) 1 = Lex.ahead (acc ++ [92]) (Lex.text ((Lex.bl s).drop (k + 2)) (k + 2)) by
                  rw [HT.out, HD2.out, eq_of_beq d92, Lex.text_esc _ _ (.inl rfl), Lex.ahead_snoc])
                clear d92 c92
                go_wp2_with (at_builtin; refine wpList_append_own _ rfl _ _ 83 rfl w.heap.size 5 i0 (.int .u8 0) 1 1 Tryd.underlying83 hi hz0 hz1 hz2 rfl (by decide) _ _ _ rfl (HO.out.alloc _) ⟨wr.heap.size, 0, none⟩ 1 1 [.int .u8 92] rfl rfl ?c1 ?c2 ?c3 ?c4 ?c5 ?_)
                case c1 =>
                  intro j u hj
                  match j, hj with
                  | 0, hj => simp at hj; subst hj; simp [Addr.add]
                case c2 => intro u hu; simp at hu; subst hu; rfl
                case c3 => unfold maxLen; omega
                case c4 => omega
                case c5 => simp; omega
                intro v' w2 hown' hgrow _
                have hb2 : Below w.heap.size w w2 := (hb.alloc hbs _).grown hgrow (by simp; omega) (fun g e => Byt.own_ge HO.out e)
                clear hgrow
                go_wp2
                go_roundw
                case rel => exact ⟨k + 2, acc ++ [92], by omega, by omega, by go_num, by simp; omega, Byt.own_snoc (c := 92) hown', hb2, HN.out⟩
                case measure => simp [intOf]; omega
            · have hz : ((k : Int) + 1 == (s.size : Int)) = true := by simp; omega
              have HE := Lib.hid (show Lex.text ((Lex.bl s).drop 1) 1 = .error (0, 12) by
                rw [HT.out, HD.out, c92, Lex.drop_all s (k + 1) (by omega), Lex.text_cut1]
                rfl)
              clear c92
              go_wp2
              go_ret3
              exact ⟨by rw [HE.out]; rfl, hb⟩
        · have e10 : (c.toNat : Int) = 10 := Lex.int_eq (n := 10) (by decide) h10
          have c10 : c = 10 := eq_of_beq h10
          have HE := Lib.hid (show Lex.text ((Lex.bl s).drop 1) 1 = .error (0, 12) by
            rw [HT.out, HD.out, c10, Lex.text_lf]
            rfl)
          clear h34 h10 n34 c34 c10
          go_wp2
          go_ret3
          exact ⟨by rw [HE.out]; rfl, hb⟩
      · have e34 : (c.toNat : Int) = 34 := Lex.int_eq (n := 34) (by decide) h34
        have c34 : c = 34 := eq_of_beq h34
        have HE := Lib.hid (show Lex.text ((Lex.bl s).drop 1) 1 = .ok (acc, (Lex.bl s).drop (k + 1)) by
          rw [HT.out, HD.out, c34, Lex.text_end]
          simp [Lex.ahead, Except.map])
        have hcv := Byt.own_string HO.out
        clear h34 c34
        go_wp2
        go_ret3
        exact ⟨by rw [HE.out]; exact Lex.textV_ok acc k hlt, hb⟩
    · have HE := Lib.hid (show Lex.text ((Lex.bl s).drop 1) 1 = .error (0, 12) by
        rw [HT.out, Lex.drop_all s k (by omega), Lex.text_nil]
        rfl)
      go_wp2
      go_ret3
      exact ⟨by rw [HE.out]; rfl, hb⟩
end Go.Proofs.YtbdochcajpempaaDoor
