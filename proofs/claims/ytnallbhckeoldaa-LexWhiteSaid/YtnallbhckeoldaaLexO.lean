/- The walk of the law LexQuote. -/
import Derived.Test.YtnallbhckeoldaaLexM
import Derived.Test.YtnallbhckeoldaaRow
namespace Go.Proofs.Ytnallbhckeoldaa
open Go.RowKit
attribute [local go_sem ↓] tok_neq_same tok_eql_same tok_guard

theorem and_mask (k : Int) : ∃ m : Nat, bits .and .i64 k 65535 = (m : Int) ∧ m ≤ 65535 := by
  have h : (BitVec.ofInt 64 k &&& BitVec.ofInt 64 65535).toNat ≤ 65535 := by
    rw [BitVec.toNat_and]
    exact Nat.le_trans Nat.and_le_right (by decide)
  refine ⟨(BitVec.ofInt 64 k &&& BitVec.ofInt 64 65535).toNat, ?_, h⟩
  show IntKind.i64.wrap (((BitVec.ofInt 64 k &&& BitVec.ofInt 64 65535).toNat : Nat) : Int) = _
  exact IntWalk.i64_in _ (by omega)
namespace Lex
theorem bl_append (a b : ByteArray) : bl (a ++ b) = bl a ++ bl b := by simp [bl]
theorem mk_bl (s : ByteArray) : (⟨(bl s).toArray⟩ : ByteArray) = s := ba_ext (by simp [bl])
theorem quoted_all (s t u : ByteArray) (ht : t = ⟨(quote (bl s)).toArray⟩) (hu : bl u = [32, 9] ++ (bl t ++ [35, 32, 34])) :
    all (u.size + 1) (bl u) u.size = ([⟨3, 2, bl s⟩], t.size + 5, 0) := by
  have hbl : bl t = quote (bl s) := by rw [ht]
  have hus : u.size = (bl u).length := (bl_len u).symm
  have hts : t.size = (quote (bl s)).length := by rw [← bl_len, hbl]
  rw [hu, hbl]
  have hN : u.size = (quote (bl s)).length + 5 := by
    rw [hus, hu, hbl]
    simp only [List.length_append, List.length_cons, List.length_nil]
    omega
  obtain ⟨f, hf⟩ : ∃ f, u.size + 1 = f + 2 := ⟨u.size - 1, by omega⟩
  rw [hf, all_quote (bl s) f u.size hN]
  rw [hN, hts]
theorem cut_all (s t u : ByteArray) (m : Nat) (ht : t = ⟨(quote (bl s)).toArray⟩) (hm : m + 1 < t.size) (hu : u = t.extract 0 (m + 1)) : all (u.size + 1) (bl u) u.size = ([], 0, 12) := by
  have hbl : bl t = quote (bl s) := by rw [ht]
  have hts : t.size = (quote (bl s)).length := by rw [← bl_len, hbl]
  have hq : (quote (bl s)).length = (quoteIn (bl s)).length + 2 := by simp [quote]
  have hbu : bl u = (quote (bl s)).take (m + 1) := by rw [hu]; unfold bl; rw [ByteArray.data_extract, Array.toList_extract]; simp [List.extract]; rw [← hbl]
  have hus : u.size = m + 1 := by
    rw [← bl_len, hbu, List.length_take]
    omega
  rw [hbu, hus]
  exact all_cut (bl s) m (m + 1) (m + 1) (by omega) rfl
end Lex

set_option maxRecDepth 100000 in
set_option maxHeartbeats 4000000 in
theorem lexQuote_any (s : ByteArray) (cut : Int) (w : World) : Calls Try.prog 5 #[.string s, .int .i64 cut] w fun e w' => LawR w e w' := by
  by_cases hs : s.size ≤ 1000
  · obtain ⟨t, ht⟩ : ∃ t : ByteArray, t = ⟨(Lex.quote (Lex.bl s)).toArray⟩ := ⟨_, rfl⟩
    have hts : t.size = (Lex.quote (Lex.bl s)).length := by rw [ht]; simp [ByteArray.size]
    have hq : (Lex.quote (Lex.bl s)).length = (Lex.quoteIn (Lex.bl s)).length + 2 := by simp [Lex.quote]
    have hql := Lex.quote_len (Lex.bl s)
    rw [Lex.bl_len] at hql
    have h2 : 2 ≤ t.size := by omega
    have h3 : t.size ≤ 2002 := by omega
    obtain ⟨m, hm, hm2⟩ := and_mask cut
    have HT := Lib.hid ht.symm
    clear ht hts hq hql
    go_enter Try.func5, Try.ntmps5
    go_wp2_with fail
    refine (awake_any w).mono ?_
    rintro e w1 ⟨rfl, hb1⟩
    go_wp2_with fail
    refine (quote_any s (by omega) w1).mono ?_
    rintro e w2 ⟨rfl, hb2⟩
    rw [HT.out]
    have hb2' := hb1.trans (hb2.mono hb1.size)
    have hAll := Lex.quoted_all s t (⟨#[32, 9]⟩ ++ t ++ ⟨#[35, 32, 34]⟩) HT.out.symm (by rw [Lex.bl_append, Lex.bl_append, List.append_assoc])
    have hUs : (⟨#[32, 9]⟩ ++ t ++ ⟨#[35, 32, 34]⟩ : ByteArray).size = t.size + 5 := by
      simp only [ByteArray.size_append]
      show 2 + t.size + 3 = _
      omega
    have HAll := Lib.hid hAll
    have HUs := Lib.hid hUs
    clear hAll hUs
    go_wp2_with fail
    have hc := all_is (⟨#[32, 9]⟩ ++ t ++ ⟨#[35, 32, 34]⟩) (by rw [HUs.out]; omega) w2 _ _ _ HAll.out
    refine hc.mono ?_
    rintro e w3 ⟨A, n, c, rfl, hT, hb3⟩
    have hb3' := hb2'.trans (hb3.mono hb2'.size)
    obtain rfl : 1 = n := hT.1
    obtain ⟨b, off, rfl, hbB, hcell⟩ := hT.at_ (by decide)
    have h00 := hcell 0 _ rfl 0 _ rfl
    have h01 := hcell 0 _ rfl 1 _ rfl
    have h02 := hcell 0 _ rfl 2 _ rfl
    simp only [Nat.zero_mul, Nat.add_zero, Lex.mk_bl] at h00 h01 h02
    have hd2 : decide ((t.size : Int) < 2) = false := by simp; omega
    have hz : ((t.size : Int) - 1 == 0) = false := by simp; omega
    have hw1 : IntKind.i64.wrap ((t.size : Int) - 1) = (t.size : Int) - 1 := IntWalk.i64_in _ (by omega)
    clear hT hcell
    generalize (⟨#[32, 9]⟩ ++ t ++ ⟨#[35, 32, 34]⟩ : ByteArray) = u
    generalize (⟨#[32, 9]⟩ ++ t : ByteArray) = u2
    obtain ⟨r, hr, hr2⟩ : ∃ r : Nat, Int.tmod (m : Int) ((t.size : Int) - 1) = (r : Int) ∧ r + 1 < t.size := by
      refine ⟨m % (t.size - 1), ?_, by have := Nat.mod_lt m (show 0 < t.size - 1 by omega); omega⟩
      rw [show (t.size : Int) - 1 = ((t.size - 1 : Nat) : Int) by omega]
      rfl
    have hr3 : 1 + (r : Int) ≤ (t.size : Int) := by omega
    go_wp2_with fail
    have hcut := Lex.cut_all s t (t.extract 0 (1 + r)) r HT.out.symm hr2 (by rw [Nat.add_comm])
    have hcs : (t.extract 0 (1 + r)).size ≤ 60000 := by simp; omega
    refine (all_is (t.extract 0 (1 + r)) hcs w3 _ _ _ hcut).mono ?_
    rintro e w4 ⟨A4, n4, c4, rfl, hT4, hb4⟩
    have hb4' := hb3'.trans (hb4.mono hb3'.size)
    clear hcut hcs hc
    go_wp2
    go_ret
    exact ⟨rfl, hb4'⟩
  · go_enter Try.func5, Try.ntmps5
    go_wp2_with fail
    refine (awake_any w).mono ?_
    rintro e w1 ⟨rfl, hb1⟩
    go_wp2
    go_ret
    exact ⟨rfl, hb1⟩
end Go.Proofs.Ytnallbhckeoldaa
