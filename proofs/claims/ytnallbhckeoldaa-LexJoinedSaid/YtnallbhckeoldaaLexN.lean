/- The walk of the law LexJoined. -/
import Derived.Test.YtnallbhckeoldaaLexM
import Derived.Test.YtnallbhckeoldaaRow
namespace Go.Proofs.Ytnallbhckeoldaa
open Go.RowKit
attribute [local go_sem ↓] tok_neq_same tok_eql_same tok_guard

namespace Lex
theorem bl_mk (l : Bs) : bl ⟨l.toArray⟩ = l := by simp [bl]
theorem size_mk (l : Bs) : (⟨l.toArray⟩ : ByteArray).size = l.length := by simp [ByteArray.size]
theorem bare_mem {f N : Nat} {l : Bs} : ∀ x ∈ bare (all f l N).1, good x.1 x.2 := by
  intro x hx
  obtain ⟨t, ht, rfl⟩ := List.mem_map.1 hx
  exact all_good f l N t ht
/-- the tokens, joined, are read again -/
theorem joined_all (s : ByteArray) (t : ByteArray) (ht : t = ⟨(join (bare (all (s.size + 1) (bl s) s.size).1)).toArray⟩) :
    ∃ M, all (t.size + 1) (bl t) t.size = (M, t.size, 0) ∧ bare M = bare (all (s.size + 1) (bl s) s.size).1 ∧ t.size ≤ 2 * s.size ∧ (all (s.size + 1) (bl s) s.size).1.length ≤ s.size ∧ M.length ≤ s.size := by
  have hbl : bl t = join (bare (all (s.size + 1) (bl s) s.size).1) := by rw [ht, bl_mk]
  have hsz : t.size = (join (bare (all (s.size + 1) (bl s) s.size).1)).length := by rw [ht, size_mk]
  have hlen := all_len (s.size + 1) (bl s) s.size
  rw [bl_len] at hlen
  have hjl := join_len (all (s.size + 1) (bl s) s.size).1
  have hge := join_ge _ (bare_mem (f := s.size + 1) (l := bl s) (N := s.size))
  have hj := joined _ (bare_mem (f := s.size + 1) (l := bl s) (N := s.size)) (t.size + 1) t.size (by omega)
  rw [← hbl] at hj
  refine ⟨(all (t.size + 1) (bl t) t.size).1, ?_, hj.1, by omega, hlen.2, ?_⟩
  · exact Prod.ext rfl hj.2
  · have := congrArg List.length hj.1
    rw [bare_len, bare_len] at this
    omega
end Lex

set_option maxRecDepth 100000 in
set_option maxHeartbeats 4000000 in
theorem lexJoined_any (s : ByteArray) (w : World) : Calls Try.prog 3 #[.string s] w fun e w' => LawR w e w' := by
  by_cases hs : s.size ≤ 5000
  · obtain ⟨t, ht⟩ : ∃ t : ByteArray, t = ⟨(Lex.join (Lex.bare (Lex.all (s.size + 1) (Lex.bl s) s.size).1)).toArray⟩ := ⟨_, rfl⟩
    obtain ⟨M, hM, hbM, hts, hLn, hMn⟩ := Lex.joined_all s t ht
    have HMM := Lib.hid hM
    have HBM := Lib.hid hbM
    have HT := Lib.hid ht.symm
    obtain ⟨L, hL⟩ : ∃ L, L = (Lex.all (s.size + 1) (Lex.bl s) s.size).1 := ⟨_, rfl⟩
    have HL := Lib.hid hL.symm
    clear ht hM hbM hL
    go_enter Try.func3, Try.ntmps3
    go_wp2_with fail
    refine (awake_any w).mono ?_
    rintro e w1 ⟨rfl, hb1⟩
    go_wp2_with fail
    refine (all_any s (by omega) w1).mono ?_
    rintro e w2 ⟨A, n, c, rfl, hT2, hb2⟩
    have hb2' := hb1.trans (hb2.mono hb1.size)
    rw [HL.out] at hT2 HT HBM hLn
    have hn2 := hT2.1
    have HT2 := Lib.hid hT2
    clear hT2
    go_wp2_with fail
    refine (join_any A n c L w2 HT2.out (by have := congrArg ByteArray.size HT.out; rw [Lex.size_mk] at this; omega)).mono ?_
    rintro e w3 ⟨rfl, hb3⟩
    rw [HT.out]
    have hb3' := hb2'.trans (hb3.mono hb2'.size)
    have HT3 := Lib.hid (HT2.out.later hb3)
    go_wp2_with fail
    refine (all_is t (by omega) w3 M t.size 0 HMM.out).mono ?_
    rintro e w4 ⟨A4, n4, c4, rfl, hT4, hb4⟩
    have hb4' := hb3'.trans (hb4.mono hb3'.size)
    have HT4 := Lib.hid (HT3.out.later hb4)
    have HU4 := Lib.hid hT4
    have hn4 := hT4.1
    clear hT4
    go_wp2_with fail
    refine (plain_any A n c L w4 HT4.out (by omega)).mono ?_
    rintro e w5 ⟨A5, n5, c5, rfl, hT5, hb5⟩
    have hb5' := hb4'.trans (hb5.mono hb4'.size)
    have HU5 := Lib.hid (HU4.out.later hb5)
    have HT5 := Lib.hid hT5
    clear hT5
    go_wp2_with fail
    refine (plain_any A4 n4 c4 M w5 HU5.out (by omega)).mono ?_
    rintro e w6 ⟨A6, n6, c6, rfl, hT6, hb6⟩
    have hb6' := hb5'.trans (hb6.mono hb5'.size)
    have HT6 := Lib.hid (HT5.out.later hb6)
    rw [Lex.bareTok_eq HBM.out] at hT6
    have HV6 := Lib.hid hT6
    have HU6 := Lib.hid (HU5.out.later hb6)
    clear hT6
    go_wp2_with fail
    refine (same_eq A5 A6 n5 c5 n6 c6 _ w6 HT6.out HV6.out).mono ?_
    rintro e w7 ⟨rfl, hb7⟩
    have hb7' := hb6'.trans (hb7.mono hb6'.size)
    have HU7 := Lib.hid (HU6.out.later hb7)
    go_wp2_with fail
    refine (join_any A4 n4 c4 M w7 HU7.out (by rw [HBM.out]; have := congrArg ByteArray.size HT.out; rw [Lex.size_mk] at this; omega)).mono ?_
    rintro e w8 ⟨rfl, hb8⟩
    have hb8' := hb7'.trans (hb8.mono hb7'.size)
    rw [HBM.out, HT.out]
    go_wp2
    go_ret
    exact ⟨rfl, hb8'⟩
  · go_enter Try.func3, Try.ntmps3
    go_wp2_with fail
    refine (awake_any w).mono ?_
    rintro e w1 ⟨rfl, hb1⟩
    go_wp2
    go_ret
    exact ⟨rfl, hb1⟩
end Go.Proofs.Ytnallbhckeoldaa
