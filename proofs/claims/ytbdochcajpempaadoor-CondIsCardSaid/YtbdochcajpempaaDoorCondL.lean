/- The walk of CondBack. -/
import Derived.Test.YtbdochcajpempaaDoorCondJ
namespace Go.Proofs.YtbdochcajpempaaDoor
open Go.RowKit
set_option linter.unusedSimpArgs false
set_option linter.unusedVariables false

theorem and_mask (k : Int) : ∃ m : Nat, bits .and .i64 k 65535 = (m : Int) ∧ m ≤ 65535 := by
  have h : (BitVec.ofInt 64 k &&& BitVec.ofInt 64 65535).toNat ≤ 65535 := by
    rw [BitVec.toNat_and]
    exact Nat.le_trans Nat.and_le_right (by decide)
  refine ⟨(BitVec.ofInt 64 k &&& BitVec.ofInt 64 65535).toNat, ?_, h⟩
  show IntKind.i64.wrap (((BitVec.ofInt 64 k &&& BitVec.ofInt 64 65535).toNat : Nat) : Int) = _
  exact IntWalk.i64_in _ (by omega)
namespace Cond
def reps (c : UInt8) (k : Nat) : ByteArray := ⟨(List.replicate k c).toArray⟩
theorem reps_bl (c : UInt8) (k : Nat) : Lex.bl (reps c k) = List.replicate k c := Lex.bl_mk _
theorem reps_size (c : UInt8) (k : Nat) : (reps c k).size = k := by rw [← Lex.bl_len, reps_bl, List.length_replicate]
theorem reps_succ (c : UInt8) (k : Nat) : reps c k ++ ⟨#[c]⟩ = reps c (k + 1) := by
  apply Lex.ba_ext
  rw [Lex.bl_append, reps_bl, reps_bl, List.replicate_succ']
theorem around_bl (d : Nat) (q : ByteArray) : Lex.bl (reps 40 d ++ q ++ reps 41 d) = aroundT d (Lex.bl q) := by
  rw [Lex.bl_append, Lex.bl_append, reps_bl, reps_bl, List.append_assoc]
  rfl
theorem toks_small {s : ByteArray} {l : List Lex.Tok} {n : Nat} {e : Int} (hs : s.size ≤ 60000) (h : Lex.all (s.size + 1) (Lex.bl s) s.size = (l, n, e)) : ∀ t ∈ l.map Lex.toTk, t.2.2.size ≤ 4611686018427387904 := by
  intro t ht
  obtain ⟨y, hy, rfl⟩ := List.mem_map.1 ht
  have h1 := Lex.tok_len hy
  have h2 := (Lex.all_len (s.size + 1) (Lex.bl s) s.size).1
  rw [h, Lex.bl_len] at h2
  simp only at h2
  show (⟨y.s.toArray⟩ : ByteArray).size ≤ _
  rw [Lex.size_mk]
  omega
theorem same_self (nm : ByteArray) (ms : List Sel.Mt) (op v : Int) : same nm nm ms ms op op v v = true := by
  unfold same Sel.same
  simp
end Cond

set_option maxRecDepth 100000 in
set_option maxHeartbeats 16000000 in
theorem condBack_any (nm : ByteArray) (A : Option Addr) (n c : Nat) (ms : List Lab.Mt) (op v depth : Int) (w : World) (hG : CGlob w) (hM : Mts w w.heap.size A n c ms) :
    Calls Tryd.prog 5 #[.agg #[.string nm, .slice A n c, .int .i64 op, .int .i64 v], .int .i64 depth] w fun e w' => LawR w e w' := by
  have HG := Lib.hid hG
  have HM := Lib.hid hM
  clear hG hM
  obtain ⟨m, hm, hm2⟩ := and_mask depth
  obtain ⟨d, hdd⟩ : ∃ d, m % 35 = d := ⟨_, rfl⟩
  have hd35 : d ≤ 34 := by omega
  have hmod : Int.tmod (m : Int) 35 = (d : Int) := by rw [← hdd]; rfl
  clear hdd hm2
  go_enter Tryd.func5, Tryd.ntmps5
  go_wp2_with fail
  have hB1 := (Below.refl w.heap.size w).alloc (Nat.le_refl _) (.cells #[.string nm, .slice A n c, .int .i64 op, .int .i64 v] 26)
  have hblk := (Mem.Blk.new w 26 #[.string nm, .slice A n c, .int .i64 op, .int .i64 v])
  have hlt1 : w.heap.size < (w.alloc (.cells #[.string nm, .slice A n c, .int .i64 op, .int .i64 v] 26)).heap.size := by simp
  have hsz1 : w.heap.size ≤ (w.alloc (.cells #[.string nm, .slice A n c, .int .i64 op, .int .i64 v] 26)).heap.size := by simp
  obtain ⟨W1, hW1⟩ : ∃ W1, W1 = w.alloc (.cells #[.string nm, .slice A n c, .int .i64 op, .int .i64 v] 26) := ⟨_, rfl⟩
  rw [← hW1] at hB1 hblk hlt1 hsz1 ⊢
  clear hW1
  have HBLK := Lib.hid hblk
  clear hblk
  have HM1 := Lib.hid ((HM.out.below hB1).more hsz1)
  have HG1 := Lib.hid (HG.out.below hB1)
  refine (awake_any W1 HG1.out).mono ?_
  rintro e w2 ⟨rfl, hC2⟩
  have u0 := (hC2.cell (p := ⟨w.heap.size, 0, none⟩) hlt1).trans (HBLK.out.cell 0)
  have u1 := (hC2.cell (p := ⟨w.heap.size, 1, none⟩) hlt1).trans (HBLK.out.cell 1)
  have u2 := (hC2.cell (p := ⟨w.heap.size, 2, none⟩) hlt1).trans (HBLK.out.cell 2)
  have u3 := (hC2.cell (p := ⟨w.heap.size, 3, none⟩) hlt1).trans (HBLK.out.cell 3)
  simp at u0 u1 u2 u3
  go_wp2_with fail
  refine (fewS_any nm A n c ms w2 (HM1.out.later hC2)).mono ?_
  rintro e w3 ⟨few, rfl, -, hb3⟩
  have hC3 := hC2.trans (hb3.mono hC2.size)
  rcases few with _ | _
  · go_wp2
    go_ret
    exact ⟨rfl, hB1.trans (hC3.mono hB1.size)⟩
  obtain ⟨q, hq⟩ : ∃ q, Cond.print nm ms op v = q := ⟨_, rfl⟩
  have hqs := Cond.print_size nm ms op v
  rw [hq] at hqs
  have u0 := (hC3.cell (p := ⟨w.heap.size, 0, none⟩) hlt1).trans (HBLK.out.cell 0)
  have u1 := (hC3.cell (p := ⟨w.heap.size, 1, none⟩) hlt1).trans (HBLK.out.cell 1)
  have u2 := (hC3.cell (p := ⟨w.heap.size, 2, none⟩) hlt1).trans (HBLK.out.cell 2)
  have u3 := (hC3.cell (p := ⟨w.heap.size, 3, none⟩) hlt1).trans (HBLK.out.cell 3)
  simp at u0 u1 u2 u3
  go_wp2_with fail
  refine (cprint_is nm A n c ms op v q hq w3 (HG1.out.below hC3) (HM1.out.later hC3)).mono ?_
  rintro e w4 ⟨rfl, hb4⟩
  have hC4 := hC3.trans (hb4.mono hC3.size)
  have u0 := (hC4.cell (p := ⟨w.heap.size, 0, none⟩) hlt1).trans (HBLK.out.cell 0)
  have u1 := (hC4.cell (p := ⟨w.heap.size, 1, none⟩) hlt1).trans (HBLK.out.cell 1)
  have u2 := (hC4.cell (p := ⟨w.heap.size, 2, none⟩) hlt1).trans (HBLK.out.cell 2)
  have u3 := (hC4.cell (p := ⟨w.heap.size, 3, none⟩) hlt1).trans (HBLK.out.cell 3)
  simp at u0 u1 u2 u3
  rcases hs : Cond.sane nm ms op v with _ | _
  · have HS := Lib.hid hs
    obtain rfl : q = ⟨#[]⟩ := by rw [← hq]; unfold Cond.print; rw [hs]; rfl
    clear hq hs
    go_wp2_with fail
    refine (cSane_any nm A n c ms op v false HS.out w4 (HM1.out.later hC4)).mono ?_
    rintro e w5 ⟨rfl, hb5⟩
    have hC5 := hC4.trans (hb5.mono hC4.size)
    go_wp2
    go_ret
    exact ⟨rfl, hB1.trans (hC5.mono hB1.size)⟩
  · have HS := Lib.hid hs
    have HQ := Lib.hid hq
    clear hq hs
    go_wp2_with fail
    refine (cSane_any nm A n c ms op v true HS.out w4 (HM1.out.later hC4)).mono ?_
    rintro e w5 ⟨rfl, hb5⟩
    have hC5 := hC4.trans (hb5.mono hC4.size)
    clear u0 u1 u2 u3 hb5 hb4 hb3 hC2 hC3 hC4
    go_wp2
    go_loopw [8, 9, 10] (fun s8 s9 s10 wr => ∃ k : Nat, k ≤ d ∧ s8 = .string (Cond.reps 40 k) ∧ s9 = .string (Cond.reps 41 k) ∧ s10 = .int .i64 (k : Nat) ∧ w5 = wr) (fun _ _ s10 _ => d - (intOf s10).toNat)
    case atStart => exact ⟨0, Nat.zero_le _, rfl, rfl, rfl, rfl⟩
    case round =>
      obtain ⟨k, hk, rfl, rfl, rfl, rfl⟩ := hrel
      by_cases hlt : k < d
      · have hdl : decide (k < d) = true := decide_eq_true hlt
        obtain ⟨k2, hk2⟩ : ∃ y, y = k + 1 := ⟨_, rfl⟩
        have hwk : IntKind.i64.wrap ((k : Int) + 1) = ((k2 : Nat) : Int) := by rw [hk2, show (k : Int) + 1 = ((k + 1 : Nat) : Int) by omega]; exact IntWalk.i64_in _ (by omega)
        obtain ⟨O, hO⟩ : ∃ O, Cond.reps 40 k = O := ⟨_, rfl⟩
        obtain ⟨S, hS⟩ : ∃ S, Cond.reps 41 k = S := ⟨_, rfl⟩
        have hOs : ¬ 9223372036854775807 < O.size + 1 := by rw [← hO, Cond.reps_size]; omega
        have hSs : ¬ 9223372036854775807 < S.size + 1 := by rw [← hS, Cond.reps_size]; omega
        have HO2 := Lib.hid (show O ++ ⟨#[40]⟩ = Cond.reps 40 k2 by rw [← hO, hk2]; exact Cond.reps_succ 40 k)
        have HS2 := Lib.hid (show S ++ ⟨#[41]⟩ = Cond.reps 41 k2 by rw [← hS, hk2]; exact Cond.reps_succ 41 k)
        have HK2 := Lib.hid hk2
        rw [hO, hS]
        clear hO hS hk2
        go_wp2
        go_roundw
        case rel => exact ⟨k2, by have := HK2.out; omega, by rw [HO2.out], by rw [HS2.out], rfl, by first | rfl | trivial⟩
        case measure => have := HK2.out; simp [intOf]; omega
      · obtain rfl : k = d := by omega
        have hdl : decide (k < k) = false := decide_eq_false (by omega)
        obtain ⟨O, hO⟩ : ∃ O, Cond.reps 40 k = O := ⟨_, rfl⟩
        obtain ⟨S, hS⟩ : ∃ S, Cond.reps 41 k = S := ⟨_, rfl⟩
        have hOz : O.size = k := by rw [← hO, Cond.reps_size]
        have hSz : S.size = k := by rw [← hS, Cond.reps_size]
        have s1 : ¬ 9223372036854775807 < O.size + q.size := by omega
        have s2 : ¬ 9223372036854775807 < O.size + q.size + S.size := by omega
        have hz3 : (O ++ q ++ S).size ≤ 60000 := by simp only [ByteArray.size_append]; omega
        obtain ⟨L, hL1, hL2⟩ := Cond.round HS.out k (O ++ q ++ S) (by rw [← hO, ← hS, HQ.out]; exact Cond.around_bl k q)
        have HSM := Lib.hid (Cond.toks_small hz3 hL1)
        have HL1 := Lib.hid hL1
        have HZ3 := Lib.hid hz3
        rw [hO, hS]
        clear hO hS hL1 hOz hSz hz3
        have u0 := (hC5.cell (p := ⟨w.heap.size, 0, none⟩) hlt1).trans (HBLK.out.cell 0)
        have u1 := (hC5.cell (p := ⟨w.heap.size, 1, none⟩) hlt1).trans (HBLK.out.cell 1)
        have u2 := (hC5.cell (p := ⟨w.heap.size, 2, none⟩) hlt1).trans (HBLK.out.cell 2)
        have u3 := (hC5.cell (p := ⟨w.heap.size, 3, none⟩) hlt1).trans (HBLK.out.cell 3)
        simp at u0 u1 u2 u3
        go_wp2_with fail
        refine (all_is (O ++ q ++ S) HZ3.out _ L _ _ HL1.out).mono ?_
        rintro e w6 ⟨A6, n6, c6, rfl, hT6, hb6⟩
        have hC6 := hC5.trans (hb6.mono hC5.size)
        have hn6 := hT6.len
        rw [List.length_map] at hn6
        clear u0 u1 u2 u3
        by_cases hk32 : k ≤ 32
        · rw [if_pos hk32, hn6] at hL2
          have HP := Lib.hid hL2
          have hd32 : decide (32 < k) = false := decide_eq_false (by omega)
          clear hL2 hn6
          go_wp2_with fail
          refine (cparse_is A6 n6 c6 0 _ _ _ _ _ _ _ HP.out HSM.out w6 (HG1.out.below hC6).1 hT6).mono ?_
          rintro e w7 ⟨A7, n7, c7, rfl, hM7, hb7⟩
          have ha7 := (Below.refl w7.heap.size w7).alloc (Nat.le_refl _) (.cells #[.string (nm), .slice A7 n7 c7, .int .i64 (op), .int .i64 (v)] 26)
          have hb78 := hb7.trans (ha7.mono hb7.size)
          have hC8 := hC6.trans (hb78.mono hC6.size)
          have hM8 := hM7.later ha7
          have hx8 := Mem.Blk.new w7 26 #[.string (nm), .slice A7 n7 c7, .int .i64 (op), .int .i64 (v)]
          have x0 := hx8.cell 0
          have x1 := hx8.cell 1
          have x2 := hx8.cell 2
          have x3 := hx8.cell 3
          simp only [List.getElem?_toArray, List.getElem?_cons_zero, List.getElem?_cons_succ] at x0 x1 x2 x3
          have u0 := (hC8.cell (p := ⟨w.heap.size, 0, none⟩) hlt1).trans (HBLK.out.cell 0)
          have u1 := (hC8.cell (p := ⟨w.heap.size, 1, none⟩) hlt1).trans (HBLK.out.cell 1)
          have u2 := (hC8.cell (p := ⟨w.heap.size, 2, none⟩) hlt1).trans (HBLK.out.cell 2)
          have u3 := (hC8.cell (p := ⟨w.heap.size, 3, none⟩) hlt1).trans (HBLK.out.cell 3)
          simp at u0 u1 u2 u3
          go_wp2_with fail
          refine (csame_is nm nm A A7 n c n7 c7 ms ms op op v v true (Cond.same_self _ _ _ _) _ (HM1.out.later hC8) hM8).mono ?_
          rintro e w9 ⟨rfl, hb9⟩
          have hC9 := hC8.trans (hb9.mono hC8.size)
          go_wp2
          go_ret
          exact ⟨rfl, hB1.trans (hC9.mono hB1.size)⟩
        · rw [if_neg hk32] at hL2
          have HP := Lib.hid hL2
          have hd32 : decide (32 < k) = true := decide_eq_true (by omega)
          clear hL2 hn6
          go_wp2_with fail
          refine (cparse_is A6 n6 c6 0 _ _ _ _ _ _ _ HP.out HSM.out w6 (HG1.out.below hC6).1 hT6).mono ?_
          rintro e w7 ⟨A7, n7, c7, rfl, hM7, hb7⟩
          have ha7 := (Below.refl w7.heap.size w7).alloc (Nat.le_refl _) (.cells #[.string (⟨#[]⟩), .slice A7 n7 c7, .int .i64 (0), .int .i64 (0)] 26)
          have hb78 := hb7.trans (ha7.mono hb7.size)
          have hC8 := hC6.trans (hb78.mono hC6.size)
          have hM8 := hM7.later ha7
          have hx8 := Mem.Blk.new w7 26 #[.string (⟨#[]⟩), .slice A7 n7 c7, .int .i64 (0), .int .i64 (0)]
          have x0 := hx8.cell 0
          have x1 := hx8.cell 1
          have x2 := hx8.cell 2
          have x3 := hx8.cell 3
          simp only [List.getElem?_toArray, List.getElem?_cons_zero, List.getElem?_cons_succ] at x0 x1 x2 x3
          have u0 := (hC8.cell (p := ⟨w.heap.size, 0, none⟩) hlt1).trans (HBLK.out.cell 0)
          have u1 := (hC8.cell (p := ⟨w.heap.size, 1, none⟩) hlt1).trans (HBLK.out.cell 1)
          have u2 := (hC8.cell (p := ⟨w.heap.size, 2, none⟩) hlt1).trans (HBLK.out.cell 2)
          have u3 := (hC8.cell (p := ⟨w.heap.size, 3, none⟩) hlt1).trans (HBLK.out.cell 3)
          simp at u0 u1 u2 u3
          go_wp2_with fail
          refine (csame_is ⟨#[]⟩ ⟨#[]⟩ A7 none n7 c7 0 0 [] [] 0 0 0 0 true (Cond.same_self _ _ _ _) _ hM8 (mts_none _)).mono ?_
          rintro e w9 ⟨rfl, hb9⟩
          have hC9 := hC8.trans (hb9.mono hC8.size)
          go_wp2
          go_ret
          exact ⟨rfl, hB1.trans (hC9.mono hB1.size)⟩
end Go.Proofs.YtbdochcajpempaaDoor
