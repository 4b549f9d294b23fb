/- The walk of the law LexWhite. -/
import Derived.Test.YtnallbhckeoldaaLexO
import Derived.Deep.RegionHeld3
namespace Go.Proofs.Ytnallbhckeoldaa
open Go.RowKit
attribute [local go_sem ↓] tok_neq_same tok_eql_same tok_guard
set_option linter.unusedSimpArgs false
set_option linter.unusedVariables false

namespace Lex
theorem whites_mod (i : Nat) : whites (i % 5) = whites i := by
  unfold whites
  rw [Nat.mod_mod]
theorem whites_len (i : Nat) : (whites i).length ≤ 8 := by
  unfold whites
  split <;> decide
theorem lay_len (i : Nat) (L : List Tok) (e : Bs) : (lay (whiteLay i (bare L)) e).length ≤ tl L + 8 * L.length + e.length := by
  induction L generalizing i with
  | nil => simp [lay, whiteLay, bare]
  | cons t L ih =>
    show (whites i ++ (tokText t.k t.s ++ lay (whiteLay (i + 1) (bare L)) e)).length ≤ _
    have := ih (i + 1)
    have := whites_len i
    simp only [List.length_append, tl, List.length_cons]
    omega
theorem lay_step {L : List Tok} {k m : Nat} {x : Tok} (e : Bs) (h : L[k]? = some x) : lay (whiteLay (m + k) (bare (L.drop k))) e = (whites (m + k) ++ tokText x.k x.s) ++ lay (whiteLay (m + (k + 1)) (bare (L.drop (k + 1)))) e := by
  have hd : L.drop k = x :: L.drop (k + 1) := by
    have hlt := (List.getElem?_eq_some_iff.1 h).1
    rw [List.drop_eq_getElem_cons hlt]
    rw [List.getElem?_eq_getElem hlt] at h
    rw [Option.some.inj h]
  rw [hd, List.append_assoc]
  rfl
theorem lay_end {L : List Tok} {k m : Nat} (e : Bs) (h : L.length ≤ k) : lay (whiteLay (m + k) (bare (L.drop k))) e = e := by
  rw [List.drop_eq_nil_of_le h]
  rfl
theorem join_one (x : Tok) : join (bare [x]) = tokText x.k x.s := by
  show tokText x.k x.s ++ [] = _
  rw [List.append_nil]
theorem tl_mem {L : List Tok} {x : Tok} (h : x ∈ L) : (tokText x.k x.s).length ≤ tl L := by
  induction L with
  | nil => cases h
  | cons y L ih =>
    simp only [tl]
    rcases List.mem_cons.1 h with rfl | h
    · omega
    · have := ih h; omega
theorem drop_at' {L : List Tok} {k : Nat} {x : Tok} (h : L[k]? = some x) : (L.drop k).take 1 = [x] := by
  have hlt := (List.getElem?_eq_some_iff.1 h).1
  rw [List.drop_eq_getElem_cons hlt]
  rw [List.getElem?_eq_getElem hlt] at h
  rw [Option.some.inj h]
  rfl
theorem bare_mem' {f N : Nat} {l : Bs} : ∀ x ∈ bare (all f l N).1, good x.1 x.2 := by
  intro x hx
  obtain ⟨t, ht, rfl⟩ := List.mem_map.1 hx
  exact all_good f l N t ht
/-- the five whites, as they lie -/
def whiteCells : Array Value := #[.string ⟨#[32]⟩, .string ⟨#[9]⟩, .string ⟨#[13, 10]⟩, .string ⟨#[35, 32, 120, 32, 34, 10]⟩, .string ⟨#[10, 32, 35, 32, 59, 32, 10, 9]⟩]
theorem whiteCells_at (q : Nat) (h : q < 5) : whiteCells[q]? = some (.string ⟨(whites q).toArray⟩) := by
  rcases q with _ | _ | _ | _ | _ | q
  · rfl
  · rfl
  · rfl
  · rfl
  · rfl
  · omega
theorem white_all (s u : ByteArray) (m : Nat) (hu : bl u = lay (whiteLay m (bare (all (s.size + 1) (bl s) s.size).1)) (whites m)) :
    ∃ M, all (u.size + 1) (bl u) u.size = (M, u.size, 0) ∧ bare M = bare (all (s.size + 1) (bl s) s.size).1 ∧ M.length ≤ s.size := by
  have hlen := (all_len (s.size + 1) (bl s) s.size).2
  rw [bl_len] at hlen
  have hg := bare_mem' (f := s.size + 1) (l := bl s) (N := s.size)
  have hge : (bare (all (s.size + 1) (bl s) s.size).1).length < u.size + 1 := by
    rw [← bl_len u, hu]
    have : ∀ (i : Nat) (L : List (Nat × Bs)) (e : Bs), (∀ x ∈ L, good x.1 x.2) → L.length ≤ (lay (whiteLay i L) e).length := by
      intro i L e hg
      induction L generalizing i with
      | nil => exact Nat.zero_le _
      | cons y L ih =>
        have := ih (i + 1) (fun x hx => hg x (List.mem_cons_of_mem _ hx))
        have := good_ne (hg y List.mem_cons_self)
        show _ ≤ (whites i ++ (tokText y.1 y.2 ++ lay (whiteLay (i + 1) L) e)).length
        simp only [List.length_append, List.length_cons]
        omega
    have := this m _ (whites m) hg
    omega
  have hj := whited _ hg m m (u.size + 1) u.size hge
  rw [← hu] at hj
  refine ⟨(all (u.size + 1) (bl u) u.size).1, Prod.ext rfl hj.2, hj.1, ?_⟩
  have := congrArg List.length hj.1
  rw [bare_len, bare_len] at this
  omega
end Lex

set_option maxRecDepth 100000 in
set_option maxHeartbeats 8000000 in
theorem lexWhite_any (s : ByteArray) (kk : Int) (w : World) : Calls Try.prog 7 #[.string s, .int .i64 kk] w fun e w' => LawR w e w' := by
  by_cases hs : s.size ≤ 2000
  · obtain ⟨R, hL⟩ : ∃ R, R = Lex.all (s.size + 1) (Lex.bl s) s.size := ⟨_, rfl⟩
    obtain ⟨L, N, E⟩ := R
    obtain ⟨m, hm, hm2⟩ := and_mask kk
    have hlen := Lex.all_len (s.size + 1) (Lex.bl s) s.size
    rw [Lex.bl_len, ← hL] at hlen
    simp only at hlen
    obtain ⟨hl1, hl2⟩ := hlen
    have hT1 := Lex.lay_len m L (Lex.whites m)
    have hT2 := Lex.whites_len m
    have HW := Lex.white_all s
    rw [← hL] at HW
    simp only at HW
    have HWW := Lib.hid HW
    have HL := Lib.hid hL.symm
    clear hL HW
    go_enter Try.func7, Try.ntmps7
    go_wp2_with fail
    refine (awake_any w).mono ?_
    rintro e w1 ⟨rfl, hb1⟩
    go_wp2_with fail
    refine (all_is s (by omega) w1 L N E HL.out).mono ?_
    rintro e w3 ⟨A, n, c, rfl, hT, hb3⟩
    have hb3' := hb1.trans (hb3.mono hb1.size)
    have hn := hT.1
    have hc := hT.2.1
    have hc2 := hT.2.2.1
    have HT := Lib.hid hT
    clear hT
    go_wp2
    go_loopw [10, 11] (fun o i wr => ∃ (k : Nat) (acc : ByteArray), k ≤ n ∧ i = .int .i64 k ∧ o = .string acc ∧ Lex.lay (Lex.whiteLay m (Lex.bare L)) (Lex.whites m) = Lex.bl acc ++ Lex.lay (Lex.whiteLay (m + k) (Lex.bare (L.drop k))) (Lex.whites m) ∧ Mem.Blk wr w3.heap.size 9 Lex.whiteCells ∧ Below w3.heap.size w3 wr) (fun _ i _ => n - (intOf i).toNat)
    case atStart => exact ⟨0, ⟨#[]⟩, Nat.zero_le _, rfl, rfl, rfl, Mem.Blk.new w3 _ _, (Below.refl _ _).alloc (Nat.le_refl _) _⟩
    case round =>
      obtain ⟨k, acc, hk, rfl, rfl, hq, hblk, hb⟩ := hrel
      have hbs := hb.size
      have hwbr := hblk.lt
      have hlq := congrArg List.length hq
      rw [List.length_append, Lex.bl_len] at hlq
      have hacc : acc.size ≤ 20000 := by omega
      by_cases hlt : k < n
      · obtain ⟨b, off, rfl, hbB, hcell⟩ := HT.out.at_ (by omega)
        obtain ⟨x, hx⟩ := Lex.tok_at hn hlt
        have hx1 : Toks wr wr.heap.size (some ⟨b, off + k * 3, none⟩) 1 (c - k) [x] := by
          have h1 := ((HT.out.drop (k := k) (by omega)).take (k := 1) (by omega)).later hb
          rw [Lex.drop_at' hx] at h1
          exact h1
        have HX1 := Lib.hid hx1
        have htx := Lex.tl_mem (List.mem_of_getElem? hx)
        have HJ := Lib.hid (show (Lex.join (Lex.bare [x])).length ≤ 100000 by rw [Lex.join_one]; omega)
        obtain ⟨z, hz⟩ : ∃ z : ByteArray, z = ⟨(Lex.join (Lex.bare [x])).toArray⟩ := ⟨_, rfl⟩
        have hzb : Lex.bl z = Lex.tokText x.k x.s := by rw [hz, ← Lex.join_one]
        have hzs : z.size ≤ 2000 := by rw [← Lex.bl_len, hzb]; omega
        have HJ2 := Lib.hid hz.symm
        obtain ⟨q, hq5, hqm⟩ : ∃ q, q < 5 ∧ q = (m + k) % 5 := ⟨(m + k) % 5, Nat.mod_lt _ (by decide), rfl⟩
        have hmod : Int.tmod ((m : Int) + (k : Int)) 5 = (q : Int) := by
          rw [hqm]
          rfl
        obtain ⟨y, hy⟩ : ∃ y : ByteArray, y = ⟨(Lex.whites q).toArray⟩ := ⟨_, rfl⟩
        have hyb : Lex.bl y = Lex.whites (m + k) := by rw [hy, hqm, Lex.whites_mod]
        have hys : y.size ≤ 8 := by rw [← Lex.bl_len, hyb]; exact Lex.whites_len _
        have hcq : wr.cell? ⟨w3.heap.size, q, none⟩ = some (.string y) := by
          rw [hblk.cell q, Lex.whiteCells_at q hq5, hy]
        have w1' : IntKind.i64.wrap ((m : Int) + (k : Int)) = (m : Int) + (k : Int) := IntWalk.i64_in _ (by omega)
        have w2' : IntKind.i64.wrap ((k : Int) + 1) = (k : Int) + 1 := IntWalk.i64_in _ (by omega)
        have hck : ¬ c = k := by omega
        have HNX := Lib.hid (show Lex.lay (Lex.whiteLay m (Lex.bare L)) (Lex.whites m) = Lex.bl (acc ++ y ++ z) ++ Lex.lay (Lex.whiteLay (m + (k + 1)) (Lex.bare (L.drop (k + 1)))) (Lex.whites m) by
          rw [hq, Lex.lay_step _ hx, Lex.bl_append, Lex.bl_append, hyb, hzb]
          simp only [List.append_assoc])
        have HBK := Lib.hid hblk
        have j0 : (0 : Int) ≤ (k : Int) := by omega
        have j1 : (k : Int) < (n : Int) := by omega
        have j2 : (k : Int) + 1 ≤ (c : Int) := by omega
        have q0 : (0 : Int) ≤ (q : Int) := by omega
        have q1 : (q : Int) < 5 := by omega
        have j3 : (0 : Int) ≤ (k : Int) + 1 := by omega
        have z1 : ¬ 9223372036854775807 < acc.size + y.size := by omega
        have z2 : ¬ 9223372036854775807 < acc.size + y.size + z.size := by omega
        clear hcell hx hx1 hz hy hqm hq hlq hblk hzb hyb
        go_wp2
        refine wp_region_held_drew (S := fun W' => Below wr.heap.size wr W') (by kernel_rfl) (Below.refl _ _).drew (fun hHeld => ?_)
        refine wpAnyH_take (i := 0) (v := ?_) (by simp only [List.getElem?_toArray, List.getElem?_cons_succ, List.getElem?_cons_zero]; exact rfl) (by kernel_rfl) (by kernel_rfl) (by kernel_rfl) (by exact fun _ _ _ h => h) (Or.inl ⟨by rfl, ?_⟩) hHeld ?_
        rotate_left
        · intro wq hSw; go_simp; all_goals (with_reducible rfl)
        try simp only [Act.put, List.setIfInBounds_toArray, List.set_cons_zero, List.set_cons_succ]
        refine wpAnyH_take (i := 1) (v := ?_) (by simp only [List.getElem?_toArray, List.getElem?_cons_succ, List.getElem?_cons_zero]; exact rfl) (by kernel_rfl) (by kernel_rfl) (by kernel_rfl) (by exact fun _ _ _ h => h) (Or.inl ⟨by rfl, ?_⟩) hHeld ?_
        rotate_left
        · intro wq hSw; go_simp; all_goals (with_reducible rfl)
        try simp only [Act.put, List.setIfInBounds_toArray, List.set_cons_zero, List.set_cons_succ]
        refine wpAnyH_take (i := 2) (v := ?_) (by simp only [List.getElem?_toArray, List.getElem?_cons_succ, List.getElem?_cons_zero]; exact rfl) (by kernel_rfl) (by kernel_rfl) (by kernel_rfl) (by exact fun _ _ _ h => h) (Or.inl ⟨by rfl, ?_⟩) hHeld ?_
        rotate_left
        · intro wq hSw; go_simp; all_goals (with_reducible rfl)
        try simp only [Act.put, List.setIfInBounds_toArray, List.set_cons_zero, List.set_cons_succ]
        refine wpAnyH_take (i := 3) (v := ?_) (by simp only [List.getElem?_toArray, List.getElem?_cons_succ, List.getElem?_cons_zero]; exact rfl) (by kernel_rfl) (by kernel_rfl) (by kernel_rfl) (by exact fun _ _ _ h => h) (Or.inl ⟨by rfl, ?_⟩) hHeld ?_
        rotate_left
        · intro wq hSw; go_simp; all_goals (with_reducible rfl)
        try simp only [Act.put, List.setIfInBounds_toArray, List.set_cons_zero, List.set_cons_succ]
        refine wpAnyH_take (i := 4) (v := ?_) (by simp only [List.getElem?_toArray, List.getElem?_cons_succ, List.getElem?_cons_zero]; exact rfl) (by kernel_rfl) (by kernel_rfl) (by kernel_rfl) (by exact fun _ _ _ h => h) (Or.inl ⟨by rfl, ?_⟩) hHeld ?_
        rotate_left
        · intro wq hSw; go_simp; all_goals (with_reducible rfl)
        try simp only [Act.put, List.setIfInBounds_toArray, List.set_cons_zero, List.set_cons_succ]
        refine wpAnyH_take (i := 5) (v := ?_) (by simp only [List.getElem?_toArray, List.getElem?_cons_succ, List.getElem?_cons_zero]; exact rfl) (by kernel_rfl) (by kernel_rfl) (by kernel_rfl) (by exact fun _ _ _ h => h) (Or.inl ⟨by rfl, ?_⟩) hHeld ?_
        rotate_left
        · intro wq hSw; go_simp; all_goals (with_reducible rfl)
        try simp only [Act.put, List.setIfInBounds_toArray, List.set_cons_zero, List.set_cons_succ]
        refine wpAnyH_take (i := 6) (v := ?_) (by simp only [List.getElem?_toArray, List.getElem?_cons_succ, List.getElem?_cons_zero]; exact rfl) (by kernel_rfl) (by kernel_rfl) (by kernel_rfl) (by exact fun _ _ _ h => h) (Or.inl ⟨by rfl, ?_⟩) hHeld ?_
        rotate_left
        · intro wq hSw; go_simp; all_goals (with_reducible rfl)
        try simp only [Act.put, List.setIfInBounds_toArray, List.set_cons_zero, List.set_cons_succ]
        refine wpAnyH_take (i := 7) (v := ?_) (by simp only [List.getElem?_toArray, List.getElem?_cons_succ, List.getElem?_cons_zero]; exact rfl) (by kernel_rfl) (by kernel_rfl) (by kernel_rfl) (by exact fun _ _ _ h => h) (Or.inl ⟨by rfl, ?_⟩) hHeld ?_
        rotate_left
        · intro wq hSw; go_simp; all_goals (with_reducible rfl)
        try simp only [Act.put, List.setIfInBounds_toArray, List.set_cons_zero, List.set_cons_succ]
        refine wpAnyH_take (i := 8) (v := ?_) (by simp only [List.getElem?_toArray, List.getElem?_cons_succ, List.getElem?_cons_zero]; exact rfl) (by kernel_rfl) (by kernel_rfl) (by kernel_rfl) (by exact fun _ _ _ h => h) (Or.inl ⟨by rfl, ?_⟩) hHeld ?_
        rotate_left
        · intro wq hSw; have k1 := (hSw.cell (p := ⟨w3.heap.size, q, none⟩) hwbr).trans hcq; go_simp; all_goals (with_reducible rfl)
        try simp only [Act.put, List.setIfInBounds_toArray, List.set_cons_zero, List.set_cons_succ]
        refine wpAnyH_take (i := 9) (v := ?_) (by simp only [List.getElem?_toArray, List.getElem?_cons_succ, List.getElem?_cons_zero]; exact rfl) (by kernel_rfl) (by kernel_rfl) (by kernel_rfl) (by exact fun _ _ _ h => h) (Or.inl ⟨by rfl, ?_⟩) hHeld ?_
        rotate_left
        · intro wq hSw; go_simp; all_goals (with_reducible rfl)
        try simp only [Act.put, List.setIfInBounds_toArray, List.set_cons_zero, List.set_cons_succ]
        refine wpAnyH_take (i := 10) (v := ?_) (by simp only [List.getElem?_toArray, List.getElem?_cons_succ, List.getElem?_cons_zero]; exact rfl) (by kernel_rfl) (by kernel_rfl) (by kernel_rfl) (by exact fun _ _ _ h => h) (Or.inl ⟨by rfl, ?_⟩) hHeld ?_
        rotate_left
        · intro wq hSw; go_simp; all_goals (with_reducible rfl)
        try simp only [Act.put, List.setIfInBounds_toArray, List.set_cons_zero, List.set_cons_succ]
        refine wpAnyH_take (i := 11) (v := ?_) (by simp only [List.getElem?_toArray, List.getElem?_cons_succ, List.getElem?_cons_zero]; exact rfl) (by kernel_rfl) (by kernel_rfl) (by kernel_rfl) (by exact fun _ _ _ h => h) (Or.inl ⟨by rfl, ?_⟩) hHeld ?_
        rotate_left
        · intro wq hSw; go_simp; all_goals (with_reducible rfl)
        try simp only [Act.put, List.setIfInBounds_toArray, List.set_cons_zero, List.set_cons_succ]
        refine wpAnyH_take (i := 12) (v := ?_) (by simp only [List.getElem?_toArray, List.getElem?_cons_succ, List.getElem?_cons_zero]; exact rfl) (by kernel_rfl) (by kernel_rfl) (by kernel_rfl) (by exact fun _ _ _ h => h) (Or.inl ⟨by rfl, ?_⟩) hHeld ?_
        rotate_left
        · intro wq hSw; go_simp; all_goals (with_reducible rfl)
        try simp only [Act.put, List.setIfInBounds_toArray, List.set_cons_zero, List.set_cons_succ]
        refine wpAnyH_take (i := 13) (v := ?_) (by simp only [List.getElem?_toArray, List.getElem?_cons_succ, List.getElem?_cons_zero]; exact rfl) (by kernel_rfl) (by kernel_rfl) (by kernel_rfl) (by exact fun _ _ _ h => h) (Or.inl ⟨by rfl, ?_⟩) hHeld ?_
        rotate_left
        · intro wq hSw; go_simp; all_goals (with_reducible rfl)
        try simp only [Act.put, List.setIfInBounds_toArray, List.set_cons_zero, List.set_cons_succ]
        refine wpAnyH_take (i := 14) (v := ?_) (by simp only [List.getElem?_toArray, List.getElem?_cons_succ, List.getElem?_cons_zero]; exact rfl) (by kernel_rfl) (by kernel_rfl) (by kernel_rfl) (by exact fun _ _ _ h => h) (Or.inl ⟨by rfl, ?_⟩) hHeld ?_
        rotate_left
        · intro wq hSw; go_simp; all_goals (with_reducible rfl)
        try simp only [Act.put, List.setIfInBounds_toArray, List.set_cons_zero, List.set_cons_succ]
        refine wpAnyH_ready (rs := [15]) (by kernel_rfl) (by simp) ?_
        refine AllReadyH.cons (by simp only [List.getElem?_toArray, List.getElem?_cons_succ, List.getElem?_cons_zero]; exact rfl) (fun K hK => ?_) ?_
        · go_simp
          refine (join_any _ 1 (c - k) [x] _ (HX1.out.later hHeld) HJ.out).mono ?_
          rintro e w4 ⟨rfl, hB4⟩
          rw [HJ2.out]
          show K _ _
          refine hK.out _ _ (hHeld.trans (hB4.mono hHeld.size)) (fun hHeld => ?_)
          clear hK K hB4
          try simp only [Act.put, List.setIfInBounds_toArray, List.set_cons_zero, List.set_cons_succ]
          refine wpAnyH_take (i := 16) (v := ?_) (by simp only [List.getElem?_toArray, List.getElem?_cons_succ, List.getElem?_cons_zero]; exact rfl) (by kernel_rfl) (by kernel_rfl) (by kernel_rfl) (by exact fun _ _ _ h => h) (Or.inl ⟨by rfl, ?_⟩) hHeld ?_
          rotate_left
          · intro wq hSw; go_simp; all_goals (with_reducible rfl)
          try simp only [Act.put, List.setIfInBounds_toArray, List.set_cons_zero, List.set_cons_succ]
          refine wpAnyH_take (i := 17) (v := ?_) (by simp only [List.getElem?_toArray, List.getElem?_cons_succ, List.getElem?_cons_zero]; exact rfl) (by kernel_rfl) (by kernel_rfl) (by kernel_rfl) (by exact fun _ _ _ h => h) (Or.inl ⟨by rfl, ?_⟩) hHeld ?_
          rotate_left
          · intro wq hSw; go_simp; all_goals (with_reducible rfl)
          try simp only [Act.put, List.setIfInBounds_toArray, List.set_cons_zero, List.set_cons_succ]
          refine wpAnyH_done (by kernel_rfl) ?_ _
          clear hcq w1' w2' hck z1 z2 hmod
          go_wp2
          go_roundw
          case rel => exact ⟨k + 1, acc ++ y ++ z, by omega, by go_num, rfl, HNX.out, HBK.out.below hHeld hwbr, hb.trans (hHeld.mono hbs)⟩
          case measure => simp [intOf]; omega
        · exact AllReadyH.nil
      · obtain rfl : k = n := by omega
        rw [Lex.lay_end _ (by omega)] at hq
        obtain ⟨q, hq5, hqm⟩ : ∃ q, q < 5 ∧ q = m % 5 := ⟨m % 5, Nat.mod_lt _ (by decide), rfl⟩
        have hmod : Int.tmod (m : Int) 5 = (q : Int) := by
          rw [hqm]
          rfl
        obtain ⟨y, hy⟩ : ∃ y : ByteArray, y = ⟨(Lex.whites q).toArray⟩ := ⟨_, rfl⟩
        have hyb : Lex.bl y = Lex.whites m := by rw [hy, hqm, Lex.whites_mod]
        have hys : y.size ≤ 8 := by rw [← Lex.bl_len, hyb]; exact Lex.whites_len _
        have hcq : wr.cell? ⟨w3.heap.size, q, none⟩ = some (.string y) := by
          rw [hblk.cell q, Lex.whiteCells_at q hq5, hy]
        have q0 : (0 : Int) ≤ (q : Int) := by omega
        have q1 : (q : Int) < 5 := by omega
        have z1 : ¬ 9223372036854775807 < acc.size + y.size := by omega
        have hu : Lex.bl (acc ++ y) = Lex.lay (Lex.whiteLay m (Lex.bare L)) (Lex.whites m) := by rw [Lex.bl_append, hyb, hq]
        obtain ⟨M, hM, hMb, hMl⟩ := HWW.out (acc ++ y) m hu
        have HM := Lib.hid hM
        have HMB := Lib.hid hMb
        have hus : (acc ++ y).size ≤ 60000 := by simp only [ByteArray.size_append]; omega
        have HUS := Lib.hid hus
        have hbw := hb3'.trans (hb.mono hb3'.size)
        have HTR := Lib.hid (HT.out.later hb)
        clear hq hqm hy hyb hu hM hMb hus hblk
        go_wp2_with fail
        have hc9 := all_is (acc ++ y) HUS.out wr M _ 0 HM.out
        refine hc9.mono ?_
        rintro e w4 ⟨A4, n4, c4, rfl, hT4, hb4⟩
        have hb4' := hbw.trans (hb4.mono hbw.size)
        have HT4 := Lib.hid (HTR.out.later hb4)
        have HU4 := Lib.hid hT4
        have hn4 := hT4.1
        clear hT4 hc9 hcq
        go_wp2_with fail
        refine (plain_any A k c L w4 HT4.out (by omega)).mono ?_
        rintro e w5 ⟨A5, n5, c5, rfl, hT5, hb5⟩
        have hb5' := hb4'.trans (hb5.mono hb4'.size)
        have HU5 := Lib.hid (HU4.out.later hb5)
        have HT5 := Lib.hid hT5
        clear hT5
        go_wp2_with fail
        refine (plain_any A4 n4 c4 M w5 HU5.out (by omega)).mono ?_
        rintro e w6 ⟨A6, n6, c6, rfl, hT6, hb6⟩
        have hb6' := hb5'.trans (hb6.mono hb5'.size)
        have HT6 := Lib.hid (HT5.out.later hb6)
        rw [Lex.bareTok_eq HMB.out] at hT6
        have HV6 := Lib.hid hT6
        clear hT6
        go_wp2_with fail
        refine (same_eq A5 A6 n5 c5 n6 c6 _ w6 HT6.out HV6.out).mono ?_
        rintro e w7 ⟨rfl, hb7⟩
        have hb7' := hb6'.trans (hb7.mono hb6'.size)
        go_wp2
        go_ret
        exact ⟨rfl, hb7'⟩
  · go_enter Try.func7, Try.ntmps7
    go_wp2_with fail
    refine (awake_any w).mono ?_
    rintro e w1 ⟨rfl, hb1⟩
    go_wp2
    go_ret
    exact ⟨rfl, hb1⟩
end Go.Proofs.Ytnallbhckeoldaa
