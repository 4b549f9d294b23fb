/- The walk of num's Parse. -/
import Derived.Test.YtbdochcajpempaaDoorNumB
import Derived.Test.YtbdochcajpempaaDoorNumShelf
import Derived.Laws.RangeAny
import Derived.Lib.Strings
namespace Go.Proofs.YtbdochcajpempaaDoor
open Go.RowKit

theorem cut_any (s : ByteArray) (w : World) :
    Calls Tryd.prog 44 #[.string s, .string ⟨#[45]⟩] w fun e w' => e = .returned (.tuple #[.string ⟨(Num.strip (Num.bl s)).toArray⟩, .bool (Num.neg (Num.bl s))]) ∧ w = w' := by
  refine (Tryd.strings_CutPrefix s ⟨#[45]⟩ w).mono ?_
  rintro e w' ⟨rfl, rfl⟩
  refine ⟨?_, rfl⟩
  have h : ∀ l : Num.Bs, Lib.trimPrefix l [45] = Num.strip l ∧ Lib.hasPrefix l [45] = Num.neg l := by
    intro l
    cases l with
    | nil => exact ⟨rfl, rfl⟩
    | cons c l =>
      by_cases hc : c = 45
      · subst hc
        exact ⟨rfl, rfl⟩
      · have h1 : Lib.hasPrefix (c :: l) [45] = false := by
          simp [Lib.hasPrefix, List.isPrefixOf]
          exact fun h => hc h.symm
        unfold Lib.trimPrefix
        rw [h1]
        refine ⟨?_, ?_⟩
        · rw [if_neg (by decide)]
          unfold Num.strip
          split
          · rename_i hh
            injection hh with e1 e2
            exact absurd e1 hc
          · rfl
        · unfold Num.neg
          split
          · rename_i hh
            injection hh with e1 e2
            exact absurd e1 hc
          · rfl
  have h2 := h (Num.bl s)
  rw [← h2.1, ← h2.2]
namespace Num
theorem scan_dig {c : UInt8} (l : Bs) (v w p : Nat) (pt : Bool) (h : digit c = true) : scan (c :: l) v w p pt = if pt = true then scan l (step v c) w (p + 1) pt else scan l (step v c) (w + 1) p pt := by
  conv => lhs; unfold scan
  rw [if_neg (fun hh => (not_point h).1 hh.1), if_pos h]
theorem scan_else {c : UInt8} (l : Bs) (v w p : Nat) (pt : Bool) (h : digit c = false) (h2 : ¬ (c = 46 ∧ pt = false ∧ 0 < w)) : scan (c :: l) v w p pt = none := by
  unfold scan
  rw [if_neg h2, if_neg (by rw [h]; decide)]
theorem cap_val (v : Nat) (c : UInt8) : cap (cap v * 10 + (c.toNat - 48)) = cap (step v c) := cap_step _ _
/-- the last steps: zeros up to three places -/
def zeros : Nat → Nat → Nat
  | 0, v => v
  | k + 1, v => zeros k (v * 10)
theorem zeros_pow (k : Nat) : ∀ v, zeros k v = v * 10 ^ k := by
  induction k with
  | zero => intro v; simp [zeros]
  | succ k ih => intro v; unfold zeros; rw [ih, Nat.pow_succ, Nat.mul_assoc, Nat.mul_comm 10]
end Num
theorem more_at (v : Nat) (x : Int) (d : Nat) (hx : x = (d : Int)) (u : Nat) (hu : Num.cap (v * 10 + d) = u) (hv : v ≤ 9007199254740993) (hd : d ≤ 9) (w : World) : Calls Tryd.prog 45 #[.int .i64 v, .int .i64 x] w fun e w' => e = .returned (.int .i64 (u : Nat)) ∧ w = w' := by
  subst hx hu
  exact more_any v d hv hd w
theorem below_iter (w : World) (s : ByteArray) (p : Nat) : Below w.heap.size w (w.iter s p) := by
  unfold World.iter
  exact (Below.refl _ _).alloc (Nat.le_refl _) _

set_option maxRecDepth 100000 in
set_option maxHeartbeats 8000000 in
theorem parse_any (s : ByteArray) (hs : s.size ≤ 4611686018427387904) (w : World) :
    Calls Tryd.prog 27 #[.string s] w fun e w' => e = .returned (.tuple #[.int .i64 (Num.parse (Num.bl s)).1, .int .i64 (Num.parse (Num.bl s)).2]) ∧ Below w.heap.size w w' := by
  obtain ⟨D, hD⟩ : ∃ D : ByteArray, D = ⟨(Num.strip (Num.bl s)).toArray⟩ := ⟨_, rfl⟩
  obtain ⟨b, hb⟩ : ∃ b, b = Num.neg (Num.bl s) := ⟨_, rfl⟩
  have HP := Lib.hid (show Num.parse (Num.bl s) = Num.done b (Num.scan (Num.bl D) 0 0 0 false) by
    unfold Num.parse Num.mag
    rw [hD, Num.bl_mk, hb])
  have hcut := cut_any s w
  rw [← hD, ← hb] at hcut
  have hDs : D.size ≤ 4611686018427387904 := by
    rw [hD, Num.mk_size]
    have : (Num.strip (Num.bl s)).length ≤ (Num.bl s).length := by
      unfold Num.strip
      split
      · rename_i hh
        rw [hh]
        exact Nat.le_succ _
      · exact Nat.le_refl _
    rw [Num.bl_len] at this
    omega
  have HCUT := Lib.hid hcut
  clear hcut hD hb
  go_enter Tryd.func27, Tryd.ntmps27
  go_wp2_with fail
  refine HCUT.out.mono ?_
  rintro e w1 ⟨rfl, rfl⟩
  go_wp2_with fail
  go_loopw [6, 7, 8, 9] (fun s6 s7 s8 s9 wr => ∃ (pos v wh p : Nat) (pt : Bool), pos ≤ D.size ∧ wr = w.iter D pos ∧ s6 = .int .i64 (Num.cap v : Nat) ∧ s7 = .int .i64 (wh : Nat) ∧ s8 = .int .i64 (p : Nat) ∧ s9 = .bool pt ∧ wh ≤ pos ∧ p ≤ pos ∧ Num.scan (Num.bl D) 0 0 0 false = Num.scan ((Num.bl D).drop pos) v wh p pt) (fun _ _ _ _ wr => D.size - wr.iterPos w.heap.size)
  case atStart => exact ⟨0, 0, 0, 0, false, Nat.zero_le _, rfl, rfl, rfl, rfl, rfl, Nat.le_refl _, Nat.le_refl _, rfl⟩
  case round =>
    obtain ⟨pos, v, wh, p, pt, hpos, rfl, rfl, rfl, rfl, rfl, hwh, hp, hsc⟩ := hrel
    have hcl := Num.cap_le v
    obtain ⟨m, hm⟩ : ∃ m, m = Num.cap v := ⟨_, rfl⟩
    rw [← hm] at hcl ⊢
    have HM := Lib.hid hm
    clear hm
    by_cases hlt : pos < D.size
    · have hdc := Num.drop_cons D pos hlt
      rw [hdc] at hsc
      clear hdc
      by_cases h128 : (D[pos]'hlt).toNat < 128
      · have hnx : ∀ ty, (Instr.next (.pointer (some ⟨w.heap.size, 0, none⟩)) true ty).run Tryd.prog (w.iter D pos) = _ := fun ty => run_next_ascii w D pos ty hlt h128
        obtain ⟨c, hc⟩ : ∃ c, D[pos] = c := ⟨_, rfl⟩
        rw [hc] at hsc h128 hnx
        clear hc
        rcases hdg : Num.digit c with _ | _
        · have hnd : ¬ (48 ≤ (c.toNat : Int) ∧ (c.toNat : Int) ≤ 57) := fun h => by rw [(num_digit_int c).2 h] at hdg; cases hdg
          by_cases h46 : c = 46
          · have HC := Lib.hid h46
            have hcn : (c.toNat : Int) = 46 := by rw [h46]; rfl
            by_cases hgo : pt = false ∧ 0 < wh
            · obtain ⟨rfl, hw0⟩ := hgo
              have hw1 : decide (0 < wh) = true := by simp; omega
              have HS := Lib.hid (show Num.scan (Num.bl D) 0 0 0 false = Num.scan ((Num.bl D).drop (pos + 1)) v wh p true by
                rw [hsc, h46, Num.scan_point _ _ _ _ hw0])
              clear hsc hnd hdg h46
              go_wp2
              go_roundw
              case rel => exact ⟨pos + 1, v, wh, p, true, by omega, rfl, by rw [HM.out], rfl, rfl, rfl, by omega, by omega, HS.out⟩
              case measure => simp; omega
            · have HP2 := Lib.hid (show Num.parse (Num.bl s) = (0, 1) by
                rw [HP.out, hsc, Num.scan_else _ _ _ _ _ hdg (fun h => hgo h.2)]
                rfl)
              have hcase : pt = true ∨ (pt = false ∧ decide (0 < wh) = false) := by
                rcases pt with _ | _
                · refine .inr ⟨rfl, ?_⟩
                  have : ¬ 0 < wh := fun h => hgo ⟨rfl, h⟩
                  simp; omega
                · exact .inl rfl
              clear hsc hnd hdg h46 hgo
              rcases hcase with rfl | ⟨rfl, hw1⟩
              all_goals
                go_wp2
                go_ret2
                rw [HP2.out]
                exact ⟨rfl, below_iter _ _ _⟩
          · have HP2 := Lib.hid (show Num.parse (Num.bl s) = (0, 1) by
              rw [HP.out, hsc, Num.scan_else _ _ _ _ _ hdg (fun h => h46 h.1)]
              rfl)
            have n46 : ((c.toNat : Int) == 46) = false := by
              rw [beq_eq_false_iff_ne]
              exact fun e => h46 ((num_n_eq c 46 (by decide)).2 e)
            clear hsc hdg h46
            by_cases hc1 : (c.toNat : Int) < 48
            · have hd1 : decide ((c.toNat : Int) < 48) = true := by simp; omega
              clear hnd
              go_wp2
              go_ret2
              rw [HP2.out]
              exact ⟨rfl, below_iter _ _ _⟩
            · have hd1 : decide ((c.toNat : Int) < 48) = false := by simp; omega
              have hd2 : decide ((57 : Int) < (c.toNat : Int)) = true := by simp; omega
              clear hnd
              go_wp2
              go_ret2
              rw [HP2.out]
              exact ⟨rfl, below_iter _ _ _⟩
        · obtain ⟨hb1, hb2⟩ := (num_digit_int c).1 hdg
          have n46 : ((c.toNat : Int) == 46) = false := by
            rw [beq_eq_false_iff_ne]
            omega
          have hd1 : decide ((c.toNat : Int) < 48) = false := by simp; omega
          have hd2 : decide ((57 : Int) < (c.toNat : Int)) = false := by simp; omega
          rw [Num.scan_dig _ _ _ _ _ hdg] at hsc
          have hq : IntKind.i32.wrap ((c.toNat : Int) - 48) = (c.toNat : Int) - 48 := by
            rw [IntKind.wrap_i32]
            omega
          obtain ⟨d, hd⟩ : ∃ d, d = c.toNat - 48 := ⟨_, rfl⟩
          have hd9 : d ≤ 9 := by omega
          obtain ⟨u, hu⟩ : ∃ u, Num.cap (m * 10 + d) = u := ⟨_, rfl⟩
          have HU := Lib.hid (show u = Num.cap (Num.step v c) by rw [← hu, HM.out, hd]; exact Num.cap_val v c)
          have HMORE := Lib.hid (fun w => more_at m ((c.toNat : Int) - 48) d (by omega) u hu hcl hd9 w)
          clear hu hdg
          rcases pt with _ | _
          · have HS := Lib.hid hsc
            clear hsc hd
            go_wp2_with fail
            refine (HMORE.out _).mono ?_
            rintro e w2 ⟨rfl, rfl⟩
            go_wp2
            go_roundw
            case rel => exact ⟨pos + 1, Num.step v c, wh + 1, p, false, by omega, rfl, by rw [HU.out], by go_num, rfl, rfl, by omega, by omega, HS.out⟩
            case measure => simp; omega
          · have HS := Lib.hid hsc
            clear hsc hd
            go_wp2_with fail
            refine (HMORE.out _).mono ?_
            rintro e w2 ⟨rfl, rfl⟩
            go_wp2
            go_roundw
            case rel => exact ⟨pos + 1, Num.step v c, wh, p + 1, true, by omega, rfl, by rw [HU.out], rfl, by go_num, rfl, by omega, by omega, HS.out⟩
            case measure => simp; omega
      · have hnx : ∀ ty, (Instr.next (.pointer (some ⟨w.heap.size, 0, none⟩)) true ty).run Tryd.prog (w.iter D pos) = _ := fun ty => run_next_any w D pos ty hlt
        have hhi := (decode_high D pos hlt (by omega)).1
        have hle := decode_le D pos
        have HP2 := Lib.hid (show Num.parse (Num.bl s) = (0, 1) by
          have hc : Num.digit (D[pos]'hlt) = false := by
            rcases hx : Num.digit (D[pos]'hlt) with _ | _
            · rfl
            · have := (num_digit_int _).1 hx
              omega
          rw [HP.out, hsc, Num.scan_else _ _ _ _ _ hc (fun h => by rw [h.1] at h128; exact h128 (by decide))]
          rfl)
        obtain ⟨r, hr⟩ : ∃ r, r = (Utf8.decode D pos).1 := ⟨_, rfl⟩
        rw [← hr] at hhi hle hnx
        have n46 : ((r : Int) == 46) = false := by
          rw [beq_eq_false_iff_ne]
          omega
        have hd1 : decide ((r : Int) < 48) = false := by simp; omega
        have hd2 : decide ((57 : Int) < (r : Int)) = true := by simp; omega
        clear hr hsc h128
        go_wp2
        go_ret2
        rw [HP2.out]
        exact ⟨rfl, below_iter _ _ _⟩
    · have hnx : ∀ ty, (Instr.next (.pointer (some ⟨w.heap.size, 0, none⟩)) true ty).run Tryd.prog (w.iter D pos) = _ := fun ty => run_next_end w D pos ty hlt
      rw [Num.drop_all D pos (by omega)] at hsc
      have hbI := below_iter w D pos
      by_cases hbad : wh = 0 ∨ 3 < p ∨ (pt = true ∧ p = 0)
      · have HP2 := Lib.hid (show Num.parse (Num.bl s) = (0, 1) by
          rw [HP.out, hsc]
          unfold Num.scan Num.fin
          rw [if_pos hbad]
          rfl)
        have HI := Lib.hid hbI
        clear hsc hbI
        by_cases h0 : wh = 0
        · subst h0
          clear hbad
          go_wp2
          go_ret2
          rw [HP2.out]
          exact ⟨rfl, HI.out⟩
        · have hw0 : ((wh : Int) == 0) = false := by rw [beq_eq_false_iff_ne]; omega
          by_cases h3 : 3 < p
          · have hp3 : decide (3 < p) = true := by simp; omega
            clear hbad h0
            go_wp2
            go_ret2
            rw [HP2.out]
            exact ⟨rfl, HI.out⟩
          · have hp3 : decide (3 < p) = false := by simp; omega
            have hpp : pt = true ∧ p = 0 := by
              rcases hbad with h | h | h
              · exact absurd h h0
              · exact absurd h h3
              · exact h
            obtain ⟨rfl, rfl⟩ := hpp
            clear hbad h0
            go_wp2
            go_ret2
            rw [HP2.out]
            exact ⟨rfl, HI.out⟩
      · have HP2 := Lib.hid (show Num.parse (Num.bl s) = Num.done b (some (v * 10 ^ (3 - p))) by
          rw [HP.out, hsc]
          unfold Num.scan Num.fin
          rw [if_neg hbad])
        have HI := Lib.hid hbI
        have hw0 : ((wh : Int) == 0) = false := by rw [beq_eq_false_iff_ne]; omega
        have hp3 : decide ((3 : Int) < (p : Int)) = false := by simp; omega
        have hple : p ≤ 3 := by omega
        have hcase : pt = false ∨ (pt = true ∧ ((p : Int) == 0) = false) := by
          rcases pt with _ | _
          · exact .inl rfl
          · refine .inr ⟨rfl, ?_⟩
            have : p ≠ 0 := fun h => hbad (.inr (.inr ⟨rfl, h⟩))
            rw [beq_eq_false_iff_ne]
            omega
        obtain ⟨k, hk⟩ : ∃ k, k = 3 - p := ⟨_, rfl⟩
        have hk3 : k ≤ 3 := by omega
        have hk1 : (3 : Int) - (p : Int) = (k : Int) := by omega
        rw [← hk] at HP2
        have hkw : IntKind.i64.wrap (k : Int) = (k : Int) := IntWalk.i64_in _ (by omega)
        clear hk hsc hbI hbad
        rcases hcase with rfl | ⟨rfl, hp0⟩
        all_goals
          go_wp2
          go_loopw [6, 65] (fun s6 s65 wr => ∃ i : Nat, i ≤ k ∧ wr = w.iter D pos ∧ s65 = .int .i64 (i : Nat) ∧ s6 = .int .i64 (Num.cap (v * 10 ^ i) : Nat)) (fun _ s65 _ => k - (intOf s65).toNat)
          case atStart => exact ⟨0, Nat.zero_le _, rfl, rfl, by rw [HM.out, Nat.pow_zero, Nat.mul_one]⟩
          case round =>
            obtain ⟨i, hi, rfl, rfl, rfl⟩ := hrel
            have hcl2 := Num.cap_le (v * 10 ^ i)
            by_cases hik : i < k
            · have hdi : decide (i < k) = true := by simp; omega
              have HS := Lib.hid (show Num.cap (Num.cap (v * 10 ^ i) * 10 + 0) = Num.cap (v * 10 ^ (i + 1)) by
                rw [Num.cap_step, Nat.add_zero, Nat.mul_assoc, Nat.pow_succ])
              obtain ⟨n, hn⟩ : ∃ n, n = Num.cap (v * 10 ^ i) := ⟨_, rfl⟩
              rw [← hn] at hcl2 HS ⊢
              clear hn
              go_wp2_with fail
              refine (more_at n 0 0 rfl _ HS.out hcl2 (by decide) _).mono ?_
              rintro e w2 ⟨rfl, rfl⟩
              go_wp2
              go_roundw
              case rel => exact ⟨i + 1, by omega, by first | trivial | rfl, by first | trivial | go_num, by first | trivial | rfl⟩
              case measure => simp [intOf]; omega
            · obtain rfl : i = k := by omega
              have hdi : decide (i < i) = false := by simp
              obtain ⟨N, hN⟩ : ∃ N, N = v * 10 ^ i := ⟨_, rfl⟩
              rw [← hN] at HP2 hcl2 ⊢
              obtain ⟨n, hn⟩ : ∃ n, n = Num.cap N := ⟨_, rfl⟩
              rw [← hn] at hcl2 ⊢
              have hmost := Num.cap_most N
              rw [← hn] at hmost
              by_cases hov : 9007199254740992 < n
              · have hsn : Num.sane (n : Int) = false := by unfold Num.sane; simp; omega
                have HP3 := Lib.hid (show Num.parse (Num.bl s) = (0, 2) by rw [HP2.out, Num.done_some, if_pos (hmost.1 hov)])
                clear hN hn hmost hov
                go_wp2_with fail
                refine (sane_any _ _).mono ?_
                rintro e w2 ⟨rfl, rfl⟩
                rw [hsn]
                go_wp2
                go_ret2
                rw [HP3.out]
                exact ⟨rfl, HI.out⟩
              · have hsn : Num.sane (n : Int) = true := by unfold Num.sane; simp; omega
                have hNn : n = N := by rw [hn]; exact Num.cap_small (by omega)
                have HP3 := Lib.hid (show Num.parse (Num.bl s) = ((if b = true then -(n : Int) else (n : Int)), 0) by rw [HP2.out, Num.done_some, if_neg (by omega), hNn])
                clear hN hn hmost hNn
                rcases b with _ | _
                · go_wp2_with fail
                  refine (sane_any _ _).mono ?_
                  rintro e w2 ⟨rfl, rfl⟩
                  rw [hsn]
                  go_wp2
                  go_ret2
                  rw [HP3.out]
                  exact ⟨rfl, HI.out⟩
                · go_wp2_with fail
                  refine (sane_any _ _).mono ?_
                  rintro e w2 ⟨rfl, rfl⟩
                  rw [hsn]
                  go_wp2
                  go_ret2
                  rw [HP3.out]
                  exact ⟨rfl, HI.out⟩
end Go.Proofs.YtbdochcajpempaaDoor
