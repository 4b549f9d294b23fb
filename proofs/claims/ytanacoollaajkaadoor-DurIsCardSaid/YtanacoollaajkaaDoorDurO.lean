/- The walk of the reference's Parse. -/
import Derived.Test.YtanacoollaajkaaDoorDurN
namespace Go.Proofs.YtanacoollaajkaaDoor
open Go.RowKit
set_option linter.unusedSimpArgs false
set_option linter.unusedVariables false

namespace Dur
def cap4 (v : Nat) : Nat := min v 36028797018963968
theorem cap4_step (v d : Nat) : cap4 (cap4 v * 10 + d) = cap4 (v * 10 + d) := by unfold cap4; omega
theorem cap4_le (v : Nat) : cap4 v ≤ 36028797018963968 := Nat.min_le_right _ _
/-- what is kept of a sum: it, or something above the greatest -/
def Kept (X S : Nat) : Prop := X ≤ 36028797018963968 ∧ (X ≤ 9007199254740992 ↔ S ≤ 9007199254740992) ∧ (S ≤ 9007199254740992 → X = S)
theorem Kept.zero : Kept 0 0 := ⟨by decide, Iff.rfl, fun _ => rfl⟩
/-- one number in its unit, as it is kept -/
def unitV (V z : Nat) : Nat := if 9007199254740992 / z < cap4 V then 9007199254740992 / z + 1 else cap4 V
theorem unitV_facts (V z : Nat) (hz : 0 < z) (hz2 : z ≤ 86400000) : unitV V z * z ≤ 9007199254740992 + 86400000 ∧ (V * z ≤ 9007199254740992 → unitV V z = V) ∧ (9007199254740992 < V * z → 9007199254740992 < unitV V z * z) := by
  have hd := Nat.div_mul_le_self 9007199254740992 z
  have hlt : 9007199254740992 < (9007199254740992 / z + 1) * z := by
    have := Nat.lt_div_mul_add (a := 9007199254740992) hz
    rw [Nat.add_mul]
    omega
  have key : V ≤ 9007199254740992 / z ↔ V * z ≤ 9007199254740992 := Nat.le_div_iff_mul_le hz
  have hq : 9007199254740992 / z ≤ 9007199254740992 := Nat.div_le_self _ _
  unfold unitV
  generalize 9007199254740992 / z = q at *
  have hv : q < cap4 V ↔ q < V := by unfold cap4; omega
  by_cases h : q < cap4 V
  · rw [if_pos h]
    refine ⟨?_, fun h1 => absurd (key.2 h1) (by have := hv.1 h; omega), fun _ => hlt⟩
    rw [Nat.add_mul]
    omega
  · rw [if_neg h]
    have h2 : V ≤ q := by have := fun h' => h (hv.2 h'); omega
    have h3 : cap4 V = V := by unfold cap4; omega
    have h4 := key.1 h2
    rw [h3]
    exact ⟨by omega, fun _ => rfl, fun h5 => absurd h4 (by omega)⟩
theorem Kept.add {X S V z : Nat} (h : Kept X S) (hz : 0 < z) (hz2 : z ≤ 86400000) : Kept (min (X + unitV V z * z) 36028797018963968) (S + V * z) := by
  obtain ⟨h1, h2, h3⟩ := h
  obtain ⟨a1, a2, a3⟩ := unitV_facts V z hz hz2
  by_cases hv : V * z ≤ 9007199254740992
  · rw [a2 hv]
    generalize V * z = m at *
    unfold Kept
    omega
  · have := a3 (by omega)
    generalize V * z = m at *
    generalize unitV V z * z = u at *
    unfold Kept
    omega
theorem runN_num (s : ByteArray) (k : Nat) : runN s k = ((bl s).drop k).length - (num 0 ((bl s).drop k)).2.length := by
  unfold runN
  rw [List.length_drop, bl_len]
/-- the number at a place, digit by digit -/
def Num (l : Bs) (i v : Nat) : Prop := num 0 l = num v (l.drop i)
theorem Num.zero (l : Bs) : Num l 0 0 := rfl
theorem Num.step {l : Bs} {i v : Nat} {c : UInt8} (h : Num l i v) (hc : l[i]? = some c) (hd : digit c = true) : Num l (i + 1) (v * 10 + (c.toNat - 48)) := by
  unfold Num at *
  have hl := (List.getElem?_eq_some_iff.1 hc)
  obtain ⟨hlt, he⟩ := hl
  rw [h, List.drop_eq_getElem_cons hlt, he]
  conv => lhs; unfold num
  rw [if_pos hd]
theorem num_stop (v : Nat) {c : UInt8} {r : Bs} (hd : Dur.digit c = false) : num v (c :: r) = (v, c :: r) := by
  unfold num
  rw [if_neg (by rw [hd]; decide)]
theorem Num.digit {l : Bs} {i v : Nat} {c : UInt8} (h : Num l i v) (hc : l[i]? = some c) (hi : i < l.length - (num 0 l).2.length) : digit c = true := by
  rcases hd : Dur.digit c with _ | _
  · unfold Num at h
    obtain ⟨hlt, he⟩ := List.getElem?_eq_some_iff.1 hc
    rw [List.drop_eq_getElem_cons hlt, he, num_stop v hd] at h
    rw [h] at hi
    simp only [List.length_cons, List.length_drop] at hi
    omega
  · rfl
theorem Num.done {l : Bs} {i v : Nat} (h : Num l i v) (hi : i = l.length - (num 0 l).2.length) : (num 0 l).1 = v := by
  have hs := num_suf l 0
  rw [← hi] at hs
  have hl := num_len l 0
  unfold Num at h
  have hns := num_starts (l.drop i) v
  rw [← h] at hns
  have : (num 0 l).2.length = (l.drop i).length := by rw [hs]
  have h2 := hns.1 this
  rw [h]
  rcases hd : l.drop i with _ | ⟨c, r⟩
  · rfl
  · rw [hd] at h2
    rw [num_stop v (show Dur.digit c = false from h2)]
/-- what the reference holds at the head of its loop -/
def PR (s : ByteArray) (A S a : Nat) : Prop := A ≤ s.size ∧ PI s (s.extract A s.size) S a (decide (a = 0))
theorem PR.start (s : ByteArray) : PR s 0 0 0 := by
  refine ⟨Nat.zero_le _, ?_⟩
  rw [show s.extract 0 s.size = s from ba_ext (by rw [bl_from, List.drop_zero])]
  exact PI.start s
theorem PR.full {s : ByteArray} {A S a : Nat} (hlt : A < s.size) : decide (a = 0) = true ∨ bl (s.extract A s.size) ≠ [] := by
  right
  rw [bl_from, drop_cons s A hlt]
  exact List.cons_ne_nil _ _
theorem PR.bad1 {s : ByteArray} {A S a : Nat} (h : PR s A S a) (hlt : A < s.size) (hq : runN s A = 0) : parse (bl s) = (0, 1) := by
  refine h.2.bad (PR.full (S := S) hlt) (sumA_none ?_)
  rw [bl_from]
  refine (num_starts _ 0).1 ?_
  rw [runN_num] at hq
  have := num_len ((bl s).drop A) 0
  omega
theorem PR.starts_ {s : ByteArray} {A : Nat} (hq : runN s A ≠ 0) : starts ((bl s).drop A) = true := by
  rcases hst : starts ((bl s).drop A) with _ | _
  · have := (num_starts _ 0).2 hst
    rw [runN_num] at hq
    omega
  · rfl
theorem runN_rest (s : ByteArray) (A : Nat) : (num 0 ((bl s).drop A)).2 = (bl s).drop (A + runN s A) := by
  rw [runN_num, ← List.drop_drop, num_suf]
theorem PR.bad2 {s : ByteArray} {A S a : Nat} (h : PR s A S a) (hlt : A < s.size) (hq : runN s A ≠ 0) (hk : bestN ((bl s).drop (A + runN s A)) 5 < a) : parse (bl s) = (0, 1) := by
  refine h.2.bad (PR.full (S := S) hlt) ?_
  rw [bl_from]
  refine sumA_unit (PR.starts_ hq) fun k hu => ?_
  rw [runN_rest] at hu
  rw [bestN_five, hu] at hk
  simp only at hk
  omega
theorem letS_size (k : Nat) : (letS k).size = (lets k).length := by unfold letS; simp [ByteArray.size]
theorem PR.step {s : ByteArray} {A S a k : Nat} (h : PR s A S a) (hlt : A < s.size) (hq : runN s A ≠ 0) (hk : bestN ((bl s).drop (A + runN s A)) 5 = k) (hak : a ≤ k) :
    PR s (A + runN s A + (letS k).size) (S + (num 0 ((bl s).drop A)).1 * size k) (k + 1) := by
  have hu : unitOf ((bl s).drop (A + runN s A)) = some k := by
    rw [bestN_five] at hk
    rcases hx : unitOf ((bl s).drop (A + runN s A)) with _ | k'
    · rw [hx] at hk
      simp only at hk
      omega
    · rw [hx] at hk
      simp only at hk
      rw [show k' = k by omega]
  have hp := ((unit_iff k (unit_lt hu) _).1 hu).1
  obtain ⟨r, hr⟩ := List.isPrefixOf_iff_prefix.1 hp
  have hl := congrArg List.length hr
  rw [List.length_append, List.length_drop, bl_len] at hl
  have hle : runN s A ≤ s.size - A := by
    rw [runN_num, List.length_drop, bl_len]
    omega
  rw [← letS_size] at hl
  have hsz : A + runN s A + (letS k).size ≤ s.size := by
    rcases Nat.eq_zero_or_pos (letS k).size with h0 | h0
    · have := h.1
      omega
    · omega
  have hst := h.2.step (t' := s.extract (A + runN s A + (letS k).size) s.size) (k := k) (PR.full (S := S) hlt) (by rw [bl_from]; exact PR.starts_ hq) (by rw [bl_from, runN_rest]; exact hu) hak
    (by rw [bl_from, bl_from, runN_rest, List.drop_drop, letS_size]) (by simp)
  rw [bl_from] at hst
  exact ⟨hsz, by rw [show decide (k + 1 = 0) = false by simp]; exact hst⟩
theorem PR.done {s : ByteArray} {S a : Nat} (h : PR s s.size S a) (ha : a ≠ 0) : parse (bl s) = if S ≤ 9007199254740992 then ((S : Int), 0) else (0, 2) := by
  have h2 := h.2
  rw [show decide (a = 0) = false by simpa using ha] at h2
  exact parse_some (h2.done (by rw [bl_from, drop_all s s.size (Nat.le_refl _)]))
theorem PR.none_ {s : ByteArray} {S : Nat} (h : PR s s.size S 0) : parse (bl s) = (0, 1) := by
  refine h.2.bad (.inl rfl) ?_
  rw [bl_from, drop_all s s.size (Nat.le_refl _)]
  rfl
end Dur
theorem rUnit_at (s : ByteArray) (x : Int) (at_ : Nat) (hx : x = (at_ : Int)) (B : Int) (hB : Dur.bestN ((Dur.bl s).drop at_) 5 = B) (hs : s.size ≤ 4611686018427387904) (ha : at_ ≤ s.size) (w : World) :
    Calls Tryd.prog 22 #[.string s, .int .i64 x] w fun e w' => e = .returned (.int .i64 B) ∧ Below w.heap.size w w' := by
  subst hx hB
  exact rUnit_any s at_ hs ha w
theorem rRun_at (s : ByteArray) (at_ q : Nat) (hq : Dur.runN s at_ = q) (hs : s.size ≤ 4611686018427387904) (ha : at_ ≤ s.size) (w : World) :
    Calls Tryd.prog 21 #[.string s, .int .i64 at_] w fun e w' => e = .returned (.int .i64 (q : Int)) ∧ w = w' := by
  subst hq
  exact rRun_any s at_ hs ha w

set_option maxRecDepth 100000 in
set_option maxHeartbeats 8000000 in
theorem rParse_any (s : ByteArray) (hs : s.size ≤ 4611686018427387904) (w : World) :
    Calls Tryd.prog 11 #[.string s] w fun e w' => e = .returned (.tuple #[.int .i64 (Dur.parse (Dur.bl s)).1, .int .i64 (Dur.parse (Dur.bl s)).2]) ∧ Below w.heap.size w w' := by
  go_enter Tryd.func11, Tryd.ntmps11
  go_wp2_with fail
  refine (rUnits_any _).mono ?_
  rintro e w1 ⟨rfl, rfl⟩
  have hcell : ∀ j, j < 5 → (w.alloc (.cells unitCells 43)).cell? ⟨w.heap.size, j * 2, none⟩ = some (.string (letS j)) ∧ (w.alloc (.cells unitCells 43)).cell? ⟨w.heap.size, j * 2 + 1, none⟩ = some (.int .i64 (Dur.size j : Nat)) := fun j hj => by
    rw [Lib.cell_of_heap (heap_alloc_new w _), Lib.cell_of_heap (heap_alloc_new w _)]
    exact unitCells_at j hj
  have hB1 := (Below.refl w.heap.size w).alloc (Nat.le_refl _) (.cells unitCells 43)
  have hlt1 : w.heap.size < (w.alloc (.cells unitCells 43)).heap.size := by simp
  obtain ⟨W1, hW1⟩ : ∃ W1, W1 = w.alloc (.cells unitCells 43) := ⟨_, rfl⟩
  rw [← hW1] at hcell hB1 hlt1 ⊢
  clear hW1
  have HCELL := Lib.hid hcell
  clear hcell
  go_wp2
  go_loopg [5, 6, 7] s.size (fun g s5 s6 s7 wr => ∃ (A S X a : Nat), g + A = s.size ∧ a ≤ 5 ∧ s5 = .int .i64 (X : Nat) ∧ s6 = .int .i64 ((a : Int) - 1) ∧ s7 = .int .i64 (A : Nat) ∧ Dur.Kept X S ∧ Dur.PR s A S a ∧ Below W1.heap.size W1 wr)
  case atStart => exact ⟨0, 0, 0, 0, by omega, by omega, rfl, rfl, rfl, Dur.Kept.zero, Dur.PR.start s, Below.refl _ _⟩
  case round =>
    obtain ⟨A, S, X, a, hgA, ha, rfl, rfl, rfl, hK, hPR, hb⟩ := hrel
    have HK := Lib.hid hK
    have HPR := Lib.hid hPR
    have hX := hK.1
    have hbs := hb.size
    have hAs := hPR.1
    clear hK hPR
    by_cases hlt : A < s.size
    · have hd1 : decide (A < s.size) = true := by simp; omega
      obtain ⟨q, hq⟩ : ∃ q, Dur.runN s A = q := ⟨_, rfl⟩
      have hqs : A + q ≤ s.size := by
        have := Dur.runN_num s A
        rw [List.length_drop, Dur.bl_len] at this
        omega
      obtain ⟨B, hB⟩ : ∃ B, Dur.bestN ((Dur.bl s).drop (A + q)) 5 = B := ⟨_, rfl⟩
      have hBr := Dur.bestN_range ((Dur.bl s).drop (A + q)) 5
      rw [hB] at hBr
      have HRUN := Lib.hid (fun w => rRun_at s A q hq hs (by omega) w)
      have HUNIT := Lib.hid (fun w => rUnit_at s ((A : Int) + (q : Int)) (A + q) (by omega) B hB hs hqs w)
      have HQ := Lib.hid hq
      have HB := Lib.hid hB
      clear hq hB
      go_wp2_with fail
      refine (HRUN.out _).mono ?_
      rintro e w2 ⟨rfl, rfl⟩
      go_wp2_with fail
      refine (HUNIT.out _).mono ?_
      rintro e w2 ⟨rfl, hb2⟩
      have hb' := hb.trans (hb2.mono hb.size)
      clear hb2
      by_cases hq0 : q = 0
      · have HP := Lib.hid (HPR.out.bad1 hlt (HQ.out.trans hq0))
        subst hq0
        go_wp2
        all_goals
          go_ret2
          rw [HP.out]
          exact ⟨rfl, hB1.trans (hb'.mono hB1.size)⟩
      · have hqi : ((q : Int) == 0) = false := by simp; omega
        by_cases hBa : B < a
        · have HP := Lib.hid (HPR.out.bad2 hlt (by rw [HQ.out]; exact hq0) (by rw [HQ.out, HB.out]; exact hBa))
          have hBa2 : B ≤ (a : Int) - 1 := by omega
          clear hq0
          go_wp2
          go_ret2
          rw [HP.out]
          exact ⟨rfl, hB1.trans (hb'.mono hB1.size)⟩
        · obtain ⟨k, rfl⟩ : ∃ k : Nat, B = (k : Int) := ⟨B.toNat, by omega⟩
          have hk5 : k < 5 := by omega
          have hST := HPR.out.step hlt (by rw [HQ.out]; exact hq0) (by rw [HQ.out, HB.out]) (show a ≤ k by omega)
          rw [HQ.out] at hST
          obtain ⟨T, hT⟩ : ∃ T, T = (Dur.bl s).drop A := ⟨_, rfl⟩
          have hTq : q = T.length - (Dur.num 0 T).2.length := by rw [hT, ← Dur.runN_num, HQ.out]
          have hTl : T.length = s.size - A := by rw [hT, List.length_drop, Dur.bl_len]
          have HT := Lib.hid (show ∀ i (h : A + i < s.size), T[i]? = some s[A + i] by
            intro i h
            rw [hT, List.getElem?_drop, List.getElem?_eq_getElem (by rw [Dur.bl_len]; exact h)]
            rfl)
          rw [← hT] at hST
          obtain ⟨V, hV⟩ : ∃ V, V = (Dur.num 0 T).1 := ⟨_, rfl⟩
          rw [← hV] at hST
          have HV := Lib.hid hV
          have HTQ := Lib.hid hTq
          have HST := Lib.hid hST
          have hA' := hST.1
          have hBa2 : ¬ (k : Int) ≤ (a : Int) - 1 := by omega
          clear hT hTq hV hST hTl
          obtain ⟨G, hG⟩ : ∃ G, G = gk := ⟨_, rfl⟩
          have HGK := Lib.hid hG
          rw [← hG] at hgA
          clear hG hBr
          go_wp2
          go_loopg [10, 11] q (fun g s10 s11 wi => ∃ i v : Nat, g + i = q ∧ s11 = .int .i64 i ∧ s10 = .int .i64 (Dur.cap4 v : Nat) ∧ Dur.Num T i v ∧ Below W1.heap.size W1 wi)
          case atStart => exact ⟨0, 0, by omega, rfl, rfl, Dur.Num.zero _, hb'⟩
          case round =>
            obtain ⟨i, v, hgi, rfl, rfl, hN, hbi⟩ := hrel
            have HN := Lib.hid hN
            have hcl := Dur.cap4_le v
            obtain ⟨m, hm⟩ : ∃ m, m = Dur.cap4 v := ⟨_, rfl⟩
            rw [← hm] at hcl ⊢
            have HM := Lib.hid hm
            clear hN hm
            by_cases hi : i < q
            · have hlt2 : A + i < s.size := by omega
              have hlt3 : (A : Int) + (i : Int) < (s.size : Int) := by omega
              have hti := HT.out i hlt2
              obtain ⟨c, hc⟩ : ∃ c, s[A + i] = c := ⟨_, rfl⟩
              rw [hc] at hti
              have hdig := HN.out.digit hti (by rw [← HTQ.out]; exact hi)
              have HN2 := Lib.hid (HN.out.step hti hdig)
              obtain ⟨hb1, hb2⟩ := (digit_int c).1 hdig
              have hdi : decide (i < q) = true := by simp; omega
              clear hti hdig
              go_wp2
              go_roundg (gk - 1)
              case rel =>
                refine ⟨i + 1, v * 10 + (c.toNat - 48), by omega, by go_num, ?_, HN2.out, (by repeat (first | assumption | exact Below.refl _ _ | apply Mem.below_drewN | apply Below.drew | refine Below.alloc ?_ (by first | assumption | omega | (simp; done) | (simp; omega)) _ | refine Below.setCell ?_ (by first | assumption | omega | (simp; done) | (simp; omega)) _))⟩
                have hq : min ((m : Int) * 10 + (c.toNat : Int) - 48) 36028797018963968 = ((Dur.cap4 (v * 10 + (c.toNat - 48)) : Nat) : Int) := by
                  have := HM.out
                  unfold Dur.cap4 at this ⊢
                  omega
                rw [hq]
              case measure => omega
            · have hdi : decide (i < q) = false := by simp; omega
              have hVv : V = v := by rw [HV.out]; exact HN.out.done (by rw [← HTQ.out]; omega)
              have HVV := Lib.hid hVv
              clear hVv
              have hc1 := (hbi.cell (p := ⟨w.heap.size, k * 2 + 1, none⟩) hlt1).trans (HCELL.out k hk5).2
              have hc0 := (hbi.cell (p := ⟨w.heap.size, k * 2, none⟩) hlt1).trans (HCELL.out k hk5).1
              have hzp := Dur.size_pos k
              have hz2 : Dur.size k ≤ 86400000 := by unfold Dur.size; split <;> decide
              have HKP := Lib.hid (HK.out.add (V := V) hzp hz2)
              have hUF := (Dur.unitV_facts V (Dur.size k) hzp hz2).1
              have hUD := show Dur.unitV V (Dur.size k) = if 9007199254740992 / Dur.size k < m then 9007199254740992 / Dur.size k + 1 else m by rw [HM.out, ← HVV.out]; rfl
              obtain ⟨z, hz⟩ : ∃ z, z = Dur.size k := ⟨_, rfl⟩
              rw [← hz] at hc1 hzp hz2 hUF hUD
              obtain ⟨qz, hqz⟩ : ∃ qz, qz = 9007199254740992 / z := ⟨_, rfl⟩
              have hqz1 : Int.tdiv 9007199254740992 (z : Int) = (qz : Int) := by rw [hqz]; rfl
              have hqzle : qz ≤ 9007199254740992 := by rw [hqz]; exact Nat.div_le_self _ _
              have hz0 : ¬ z = 0 := by omega
              have hls : (letS k).size ≤ 2 := by unfold letS; have := Dur.lets_len k; simpa [ByteArray.size] using this
              rw [← hqz] at hUD
              obtain ⟨U, hU⟩ : ∃ U, U = Dur.unitV V z := ⟨_, rfl⟩
              rw [← hU] at hUD hUF
              have HKP := Lib.hid (show Dur.Kept (min (X + U * z) 36028797018963968) (S + V * Dur.size k) by rw [hU, hz]; exact HKP.out)
              obtain ⟨p, hp⟩ : ∃ p, p = U * z := ⟨_, rfl⟩
              have HKP := Lib.hid (show Dur.Kept (min (X + p) 36028797018963968) (S + V * Dur.size k) by rw [hp]; exact HKP.out)
              rw [← hp] at hUF
              have HUD := Lib.hid hUD
              have HP := Lib.hid hp
              clear hUD hp hqz hU hz
              by_cases hbig : qz < m
              · have hpp : ((qz : Int) + 1) * (z : Int) = (p : Int) := by
                  rw [HP.out, HUD.out, if_pos hbig, Int.natCast_mul]
                  rfl
                have hdm : decide (qz < m) = true := by simp; omega
                go_wp2
                go_roundg (G - (q + (letS k).size))
                case rel => exact ⟨A + q + (letS k).size, _, _, k + 1, by omega, by omega, by go_num, by go_num, by go_num, HKP.out, HST.out, (by repeat (first | assumption | exact Below.refl _ _ | apply Mem.below_drewN | apply Below.drew | refine Below.alloc ?_ (by first | assumption | omega | (simp; done) | (simp; omega)) _ | refine Below.setCell ?_ (by first | assumption | omega | (simp; done) | (simp; omega)) _))⟩
                case measure => have := HGK.out; omega
              · have hpp : (m : Int) * (z : Int) = (p : Int) := by
                  rw [HP.out, HUD.out, if_neg hbig, Int.natCast_mul]
                have hdm : decide (qz < m) = false := by simp; omega
                go_wp2
                go_roundg (G - (q + (letS k).size))
                case rel => exact ⟨A + q + (letS k).size, _, _, k + 1, by omega, by omega, by go_num, by go_num, by go_num, HKP.out, HST.out, (by repeat (first | assumption | exact Below.refl _ _ | apply Mem.below_drewN | apply Below.drew | refine Below.alloc ?_ (by first | assumption | omega | (simp; done) | (simp; omega)) _ | refine Below.setCell ?_ (by first | assumption | omega | (simp; done) | (simp; omega)) _))⟩
                case measure => have := HGK.out; omega
    · obtain rfl : A = s.size := by omega
      have hd1 : decide (s.size < s.size) = false := by simp
      by_cases ha0 : a = 0
      · subst ha0
        have HP := Lib.hid HPR.out.none_
        go_wp2
        go_ret2
        rw [HP.out]
        exact ⟨rfl, hB1.trans (hb.mono hB1.size)⟩
      · have HP := Lib.hid (HPR.out.done ha0)
        have ha1 : ¬ (a : Int) - 1 < 0 := by omega
        have hk := HK.out
        by_cases hm : X ≤ 9007199254740992
        · have hdm : decide (9007199254740992 < X) = false := by simp; omega
          have HX := Lib.hid (show X = S from hk.2.2 (hk.2.1.1 hm))
          have HS := Lib.hid (hk.2.1.1 hm)
          clear hk ha0
          go_wp2
          go_ret2
          rw [HP.out, if_pos HS.out, HX.out]
          exact ⟨rfl, hB1.trans (hb.mono hB1.size)⟩
        · have hdm : decide (9007199254740992 < X) = true := by simp; omega
          have HS := Lib.hid (show ¬ S ≤ 9007199254740992 from fun h => hm (hk.2.1.2 h))
          clear hk ha0
          go_wp2
          go_ret2
          rw [HP.out, if_neg HS.out]
          exact ⟨rfl, hB1.trans (hb.mono hB1.size)⟩
end Go.Proofs.YtanacoollaajkaaDoor
