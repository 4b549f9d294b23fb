/- The walk of slices.Reverse over samples: an owned row is turned round in place. -/
import Derived.Test.YtjoaafekhleocaaSerPlain3
import Derived.Test.YtjoaafekhleocaaSerE
import Derived.RegionTactic
import Derived.ChangeAlike
import Derived.BigRegion
namespace Go.Proofs.Ytjoaafekhleocaa
open Go.RowKit

def mkArr (zs : List (Int × Int)) (tail : List Value) : Array Value := ((Ser.cells zs).map (Value.int .i64) ++ tail).toArray
theorem mkArr_get {zs : List (Int × Int)} {tail : List Value} {j : Nat} (hj : j < zs.length) :
    (mkArr zs tail)[j * 2]? = some (.int .i64 (Ser.pr zs j).1) ∧ (mkArr zs tail)[j * 2 + 1]? = some (.int .i64 (Ser.pr zs j).2) := by
  have hl := cells_length zs
  obtain ⟨h1, h2⟩ := cells_at zs hj
  unfold mkArr
  constructor
  · rw [List.getElem?_toArray, List.getElem?_append_left (by simp; omega), List.getElem?_map, h1]; rfl
  · rw [List.getElem?_toArray, List.getElem?_append_left (by simp; omega), List.getElem?_map, h2]; rfl
theorem cells_set (zs : List (Int × Int)) (j : Nat) (a b : Int) : ((Ser.cells zs).set (j * 2) a).set (j * 2 + 1) b = Ser.cells (zs.set j (a, b)) := by
  induction zs generalizing j with
  | nil => simp [Ser.cells]
  | cons z zs ih =>
    cases j with
    | zero => simp [Ser.cells]
    | succ j =>
      have := ih j
      simp only [Ser.cells, List.flatMap_cons, List.cons_append, List.nil_append, List.set_cons_succ, show (j + 1) * 2 = j * 2 + 1 + 1 by omega] at *
      rw [this]
theorem mkArr_set {zs : List (Int × Int)} {tail : List Value} {j : Nat} (hj : j < zs.length) (a b : Int) :
    ((mkArr zs tail).setIfInBounds (j * 2) (.int .i64 a)).setIfInBounds (j * 2 + 1) (.int .i64 b) = mkArr (zs.set j (a, b)) tail := by
  have hl := cells_length zs
  unfold mkArr
  rw [List.setIfInBounds_toArray, List.setIfInBounds_toArray, List.set_append_left _ _ (by simp; omega), List.set_append_left _ _ (by simp; omega), ← cells_set, List.map_set, List.map_set]
theorem own_mk {W : World} {base e n : Nat} {v : Value} {xs : List (Int × Int)} (h : W.ownsRow base e 2 v n ((Ser.cells xs).map (Value.int .i64))) :
    (v = .slice none 0 0 ∧ n = 0 ∧ xs = []) ∨ ∃ g cap tail, v = .slice (some ⟨g, 0, none⟩) n cap ∧ base ≤ g ∧ xs.length = n ∧ n ≤ cap ∧ cap ≤ maxLen ∧ Mem.Blk W g e (mkArr xs tail) ∧
      ∀ (W' : World) (ys : List (Int × Int)), ys.length = n → Mem.Blk W' g e (mkArr ys tail) → W'.ownsRow base e 2 v n ((Ser.cells ys).map (Value.int .i64)) := by
  have hx : xs.length = n := by have := h.1; rw [List.length_map, cells_length] at this; omega
  rcases h.2 with ⟨rfl, rfl⟩ | ⟨g, cap, cur, rfl, hb, hh, hn, hc, hz, ht⟩
  · exact .inl ⟨rfl, rfl, List.eq_nil_of_length_eq_zero hx⟩
  · refine .inr ⟨g, cap, cur.toList.drop (n * 2), rfl, hb, hx, hn, hc, ?_, ?_⟩
    · unfold Mem.Blk mkArr
      rw [hh, ← ht, List.take_append_drop]
    · intro W' ys hy hB
      refine ⟨by rw [List.length_map, cells_length, hy], .inr ⟨g, cap, _, rfl, hb, hB, hn, hc, ?_, ?_⟩⟩
      · unfold mkArr
        have hz' : cur.toList.length = cap * 2 := by simpa using hz
        rw [List.size_toArray, List.length_append, List.length_map, cells_length, List.length_drop, hz', hy]
        omega
      · unfold mkArr
        rw [List.take_append_of_le_length (by simp [cells_length]; omega), List.take_of_length_le (by simp [cells_length]; omega)]

set_option maxRecDepth 100000 in
set_option maxHeartbeats 1000000 in
theorem rev_any (base n : Nat) (v : Value) (xs : List (Int × Int)) (w : World) (h : w.ownsRow base 24 2 v n ((Ser.cells xs).map (Value.int .i64))) :
    Calls Try.prog 27 #[v] w fun e w' => e = .returned (.tuple #[]) ∧ w'.ownsRow base 24 2 v n ((Ser.cells xs.reverse).map (Value.int .i64)) ∧ w.grownBy w' v.ownBlock := by
  rcases own_mk h with ⟨rfl, rfl, rfl⟩ | ⟨g, cap, tail, rfl, hb, hx, hn, hc, hB, hback⟩
  · go_enter Try.func27, Try.ntmps27
    go_wp2
    refine wp_loop_rounds 1 ?_; rw [rounds_succ]
    go_wp2
    go_end0
    exact ⟨rfl, h, World.grownBy.refl w _⟩
  · unfold maxLen at hc
    have HX := Lib.hid hx
    have HBK := Lib.hid hback
    clear h hx hback
    go_enter Try.func27, Try.ntmps27
    go_wp2
    go_loopw [2, 3] (fun i j wr => ∃ k : Nat, ∃ q : Int, i = .int .i64 k ∧ j = .int .i64 q ∧ (k : Int) + q + 1 = n ∧ k ≤ n ∧ (k : Int) ≤ q + 1 ∧ Mem.Blk wr g 24 (mkArr (Ser.revPart xs k) tail) ∧ w.grownBy wr (some g))
      (fun i _ _ => n - (intOf i).toNat)
    case atStart => exact ⟨0, (n : Int) - 1, rfl, by go_num, by omega, Nat.zero_le _, by omega, by rw [Ser.revPart_zero]; exact hB, World.grownBy.refl w _⟩
    case round =>
      obtain ⟨k, q, rfl, rfl, hkq, hkn, hkq2, hBr, hg⟩ := hrel
      by_cases hlt : (k : Int) < q
      · obtain ⟨m, rfl⟩ := Int.eq_ofNat_of_zero_le (show 0 ≤ q by omega)
        have hkm : k < m := by omega
        have HKM : k + m + 1 = n := by omega
        have hz := Ser.revPart_length xs k
        have a1 := (hBr.cell (k * 2)).trans (mkArr_get (by rw [hz, HX.out]; omega)).1
        have a2 := (hBr.cell (k * 2 + 1)).trans (mkArr_get (by rw [hz, HX.out]; omega)).2
        have b1 := (hBr.cell (m * 2)).trans (mkArr_get (by rw [hz, HX.out]; omega)).1
        have b2 := (hBr.cell (m * 2 + 1)).trans (mkArr_get (by rw [hz, HX.out]; omega)).2
        have f1 := hBr.frozen (k * 2)
        have f2 := hBr.frozen (k * 2 + 1)
        have f3 := hBr.frozen (m * 2)
        have f4 := hBr.frozen (m * 2 + 1)
        have HKM' := Lib.hid HKM
        have HZ := Lib.hid hz
        have HKQ := Lib.hid hkq
        have k0 : (k : Int) < n := by omega
        have m0 : (m : Int) < n := by omega
        clear HKM hz hkq
        go_wp2
        go_region
        go_wp2
        go_roundw
        case rel =>
          have B1 := (((hBr.set_ (k * 2) (.int .i64 (Ser.pr (Ser.revPart xs k) m).1)).set_ (k * 2 + 1) (.int .i64 (Ser.pr (Ser.revPart xs k) m).2)).set_ (m * 2) (.int .i64 (Ser.pr (Ser.revPart xs k) k).1)).set_ (m * 2 + 1) (.int .i64 (Ser.pr (Ser.revPart xs k) k).2)
          rw [mkArr_set (by rw [HZ.out, HX.out]; omega), mkArr_set (by rw [List.length_set, HZ.out, HX.out]; omega), Ser.revPart_step (by rw [HX.out]; exact HKM'.out) hkm] at B1
          refine ⟨k + 1, (m : Int) - 1, by go_num, rfl, by have := HKM'.out; omega, by omega, by omega, B1, ?_⟩
          exact Mem.only_drew (Mem.only_setCell (Mem.only_setCell (Mem.only_setCell (Mem.only_setCell hg (.inl rfl) _) (.inl rfl) _) (.inl rfl) _) (.inl rfl) _)
        case measure => simp [intOf]; omega
      · go_wp2
        go_end0
        refine ⟨rfl, HBK.out _ _ (by rw [List.length_reverse]; exact HX.out) ?_, hg⟩
        rcases Nat.eq_zero_or_pos n with h0 | h0
        · have e : xs = [] := List.eq_nil_of_length_eq_zero (by rw [HX.out]; exact h0)
          subst e
          exact hBr
        · obtain ⟨m, rfl⟩ := Int.eq_ofNat_of_zero_le (show 0 ≤ q by omega)
          rw [Ser.revPart_end (m := m) (by rw [HX.out]; omega) (by omega)] at hBr
          exact hBr
end Go.Proofs.Ytjoaafekhleocaa
