/- The walk of slices.Reverse over samples: an owned row is turned round in place. -/
import Derived.Test.YtidfiiogjfpfmaaSerPlain3
import Derived.Test.YtidfiiogjfpfmaaSerE
import Derived.RegionTactic
import Derived.ChangeAlike
import Derived.BigRegion
namespace Go.Proofs.Ytidfiiogjfpfmaa.SerW
open Go.RowKit

def mkArr (zs : List (Int × Int)) (tail : List Value) : Array Value := ((Ser.cells zs).map (Value.int .i64) ++ tail).toArray
theorem mkArr_get {zs : List (Int × Int)} {tail : List Value} {j : Nat} (hj : j < zs.length) :
    (mkArr zs tail)[j * 2]? = some (.int .i64 (Ser.pr zs j).1) ∧ (mkArr zs tail)[j * 2 + 1]? = some (.int .i64 (Ser.pr zs j).2) := by
  have hl := cells_length zs
  obtain ⟨h1, h2⟩ := cells_at zs hj
  unfold mkArr
  constructor
  · rw [List.getElem?_toArray, List.getElem?_append_left (by simp; omega), List.getElem?_map, h1]; rfl
  · rw [List.getElem?_toArray, List.getElem?_append_left (by simp; omega), List.getElem?_map, h2]; rfl
theorem cells_set (zs : List (Int × Int)) (j : Nat) (a b : Int) : ((Ser.cells zs).set (j * 2) a).set (j * 2 + 1) b = Ser.cells (zs.set j (a, b)) := by
  induction zs generalizing j with
  | nil => simp [Ser.cells]
  | cons z zs ih =>
    cases j with
    | zero => simp [Ser.cells]
    | succ j =>
      have := ih j
      simp only [Ser.cells, List.flatMap_cons, List.cons_append, List.nil_append, List.set_cons_succ, show (j + 1) * 2 = j * 2 + 1 + 1 by omega] at *
      rw [this]
theorem mkArr_set {zs : List (Int × Int)} {tail : List Value} {j : Nat} (hj : j < zs.length) (a b : Int) :
    ((mkArr zs tail).setIfInBounds (j * 2) (.int .i64 a)).setIfInBounds (j * 2 + 1) (.int .i64 b) = mkArr (zs.set j (a, b)) tail := by
  have hl := cells_length zs
  unfold mkArr
  rw [List.setIfInBounds_toArray, List.setIfInBounds_toArray, List.set_append_left _ _ (by simp; omega), List.set_append_left _ _ (by simp; omega), ← cells_set, List.map_set, List.map_set]
theorem own_mk {W : World} {base e n : Nat} {v : Value} {xs : List (Int × Int)} (h : W.ownsRow base e 2 v n ((Ser.cells xs).map (Value.int .i64))) :
    (v = .slice none 0 0 ∧ n = 0 ∧ xs = []) ∨ ∃ g cap tail, v = .slice (some ⟨g, 0, none⟩) n cap ∧ base ≤ g ∧ xs.length = n ∧ n ≤ cap ∧ cap ≤ maxLen ∧ Mem.Blk W g e (mkArr xs tail) ∧
      ∀ (W' : World) (ys : List (Int × Int)), ys.length = n → Mem.Blk W' g e (mkArr ys tail) → W'.ownsRow base e 2 v n ((Ser.cells ys).map (Value.int .i64)) := by
  have hx : xs.length = n := by have := h.1; rw [List.length_map, cells_length] at this; omega
  rcases h.2 with ⟨rfl, rfl⟩ | ⟨g, cap, cur, rfl, hb, hh, hn, hc, hz, ht⟩
  · exact .inl ⟨rfl, rfl, List.eq_nil_of_length_eq_zero hx⟩
  · refine .inr ⟨g, cap, cur.toList.drop (n * 2), rfl, hb, hx, hn, hc, ?_, ?_⟩
    · unfold Mem.Blk mkArr
      rw [hh, ← ht, List.take_append_drop]
    · intro W' ys hy hB
      refine ⟨by rw [List.length_map, cells_length, hy], .inr ⟨g, cap, _, rfl, hb, hB, hn, hc, ?_, ?_⟩⟩
      · unfold mkArr
        have hz' : cur.toList.length = cap * 2 := by simpa using hz
        rw [List.size_toArray, List.length_append, List.length_map, cells_length, List.length_drop, hz', hy]
        omega
      · unfold mkArr
        rw [List.take_append_of_le_length (by simp [cells_length]; omega), List.take_of_length_le (by simp [cells_length]; omega)]

end Go.Proofs.Ytidfiiogjfpfmaa.SerW
