/- The walk of the law SeriesParts. -/
import Derived.Test.YtjoaafekhleocaaSerM
namespace Go.Proofs.Ytjoaafekhleocaa
open Go.RowKit

attribute [local go_sem ↓] smp_neq smp_eql smp_guard

theorem own_below {W W' : World} {base e size n : Nat} {v : Value} {xs : List Value} (h : W.ownsRow base e size v n xs) (hb : Below W.heap.size W W') : W'.ownsRow base e size v n xs := by
  refine ⟨h.1, ?_⟩
  rcases h.2 with h0 | ⟨g, cap, cur, e1, e2, hh, h3⟩
  · exact .inl h0
  · exact .inr ⟨g, cap, cur, e1, e2, (hb.block g (Array.getElem?_eq_some_iff.1 hh).1).trans hh, h3⟩
theorem own_two {W : World} {base n m : Nat} {v : Value} {xs ys : List (Int × Int)} (h : W.ownsRow base 24 2 v (0 + n + m) ([] ++ (Ser.cells xs).map (Value.int .i64) ++ (Ser.cells ys).map (Value.int .i64))) :
    ∃ A c, v = .slice A (n + m) c ∧ Smp W W.heap.size A (n + m) c (xs ++ ys) := by
  have e : [] ++ (Ser.cells xs).map (Value.int .i64) ++ (Ser.cells ys).map (Value.int .i64) = (Ser.cells (xs ++ ys)).map (Value.int .i64) := by simp [Ser.cells]
  rw [e, Nat.zero_add] at h
  exact Smp.of_own h

set_option maxRecDepth 100000 in
set_option maxHeartbeats 4000000 in
theorem seriesParts_any (A : Option Addr) (m c : Nat) (xs : List (Int × Int)) (a b d : Int) (w : World) (hb0 : -9223372036854775808 ≤ b) (h : Smp w w.heap.size A m c xs) :
    Calls Try.prog 7 #[.slice A m c, .int .i64 a, .int .i64 b, .int .i64 d] w (LawR w) := by
  have HH := Lib.hid h
  clear h
  obtain ⟨i0, hi0, hz0, hz1, hz2⟩ := info_parts smpInfo
  by_cases hg : 200 < m ∨ b < a ∨ d < b ∨ 9007199254740992 < b
  · go_enter Try.func7, Try.ntmps7
    go_wp2_with fail
    refine (awake_any _).mono ?_
    rintro e w1 ⟨rfl, hB1⟩
    go_wp2_with fail
    all_goals first | (exfalso; omega) | (go_ret; exact ⟨rfl, hB1⟩)
  · have g1 : ¬ 200 < m := fun e => hg (.inl e)
    have g2 : ¬ b < a := fun e => hg (.inr (.inl e))
    have g3 : ¬ d < b := fun e => hg (.inr (.inr (.inl e)))
    have g4 : ¬ 9007199254740992 < b := fun e => hg (.inr (.inr (.inr e)))
    have g1' : ¬ (200 : Int) < (m : Int) := by omega
    clear hg
    have l1 := Ser.between_length xs a b
    have l2 := Ser.between_length xs (b + 1) d
    go_enter Try.func7, Try.ntmps7
    go_wp2_with fail
    refine (awake_any _).mono ?_
    rintro e w1 ⟨rfl, hB1⟩
    go_wp2_with fail
    have hB2 := (Below.refl w1.heap.size w1).alloc (Nat.le_refl _) (.cells #[] 24)
    have hBw2 := hB1.trans (hB2.mono hB1.size)
    refine (between_any A m c xs a b _ (HH.out.later hBw2)).mono ?_
    rintro e w3 ⟨v, rfl, hown3, hB3⟩
    have hBw3 := hBw2.trans (hB3.mono hBw2.size)
    obtain ⟨A3, c3, rfl, hS3⟩ := Smp.of_own hown3
    have HS3 := Lib.hid hS3
    have HO := Lib.hid (own_below (own_empty w1) hB3)
    have hs13 : w1.heap.size ≤ w3.heap.size := by have := hB3.size; simp at this; omega
    have hs1 := hB1.size
    clear hown3 hS3 hB2
    go_wp2_with (at_builtin; refine Mem.wpList_append_any _ rfl (.tmp 30) (.tmp 34) 22 rfl w1.heap.size 24 i0 _ 2 16 Try.underlying22 hi0 hz0 hz1 hz2 rfl (by decide) (.slice (some ⟨w1.heap.size, 0, none⟩) 0 0) 0 [] rfl HO.out w3.heap.size A3 _ c3 _ rfl HS3.out.reads (one_cells _) (by unfold maxLen; omega) (by omega) (by omega) ?_; intro v4 w4 hown4 hg4 hat4; have hBw4 : Below w.heap.size w w4 := hBw3.grown hg4 hBw3.size (fun k e => by simp [Value.ownBlock] at e; omega))
    refine (between_any A m c xs (b + 1) d _ (HH.out.later hBw4)).mono ?_
    rintro e w5 ⟨v, rfl, hown5, hB5⟩
    have hBw5 := hBw4.trans (hB5.mono hBw4.size)
    obtain ⟨A5, c5, rfl, hS5⟩ := Smp.of_own hown5
    have HS5 := Lib.hid hS5
    have HO4 := Lib.hid (own_below hown4 hB5)
    have hs45 := hB5.size
    have hs34 := hg4.size
    clear hown5 hS5 hown4
    go_wp2_with (at_builtin; refine Mem.wpList_append_any _ rfl (.tmp 36) (.tmp 41) 22 rfl w1.heap.size 24 i0 _ 2 16 Try.underlying22 hi0 hz0 hz1 hz2 rfl (by decide) v4 _ _ rfl HO4.out w5.heap.size A5 _ c5 _ rfl HS5.out.reads (one_cells _) (by unfold maxLen; omega) (by omega) (by omega) ?_; intro v6 w6 hown6 hg6 hat6; have hBw6 : Below w.heap.size w w6 := hBw5.grown hg6 hBw5.size (fun k e => by have := own_ge HO4.out e; omega); obtain ⟨A6, c6, rfl, hS6⟩ := own_two hown6; have HS6 := Lib.hid hS6; clear hown6 hS6)
    refine (between_any A m c xs a d _ (HH.out.later hBw6)).mono ?_
    rintro e w7 ⟨v, rfl, hown7, hB7⟩
    have hBw7 := hBw6.trans (hB7.mono hBw6.size)
    obtain ⟨A7, c7, rfl, hS7⟩ := Smp.of_own hown7
    have HS7 := Lib.hid hS7
    have HS6 := Lib.hid (HS6.out.later hB7)
    clear hown7 hS7
    go_wp2_with fail
    refine (same_any A6 A7 _ c6 _ c7 _ _ _ HS6.out HS7.out).mono ?_
    rintro e w8 ⟨rfl, hB8⟩
    have hBw8 := hBw7.trans (hB8.mono hBw7.size)
    rw [show decide (Ser.between xs a b ++ Ser.between xs (b + 1) d = Ser.between xs a d) = true from by rw [decide_eq_true_iff]; exact Ser.between_parts xs (by omega) (by omega)]
    go_wp2_with fail
    refine (sane_any A m c xs _ (HH.out.later hBw8)).mono ?_
    rintro e w9 ⟨rfl, hB9⟩
    have hBw9 := hBw8.trans (hB9.mono hBw8.size)
    rcases hs : Ser.sane xs with _ | _
    · go_wp2
      go_ret
      exact ⟨rfl, hBw9⟩
    · have hall := Ser.between_all hs
      have HALL := Lib.hid hall
      clear hall
      go_wp2_with fail
      refine (between_any A m c xs 0 9007199254740992 _ (HH.out.later hBw9)).mono ?_
      rintro e w10 ⟨v, rfl, hown10, hB10⟩
      have hBw10 := hBw9.trans (hB10.mono hBw9.size)
      obtain ⟨A10, c10, rfl, hS10⟩ := Smp.of_own hown10
      have HS10 := Lib.hid hS10
      clear hown10 hS10
      go_wp2_with fail
      refine (same_any A10 A _ c10 m c _ _ _ HS10.out (HH.out.later hBw10)).mono ?_
      rintro e w11 ⟨rfl, hB11⟩
      have hBw11 := hBw10.trans (hB11.mono hBw10.size)
      rw [HALL.out, show decide (xs = xs) = true from by simp]
      go_wp2
      go_ret
      exact ⟨rfl, hBw11⟩
end Go.Proofs.Ytjoaafekhleocaa
