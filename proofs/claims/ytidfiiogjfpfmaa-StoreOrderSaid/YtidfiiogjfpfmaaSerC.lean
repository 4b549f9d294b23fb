/- The walks: what a series counts as, a clone of it, whether two are the same. -/
import Derived.Test.YtidfiiogjfpfmaaSerB
import Derived.Laws.StructEq
namespace Go.Proofs.Ytidfiiogjfpfmaa.SerW
open Go.RowKit

/-- '==' and '!=' between two samples -/
theorem smp_eqIn (w : World) (a b c d : Int) : (Op.equalIn 10000 25 (.agg #[.int .i64 a, .int .i64 b]) (.agg #[.int .i64 c, .int .i64 d])).run Try.prog w = .ok (a == c && b == d) w := by
  have u3 := Try.underlying3
  have a3 := Try.isAgg3
  have z3 := Try.sizeOf3
  have hS : Try.prog.underlying 25 = some (.struct (Try.prog.fieldsOf 25)) := by kernel_rfl
  have hp : Try.prog.stoodInHeld 25 = false := by kernel_rfl
  rw [show (10000 : Nat) = 9999 + 1 from rfl, run_equalIn_agg w 9999 25 _ _ hS hp]
  simp only [Program.fieldsOf, Try.underlying25]
  go_simp
  by_cases h1 : a = c <;> by_cases h2 : b = d <;> simp [h1, h2]
theorem smp_neq (w : World) (a b c d : Int) : (binOp .neq 25 (.agg #[.int .i64 a, .int .i64 b]) (.agg #[.int .i64 c, .int .i64 d])).run Try.prog w = .ok (.bool (!(a == c && b == d))) w := by
  rw [run_neq_struct, smp_eqIn]; rfl
theorem smp_eql (w : World) (a b c d : Int) : (binOp .eql 25 (.agg #[.int .i64 a, .int .i64 b]) (.agg #[.int .i64 c, .int .i64 d])).run Try.prog w = .ok (.bool (a == c && b == d)) w := by
  rw [run_eql_struct, smp_eqIn]; rfl
theorem smp_guard (w : World) (op : BinOp) (x y : Operand) (xs ys : Array Value) : (eqGuard op 25 x y (.agg xs) (.agg ys)).run Try.prog w = .ok () w := run_eqGuard_agg w op _ x y xs ys (by kernel_rfl)
attribute [local go_sem ↓] smp_neq smp_eql smp_guard

theorem Smp.counted_ {W : World} {B n c : Nat} {A : Option Addr} {xs : List (Int × Int)} (h : Smp W B A n c xs) : ∃ A' n' c', (if Ser.sane xs then Value.slice A n c else .slice none 0 0) = .slice A' n' c' ∧ Smp W B A' n' c' (Ser.counted xs) := by
  unfold Ser.counted
  split
  · exact ⟨A, n, c, rfl, h⟩
  · exact ⟨none, 0, 0, rfl, Smp.none_ _ _⟩

set_option maxHeartbeats 400000 in
theorem counted_any (B : Nat) (A : Option Addr) (n c : Nat) (xs : List (Int × Int)) (w : World) (hBw : B ≤ w.heap.size) (h : Smp w B A n c xs) :
    Calls Try.prog 29 #[.slice A n c] w fun e w' => ∃ A' n' c', e = .returned (.slice A' n' c') ∧ Smp w' B A' n' c' (Ser.counted xs) ∧ Below w.heap.size w w' := by
  rcases hs : Ser.sane xs with _ | _
  all_goals
    go_enter Try.func29, Try.ntmps29
    go_wp2_with (go_at_call 24; refine (sane_any A n c xs _ (h.more hBw)).mono ?_; rintro e w' ⟨rfl, hb⟩)
    go_ret
  · exact ⟨none, 0, 0, rfl, by unfold Ser.counted; rw [hs]; exact Smp.none_ _ _, hb⟩
  · exact ⟨A, n, c, rfl, by unfold Ser.counted; rw [hs]; exact h.below (hb.mono hBw), hb⟩

set_option maxRecDepth 100000 in
set_option maxHeartbeats 1000000 in
theorem same_any (A D : Option Addr) (n c m d : Nat) (xs ys : List (Int × Int)) (w : World) (h : Smp w w.heap.size A n c xs) (g : Smp w w.heap.size D m d ys) :
    Calls Try.prog 16 #[.slice A n c, .slice D m d] w fun e w' => e = .returned (.bool (decide (xs = ys))) ∧ Below w.heap.size w w' := by
  have hlen := h.1
  have hc := h.2.1
  have hc2 := h.2.2.1
  by_cases hnm : n = m
  · have hN : ((n : Int) != (m : Int)) = false := by simp; omega
    have glen := g.1
    have HNM := Lib.hid hnm
    clear hnm
    go_enter Try.func16, Try.ntmps16
    go_wp2
    go_loopw [5] (fun i wr => ∃ k : Nat, k ≤ n ∧ i = .int .i64 k ∧ (∀ j, j < k → Ser.tAt xs j = Ser.tAt ys j ∧ Ser.vAt xs j = Ser.vAt ys j) ∧ Below w.heap.size w wr) (fun i _ => n - (intOf i).toNat)
    case atStart => exact ⟨0, Nat.zero_le _, rfl, fun j hj => absurd hj (by omega), Below.refl _ _⟩
    case round =>
      obtain ⟨k, hk, rfl, hok, hb⟩ := hrel
      by_cases hlt : k < n
      · have hltm : k < m := by have := HNM.out; omega
        obtain ⟨b, off, rfl, hbB, hcell⟩ := h.at_ hlt
        obtain ⟨b2, off2, rfl, hbB2, hcell2⟩ := g.at_ hltm
        have h1 := (hb.cell (p := ⟨b, off + k * 2, none⟩) hbB).trans (hcell k hlt).1
        have h2 := (hb.cell (p := ⟨b, off + k * 2 + 1, none⟩) hbB).trans (hcell k hlt).2
        have g1 := (hb.cell (p := ⟨b2, off2 + k * 2, none⟩) hbB2).trans (hcell2 k hltm).1
        have g2 := (hb.cell (p := ⟨b2, off2 + k * 2 + 1, none⟩) hbB2).trans (hcell2 k hltm).2
        have HOK := Lib.hid hok
        have HL := Lib.hid hlen
        have GL := Lib.hid glen
        have hbs := hb.size
        clear hok hcell hcell2 h g hlen glen
        have j0 : (0 : Int) ≤ (k : Int) := by omega
        have j1 : (k : Int) < (n : Int) := by omega
        go_wp2
        go_quiet (fail)
        go_wp2
        · have hne : (!Ser.tAt xs k == Ser.tAt ys k) = true ∨ (!Ser.vAt xs k == Ser.vAt ys k) = true := by assumption
          go_ret
          refine ⟨ret_bool (Ser.ne_of_at hne).symm, (by repeat (first | assumption | exact Below.refl _ _ | apply Mem.below_drewN | apply Below.drew | refine Below.alloc ?_ (by first | assumption | omega | (simp; done) | (simp; omega)) _ | refine Below.setCell ?_ (by first | assumption | omega | (simp; done) | (simp; omega)) _))⟩
        · have he : (!Ser.tAt xs k == Ser.tAt ys k) = false ∧ (!Ser.vAt xs k == Ser.vAt ys k) = false := by assumption
          go_roundw
          case rel => exact ⟨k + 1, by omega, by go_num, Ser.eq_snoc HOK.out he, (by repeat (first | assumption | exact Below.refl _ _ | apply Mem.below_drewN | apply Below.drew | refine Below.alloc ?_ (by first | assumption | omega | (simp; done) | (simp; omega)) _ | refine Below.setCell ?_ (by first | assumption | omega | (simp; done) | (simp; omega)) _))⟩
          case measure => simp [intOf]; omega
      · obtain rfl : k = n := by omega
        go_wp2
        go_ret
        exact ⟨ret_bool (Ser.eq_of_at (by have := HNM.out; omega) (by rw [hlen]; exact hok)).symm, hb⟩
  · have hN : ((n : Int) != (m : Int)) = true := by simp; omega
    go_enter Try.func16, Try.ntmps16
    go_wp2
    go_ret
    exact ⟨ret_bool (by simp; rintro rfl; have := h.1; have := g.1; omega), Below.refl _ _⟩

theorem nilEql (w : World) (a : Option Addr) (n c : Nat) : (binOp .eql 33 (.slice a n c) (.slice none 0 0)).run Try.prog w = .ok (.bool a.isNone) w := Lib.run_eql_slice_nil w _ _ a n c 0 0 Try.underlying33
theorem smpInfo : (Try.prog.info? 25).map (fun i => (i.zero, i.size, i.bytes)) = some (some (.agg #[.int .i64 0, .int .i64 0]), 2, 16) := by kernel_rfl

set_option maxHeartbeats 400000 in
theorem clone_any (A : Option Addr) (n c : Nat) (xs : List (Int × Int)) (w : World) (h : Smp w w.heap.size A n c xs) (hn : n * 16 ≤ 140737488351232) :
    Calls Try.prog 33 #[.slice A n c] w fun e w' => ∃ v, e = .returned v ∧ w'.ownsRow w.heap.size 25 2 v n ((Ser.cells xs).map (Value.int .i64)) ∧ Below w.heap.size w w' := by
  obtain ⟨i0, hi0, hz0, hz1, hz2⟩ := info_parts smpInfo
  have hR := h.reads
  rcases A with _ | a
  · have hq := nilEql w none n c
    simp only [Option.isNone] at hq
    go_enter Try.func33, Try.ntmps33
    go_wp2
    go_ret
    obtain rfl : n = 0 := by
      rcases Nat.eq_zero_or_pos n with h0 | h0
      · exact h0
      · obtain ⟨_, _, e, _⟩ := h.at_ h0; cases e
    have hx : xs = [] := List.eq_nil_of_length_eq_zero h.1
    subst hx
    exact ⟨_, rfl, World.ownsRow_nil _ _ _ _, Below.refl _ _⟩
  · have hq := nilEql w (some a) n c
    simp only [Option.isNone] at hq
    go_enter Try.func33, Try.ntmps33
    have hone : ∀ u ∈ (Ser.cells xs).map (Value.int .i64), u.oneCell' = true := by
      intro u hu
      obtain ⟨x, _, rfl⟩ := List.mem_map.1 hu
      rfl
    have hown0 : (w.alloc (.cells #[] 25)).ownsRow w.heap.size 25 2 (.slice (some ⟨w.heap.size, 0, none⟩) 0 0) 0 [] := ⟨by simp, .inr ⟨w.heap.size, 0, #[], rfl, Nat.le_refl _, heap_alloc_new w _, Nat.le_refl _, by unfold maxLen; omega, rfl, rfl⟩⟩
    have HR := Lib.hid (hR.alloc (Nat.le_refl _) (.cells #[] 25))
    have HONE := Lib.hid hone
    have HOWN := Lib.hid hown0
    clear hR hone hown0 h
    go_wp2_with (at_builtin; refine Mem.wpList_append_any _ rfl (.tmp 5) (.tmp 6) 33 rfl w.heap.size 25 i0 _ 2 16 Try.underlying33 hi0 hz0 hz1 hz2 rfl (by decide) (.slice (some ⟨w.heap.size, 0, none⟩) 0 0) 0 [] rfl HOWN.out w.heap.size (some a) n c _ rfl HR.out HONE.out (by unfold maxLen; omega) (by omega) (by simp) ?_; intro v1 w1 hown1 hg1 hat1)
    go_ret
    refine ⟨_, rfl, by simpa using hown1, ?_⟩
    exact ((Below.refl _ _).alloc (Nat.le_refl _) _).grown hg1 (by simp) (fun k e => by simp [Value.ownBlock] at e; omega)
end Go.Proofs.Ytidfiiogjfpfmaa.SerW
