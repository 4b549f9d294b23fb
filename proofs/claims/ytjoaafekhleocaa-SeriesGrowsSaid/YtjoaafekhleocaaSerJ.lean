/- The walks of the reference's At and Between. -/
import Derived.Test.YtjoaafekhleocaaSerI
namespace Go.Proofs.Ytjoaafekhleocaa
open Go.RowKit

set_option linter.unusedSimpArgs false
set_option linter.unusedVariables false

/-- what At hands back -/
def AtR (w : World) (p : (Int × Int) × Bool) (e : Ending) (w' : World) : Prop :=
  e = .returned (.tuple #[.agg #[.int .i64 p.1.1, .int .i64 p.1.2], .bool p.2]) ∧ Below w.heap.size w w'

set_option maxRecDepth 100000 in
set_option maxHeartbeats 2000000 in
theorem rAt_any (A : Option Addr) (m c : Nat) (xs : List (Int × Int)) (t window : Int) (w : World) (ht : t ≤ 9223372036854775807) (h : Smp w w.heap.size A m c xs) :
    Calls Try.prog 13 #[.slice A m c, .int .i64 t, .int .i64 window] w (AtR w (Ser.atP xs t window)) := by
  go_enter Try.func13, Try.ntmps13
  go_wp2_with fail
  refine (as_any w.heap.size A m c xs _ (by simp) (h.alloc (Nat.le_refl _) _)).mono ?_
  rintro e w1 ⟨A', n', c', rfl, hS, hB⟩
  have b6 := (Mem.Blk.new w 24 #[.int .i64 0, .int .i64 0]).below hB (by simp)
  have c6 := b6.cell 0
  have c6' := b6.cell 1
  have f6 := b6.frozen 0
  have f6' := b6.frozen 1
  have hsz := hB.size
  have hB1 : Below w.heap.size w w1 := ((Below.refl _ _).alloc (Nat.le_refl _) _).trans (hB.mono (by simp))
  have hc1 := hS.2.1
  have hc2 := hS.2.2.1
  have HL := Lib.hid hS.1
  have HS := Lib.hid hS
  have HH := Lib.hid h
  simp at c6 c6' hsz
  clear hS h hB b6
  go_wp2
  go_loop [9] (fun i => ∃ r : Nat, r ≤ n' ∧ i = .int .i64 ((r : Int) - 1) ∧ ∀ j, r ≤ j → j < n' → t < Ser.tAt (Ser.counted xs) j) (fun i => (intOf i + 1).toNat)
  case atStart => exact ⟨n', Nat.le_refl _, by go_num, fun j h1 h2 => absurd h1 (by omega)⟩
  case round =>
    obtain ⟨r, hr, rfl, hlate⟩ := hrel
    have HLT := Lib.hid hlate
    clear hlate
    rcases r with _ | s
    · go_wp2
      refine bodyPost_ret (v := .tuple #[.agg #[.int .i64 0, .int .i64 0], .bool false]) (by simp [results, Try.results13, go_sem, c6, c6', f6, f6']) rfl ⟨?_, ?_⟩
      · rw [Ser.atP_no (fun j hj => HLT.out j (Nat.zero_le _) (by rw [← HL.out]; exact hj))]
      · exact (by repeat (first | assumption | exact Below.refl _ _ | apply Mem.below_drewN | apply Below.drew | refine Below.alloc ?_ (by first | assumption | omega | (simp; done) | (simp; omega)) _ | refine Below.setCell ?_ (by first | assumption | omega | (simp; done) | (simp; omega)) _))
    · have es : ((s + 1 : Nat) : Int) - 1 = (s : Int) := by omega
      rw [es]
      clear es
      have hlt : s < n' := by omega
      obtain ⟨b, off, hA, hbB, hcell⟩ := HS.out.at_ hlt
      subst hA
      have h1 := (hcell s hlt).1
      have h2 := (hcell s hlt).2
      have hbd := Ser.tAt_bound (xs := xs) (s := s) (by rw [HL.out]; exact hlt)
      have hb0 := hbd.1
      have hb1 := hbd.2
      clear hcell hbd
      by_cases hle : Ser.tAt (Ser.counted xs) s ≤ t
      · have ht0 : (0 : Int) ≤ t := by omega
        by_cases hw : t - Ser.tAt (Ser.counted xs) s < window
        · go_wp2
          refine bodyPost_ret (v := .tuple #[.agg #[.int .i64 (Ser.tAt (Ser.counted xs) s), .int .i64 (Ser.vAt (Ser.counted xs) s)], .bool true]) (by simp [results, Try.results13, go_sem, c6, c6', f6, f6']) rfl ⟨?_, ?_⟩
          · rw [Ser.atP_at (by rw [HL.out]; exact hlt) (fun j h1 h2 => HLT.out j h1 (by rw [← HL.out]; exact h2)) hle, if_pos hw]
          · exact (by repeat (first | assumption | exact Below.refl _ _ | apply Mem.below_drewN | apply Below.drew | refine Below.alloc ?_ (by first | assumption | omega | (simp; done) | (simp; omega)) _ | refine Below.setCell ?_ (by first | assumption | omega | (simp; done) | (simp; omega)) _))
        · go_wp2
          refine bodyPost_ret (v := .tuple #[.agg #[.int .i64 0, .int .i64 0], .bool false]) (by simp [results, Try.results13, go_sem, c6, c6', f6, f6']) rfl ⟨?_, ?_⟩
          · rw [Ser.atP_at (by rw [HL.out]; exact hlt) (fun j h1 h2 => HLT.out j h1 (by rw [← HL.out]; exact h2)) hle, if_neg (by omega)]
          · exact (by repeat (first | assumption | exact Below.refl _ _ | apply Mem.below_drewN | apply Below.drew | refine Below.alloc ?_ (by first | assumption | omega | (simp; done) | (simp; omega)) _ | refine Below.setCell ?_ (by first | assumption | omega | (simp; done) | (simp; omega)) _))
      · go_wp2
        go_round
        case rel => exact ⟨s, by omega, by go_num, Ser.later_step HLT.out (by omega)⟩
        case measure => simp [intOf]

set_option maxRecDepth 100000 in
set_option maxHeartbeats 2000000 in
theorem rBetween_any (A : Option Addr) (m c : Nat) (xs : List (Int × Int)) (a b : Int) (w : World) (h : Smp w w.heap.size A m c xs) :
    Calls Try.prog 18 #[.slice A m c, .int .i64 a, .int .i64 b] w fun e w' => ∃ v, e = .returned v ∧ w'.ownsRow w.heap.size 24 2 v (Ser.between xs a b).length ((Ser.cells (Ser.between xs a b)).map (Value.int .i64)) ∧ Below w.heap.size w w' := by
  obtain ⟨i0, hi0, hz0, hz1, hz2⟩ := info_parts smpInfo
  go_enter Try.func18, Try.ntmps18
  go_wp2_with fail
  refine (as_any w.heap.size A m c xs _ (Nat.le_refl _) h).mono ?_
  rintro e w1 ⟨A', n', c', rfl, hS, hB⟩
  have hc1 := hS.2.1
  have hc2 := hS.2.2.1
  have hlen64 : n' ≤ 64 := by rw [← hS.1]; exact Ser.counted_length xs
  have HL := Lib.hid hS.1
  have HS := Lib.hid hS
  have HH := Lib.hid h
  have hsz := hB.size
  clear hS h
  go_wp2
  go_loopw [8, 9] (fun v i wr => ∃ k : Nat, k ≤ n' ∧ i = .int .i64 k ∧ wr.ownsRow w.heap.size 24 2 v (((Ser.counted xs).take k).filter (Ser.inside a b)).length ((Ser.cells (((Ser.counted xs).take k).filter (Ser.inside a b))).map (Value.int .i64)) ∧ Below w.heap.size w1 wr)
    (fun _ i _ => n' - (intOf i).toNat)
  case atStart => exact ⟨0, Nat.zero_le _, rfl, World.ownsRow_nil _ _ _ _, Below.refl _ _⟩
  case round =>
    obtain ⟨k, hk, rfl, hown, hbr⟩ := hrel
    have hbs := hbr.size
    by_cases hlt : k < n'
    · obtain ⟨b0, off, hA, hbB, hcell⟩ := HS.out.at_ hlt
      subst hA
      have h1 := (hbr.cell (p := ⟨b0, off + k * 2, none⟩) hbB).trans (hcell k hlt).1
      have h2 := (hbr.cell (p := ⟨b0, off + k * 2 + 1, none⟩) hbB).trans (hcell k hlt).2
      clear hcell
      have hft := Ser.filter_take (ys := Ser.counted xs) (k := k) (by rw [HL.out]; exact hlt) (Ser.inside a b)
      have HF := Lib.hid hft
      have hfl : (((Ser.counted xs).take k).filter (Ser.inside a b)).length ≤ k := Nat.le_trans (List.length_filter_le _ _) (List.length_take_le _ _)
      have HO := Lib.hid hown
      clear hown hft
      by_cases h3 : a ≤ Ser.tAt (Ser.counted xs) k
      · by_cases h4 : Ser.tAt (Ser.counted xs) k ≤ b
        · go_wp2_with (at_builtin; refine wpList_append_own _ rfl _ _ 22 rfl w.heap.size 24 i0 _ 2 16 Try.underlying22 hi0 hz0 hz1 hz2 rfl (by decide) _ _ _ rfl (HO.out.alloc _) ⟨wr.heap.size, 0, none⟩ 1 1 [.int .i64 (Ser.tAt (Ser.counted xs) k), .int .i64 (Ser.vAt (Ser.counted xs) k)] rfl rfl (World.news_of_block (cs := #[.int .i64 (Ser.tAt (Ser.counted xs) k), .int .i64 (Ser.vAt (Ser.counted xs) k)]) (t := 24) (fr := (0, 0)) (heap_alloc_new wr _)) (by simp [Value.oneCell']) (by unfold maxLen; omega) (by omega) (by simp; omega) ?_; intro v' w2 hown2 hg2 _)
          go_roundw
          case rel =>
            have hin : Ser.inside a b (Ser.tAt (Ser.counted xs) k, Ser.vAt (Ser.counted xs) k) = true := by simp [Ser.inside, h3, h4]
            refine ⟨k + 1, by omega, by go_num, ?_, ?_⟩
            · rw [HF.out, hin, if_pos rfl, List.length_append, Ser.cells_snoc, List.map_append]
              exact hown2
            · exact (hbr.alloc (by omega) _).grown hg2 (by simp; omega) (fun j e => own_ge HO.out e)
          case measure => simp [intOf]; omega
        · go_wp2
          go_roundw
          case rel =>
            have hin : Ser.inside a b (Ser.tAt (Ser.counted xs) k, Ser.vAt (Ser.counted xs) k) = false := by simp [Ser.inside]; omega
            exact ⟨k + 1, by omega, by go_num, by rw [HF.out, hin, if_neg (by simp), List.append_nil]; exact HO.out, hbr⟩
          case measure => simp [intOf]; omega
      · go_wp2
        go_roundw
        case rel =>
          have hin : Ser.inside a b (Ser.tAt (Ser.counted xs) k, Ser.vAt (Ser.counted xs) k) = false := by simp [Ser.inside]; omega
          exact ⟨k + 1, by omega, by go_num, by rw [HF.out, hin, if_neg (by simp), List.append_nil]; exact HO.out, hbr⟩
        case measure => simp [intOf]; omega
    · obtain rfl : k = n' := by omega
      have HO := Lib.hid hown
      clear hown
      go_wp2
      go_ret
      refine ⟨_, rfl, ?_, hB.trans (hbr.mono (Nat.le_refl _))⟩
      have := HO.out
      rw [List.take_of_length_le (by rw [HL.out]; omega)] at this
      exact this
end Go.Proofs.Ytjoaafekhleocaa
