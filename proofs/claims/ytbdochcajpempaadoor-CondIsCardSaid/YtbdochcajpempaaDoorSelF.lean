/- The walk of sel's Parse. -/
import Derived.Test.YtbdochcajpempaaDoorSelE
import Derived.RegionTactic
import Derived.BigRegion
namespace Go.Proofs.YtbdochcajpempaaDoor
open Go.RowKit
set_option linter.unusedSimpArgs false
set_option linter.unusedVariables false

theorem selAt_mts {ts : List Sel.Tk} (W : World) : Mts W W.heap.size none 0 0 [] := ⟨Recs.none_ _ _, fun p hp => absurd hp (by simp)⟩
set_option maxRecDepth 100000 in
set_option maxHeartbeats 8000000 in
theorem parse_is (A : Option Addr) (n c : Nat) (x : Int) (ts : List Sel.Tk) (nm : ByteArray) (ms : List Sel.Mt) (j : Nat) (e0 : Int) (hs : Sel.parse ts x = (nm, ms, j, e0)) (w : World) (hT : Tks w w.heap.size A n c ts) :
    Calls Tryd.prog 24 #[.slice A n c, .int .i64 x] w fun e w' => ∃ A' n' c', e = .returned (.tuple #[.agg #[.string nm, .slice A' n' c'], .int .i64 (j : Nat), .int .i64 e0]) ∧ Mts w' w'.heap.size A' n' c' ms ∧ Below w.heap.size w w' := by
  have hl := hT.len
  have HT := Lib.hid hT
  clear hT
  unfold Sel.parse at hs
  by_cases hx : x < 0
  · rw [if_pos hx] at hs
    injection hs with hs1 hs
    injection hs with hs2 hs
    injection hs with hs3 hs4
    subst hs1 hs2 hs3 hs4
    have hd : decide (x < 0) = true := decide_eq_true hx
    clear hx
    go_enter Tryd.func24, Tryd.ntmps24
    go_wp2
    refine bodyPost_ret (v := .tuple #[.agg #[.string ⟨#[]⟩, .slice none 0 0], .int .i64 0, .int .i64 3]) (by simp [results, Tryd.results24, go_sem]) rfl ⟨none, 0, 0, rfl, ⟨Recs.none_ _ _, fun p hp => absurd hp (by simp)⟩, (by repeat (first | assumption | exact Below.refl _ _ | apply Mem.below_drewN | apply Below.drew | refine Below.alloc ?_ (by first | assumption | omega | (simp; done) | (simp; omega)) _ | refine Below.setCell ?_ (by first | assumption | omega | (simp; done) | (simp; omega)) _))⟩
  · rw [if_neg hx] at hs
    obtain ⟨X, hX⟩ : ∃ X : Nat, x = X := ⟨x.toNat, by omega⟩
    subst hX
    rw [show (X : Int).toNat = X from rfl, hl] at hs
    have hd : decide ((X : Int) < 0) = false := decide_eq_false hx
    clear hx
    by_cases hnx : n < X
    · rw [Nat.min_eq_right (by omega)] at hs
      have HS0 := Lib.hid hs
      have hd2 : decide (n < X) = true := decide_eq_true hnx
      clear hs
      go_enter Tryd.func24, Tryd.ntmps24
      go_wp2_with fail
      have hblk := (Mem.Blk.new w 24 #[.string ⟨#[]⟩, .slice none 0 0]).alloc (.cells #[.slice A n c, .int .i64 ((n : Nat) : Int)] 70)
      have hrd : Rd ((w.alloc (.cells #[.string ⟨#[]⟩, .slice none 0 0] 24)).alloc (.cells #[.slice A n c, .int .i64 ((n : Nat) : Int)] 70)) (w.heap.size + 1) A n c n := by
        have := Mem.Blk.new (w.alloc (.cells #[.string ⟨#[]⟩, .slice none 0 0] 24)) 70 #[.slice A n c, .int .i64 ((n : Nat) : Int)]
        simpa using this
      have hB2 : Below w.heap.size w ((w.alloc (.cells #[.string ⟨#[]⟩, .slice none 0 0] 24)).alloc (.cells #[.slice A n c, .int .i64 ((n : Nat) : Int)] 70)) := ((Below.refl _ w).alloc (Nat.le_refl _) _).alloc (by simp) _
      obtain ⟨W2, hW2⟩ : ∃ W, W = (w.alloc (.cells #[.string ⟨#[]⟩, .slice none 0 0] 24)).alloc (.cells #[.slice A n c, .int .i64 ((n : Nat) : Int)] 70) := ⟨_, rfl⟩
      rw [← hW2] at hblk hrd hB2 ⊢
      clear hW2
      obtain ⟨r, hr⟩ : ∃ r, r = w.heap.size + 1 := ⟨_, rfl⟩
      rw [← hr] at hrd ⊢
      have hT2 : Tks W2 r A n c ts := (HT.out.below hB2).more (by omega)
      refine (sel_is r A n c n ts nm ms j e0 HS0.out W2 hT2 hrd).mono ?_
      rintro e w3 ⟨A', n', c', rfl, hM3, hR3, hb3⟩
      have hs3 := hb3.size
      have hrl := hrd.lt
      have hblk3 := hb3.blk hblk (by omega)
      have hB3 := hB2.trans (hb3.below (B := w.heap.size) (by omega) (by omega))
      have ha := (Below.refl w3.heap.size w3).alloc (Nat.le_refl _) (.cells #[.string nm, .slice A' n' c'] 24)
      have HM4 := Lib.hid (hM3.alloc (.cells #[.string nm, .slice A' n' c'] 24))
      have hw2 : w.heap.size < W2.heap.size := by omega
      have HR4 := Lib.hid (hR3.alloc (.cells #[.string nm, .slice A' n' c'] 24))
      have HK4 := Lib.hid (hblk3.alloc (.cells #[.string nm, .slice A' n' c'] 24))
      have HN4 := Lib.hid (Mem.Blk.new w3 24 #[.string nm, .slice A' n' c'])
      have HB4 := Lib.hid (hB3.alloc (by have := hB3.size; omega) (.cells #[.string nm, .slice A' n' c'] 24))
      have hg4 : w.heap.size < w3.heap.size := by omega
      have hn4 : w3.heap.size < (w3.alloc (.cells #[.string nm, .slice A' n' c'] 24)).heap.size := by simp
      clear hblk hrd hB2 hT2 hM3 hR3 hb3 hblk3 hB3 ha
      go_wp2
      generalize w3.alloc (.cells #[.string nm, .slice A' n' c'] 24) = w4 at HM4 HR4 HK4 HN4 HB4 hn4 ⊢
      have q0 := HN4.out.cell 0
      have q1 := HN4.out.cell 1
      have m1 := HR4.out.cell 1
      have f0 := HK4.out.frozen 0
      have f1 := HK4.out.frozen 1
      have g0 := HK4.out.cell 0
      have g1 := HK4.out.cell 1
      simp at q0 q1 m1 g0 g1
      rw [hr] at m1
      go_region
      go_wp2
      have HZ := Lib.hid ((HK4.out.set_ 0 (.string nm)).set_ 1 (.slice A' n' c'))
      have z0 := HZ.out.cell 0
      have z1 := HZ.out.cell 1
      simp at z0 z1
      refine bodyPost_ret (v := .tuple #[.agg #[.string nm, .slice A' n' c'], .int .i64 (j : Nat), .int .i64 e0]) (by simp [results, Tryd.results24, go_sem, z0, z1]) rfl ⟨A', n', c', rfl, ?_, ?_⟩
      · exact ((HM4.out.set_ hw2 (.string nm)).set_ hw2 (.slice A' n' c')).mts
      · exact ((HB4.out.setCell (Nat.le_refl _) (.string nm)).setCell (Nat.le_refl _) (.slice A' n' c')).drew
    · rw [Nat.min_eq_left (by omega)] at hs
      have HS0 := Lib.hid hs
      have hd2 : decide (n < X) = false := decide_eq_false hnx
      clear hs
      go_enter Tryd.func24, Tryd.ntmps24
      go_wp2_with fail
      have hblk := (Mem.Blk.new w 24 #[.string ⟨#[]⟩, .slice none 0 0]).alloc (.cells #[.slice A n c, .int .i64 ((X : Nat) : Int)] 70)
      have hrd : Rd ((w.alloc (.cells #[.string ⟨#[]⟩, .slice none 0 0] 24)).alloc (.cells #[.slice A n c, .int .i64 ((X : Nat) : Int)] 70)) (w.heap.size + 1) A n c X := by
        have := Mem.Blk.new (w.alloc (.cells #[.string ⟨#[]⟩, .slice none 0 0] 24)) 70 #[.slice A n c, .int .i64 ((X : Nat) : Int)]
        simpa using this
      have hB2 : Below w.heap.size w ((w.alloc (.cells #[.string ⟨#[]⟩, .slice none 0 0] 24)).alloc (.cells #[.slice A n c, .int .i64 ((X : Nat) : Int)] 70)) := ((Below.refl _ w).alloc (Nat.le_refl _) _).alloc (by simp) _
      obtain ⟨W2, hW2⟩ : ∃ W, W = (w.alloc (.cells #[.string ⟨#[]⟩, .slice none 0 0] 24)).alloc (.cells #[.slice A n c, .int .i64 ((X : Nat) : Int)] 70) := ⟨_, rfl⟩
      rw [← hW2] at hblk hrd hB2 ⊢
      clear hW2
      obtain ⟨r, hr⟩ : ∃ r, r = w.heap.size + 1 := ⟨_, rfl⟩
      rw [← hr] at hrd ⊢
      have hT2 : Tks W2 r A n c ts := (HT.out.below hB2).more (by omega)
      refine (sel_is r A n c X ts nm ms j e0 HS0.out W2 hT2 hrd).mono ?_
      rintro e w3 ⟨A', n', c', rfl, hM3, hR3, hb3⟩
      have hs3 := hb3.size
      have hrl := hrd.lt
      have hblk3 := hb3.blk hblk (by omega)
      have hB3 := hB2.trans (hb3.below (B := w.heap.size) (by omega) (by omega))
      have ha := (Below.refl w3.heap.size w3).alloc (Nat.le_refl _) (.cells #[.string nm, .slice A' n' c'] 24)
      have HM4 := Lib.hid (hM3.alloc (.cells #[.string nm, .slice A' n' c'] 24))
      have hw2 : w.heap.size < W2.heap.size := by omega
      have HR4 := Lib.hid (hR3.alloc (.cells #[.string nm, .slice A' n' c'] 24))
      have HK4 := Lib.hid (hblk3.alloc (.cells #[.string nm, .slice A' n' c'] 24))
      have HN4 := Lib.hid (Mem.Blk.new w3 24 #[.string nm, .slice A' n' c'])
      have HB4 := Lib.hid (hB3.alloc (by have := hB3.size; omega) (.cells #[.string nm, .slice A' n' c'] 24))
      have hg4 : w.heap.size < w3.heap.size := by omega
      have hn4 : w3.heap.size < (w3.alloc (.cells #[.string nm, .slice A' n' c'] 24)).heap.size := by simp
      clear hblk hrd hB2 hT2 hM3 hR3 hb3 hblk3 hB3 ha
      go_wp2
      generalize w3.alloc (.cells #[.string nm, .slice A' n' c'] 24) = w4 at HM4 HR4 HK4 HN4 HB4 hn4 ⊢
      have q0 := HN4.out.cell 0
      have q1 := HN4.out.cell 1
      have m1 := HR4.out.cell 1
      have f0 := HK4.out.frozen 0
      have f1 := HK4.out.frozen 1
      have g0 := HK4.out.cell 0
      have g1 := HK4.out.cell 1
      simp at q0 q1 m1 g0 g1
      rw [hr] at m1
      go_region
      go_wp2
      have HZ := Lib.hid ((HK4.out.set_ 0 (.string nm)).set_ 1 (.slice A' n' c'))
      have z0 := HZ.out.cell 0
      have z1 := HZ.out.cell 1
      simp at z0 z1
      refine bodyPost_ret (v := .tuple #[.agg #[.string nm, .slice A' n' c'], .int .i64 (j : Nat), .int .i64 e0]) (by simp [results, Tryd.results24, go_sem, z0, z1]) rfl ⟨A', n', c', rfl, ?_, ?_⟩
      · exact ((HM4.out.set_ hw2 (.string nm)).set_ hw2 (.slice A' n' c')).mts
      · exact ((HB4.out.setCell (Nat.le_refl _) (.string nm)).setCell (Nat.le_refl _) (.slice A' n' c')).drew
end Go.Proofs.YtbdochcajpempaaDoor
