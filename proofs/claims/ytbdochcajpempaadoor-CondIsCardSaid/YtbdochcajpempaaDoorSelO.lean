/- The texts SelN, SelO in one. -/
import Derived.Test.YtbdochcajpempaaDoorSelL
import Derived.Test.YtbdochcajpempaaDoorSelM
/- The state of the reference's Parse. -/
namespace Go.Proofs.YtbdochcajpempaaDoor
open Go.RowKit
set_option linter.unusedSimpArgs false
set_option linter.unusedVariables false

/-- the state of the loop of the reference's Parse -/
structure RS (w : World) (nm : ByteArray) (v : Value) (ms : List Sel.Mt) (wr : World) : Prop where
  res : Mem.Blk wr w.heap.size 24 #[.string ⟨#[]⟩, .slice none 0 0]
  non : Mem.Blk wr (w.heap.size + 1) 24 #[.string ⟨#[]⟩, .slice none 0 0]
  cur : Mem.Blk wr (w.heap.size + 2) 24 #[.string nm, v]
  own : wr.ownsRow (w.heap.size + 3) 45 3 v ms.length (ms.flatMap mtCells)
  low : Below w.heap.size w wr
  good : ∀ p ∈ ms, p.1.size ≤ 64 ∧ p.2.1.size ≤ 64
theorem own_below {W W' : World} {base : Nat} {e : TypeId} {sz n : Nat} {v : Value} {xs : List Value} (h : W.ownsRow base e sz v n xs) (hb : Below W.heap.size W W') : W'.ownsRow base e sz v n xs := by
  obtain ⟨h1, h2⟩ := h
  refine ⟨h1, ?_⟩
  rcases h2 with h0 | ⟨g, cap, cur, hv, hbg, hg, rest⟩
  · exact .inl h0
  · exact .inr ⟨g, cap, cur, hv, hbg, (hb.block g (Array.getElem?_eq_some_iff.1 hg).1).trans hg, rest⟩
section
variable {w wr w' : World} {nm : ByteArray} {v v' : Value} {ms : List Sel.Mt}
theorem RS.keep (h : RS w nm v ms wr) (hb : Below wr.heap.size wr w') : RS w nm v ms w' :=
  ⟨h.res.below hb h.res.lt, h.non.below hb h.non.lt, h.cur.below hb h.cur.lt, own_below h.own hb, h.low.trans (hb.mono h.low.size), h.good⟩
theorem RS.grown {ms' : List Sel.Mt} (h : RS w nm v ms wr) (hgr : wr.grownBy w' v.ownBlock) (hown : w'.ownsRow (w.heap.size + 3) 45 3 v' ms'.length (ms'.flatMap mtCells)) (hgood : ∀ p ∈ ms', p.1.size ≤ 64 ∧ p.2.1.size ≤ 64) :
    RS w nm v' ms' (w'.setCell ⟨w.heap.size + 2, 1, none⟩ v') := by
  have hne : ∀ k, k ≤ w.heap.size + 2 → some k ≠ v.ownBlock := fun k hk e => by have := (h.own.lt k e.symm).1; omega
  have hb : Below (w.heap.size + 3) wr w' := ⟨hgr.os, hgr.tape, hgr.output, hgr.size, fun k hk => by
    rcases Nat.lt_or_ge k wr.heap.size with h1 | h1
    · exact hgr.block k h1 (hne k (by omega))
    · have := h.cur.lt; omega⟩
  have hcur := (hgr.block _ h.cur.lt (hne _ (Nat.le_refl _))).trans h.cur
  have hb1 : Below (w.heap.size + 2) wr w' := hb.mono (by omega)
  have hb2 : Below (w.heap.size + 2) wr (w'.setCell ⟨w.heap.size + 2, 1, none⟩ v') := hb1.setCell (p := ⟨w.heap.size + 2, 1, none⟩) (Nat.le_refl _) v'
  exact ⟨h.res.below hb2 (by omega), h.non.below hb2 (by omega), by simpa using Mem.Blk.set_ (w := w') hcur 1 v', ownsRow_setCell_below hown (by show w.heap.size + 2 < w.heap.size + 3; omega) _, h.low.trans (hb2.mono (by omega)), hgood⟩
theorem RS.far (h : RS w nm v ms wr) (s : ByteArray) (u : Value) :
    Mem.Blk ((wr.setCell ⟨w.heap.size, 0, none⟩ (.string s)).setCell ⟨w.heap.size, 1, none⟩ u) w.heap.size 24 #[.string s, u] ∧
    Below w.heap.size w ((wr.setCell ⟨w.heap.size, 0, none⟩ (.string s)).setCell ⟨w.heap.size, 1, none⟩ u) :=
  ⟨by simpa using (h.res.set_ 0 (.string s)).set_ 1 u, (h.low.setCell (Nat.le_refl _) _).setCell (Nat.le_refl _) _⟩
theorem RS.mts (h : RS w nm v ms wr) (s : ByteArray) (u : Value) : ∃ A' n' c', v = .slice A' n' c' ∧
    Mts ((wr.setCell ⟨w.heap.size, 0, none⟩ (.string s)).setCell ⟨w.heap.size, 1, none⟩ u) ((wr.setCell ⟨w.heap.size, 0, none⟩ (.string s)).setCell ⟨w.heap.size, 1, none⟩ u).heap.size A' n' c' ms := by
  have h2 := ownsRow_setCell_below (ownsRow_setCell_below h.own (a := ⟨w.heap.size, 0, none⟩) (by show w.heap.size < w.heap.size + 3; omega) (.string s)) (a := ⟨w.heap.size, 1, none⟩) (by show w.heap.size < w.heap.size + 3; omega) u
  obtain ⟨A', c', e, -⟩ := Recs.of_own mtCells_len (by decide) h2
  subst e
  exact ⟨A', _, c', rfl, MtsOwn.mts ⟨h2, h.good⟩⟩
end
theorem mts_none (W : World) : Mts W W.heap.size none 0 0 [] := ⟨Recs.none_ _ _, fun p hp => absurd hp (by simp)⟩
theorem parse_bad {ts : List Sel.Tk} {X n : Nat} (hl : ts.length = n) (h : Sel.nameE ts X ≠ 0) : Sel.parse ts (X : Int) = (⟨#[]⟩, [], min X n, Sel.nameE ts X) := by
  unfold Sel.parse
  rw [if_neg (by omega), show (X : Int).toNat = X from rfl, hl]
  by_cases hx : X ≤ n
  · rw [Nat.min_eq_left hx]
    unfold Sel.selAt
    rw [if_pos h]
  · rw [Nat.min_eq_right (by omega)]
    unfold Sel.selAt
    have h1 : Sel.nameE ts n = 3 := Sel.nameE_none (List.getElem?_eq_none (by omega))
    have h2 : Sel.nameE ts X = 3 := Sel.nameE_none (List.getElem?_eq_none (by omega))
    rw [h1, h2, if_pos (by decide)]
theorem parse_good {ts : List Sel.Tk} {X : Nat} (h : Sel.nameE ts X = 0) : Sel.parse ts (X : Int) = (if Sel.isS ts (X + 1) Sel.opS = false then (Sel.sOf ts X, [], X + 1, 0)
  else if Sel.isS ts (X + 2) Sel.clS = true then (Sel.sOf ts X, [], X + 3, 0)
  else selEnd (Sel.sOf ts X) (Sel.matches_ ts 10 (X + 2) [])) := by
  unfold Sel.parse
  have := Sel.nameE_lt h
  rw [if_neg (by omega), show (X : Int).toNat = X from rfl, Nat.min_eq_left (by omega)]
  unfold Sel.selAt
  rw [if_neg (by omega)]
  rfl
end Go.Proofs.YtbdochcajpempaaDoor

/- The walk of the reference's Parse. -/
namespace Go.Proofs.YtbdochcajpempaaDoor
open Go.RowKit
set_option linter.unusedSimpArgs false
set_option linter.unusedVariables false

set_option maxRecDepth 100000 in
set_option maxHeartbeats 8000000 in
theorem rParse_bad (A : Option Addr) (n c i : Nat) (ts : List Sel.Tk) (j : Nat) (hj : j = min i n) (e0 : Int) (he : Sel.nameE ts i = e0) (h1 : e0 ≠ 0) (w : World) (hT : Tks w w.heap.size A n c ts) :
    Calls Tryd.prog 65 #[.slice A n c, .int .i64 (i : Nat)] w fun e w' => ∃ A' n' c', e = .returned (.tuple #[.agg #[.string ⟨#[]⟩, .slice A' n' c'], .int .i64 (j : Nat), .int .i64 e0]) ∧ Mts w' w'.heap.size A' n' c' [] ∧ Below w.heap.size w w' := by
  have HT := Lib.hid hT
  have HE0 := Lib.hid he
  have HJ := Lib.hid hj
  clear hT he hj
  go_enter Tryd.func65, Tryd.ntmps65
  go_wp2_with fail
  have HT2 := Lib.hid (((HT.out.alloc (Nat.le_refl _) (.cells #[.string ⟨#[]⟩, .slice none 0 0] 24)).alloc (by simp) (.cells #[.string ⟨#[]⟩, .slice none 0 0] 24)).more (show w.heap.size ≤ ((w.alloc (.cells #[.string ⟨#[]⟩, .slice none 0 0] 24)).alloc (.cells #[.string ⟨#[]⟩, .slice none 0 0] 24)).heap.size by simp; omega))
  refine (rNameAt_is _ n c i ts e0 HE0.out _ HT2.out).mono ?_
  rintro e w' ⟨rfl, rfl⟩
  go_wp2
  go_region_with (go_at_call 48; refine (place_is _ n c i j HJ.out _).mono ?_; rintro e w' ⟨rfl, rfl⟩)
  all_goals
    go_wp2
    refine bodyPost_ret (v := .tuple #[.agg #[.string ⟨#[]⟩, .slice none 0 0], .int .i64 ((j : Nat) : Int), .int .i64 e0]) (by simp [results, Tryd.results65, go_sem, Act.put]) (by first | rfl | simp [Act.put]) ⟨none, 0, 0, by rfl, mts_none _, (by repeat (first | assumption | exact Below.refl _ _ | apply Mem.below_drewN | apply Below.drew | refine Below.alloc ?_ (by first | assumption | omega | (simp; done) | (simp; omega)) _ | refine Below.setCell ?_ (by first | assumption | omega | (simp; done) | (simp; omega)) _))⟩
set_option maxRecDepth 100000 in
set_option maxHeartbeats 8000000 in
theorem rParse_neg (A : Option Addr) (n c : Nat) (x : Int) (hx : x < 0) (ts : List Sel.Tk) (w : World) (hT : Tks w w.heap.size A n c ts) :
    Calls Tryd.prog 65 #[.slice A n c, .int .i64 x] w fun e w' => ∃ A' n' c', e = .returned (.tuple #[.agg #[.string ⟨#[]⟩, .slice A' n' c'], .int .i64 0, .int .i64 3]) ∧ Mts w' w'.heap.size A' n' c' [] ∧ Below w.heap.size w w' := by
  have HT := Lib.hid hT
  clear hT
  go_enter Tryd.func65, Tryd.ntmps65
  go_wp2_with fail
  have HT2 := Lib.hid (((HT.out.alloc (Nat.le_refl _) (.cells #[.string ⟨#[]⟩, .slice none 0 0] 24)).alloc (by simp) (.cells #[.string ⟨#[]⟩, .slice none 0 0] 24)).more (show w.heap.size ≤ ((w.alloc (.cells #[.string ⟨#[]⟩, .slice none 0 0] 24)).alloc (.cells #[.string ⟨#[]⟩, .slice none 0 0] 24)).heap.size by simp; omega))
  refine (rNameAt_neg _ n c x hx _).mono ?_
  rintro e w' ⟨rfl, rfl⟩
  go_wp2
  go_region_with (go_at_call 48; refine (place_neg _ n c x hx _).mono ?_; rintro e w' ⟨rfl, rfl⟩)
  all_goals
    go_wp2
    refine bodyPost_ret (v := .tuple #[.agg #[.string ⟨#[]⟩, .slice none 0 0], .int .i64 0, .int .i64 3]) (by simp [results, Tryd.results65, go_sem, Act.put]) (by first | rfl | simp [Act.put]) ⟨none, 0, 0, by rfl, mts_none _, (by repeat (first | assumption | exact Below.refl _ _ | apply Mem.below_drewN | apply Below.drew | refine Below.alloc ?_ (by first | assumption | omega | (simp; done) | (simp; omega)) _ | refine Below.setCell ?_ (by first | assumption | omega | (simp; done) | (simp; omega)) _))⟩
end Go.Proofs.YtbdochcajpempaaDoor
