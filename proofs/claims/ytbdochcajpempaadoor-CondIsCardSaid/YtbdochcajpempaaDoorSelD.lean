/- The walk of the reader's sel: a selector. -/
import Derived.Test.YtbdochcajpempaaDoorSelC
namespace Go.Proofs.YtbdochcajpempaaDoor
open Go.RowKit
set_option linter.unusedSimpArgs false
set_option linter.unusedVariables false

theorem infoMt : (Tryd.prog.info? 45).map (fun i => (i.zero, i.size, i.bytes)) = some (some (.agg #[.string ⟨#[]⟩, .string ⟨#[]⟩, .bool false]), 3, 40) := by kernel_rfl
def lenOf : Option Value → Nat | some (.slice _ n _) => n | _ => 0
theorem matches_up {ts : List Sel.Tk} {f j : Nat} {ms : List Sel.Mt} {m : Sel.Mt} {i : Nat} {e : Int} (h : Sel.matchAt ts i ms.length = (m, j, e)) :
    Sel.matches_ ts (f + 1) i ms = if e ≠ 0 then ([], j, e) else if Sel.isS ts j Sel.clS = true then (ms ++ [m], j + 1, 0) else if Sel.isS ts j Sel.coS = true then Sel.matches_ ts f (j + 1) (ms ++ [m]) else ([], j, Sel.wrong ts j) := by
  rw [Sel.matches_, h]
theorem matchAt_ok {ts : List Sel.Tk} {i k j : Nat} {m : Sel.Mt} (h : Sel.matchAt ts i k = (m, j, 0)) : Lab.name m.1 = true ∧ m.2.1.size ≤ 64 ∧ k < 8 ∧ j = i + 3 := by
  unfold Sel.matchAt at h
  by_cases h1 : Sel.nameE ts i ≠ 0
  · rw [if_pos h1] at h
    injection h with _ h
    injection h with _ h
    exact absurd h h1
  · rw [if_neg h1] at h
    by_cases h2 : Sel.isS ts (i + 1) Sel.neS = false ∧ Sel.isS ts (i + 1) Sel.eqS = false
    · rw [if_pos h2] at h
      injection h with _ h
      injection h with _ h
      exact absurd h (Sel.wrong_ne _ _)
    · rw [if_neg h2] at h
      by_cases h3 : Sel.valE ts (i + 2) k ≠ 0
      · rw [if_pos h3] at h
        injection h with _ h
        injection h with _ h
        exact absurd h h3
      · rw [if_neg h3] at h
        injection h with hm h
        injection h with h _
        have h3 : Sel.valE ts (i + 2) k = 0 := by omega
        have h1 : Sel.nameE ts i = 0 := by omega
        have hm1 := congrArg (·.1) hm
        have hm2 := congrArg (·.2.1) hm
        simp only at hm1 hm2
        refine ⟨?_, ?_, ?_, h.symm⟩
        · rw [← hm1]
          rcases hx : ts[i]? with _ | t
          · rw [Sel.nameE_none hx] at h1; cases h1
          · rw [Sel.nameE_some hx] at h1
            rw [Sel.sOf_some hx]
            split at h1
            · split at h1
              · assumption
              · omega
            · omega
        · rw [← hm2]
          rcases hx : ts[i + 2]? with _ | t
          · rw [Sel.valE_none hx] at h3; cases h3
          · rw [Sel.valE_some hx] at h3
            rw [Sel.sOf_some hx]
            split at h3
            · split at h3
              · omega
              · omega
            · omega
        · rcases hx : ts[i + 2]? with _ | t
          · rw [Sel.valE_none hx] at h3; cases h3
          · rw [Sel.valE_some hx] at h3
            split at h3
            · split at h3
              · omega
              · omega
            · omega
theorem name_size {s : ByteArray} (h : Lab.name s = true) : 1 ≤ s.size ∧ s.size ≤ 64 := by
  unfold Lab.name at h
  rw [Bool.and_eq_true, Bool.and_eq_true, decide_eq_true_eq, decide_eq_true_eq] at h
  exact h.1

def selEnd (s0 : ByteArray) (x : List Sel.Mt × Nat × Int) : ByteArray × List Sel.Mt × Nat × Int := if x.2.2 ≠ 0 then (⟨#[]⟩, [], x.2.1, x.2.2) else (s0, x.1, x.2.1, 0)
theorem own_mono {w : World} {b b' : Nat} {e : TypeId} {sz n : Nat} {v : Value} {xs : List Value} (h : w.ownsRow b e sz v n xs) (hb : b' ≤ b) : w.ownsRow b' e sz v n xs := by
  obtain ⟨h1, h2⟩ := h
  refine ⟨h1, ?_⟩
  rcases h2 with h0 | ⟨g, cap, cur, hv, hbg, rest⟩
  · exact .inl h0
  · exact .inr ⟨g, cap, cur, hv, by omega, rest⟩
/-- matches in a row of the call's own -/
def MtsOwn (W : World) (base : Nat) (A : Option Addr) (n c : Nat) (ms : List Sel.Mt) : Prop :=
  W.ownsRow base 45 3 (.slice A n c) ms.length (ms.flatMap mtCells) ∧ ∀ p ∈ ms, p.1.size ≤ 64 ∧ p.2.1.size ≤ 64
theorem MtsOwn.none_ (W : World) (base : Nat) : MtsOwn W base none 0 0 [] := ⟨⟨rfl, .inl ⟨rfl, rfl⟩⟩, fun p hp => absurd hp (by simp)⟩
theorem MtsOwn.mts {W : World} {base n c : Nat} {A : Option Addr} {ms : List Sel.Mt} (h : MtsOwn W base A n c ms) : Mts W W.heap.size A n c ms := by
  obtain ⟨A', c', e, hrec⟩ := Recs.of_own mtCells_len (by decide) h.1
  injection e with e1 e2 e3
  subst e1 e2 e3
  exact ⟨hrec, fun p hp => by have := h.2 p hp; omega⟩
theorem MtsOwn.set_ {W : World} {base n c : Nat} {A : Option Addr} {ms : List Sel.Mt} (h : MtsOwn W base A n c ms) {a : Addr} (ha : a.block < base) (u : Value) : MtsOwn (W.setCell a u) base A n c ms := ⟨ownsRow_setCell_below h.1 ha u, h.2⟩
theorem MtsOwn.alloc {W : World} {base n c : Nat} {A : Option Addr} {ms : List Sel.Mt} (h : MtsOwn W base A n c ms) (o : Obj) : MtsOwn (W.alloc o) base A n c ms := ⟨h.1.alloc o, h.2⟩
/-- the state of sel's loop -/
structure SS (w : World) (r : Nat) (A : Option Addr) (n c : Nat) (ts : List Sel.Tk) (gs : Nat) (nm : ByteArray) (v : Value) (ms : List Sel.Mt) (wr : World) (j : Nat) : Prop where
  rd : Rd wr r A n c j
  res : Mem.Blk wr w.heap.size 24 #[.string ⟨#[]⟩, .slice none 0 0]
  cur : Mem.Blk wr gs 24 #[.string nm, v]
  own : wr.ownsRow (gs + 1) 45 3 v ms.length (ms.flatMap mtCells)
  but : But r w wr
  tks : Tks wr r A n c ts
  good : ∀ p ∈ ms, p.1.size ≤ 64 ∧ p.2.1.size ≤ 64
section
variable {w wr w' : World} {r : Nat} {A : Option Addr} {n c gs j j' : Nat} {ts : List Sel.Tk} {nm : ByteArray} {v v' : Value} {ms : List Sel.Mt}
theorem SS.step (h : SS w r A n c ts gs nm v ms wr j) (hr : r < w.heap.size) (hg : w.heap.size < gs) (hR : Rd w' r A n c j') (hb : But r wr w') : SS w r A n c ts gs nm v ms w' j' :=
  ⟨hR, hb.blk h.res (by omega), hb.blk h.cur (by omega), hb.own h.own (by omega), h.but.trans hb, h.tks.but hb (by have := h.rd.lt; omega), h.good⟩
theorem SS.keep (h : SS w r A n c ts gs nm v ms wr j) (hr : r < w.heap.size) (hg : w.heap.size < gs) (hb : Below wr.heap.size wr w') : SS w r A n c ts gs nm v ms w' j :=
  h.step hr hg (h.rd.below hb h.rd.lt) (But.of hb)
/-- behind an append: the row is another one -/
theorem SS.grown {ms' : List Sel.Mt} (h : SS w r A n c ts gs nm v ms wr j) (hr : r < w.heap.size) (hg : w.heap.size < gs) (hgr : wr.grownBy w' v.ownBlock) (hown : w'.ownsRow (gs + 1) 45 3 v' ms'.length (ms'.flatMap mtCells)) (hgood : ∀ p ∈ ms', p.1.size ≤ 64 ∧ p.2.1.size ≤ 64) :
    SS w r A n c ts gs nm v' ms' (w'.setCell ⟨gs, 1, none⟩ v') j := by
  have hne : ∀ k, k ≤ gs → some k ≠ v.ownBlock := fun k hk e => by have := (h.own.lt k e.symm).1; omega
  have hb : Below (gs + 1) wr w' := ⟨hgr.os, hgr.tape, hgr.output, hgr.size, fun k hk => by
    rcases Nat.lt_or_ge k wr.heap.size with h1 | h1
    · exact hgr.block k h1 (hne k (by omega))
    · have := h.cur.lt; omega⟩
  have hcur := (hgr.block gs h.cur.lt (hne gs (Nat.le_refl _))).trans h.cur
  have hb1 : Below gs wr w' := hb.mono (by omega)
  have hb2 : Below gs wr (w'.setCell ⟨gs, 1, none⟩ v') := hb1.setCell (p := ⟨gs, 1, none⟩) (Nat.le_refl gs) v'
  refine ⟨h.rd.below hb2 (by omega), h.res.below hb2 hg, by simpa using Mem.Blk.set_ (w := w') hcur 1 v', ?_, ?_, h.tks.below (hb2.mono (by omega)), hgood⟩
  · exact ownsRow_setCell_below hown (by show gs < gs + 1; omega) _
  · have hsz := h.but.size
    refine ⟨hb2.os.trans h.but.os, hb2.tape.trans h.but.tape, hb2.output.trans h.but.output, Nat.le_trans hsz hb2.size, fun k hk hkr => ?_⟩
    exact (hb2.block k (by omega)).trans (h.but.block k hk hkr)
theorem SS.far (h : SS w r A n c ts gs nm v ms wr j) (hr : r < w.heap.size) (hg : w.heap.size < gs) (s : ByteArray) (u : Value) :
    Rd ((wr.setCell ⟨w.heap.size, 0, none⟩ (.string s)).setCell ⟨w.heap.size, 1, none⟩ u) r A n c j ∧ Mem.Blk ((wr.setCell ⟨w.heap.size, 0, none⟩ (.string s)).setCell ⟨w.heap.size, 1, none⟩ u) w.heap.size 24 #[.string s, u] ∧
    But r w ((wr.setCell ⟨w.heap.size, 0, none⟩ (.string s)).setCell ⟨w.heap.size, 1, none⟩ u) :=
  ⟨(h.rd.far (Nat.ne_of_lt hr) _).far (Nat.ne_of_lt hr) _, by simpa using (h.res.set_ 0 (.string s)).set_ 1 u, (h.but.far (Nat.le_refl _) _).far (Nat.le_refl _) _⟩
theorem SS.mts (h : SS w r A n c ts gs nm v ms wr j) (hr : r < w.heap.size) (hg : w.heap.size < gs) (s : ByteArray) (u : Value) : ∃ A' n' c', v = .slice A' n' c' ∧
    MtsOwn ((wr.setCell ⟨w.heap.size, 0, none⟩ (.string s)).setCell ⟨w.heap.size, 1, none⟩ u) w.heap.size A' n' c' ms := by
  have h2 := ownsRow_setCell_below (ownsRow_setCell_below h.own (a := ⟨w.heap.size, 0, none⟩) (by show w.heap.size < gs + 1; omega) (.string s)) (a := ⟨w.heap.size, 1, none⟩) (by show w.heap.size < gs + 1; omega) u
  obtain ⟨A', c', e, -⟩ := Recs.of_own mtCells_len (by decide) h2
  subst e
  exact ⟨A', _, c', rfl, own_mono h2 (by omega), h.good⟩
end
end Go.Proofs.YtbdochcajpempaaDoor
