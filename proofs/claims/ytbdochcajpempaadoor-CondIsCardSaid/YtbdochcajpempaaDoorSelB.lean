/- All but one block kept; the walks of the reader's sign and name. -/
import Derived.Test.YtbdochcajpempaaDoorSelA
namespace Go.Proofs.YtbdochcajpempaaDoor
open Go.RowKit
set_option linter.unusedSimpArgs false
set_option linter.unusedVariables false

/-- of what lay all but block r is as it was -/
structure But (r : Nat) (w w' : World) : Prop where
  os : w'.os = w.os
  tape : w'.tape = w.tape
  output : w'.output = w.output
  size : w.heap.size ≤ w'.heap.size
  block : ∀ k, k < w.heap.size → k ≠ r → w'.heap[k]? = w.heap[k]?
section
variable {r : Nat} {w w' w'' : World}
theorem But.refl (r : Nat) (w : World) : But r w w := ⟨rfl, rfl, rfl, Nat.le_refl _, fun _ _ _ => rfl⟩
theorem But.trans (h : But r w w') (k : But r w' w'') : But r w w'' :=
  ⟨k.os.trans h.os, k.tape.trans h.tape, k.output.trans h.output, Nat.le_trans h.size k.size, fun i hi hr => (k.block i (Nat.lt_of_lt_of_le hi h.size) hr).trans (h.block i hi hr)⟩
theorem But.of (h : Below w.heap.size w w') : But r w w' := ⟨h.os, h.tape, h.output, h.size, fun i hi _ => h.block i hi⟩
theorem But.below (h : But r w w') {B : Nat} (hr : B ≤ r) (hB : B ≤ w.heap.size) : Below B w w' := ⟨h.os, h.tape, h.output, h.size, fun i hi => h.block i (by omega) (by omega)⟩
theorem But.drew (h : But r w w') : But r w w'.drew := ⟨h.os, h.tape, h.output, h.size, h.block⟩
theorem But.alloc (h : But r w w') (o : Obj) : But r w (w'.alloc o) := h.trans (But.of ((Below.refl _ w').alloc (Nat.le_refl _) o))
theorem But.setCell (h : But r w w') (i : Nat) (u : Value) : But r w (w'.setCell ⟨r, i, none⟩ u) :=
  h.trans ⟨rfl, rfl, rfl, by simp [World.setCell], fun k _ hk => Below.heap_setCell _ _ _ _ hk⟩
theorem But.far (h : But r w w') {p : Addr} (hp : w.heap.size ≤ p.block) (u : Value) : But r w (w'.setCell p u) :=
  ⟨h.os, h.tape, h.output, by have := h.size; simp [World.setCell]; exact this, fun k hk hr => (Below.heap_setCell _ _ _ _ (by omega)).trans (h.block k hk hr)⟩
theorem But.cell (h : But r w w') {p : Addr} (hp : p.block < w.heap.size) (hr : p.block ≠ r) : w'.cell? p = w.cell? p := World.cell?_of_block (w := w) (h.block p.block hp hr)
theorem But.blk (h : But r w w') {g : Nat} {t : TypeId} {cs : Array Value} (hg : Mem.Blk w g t cs) (hr : g ≠ r) : Mem.Blk w' g t cs := (h.block g hg.lt hr).trans hg
/-- a row of the call's own, made behind the block, stays -/
theorem But.own (h : But r w w') {base : Nat} {e : TypeId} {sz n : Nat} {v : Value} {xs : List Value} (ho : w.ownsRow base e sz v n xs) (hb : r < base) : w'.ownsRow base e sz v n xs := by
  obtain ⟨h1, h2⟩ := ho
  refine ⟨h1, ?_⟩
  rcases h2 with h0 | ⟨g, cap, cur, hv, hbg, hg, rest⟩
  · exact .inl h0
  · exact .inr ⟨g, cap, cur, hv, hbg, (h.block g (Array.getElem?_eq_some_iff.1 hg).1 (by omega)).trans hg, rest⟩
end
theorem Tks.but {w w' : World} {r : Nat} {A : Option Addr} {n c : Nat} {ts : List Sel.Tk} (h : Tks w r A n c ts) (hb : But r w w') (hr : r ≤ w.heap.size) : Tks w' r A n c ts := h.below (hb.below (Nat.le_refl _) hr)
/-- the state of a walk that reads on: the reader stands at j, the result's own block is as it was, of the rest nothing has turned -/
structure MS (T : TypeId) (cs : Array Value) (w : World) (r : Nat) (A : Option Addr) (n c : Nat) (ts : List Sel.Tk) (wq : World) (j : Nat) : Prop where
  rd : Rd wq r A n c j
  blk : Mem.Blk wq w.heap.size T cs
  but : But r w wq
  tks : Tks wq r A n c ts
section
variable {T : TypeId} {cs : Array Value} {w wq w' : World} {r : Nat} {A : Option Addr} {n c j j' : Nat} {ts : List Sel.Tk}
theorem MS.step (h : MS T cs w r A n c ts wq j) (hr : r < w.heap.size) (hR : Rd w' r A n c j') (hb : But r wq w') : MS T cs w r A n c ts w' j' :=
  ⟨hR, hb.blk h.blk (by omega), h.but.trans hb, h.tks.but hb (by have := h.rd.lt; omega)⟩
theorem MS.keep (h : MS T cs w r A n c ts wq j) (hb : Below wq.heap.size wq w') : MS T cs w r A n c ts w' j :=
  ⟨h.rd.below hb h.rd.lt, h.blk.below hb h.blk.lt, h.but.trans (But.of hb), h.tks.but (But.of hb) (by have := h.rd.lt; omega)⟩
theorem MS.far (h : MS T cs w r A n c ts wq j) (hr : r < w.heap.size) (i : Nat) (u : Value) : MS T (cs.setIfInBounds i u) w r A n c ts (wq.setCell ⟨w.heap.size, i, none⟩ u) j :=
  ⟨h.rd.far (Nat.ne_of_lt hr) u, h.blk.set_ i u, h.but.far (Nat.le_refl _) u, h.tks.below ((Below.refl r wq).setCell (Nat.le_of_lt hr) u)⟩
end
theorem Rd.set_ {w : World} {r : Nat} {A : Option Addr} {n c i j : Nat} (h : Rd w r A n c i) : Rd (w.setCell ⟨r, 1, none⟩ (.int .i64 (j : Nat))) r A n c j := by
  have := Mem.Blk.set_ h 1 (.int .i64 (j : Nat))
  simpa using this

set_option maxRecDepth 100000 in
set_option maxHeartbeats 4000000 in
theorem sign_is (r : Nat) (A : Option Addr) (n c i : Nat) (ts : List Sel.Tk) (s : ByteArray) (b : Bool) (hb : Sel.isS ts i s = b) (j : Nat) (hj : j = if b = true then i + 1 else i) (w : World) (hT : Tks w r A n c ts) (hR : Rd w r A n c i) :
    Calls Tryd.prog 61 #[.pointer (some ⟨r, 0, none⟩), .string s] w fun e w' => e = .returned (.bool b) ∧ Rd w' r A n c j ∧ But r w w' := by
  have hlt := hR.lt
  have HR := Lib.hid hR
  have HT := Lib.hid (hT.more (Nat.le_of_lt hlt))
  clear hR
  rcases hk : Sel.isK ts i 4 with _ | _
  · have HK := Lib.hid (show Sel.isK ts i 4 = false from hk)
    obtain rfl : b = false := by
      rw [← hb]
      rcases hx : ts[i]? with _ | t
      · exact Sel.isS_none hx
      · rw [Sel.isK_some hx] at hk
        rw [Sel.isS_some hx, hk]
        rfl
    have hj2 : i = j := hj.symm
    clear hj
    subst hj2
    clear hk hb hT
    go_enter Tryd.func61, Tryd.ntmps61
    go_wp2
    refine wp_region_held_drew (S := fun W' => Below w.heap.size w W') (by kernel_rfl) (Below.refl _ _).drew (fun hHeld => ?_)
    refine wpAnyH_take (i := 0) (v := ?_) (by simp only [List.getElem?_toArray, List.getElem?_cons_succ, List.getElem?_cons_zero]; exact rfl) (by kernel_rfl) (by kernel_rfl) (by kernel_rfl) (by exact fun _ _ _ h => h) (Or.inl ⟨by rfl, ?_⟩) hHeld ?_
    rotate_left
    · intro wq hSw; go_simp; all_goals (with_reducible rfl)
    try simp only [Act.put, List.setIfInBounds_toArray, List.set_cons_zero, List.set_cons_succ]
    refine wpAnyH_ready (rs := [1]) (by kernel_rfl) (by simp) ?_
    refine AllReadyH.cons (by simp only [List.getElem?_toArray, List.getElem?_cons_succ, List.getElem?_cons_zero]; exact rfl) (fun K hK => ?_) ?_
    · go_simp
      have hx := is_any r A n c i ts 4 _ ((HT.out.below hHeld).more hHeld.size) (HR.out.below hHeld hlt)
      rw [HK.out] at hx
      refine hx.mono ?_
      rintro e w4 ⟨rfl, hB4⟩
      show K _ _
      refine hK.out _ _ (hHeld.trans (hB4.mono hHeld.size)) (fun hHeld => ?_)
      clear hK K
      try simp only [Act.put, List.setIfInBounds_toArray, List.set_cons_zero, List.set_cons_succ]
      refine wpAnyH_take (i := 2) (v := ?_) (by simp only [List.getElem?_toArray, List.getElem?_cons_succ, List.getElem?_cons_zero]; exact rfl) (by kernel_rfl) (by kernel_rfl) (by kernel_rfl) (by exact fun _ _ _ h => h) (Or.inl ⟨by rfl, ?_⟩) hHeld ?_
      rotate_left
      · intro wq hSw; go_simp; all_goals (with_reducible rfl)
      try simp only [Act.put, List.setIfInBounds_toArray, List.set_cons_zero, List.set_cons_succ]
      refine wpAnyH_take (i := 3) (v := ?_) (by simp only [List.getElem?_toArray, List.getElem?_cons_succ, List.getElem?_cons_zero]; exact rfl) (by kernel_rfl) (by kernel_rfl) (by kernel_rfl) (by exact fun _ _ _ h => h) (Or.inl ⟨by rfl, ?_⟩) hHeld ?_
      rotate_left
      · intro wq hSw; go_simp; all_goals (with_reducible rfl)
      try simp only [Act.put, List.setIfInBounds_toArray, List.set_cons_zero, List.set_cons_succ]
      refine wpAnyH_take (i := 4) (v := undef) (by simp only [List.getElem?_toArray, List.getElem?_cons_succ, List.getElem?_cons_zero]; exact rfl) (by kernel_rfl) (by kernel_rfl) (by kernel_rfl) (by exact fun _ _ _ h => h) (Or.inr ⟨by rfl, rfl⟩) hHeld ?_
      try simp only [Act.put, List.setIfInBounds_toArray, List.set_cons_zero, List.set_cons_succ]
      refine wpAnyH_take (i := 5) (v := undef) (by simp only [List.getElem?_toArray, List.getElem?_cons_succ, List.getElem?_cons_zero]; exact rfl) (by kernel_rfl) (by kernel_rfl) (by kernel_rfl) (by exact fun _ _ _ h => h) (Or.inr ⟨by rfl, rfl⟩) hHeld ?_
      try simp only [Act.put, List.setIfInBounds_toArray, List.set_cons_zero, List.set_cons_succ]
      refine wpAnyH_take (i := 6) (v := undef) (by simp only [List.getElem?_toArray, List.getElem?_cons_succ, List.getElem?_cons_zero]; exact rfl) (by kernel_rfl) (by kernel_rfl) (by kernel_rfl) (by exact fun _ _ _ h => h) (Or.inr ⟨by rfl, rfl⟩) hHeld ?_
      try simp only [Act.put, List.setIfInBounds_toArray, List.set_cons_zero, List.set_cons_succ]
      refine wpAnyH_take (i := 7) (v := undef) (by simp only [List.getElem?_toArray, List.getElem?_cons_succ, List.getElem?_cons_zero]; exact rfl) (by kernel_rfl) (by kernel_rfl) (by kernel_rfl) (by exact fun _ _ _ h => h) (Or.inr ⟨by rfl, rfl⟩) hHeld ?_
      try simp only [Act.put, List.setIfInBounds_toArray, List.set_cons_zero, List.set_cons_succ]
      refine wpAnyH_take (i := 8) (v := undef) (by simp only [List.getElem?_toArray, List.getElem?_cons_succ, List.getElem?_cons_zero]; exact rfl) (by kernel_rfl) (by kernel_rfl) (by kernel_rfl) (by exact fun _ _ _ h => h) (Or.inr ⟨by rfl, rfl⟩) hHeld ?_
      try simp only [Act.put, List.setIfInBounds_toArray, List.set_cons_zero, List.set_cons_succ]
      refine wpAnyH_take (i := 9) (v := undef) (by simp only [List.getElem?_toArray, List.getElem?_cons_succ, List.getElem?_cons_zero]; exact rfl) (by kernel_rfl) (by kernel_rfl) (by kernel_rfl) (by exact fun _ _ _ h => h) (Or.inr ⟨by rfl, rfl⟩) hHeld ?_
      try simp only [Act.put, List.setIfInBounds_toArray, List.set_cons_zero, List.set_cons_succ]
      refine wpAnyH_take (i := 10) (v := undef) (by simp only [List.getElem?_toArray, List.getElem?_cons_succ, List.getElem?_cons_zero]; exact rfl) (by kernel_rfl) (by kernel_rfl) (by kernel_rfl) (by exact fun _ _ _ h => h) (Or.inr ⟨by rfl, rfl⟩) hHeld ?_
      try simp only [Act.put, List.setIfInBounds_toArray, List.set_cons_zero, List.set_cons_succ]
      refine wpAnyH_take (i := 11) (v := undef) (by simp only [List.getElem?_toArray, List.getElem?_cons_succ, List.getElem?_cons_zero]; exact rfl) (by kernel_rfl) (by kernel_rfl) (by kernel_rfl) (by exact fun _ _ _ h => h) (Or.inr ⟨by rfl, rfl⟩) hHeld ?_
      try simp only [Act.put, List.setIfInBounds_toArray, List.set_cons_zero, List.set_cons_succ]
      refine wpAnyH_take (i := 12) (v := undef) (by simp only [List.getElem?_toArray, List.getElem?_cons_succ, List.getElem?_cons_zero]; exact rfl) (by kernel_rfl) (by kernel_rfl) (by kernel_rfl) (by exact fun _ _ _ h => h) (Or.inr ⟨by rfl, rfl⟩) hHeld ?_
      try simp only [Act.put, List.setIfInBounds_toArray, List.set_cons_zero, List.set_cons_succ]
      refine wpAnyH_take (i := 13) (v := undef) (by simp only [List.getElem?_toArray, List.getElem?_cons_succ, List.getElem?_cons_zero]; exact rfl) (by kernel_rfl) (by kernel_rfl) (by kernel_rfl) (by exact fun _ _ _ h => h) (Or.inr ⟨by rfl, rfl⟩) hHeld ?_
      try simp only [Act.put, List.setIfInBounds_toArray, List.set_cons_zero, List.set_cons_succ]
      refine wpAnyH_take (i := 14) (v := undef) (by simp only [List.getElem?_toArray, List.getElem?_cons_succ, List.getElem?_cons_zero]; exact rfl) (by kernel_rfl) (by kernel_rfl) (by kernel_rfl) (by exact fun _ _ _ h => h) (Or.inr ⟨by rfl, rfl⟩) hHeld ?_
      try simp only [Act.put, List.setIfInBounds_toArray, List.set_cons_zero, List.set_cons_succ]
      refine wpAnyH_take (i := 15) (v := undef) (by simp only [List.getElem?_toArray, List.getElem?_cons_succ, List.getElem?_cons_zero]; exact rfl) (by kernel_rfl) (by kernel_rfl) (by kernel_rfl) (by exact fun _ _ _ h => h) (Or.inr ⟨by rfl, rfl⟩) hHeld ?_
      try simp only [Act.put, List.setIfInBounds_toArray, List.set_cons_zero, List.set_cons_succ]
      refine wpAnyH_take (i := 16) (v := undef) (by simp only [List.getElem?_toArray, List.getElem?_cons_succ, List.getElem?_cons_zero]; exact rfl) (by kernel_rfl) (by kernel_rfl) (by kernel_rfl) (by exact fun _ _ _ h => h) (Or.inr ⟨by rfl, rfl⟩) hHeld ?_
      try simp only [Act.put, List.setIfInBounds_toArray, List.set_cons_zero, List.set_cons_succ]
      refine wpAnyH_take (i := 17) (v := ?_) (by simp only [List.getElem?_toArray, List.getElem?_cons_succ, List.getElem?_cons_zero]; exact rfl) (by kernel_rfl) (by kernel_rfl) (by kernel_rfl) (by exact fun _ _ _ h => h) (Or.inl ⟨by rfl, ?_⟩) hHeld ?_
      rotate_left
      · intro wq hSw; go_simp; all_goals (with_reducible rfl)
      try simp only [Act.put, List.setIfInBounds_toArray, List.set_cons_zero, List.set_cons_succ]
      refine wpAnyH_done (by kernel_rfl) ?_ _
      go_wp2
      go_ret
      exact ⟨rfl, HR.out.below hHeld hlt, But.of hHeld⟩
    · exact AllReadyH.nil
  · have hin := Sel.isK_lt hk
    have hl := hT.len
    obtain ⟨bb, off, t, rfl, hbB, ht, -, -, -, hc2⟩ := hT.at_ (k := i) (by omega)
    have hcap := hT.cap
    have hin2 : i < n := by omega
    have hd2 : decide (i < n) = true := decide_eq_true hin2
    have HK := Lib.hid (show Sel.isK ts i 4 = true from hk)
    have hbs : b = decide (t.2.2 = s) := by
      rw [← hb, Sel.isS_some ht]
      rw [Sel.isK_some ht] at hk
      rw [hk]
      rfl
    obtain ⟨u, hu⟩ : ∃ u, t.2.2 = u := ⟨_, rfl⟩
    rw [hu] at hbs hc2
    have HC2 := Lib.hid hc2
    have hbB' : bb < w.heap.size := by omega
    have hw1 : IntKind.i64.wrap ((i : Int) + 1) = ((i + 1 : Nat) : Int) := by rw [show (i : Int) + 1 = ((i + 1 : Nat) : Int) by omega]; exact IntWalk.i64_in _ (by omega)
    have hne : bb ≠ r := by omega
    clear hk hb hT ht hu hc2 hl hin
    by_cases hus : u = s
    · obtain rfl : b = true := by rw [hbs]; exact decide_eq_true hus
      have hj2 : j = i + 1 := hj
      clear hj
      subst hj2
      clear hbs
      subst hus
      go_enter Tryd.func61, Tryd.ntmps61
      go_wp2
      refine wp_region_held_drew (S := fun W' => Below w.heap.size w W') (by kernel_rfl) (Below.refl _ _).drew (fun hHeld => ?_)
      refine wpAnyH_take (i := 0) (v := ?_) (by simp only [List.getElem?_toArray, List.getElem?_cons_succ, List.getElem?_cons_zero]; exact rfl) (by kernel_rfl) (by kernel_rfl) (by kernel_rfl) (by exact fun _ _ _ h => h) (Or.inl ⟨by rfl, ?_⟩) hHeld ?_
      rotate_left
      · intro wq hSw; go_simp; all_goals (with_reducible rfl)
      try simp only [Act.put, List.setIfInBounds_toArray, List.set_cons_zero, List.set_cons_succ]
      refine wpAnyH_ready (rs := [1]) (by kernel_rfl) (by simp) ?_
      refine AllReadyH.cons (by simp only [List.getElem?_toArray, List.getElem?_cons_succ, List.getElem?_cons_zero]; exact rfl) (fun K hK => ?_) ?_
      · go_simp
        have hx := is_any r (some ⟨bb, off, none⟩) n c i ts 4 _ ((HT.out.below hHeld).more hHeld.size) (HR.out.below hHeld hlt)
        rw [HK.out] at hx
        refine hx.mono ?_
        rintro e w4 ⟨rfl, hB4⟩
        show K _ _
        refine hK.out _ _ (hHeld.trans (hB4.mono hHeld.size)) (fun hHeld => ?_)
        clear hK K
        try simp only [Act.put, List.setIfInBounds_toArray, List.set_cons_zero, List.set_cons_succ]
        refine wpAnyH_take (i := 2) (v := ?_) (by simp only [List.getElem?_toArray, List.getElem?_cons_succ, List.getElem?_cons_zero]; exact rfl) (by kernel_rfl) (by kernel_rfl) (by kernel_rfl) (by exact fun _ _ _ h => h) (Or.inl ⟨by rfl, ?_⟩) hHeld ?_
        rotate_left
        · intro wq hSw; go_simp; all_goals (with_reducible rfl)
        try simp only [Act.put, List.setIfInBounds_toArray, List.set_cons_zero, List.set_cons_succ]
        refine wpAnyH_take (i := 3) (v := ?_) (by simp only [List.getElem?_toArray, List.getElem?_cons_succ, List.getElem?_cons_zero]; exact rfl) (by kernel_rfl) (by kernel_rfl) (by kernel_rfl) (by exact fun _ _ _ h => h) (Or.inl ⟨by rfl, ?_⟩) hHeld ?_
        rotate_left
        · intro wq hSw; go_simp; all_goals (with_reducible rfl)
        try simp only [Act.put, List.setIfInBounds_toArray, List.set_cons_zero, List.set_cons_succ]
        refine wpAnyH_take (i := 4) (v := ?_) (by simp only [List.getElem?_toArray, List.getElem?_cons_succ, List.getElem?_cons_zero]; exact rfl) (by kernel_rfl) (by kernel_rfl) (by kernel_rfl) (by exact fun _ _ _ h => h) (Or.inl ⟨by rfl, ?_⟩) hHeld ?_
        rotate_left
        · intro wq hSw; go_simp; all_goals (with_reducible rfl)
        try simp only [Act.put, List.setIfInBounds_toArray, List.set_cons_zero, List.set_cons_succ]
        refine wpAnyH_take (i := 5) (v := ?_) (by simp only [List.getElem?_toArray, List.getElem?_cons_succ, List.getElem?_cons_zero]; exact rfl) (by kernel_rfl) (by kernel_rfl) (by kernel_rfl) (by exact fun _ _ _ h => h) (Or.inl ⟨by rfl, ?_⟩) hHeld ?_
        rotate_left
        · intro wq hSw; go_simp; all_goals (with_reducible rfl)
        try simp only [Act.put, List.setIfInBounds_toArray, List.set_cons_zero, List.set_cons_succ]
        refine wpAnyH_take (i := 6) (v := ?_) (by simp only [List.getElem?_toArray, List.getElem?_cons_succ, List.getElem?_cons_zero]; exact rfl) (by kernel_rfl) (by kernel_rfl) (by kernel_rfl) (by exact fun _ _ _ h => h) (Or.inl ⟨by rfl, ?_⟩) hHeld ?_
        rotate_left
        · intro wq hSw; go_simp; all_goals (with_reducible rfl)
        try simp only [Act.put, List.setIfInBounds_toArray, List.set_cons_zero, List.set_cons_succ]
        refine wpAnyH_take (i := 7) (v := ?_) (by simp only [List.getElem?_toArray, List.getElem?_cons_succ, List.getElem?_cons_zero]; exact rfl) (by kernel_rfl) (by kernel_rfl) (by kernel_rfl) (by exact fun _ _ _ h => h) (Or.inl ⟨by rfl, ?_⟩) hHeld ?_
        rotate_left
        · intro wq hSw; have m0 := (hSw.cell (p := ⟨r, 0, none⟩) hlt).trans (HR.out.cell 0); simp at m0; go_simp; all_goals (with_reducible rfl)
        try simp only [Act.put, List.setIfInBounds_toArray, List.set_cons_zero, List.set_cons_succ]
        refine wpAnyH_take (i := 8) (v := ?_) (by simp only [List.getElem?_toArray, List.getElem?_cons_succ, List.getElem?_cons_zero]; exact rfl) (by kernel_rfl) (by kernel_rfl) (by kernel_rfl) (by exact fun _ _ _ h => h) (Or.inl ⟨by rfl, ?_⟩) hHeld ?_
        rotate_left
        · intro wq hSw; go_simp; all_goals (with_reducible rfl)
        try simp only [Act.put, List.setIfInBounds_toArray, List.set_cons_zero, List.set_cons_succ]
        refine wpAnyH_take (i := 9) (v := ?_) (by simp only [List.getElem?_toArray, List.getElem?_cons_succ, List.getElem?_cons_zero]; exact rfl) (by kernel_rfl) (by kernel_rfl) (by kernel_rfl) (by exact fun _ _ _ h => h) (Or.inl ⟨by rfl, ?_⟩) hHeld ?_
        rotate_left
        · intro wq hSw; go_simp; all_goals (with_reducible rfl)
        try simp only [Act.put, List.setIfInBounds_toArray, List.set_cons_zero, List.set_cons_succ]
        refine wpAnyH_take (i := 10) (v := ?_) (by simp only [List.getElem?_toArray, List.getElem?_cons_succ, List.getElem?_cons_zero]; exact rfl) (by kernel_rfl) (by kernel_rfl) (by kernel_rfl) (by exact fun _ _ _ h => h) (Or.inl ⟨by rfl, ?_⟩) hHeld ?_
        rotate_left
        · intro wq hSw; go_simp; all_goals (with_reducible rfl)
        try simp only [Act.put, List.setIfInBounds_toArray, List.set_cons_zero, List.set_cons_succ]
        refine wpAnyH_take (i := 11) (v := ?_) (by simp only [List.getElem?_toArray, List.getElem?_cons_succ, List.getElem?_cons_zero]; exact rfl) (by kernel_rfl) (by kernel_rfl) (by kernel_rfl) (by exact fun _ _ _ h => h) (Or.inl ⟨by rfl, ?_⟩) hHeld ?_
        rotate_left
        · intro wq hSw; have m1 := (hSw.cell (p := ⟨r, 1, none⟩) hlt).trans (HR.out.cell 1); simp at m1; go_simp; all_goals (with_reducible rfl)
        try simp only [Act.put, List.setIfInBounds_toArray, List.set_cons_zero, List.set_cons_succ]
        refine wpAnyH_take (i := 12) (v := ?_) (by simp only [List.getElem?_toArray, List.getElem?_cons_succ, List.getElem?_cons_zero]; exact rfl) (by kernel_rfl) (by kernel_rfl) (by kernel_rfl) (by exact fun _ _ _ h => h) (Or.inl ⟨by rfl, ?_⟩) hHeld ?_
        rotate_left
        · intro wq hSw; go_simp; all_goals (with_reducible rfl)
        try simp only [Act.put, List.setIfInBounds_toArray, List.set_cons_zero, List.set_cons_succ]
        refine wpAnyH_take (i := 13) (v := ?_) (by simp only [List.getElem?_toArray, List.getElem?_cons_succ, List.getElem?_cons_zero]; exact rfl) (by kernel_rfl) (by kernel_rfl) (by kernel_rfl) (by exact fun _ _ _ h => h) (Or.inl ⟨by rfl, ?_⟩) hHeld ?_
        rotate_left
        · intro wq hSw; go_simp; all_goals (with_reducible rfl)
        try simp only [Act.put, List.setIfInBounds_toArray, List.set_cons_zero, List.set_cons_succ]
        refine wpAnyH_take (i := 14) (v := ?_) (by simp only [List.getElem?_toArray, List.getElem?_cons_succ, List.getElem?_cons_zero]; exact rfl) (by kernel_rfl) (by kernel_rfl) (by kernel_rfl) (by exact fun _ _ _ h => h) (Or.inl ⟨by rfl, ?_⟩) hHeld ?_
        rotate_left
        · intro wq hSw; have x2 := (hSw.cell (p := ⟨bb, off + i * 3 + 2, none⟩) hbB').trans HC2.out; go_simp; all_goals (with_reducible rfl)
        try simp only [Act.put, List.setIfInBounds_toArray, List.set_cons_zero, List.set_cons_succ]
        refine wpAnyH_take (i := 15) (v := ?_) (by simp only [List.getElem?_toArray, List.getElem?_cons_succ, List.getElem?_cons_zero]; exact rfl) (by kernel_rfl) (by kernel_rfl) (by kernel_rfl) (by exact fun _ _ _ h => h) (Or.inl ⟨by rfl, ?_⟩) hHeld ?_
        rotate_left
        · intro wq hSw; go_simp; all_goals (with_reducible rfl)
        try simp only [Act.put, List.setIfInBounds_toArray, List.set_cons_zero, List.set_cons_succ]
        refine wpAnyH_take (i := 16) (v := ?_) (by simp only [List.getElem?_toArray, List.getElem?_cons_succ, List.getElem?_cons_zero]; exact rfl) (by kernel_rfl) (by kernel_rfl) (by kernel_rfl) (by exact fun _ _ _ h => h) (Or.inl ⟨by rfl, ?_⟩) hHeld ?_
        rotate_left
        · intro wq hSw; go_simp; all_goals (with_reducible rfl)
        try simp only [Act.put, List.setIfInBounds_toArray, List.set_cons_zero, List.set_cons_succ]
        refine wpAnyH_take (i := 17) (v := ?_) (by simp only [List.getElem?_toArray, List.getElem?_cons_succ, List.getElem?_cons_zero]; exact rfl) (by kernel_rfl) (by kernel_rfl) (by kernel_rfl) (by exact fun _ _ _ h => h) (Or.inl ⟨by rfl, ?_⟩) hHeld ?_
        rotate_left
        · intro wq hSw; go_simp; all_goals (with_reducible rfl)
        try simp only [Act.put, List.setIfInBounds_toArray, List.set_cons_zero, List.set_cons_succ]
        refine wpAnyH_done (by kernel_rfl) ?_ _
        have m1 := (hHeld.cell (p := ⟨r, 1, none⟩) hlt).trans (HR.out.cell 1); simp at m1
        have f1 := (HR.out.below hHeld hlt).frozen 1
        go_wp2
        go_ret
        exact ⟨rfl, Rd.set_ (HR.out.below hHeld hlt), (But.of hHeld).setCell 1 _⟩
      · exact AllReadyH.nil
    · obtain rfl : b = false := by rw [hbs]; exact decide_eq_false hus
      have hj2 : i = j := hj.symm
      clear hj
      subst hj2
      have hus2 := Sel.ba_ne hus
      clear hbs
      go_enter Tryd.func61, Tryd.ntmps61
      go_wp2
      refine wp_region_held_drew (S := fun W' => Below w.heap.size w W') (by kernel_rfl) (Below.refl _ _).drew (fun hHeld => ?_)
      refine wpAnyH_take (i := 0) (v := ?_) (by simp only [List.getElem?_toArray, List.getElem?_cons_succ, List.getElem?_cons_zero]; exact rfl) (by kernel_rfl) (by kernel_rfl) (by kernel_rfl) (by exact fun _ _ _ h => h) (Or.inl ⟨by rfl, ?_⟩) hHeld ?_
      rotate_left
      · intro wq hSw; go_simp; all_goals (with_reducible rfl)
      try simp only [Act.put, List.setIfInBounds_toArray, List.set_cons_zero, List.set_cons_succ]
      refine wpAnyH_ready (rs := [1]) (by kernel_rfl) (by simp) ?_
      refine AllReadyH.cons (by simp only [List.getElem?_toArray, List.getElem?_cons_succ, List.getElem?_cons_zero]; exact rfl) (fun K hK => ?_) ?_
      · go_simp
        have hx := is_any r (some ⟨bb, off, none⟩) n c i ts 4 _ ((HT.out.below hHeld).more hHeld.size) (HR.out.below hHeld hlt)
        rw [HK.out] at hx
        refine hx.mono ?_
        rintro e w4 ⟨rfl, hB4⟩
        show K _ _
        refine hK.out _ _ (hHeld.trans (hB4.mono hHeld.size)) (fun hHeld => ?_)
        clear hK K
        try simp only [Act.put, List.setIfInBounds_toArray, List.set_cons_zero, List.set_cons_succ]
        refine wpAnyH_take (i := 2) (v := ?_) (by simp only [List.getElem?_toArray, List.getElem?_cons_succ, List.getElem?_cons_zero]; exact rfl) (by kernel_rfl) (by kernel_rfl) (by kernel_rfl) (by exact fun _ _ _ h => h) (Or.inl ⟨by rfl, ?_⟩) hHeld ?_
        rotate_left
        · intro wq hSw; go_simp; all_goals (with_reducible rfl)
        try simp only [Act.put, List.setIfInBounds_toArray, List.set_cons_zero, List.set_cons_succ]
        refine wpAnyH_take (i := 3) (v := ?_) (by simp only [List.getElem?_toArray, List.getElem?_cons_succ, List.getElem?_cons_zero]; exact rfl) (by kernel_rfl) (by kernel_rfl) (by kernel_rfl) (by exact fun _ _ _ h => h) (Or.inl ⟨by rfl, ?_⟩) hHeld ?_
        rotate_left
        · intro wq hSw; go_simp; all_goals (with_reducible rfl)
        try simp only [Act.put, List.setIfInBounds_toArray, List.set_cons_zero, List.set_cons_succ]
        refine wpAnyH_take (i := 4) (v := ?_) (by simp only [List.getElem?_toArray, List.getElem?_cons_succ, List.getElem?_cons_zero]; exact rfl) (by kernel_rfl) (by kernel_rfl) (by kernel_rfl) (by exact fun _ _ _ h => h) (Or.inl ⟨by rfl, ?_⟩) hHeld ?_
        rotate_left
        · intro wq hSw; go_simp; all_goals (with_reducible rfl)
        try simp only [Act.put, List.setIfInBounds_toArray, List.set_cons_zero, List.set_cons_succ]
        refine wpAnyH_take (i := 5) (v := ?_) (by simp only [List.getElem?_toArray, List.getElem?_cons_succ, List.getElem?_cons_zero]; exact rfl) (by kernel_rfl) (by kernel_rfl) (by kernel_rfl) (by exact fun _ _ _ h => h) (Or.inl ⟨by rfl, ?_⟩) hHeld ?_
        rotate_left
        · intro wq hSw; go_simp; all_goals (with_reducible rfl)
        try simp only [Act.put, List.setIfInBounds_toArray, List.set_cons_zero, List.set_cons_succ]
        refine wpAnyH_take (i := 6) (v := ?_) (by simp only [List.getElem?_toArray, List.getElem?_cons_succ, List.getElem?_cons_zero]; exact rfl) (by kernel_rfl) (by kernel_rfl) (by kernel_rfl) (by exact fun _ _ _ h => h) (Or.inl ⟨by rfl, ?_⟩) hHeld ?_
        rotate_left
        · intro wq hSw; go_simp; all_goals (with_reducible rfl)
        try simp only [Act.put, List.setIfInBounds_toArray, List.set_cons_zero, List.set_cons_succ]
        refine wpAnyH_take (i := 7) (v := ?_) (by simp only [List.getElem?_toArray, List.getElem?_cons_succ, List.getElem?_cons_zero]; exact rfl) (by kernel_rfl) (by kernel_rfl) (by kernel_rfl) (by exact fun _ _ _ h => h) (Or.inl ⟨by rfl, ?_⟩) hHeld ?_
        rotate_left
        · intro wq hSw; have m0 := (hSw.cell (p := ⟨r, 0, none⟩) hlt).trans (HR.out.cell 0); simp at m0; go_simp; all_goals (with_reducible rfl)
        try simp only [Act.put, List.setIfInBounds_toArray, List.set_cons_zero, List.set_cons_succ]
        refine wpAnyH_take (i := 8) (v := ?_) (by simp only [List.getElem?_toArray, List.getElem?_cons_succ, List.getElem?_cons_zero]; exact rfl) (by kernel_rfl) (by kernel_rfl) (by kernel_rfl) (by exact fun _ _ _ h => h) (Or.inl ⟨by rfl, ?_⟩) hHeld ?_
        rotate_left
        · intro wq hSw; go_simp; all_goals (with_reducible rfl)
        try simp only [Act.put, List.setIfInBounds_toArray, List.set_cons_zero, List.set_cons_succ]
        refine wpAnyH_take (i := 9) (v := ?_) (by simp only [List.getElem?_toArray, List.getElem?_cons_succ, List.getElem?_cons_zero]; exact rfl) (by kernel_rfl) (by kernel_rfl) (by kernel_rfl) (by exact fun _ _ _ h => h) (Or.inl ⟨by rfl, ?_⟩) hHeld ?_
        rotate_left
        · intro wq hSw; go_simp; all_goals (with_reducible rfl)
        try simp only [Act.put, List.setIfInBounds_toArray, List.set_cons_zero, List.set_cons_succ]
        refine wpAnyH_take (i := 10) (v := ?_) (by simp only [List.getElem?_toArray, List.getElem?_cons_succ, List.getElem?_cons_zero]; exact rfl) (by kernel_rfl) (by kernel_rfl) (by kernel_rfl) (by exact fun _ _ _ h => h) (Or.inl ⟨by rfl, ?_⟩) hHeld ?_
        rotate_left
        · intro wq hSw; go_simp; all_goals (with_reducible rfl)
        try simp only [Act.put, List.setIfInBounds_toArray, List.set_cons_zero, List.set_cons_succ]
        refine wpAnyH_take (i := 11) (v := ?_) (by simp only [List.getElem?_toArray, List.getElem?_cons_succ, List.getElem?_cons_zero]; exact rfl) (by kernel_rfl) (by kernel_rfl) (by kernel_rfl) (by exact fun _ _ _ h => h) (Or.inl ⟨by rfl, ?_⟩) hHeld ?_
        rotate_left
        · intro wq hSw; have m1 := (hSw.cell (p := ⟨r, 1, none⟩) hlt).trans (HR.out.cell 1); simp at m1; go_simp; all_goals (with_reducible rfl)
        try simp only [Act.put, List.setIfInBounds_toArray, List.set_cons_zero, List.set_cons_succ]
        refine wpAnyH_take (i := 12) (v := ?_) (by simp only [List.getElem?_toArray, List.getElem?_cons_succ, List.getElem?_cons_zero]; exact rfl) (by kernel_rfl) (by kernel_rfl) (by kernel_rfl) (by exact fun _ _ _ h => h) (Or.inl ⟨by rfl, ?_⟩) hHeld ?_
        rotate_left
        · intro wq hSw; go_simp; all_goals (with_reducible rfl)
        try simp only [Act.put, List.setIfInBounds_toArray, List.set_cons_zero, List.set_cons_succ]
        refine wpAnyH_take (i := 13) (v := ?_) (by simp only [List.getElem?_toArray, List.getElem?_cons_succ, List.getElem?_cons_zero]; exact rfl) (by kernel_rfl) (by kernel_rfl) (by kernel_rfl) (by exact fun _ _ _ h => h) (Or.inl ⟨by rfl, ?_⟩) hHeld ?_
        rotate_left
        · intro wq hSw; go_simp; all_goals (with_reducible rfl)
        try simp only [Act.put, List.setIfInBounds_toArray, List.set_cons_zero, List.set_cons_succ]
        refine wpAnyH_take (i := 14) (v := ?_) (by simp only [List.getElem?_toArray, List.getElem?_cons_succ, List.getElem?_cons_zero]; exact rfl) (by kernel_rfl) (by kernel_rfl) (by kernel_rfl) (by exact fun _ _ _ h => h) (Or.inl ⟨by rfl, ?_⟩) hHeld ?_
        rotate_left
        · intro wq hSw; have x2 := (hSw.cell (p := ⟨bb, off + i * 3 + 2, none⟩) hbB').trans HC2.out; go_simp; all_goals (with_reducible rfl)
        try simp only [Act.put, List.setIfInBounds_toArray, List.set_cons_zero, List.set_cons_succ]
        refine wpAnyH_take (i := 15) (v := ?_) (by simp only [List.getElem?_toArray, List.getElem?_cons_succ, List.getElem?_cons_zero]; exact rfl) (by kernel_rfl) (by kernel_rfl) (by kernel_rfl) (by exact fun _ _ _ h => h) (Or.inl ⟨by rfl, ?_⟩) hHeld ?_
        rotate_left
        · intro wq hSw; go_simp; all_goals (with_reducible rfl)
        try simp only [Act.put, List.setIfInBounds_toArray, List.set_cons_zero, List.set_cons_succ]
        refine wpAnyH_take (i := 16) (v := ?_) (by simp only [List.getElem?_toArray, List.getElem?_cons_succ, List.getElem?_cons_zero]; exact rfl) (by kernel_rfl) (by kernel_rfl) (by kernel_rfl) (by exact fun _ _ _ h => h) (Or.inl ⟨by rfl, ?_⟩) hHeld ?_
        rotate_left
        · intro wq hSw; go_simp; all_goals (with_reducible rfl)
        try simp only [Act.put, List.setIfInBounds_toArray, List.set_cons_zero, List.set_cons_succ]
        refine wpAnyH_take (i := 17) (v := ?_) (by simp only [List.getElem?_toArray, List.getElem?_cons_succ, List.getElem?_cons_zero]; exact rfl) (by kernel_rfl) (by kernel_rfl) (by kernel_rfl) (by exact fun _ _ _ h => h) (Or.inl ⟨by rfl, ?_⟩) hHeld ?_
        rotate_left
        · intro wq hSw; go_simp; all_goals (with_reducible rfl)
        try simp only [Act.put, List.setIfInBounds_toArray, List.set_cons_zero, List.set_cons_succ]
        refine wpAnyH_done (by kernel_rfl) ?_ _
        go_wp2
        go_ret
        exact ⟨rfl, HR.out.below hHeld hlt, But.of hHeld⟩
      · exact AllReadyH.nil

set_option maxRecDepth 100000 in
set_option maxHeartbeats 4000000 in
theorem name_of (r : Nat) (A : Option Addr) (n c i : Nat) (ts : List Sel.Tk) (e0 : Int) (he : Sel.nameE ts i = e0) (s0 : ByteArray) (hs0 : s0 = if e0 = 0 then Sel.sOf ts i else ⟨#[]⟩) (j : Nat) (hj : j = if e0 = 0 then i + 1 else i) (w : World) (hT : Tks w r A n c ts) (hR : Rd w r A n c i) :
    Calls Tryd.prog 60 #[.pointer (some ⟨r, 0, none⟩)] w fun e w' => e = .returned (.tuple #[.string s0, .int .i64 e0]) ∧ Rd w' r A n c j ∧ But r w w' := by
  have hlt := hR.lt
  have hl := hT.len
  have HR := Lib.hid hR
  have HT := Lib.hid (hT.more (Nat.le_of_lt hlt))
  clear hR
  rcases hk : Sel.isK ts i 1 with _ | _
  · have HK := Lib.hid (show Sel.isK ts i 1 = false from hk)
    have he1 : e0 = Sel.wrong ts i ∧ e0 ≠ 0 := by
      rcases hx : ts[i]? with _ | t
      · have h1 := List.getElem?_eq_none_iff.1 hx
        rw [Sel.nameE_none hx] at he
        unfold Sel.wrong
        rw [if_pos h1]
        omega
      · have h1 := (List.getElem?_eq_some_iff.1 hx).1
        rw [Sel.isK_some hx] at hk
        rw [Sel.nameE_some hx, if_neg (by simpa using hk)] at he
        unfold Sel.wrong
        rw [if_neg (by omega)]
        omega
    rw [if_neg he1.2] at hs0 hj
    have hj2 : i = j := hj.symm
    clear hj
    subst hs0 hj2
    have HE := Lib.hid he1.1
    clear hk hT he he1
    go_enter Tryd.func60, Tryd.ntmps60
    go_wp2_with fail
    have hx := is_any r A n c i ts 1 w HT.out HR.out
    rw [HK.out] at hx
    refine hx.mono ?_
    rintro e w4 ⟨rfl, hB4⟩
    go_wp2_with fail
    refine (wrong_any r A n c i ts w4 hl (HR.out.below hB4 hlt)).mono ?_
    rintro e w5 ⟨rfl, hB5⟩
    have hB := hB4.trans (hB5.mono hB4.size)
    go_wp2
    go_ret2
    exact ⟨by rw [HE.out]; rfl, HR.out.below hB hlt, But.of hB⟩
  · have hin := Sel.isK_lt hk
    obtain ⟨bb, off, t, rfl, hbB, ht, -, -, -, hc2⟩ := hT.at_ (k := i) (by omega)
    have hcap := hT.cap
    have hin2 : i < n := by omega
    have hd2 : decide (i < n) = true := decide_eq_true hin2
    have HK := Lib.hid (show Sel.isK ts i 1 = true from hk)
    have hnm : e0 = if Lab.name t.2.2 = true then 0 else 7 := by
      rw [← he, Sel.nameE_some ht]
      rw [Sel.isK_some ht] at hk
      rw [if_pos (by simpa using hk)]
    have hso : Sel.sOf ts i = t.2.2 := Sel.sOf_some ht
    obtain ⟨u, hu⟩ : ∃ u, t.2.2 = u := ⟨_, rfl⟩
    rw [hu] at hnm hc2 hso
    have HC2 := Lib.hid hc2
    have HSO := Lib.hid hso
    have hbB' : bb < w.heap.size := by omega
    have hw1 : IntKind.i64.wrap ((i : Int) + 1) = ((i + 1 : Nat) : Int) := by rw [show (i : Int) + 1 = ((i + 1 : Nat) : Int) by omega]; exact IntWalk.i64_in _ (by omega)
    have hne : bb ≠ r := by omega
    clear hk he hT ht hu hc2 hin hso
    obtain ⟨nb, hnb⟩ : ∃ b, Lab.name u = b := ⟨_, rfl⟩
    rw [hnb] at hnm
    have HNB := Lib.hid hnb
    have hcs : (nb = false ∧ e0 = 7 ∧ s0 = ⟨#[]⟩ ∧ i = j) ∨ (nb = true ∧ e0 = 0 ∧ s0 = u ∧ j = i + 1) := by
      cases nb
      · have h7 : e0 = 7 := hnm
        subst h7
        exact .inl ⟨rfl, rfl, hs0, hj.symm⟩
      · have h7 : e0 = 0 := hnm
        subst h7
        exact .inr ⟨rfl, rfl, hs0.trans HSO.out, hj⟩
    clear hnb hnm hs0 hj HSO
    go_enter Tryd.func60, Tryd.ntmps60
    go_wp2_with fail
    have hx := is_any r (some ⟨bb, off, none⟩) n c i ts 1 w HT.out HR.out
    rw [HK.out] at hx
    refine hx.mono ?_
    rintro e w4 ⟨rfl, hB4⟩
    have hl4 := Nat.lt_of_lt_of_le hlt hB4.size
    have m0 := (hB4.cell (p := ⟨r, 0, none⟩) hlt).trans (HR.out.cell 0)
    have m1 := (hB4.cell (p := ⟨r, 1, none⟩) hlt).trans (HR.out.cell 1)
    have x2 := (hB4.cell (p := ⟨bb, off + i * 3 + 2, none⟩) hbB').trans HC2.out
    have f1 := (HR.out.below hB4 hlt).frozen 1
    simp at m0 m1
    go_wp2
    refine wp_region_held_drew (S := fun W' => Below w4.heap.size w4 W') (by kernel_rfl) (Below.refl _ _).drew (fun hHeld => ?_)
    refine wpAnyH_take (i := 0) (v := ?_) (by simp only [List.getElem?_toArray, List.getElem?_cons_succ, List.getElem?_cons_zero]; exact rfl) (by kernel_rfl) (by kernel_rfl) (by kernel_rfl) (by exact fun _ _ _ h => h) (Or.inl ⟨by rfl, ?_⟩) hHeld ?_
    rotate_left
    · intro wq hSw; go_simp; all_goals (with_reducible rfl)
    try simp only [Act.put, List.setIfInBounds_toArray, List.set_cons_zero, List.set_cons_succ]
    refine wpAnyH_take (i := 1) (v := ?_) (by simp only [List.getElem?_toArray, List.getElem?_cons_succ, List.getElem?_cons_zero]; exact rfl) (by kernel_rfl) (by kernel_rfl) (by kernel_rfl) (by exact fun _ _ _ h => h) (Or.inl ⟨by rfl, ?_⟩) hHeld ?_
    rotate_left
    · intro wq hSw; go_simp; all_goals (with_reducible rfl)
    try simp only [Act.put, List.setIfInBounds_toArray, List.set_cons_zero, List.set_cons_succ]
    refine wpAnyH_take (i := 2) (v := ?_) (by simp only [List.getElem?_toArray, List.getElem?_cons_succ, List.getElem?_cons_zero]; exact rfl) (by kernel_rfl) (by kernel_rfl) (by kernel_rfl) (by exact fun _ _ _ h => h) (Or.inl ⟨by rfl, ?_⟩) hHeld ?_
    rotate_left
    · intro wq hSw; go_simp; all_goals (with_reducible rfl)
    try simp only [Act.put, List.setIfInBounds_toArray, List.set_cons_zero, List.set_cons_succ]
    refine wpAnyH_take (i := 3) (v := ?_) (by simp only [List.getElem?_toArray, List.getElem?_cons_succ, List.getElem?_cons_zero]; exact rfl) (by kernel_rfl) (by kernel_rfl) (by kernel_rfl) (by exact fun _ _ _ h => h) (Or.inl ⟨by rfl, ?_⟩) hHeld ?_
    rotate_left
    · intro wq hSw; have m0 := (hSw.cell (p := ⟨r, 0, none⟩) hl4).trans m0; go_simp; all_goals (with_reducible rfl)
    try simp only [Act.put, List.setIfInBounds_toArray, List.set_cons_zero, List.set_cons_succ]
    refine wpAnyH_take (i := 4) (v := ?_) (by simp only [List.getElem?_toArray, List.getElem?_cons_succ, List.getElem?_cons_zero]; exact rfl) (by kernel_rfl) (by kernel_rfl) (by kernel_rfl) (by exact fun _ _ _ h => h) (Or.inl ⟨by rfl, ?_⟩) hHeld ?_
    rotate_left
    · intro wq hSw; go_simp; all_goals (with_reducible rfl)
    try simp only [Act.put, List.setIfInBounds_toArray, List.set_cons_zero, List.set_cons_succ]
    refine wpAnyH_take (i := 5) (v := ?_) (by simp only [List.getElem?_toArray, List.getElem?_cons_succ, List.getElem?_cons_zero]; exact rfl) (by kernel_rfl) (by kernel_rfl) (by kernel_rfl) (by exact fun _ _ _ h => h) (Or.inl ⟨by rfl, ?_⟩) hHeld ?_
    rotate_left
    · intro wq hSw; go_simp; all_goals (with_reducible rfl)
    try simp only [Act.put, List.setIfInBounds_toArray, List.set_cons_zero, List.set_cons_succ]
    refine wpAnyH_take (i := 6) (v := ?_) (by simp only [List.getElem?_toArray, List.getElem?_cons_succ, List.getElem?_cons_zero]; exact rfl) (by kernel_rfl) (by kernel_rfl) (by kernel_rfl) (by exact fun _ _ _ h => h) (Or.inl ⟨by rfl, ?_⟩) hHeld ?_
    rotate_left
    · intro wq hSw; go_simp; all_goals (with_reducible rfl)
    try simp only [Act.put, List.setIfInBounds_toArray, List.set_cons_zero, List.set_cons_succ]
    refine wpAnyH_take (i := 7) (v := ?_) (by simp only [List.getElem?_toArray, List.getElem?_cons_succ, List.getElem?_cons_zero]; exact rfl) (by kernel_rfl) (by kernel_rfl) (by kernel_rfl) (by exact fun _ _ _ h => h) (Or.inl ⟨by rfl, ?_⟩) hHeld ?_
    rotate_left
    · intro wq hSw; have m1 := (hSw.cell (p := ⟨r, 1, none⟩) hl4).trans m1; go_simp; all_goals (with_reducible rfl)
    try simp only [Act.put, List.setIfInBounds_toArray, List.set_cons_zero, List.set_cons_succ]
    refine wpAnyH_take (i := 8) (v := ?_) (by simp only [List.getElem?_toArray, List.getElem?_cons_succ, List.getElem?_cons_zero]; exact rfl) (by kernel_rfl) (by kernel_rfl) (by kernel_rfl) (by exact fun _ _ _ h => h) (Or.inl ⟨by rfl, ?_⟩) hHeld ?_
    rotate_left
    · intro wq hSw; go_simp; all_goals (with_reducible rfl)
    try simp only [Act.put, List.setIfInBounds_toArray, List.set_cons_zero, List.set_cons_succ]
    refine wpAnyH_take (i := 9) (v := ?_) (by simp only [List.getElem?_toArray, List.getElem?_cons_succ, List.getElem?_cons_zero]; exact rfl) (by kernel_rfl) (by kernel_rfl) (by kernel_rfl) (by exact fun _ _ _ h => h) (Or.inl ⟨by rfl, ?_⟩) hHeld ?_
    rotate_left
    · intro wq hSw; go_simp; all_goals (with_reducible rfl)
    try simp only [Act.put, List.setIfInBounds_toArray, List.set_cons_zero, List.set_cons_succ]
    refine wpAnyH_take (i := 10) (v := ?_) (by simp only [List.getElem?_toArray, List.getElem?_cons_succ, List.getElem?_cons_zero]; exact rfl) (by kernel_rfl) (by kernel_rfl) (by kernel_rfl) (by exact fun _ _ _ h => h) (Or.inl ⟨by rfl, ?_⟩) hHeld ?_
    rotate_left
    · intro wq hSw; have x2 := (hSw.cell (p := ⟨bb, off + i * 3 + 2, none⟩) (Nat.lt_of_lt_of_le hbB' hB4.size)).trans x2; go_simp; all_goals (with_reducible rfl)
    try simp only [Act.put, List.setIfInBounds_toArray, List.set_cons_zero, List.set_cons_succ]
    refine wpAnyH_take (i := 11) (v := ?_) (by simp only [List.getElem?_toArray, List.getElem?_cons_succ, List.getElem?_cons_zero]; exact rfl) (by kernel_rfl) (by kernel_rfl) (by kernel_rfl) (by exact fun _ _ _ h => h) (Or.inl ⟨by rfl, ?_⟩) hHeld ?_
    rotate_left
    · intro wq hSw; go_simp; all_goals (with_reducible rfl)
    try simp only [Act.put, List.setIfInBounds_toArray, List.set_cons_zero, List.set_cons_succ]
    refine wpAnyH_done (by kernel_rfl) ?_ _
    have m0 := (hHeld.cell (p := ⟨r, 0, none⟩) hl4).trans m0
    have m1 := (hHeld.cell (p := ⟨r, 1, none⟩) hl4).trans m1
    have f1 := (hHeld.frozen (p := ⟨r, 1, none⟩) hl4).trans f1
    have hB := hB4.trans (hHeld.mono hB4.size)
    rcases hcs with ⟨rfl, rfl, rfl, rfl⟩ | ⟨rfl, rfl, rfl, rfl⟩
    · go_wp2_with fail
      refine (name_is u false HNB.out _).mono ?_
      rintro e w5 ⟨rfl, rfl⟩
      go_wp2
      go_ret2
      exact ⟨rfl, HR.out.below hB hlt, But.of hB⟩
    · go_wp2_with fail
      refine (name_is _ true HNB.out _).mono ?_
      rintro e w5 ⟨rfl, rfl⟩
      go_wp2
      go_ret2
      exact ⟨rfl, Rd.set_ (HR.out.below hB4 hlt), ((But.of hB4).setCell 1 _).drew⟩
end Go.Proofs.YtbdochcajpempaaDoor
