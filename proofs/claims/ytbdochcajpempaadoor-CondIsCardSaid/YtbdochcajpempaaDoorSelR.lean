/- The texts SelQ, SelR in one. -/
import Derived.Test.YtbdochcajpempaaDoorSelP
import Derived.Laws.StructEq
import Derived.Deep.LoopGhost
import Derived.BigQuiet
/- The walks: whether two selectors are the same; whether there is little of one. -/
namespace Go.Proofs.YtbdochcajpempaaDoor
open Go.RowKit
set_option linter.unusedSimpArgs false
set_option linter.unusedVariables false

theorem mt_eqIn (w : World) (x y : Lab.Mt) : (Op.equalIn 10000 45 (.agg #[.string x.1, .string x.2.1, .bool x.2.2]) (.agg #[.string y.1, .string y.2.1, .bool y.2.2])).run Tryd.prog w = .ok (decide (x = y)) w := by
  obtain ⟨a, b, p⟩ := x
  obtain ⟨a', b', p'⟩ := y
  have u4 := Tryd.underlying4
  have a4 := Tryd.isAgg4
  have z4 := Tryd.sizeOf4
  have u9 := Tryd.underlying9
  have a9 := Tryd.isAgg9
  have z9 := Tryd.sizeOf9
  have hS : Tryd.prog.underlying 45 = some (.struct (Tryd.prog.fieldsOf 45)) := by kernel_rfl
  have hp : Tryd.prog.stoodInHeld 45 = false := by kernel_rfl
  rw [show (10000 : Nat) = 9999 + 1 from rfl, run_equalIn_agg w 9999 45 _ _ hS hp]
  simp only [Program.fieldsOf, Tryd.underlying45]
  go_simp
  have h1 : a.toList = a'.toList ↔ a = a' := ⟨Sel.ba_eq, fun h => by rw [h]⟩
  have h2 : b.toList = b'.toList ↔ b = b' := ⟨Sel.ba_eq, fun h => by rw [h]⟩
  by_cases e1 : a = a' <;> by_cases e2 : b = b' <;> by_cases e3 : p = p' <;> simp [e1, e2, e3, h1, h2]
theorem mt_neq (w : World) (x y : Lab.Mt) : (binOp .neq 45 (.agg #[.string x.1, .string x.2.1, .bool x.2.2]) (.agg #[.string y.1, .string y.2.1, .bool y.2.2])).run Tryd.prog w = .ok (.bool (!decide (x = y))) w := by
  rw [run_neq_struct, mt_eqIn]; rfl
theorem mt_guard (w : World) (op : BinOp) (x y : Operand) (xs ys : Array Value) : (eqGuard op 45 x y (.agg xs) (.agg ys)).run Tryd.prog w = .ok () w := run_eqGuard_agg w op _ x y xs ys (by kernel_rfl)
attribute [local go_sem ↓] mt_guard

namespace Sel
/-- are two selectors the same? -/
def same (nm nm2 : ByteArray) (ms ms2 : List Mt) : Bool := decide (nm = nm2) && decide (ms = ms2)
def eqAt (ms ms2 : List Mt) (k : Nat) : Bool := decide (ms[k]? = ms2[k]?)
theorem same_all {nm : ByteArray} {ms ms2 : List Mt} (hl : ms.length = ms2.length) (h : Lab.allTo (eqAt ms ms2) ms.length = true) : same nm nm ms ms2 = true := by
  unfold same
  rw [decide_eq_true rfl, Bool.true_and, decide_eq_true_eq]
  apply List.ext_getElem? 
  intro k
  by_cases hk : k < ms.length
  · exact of_decide_eq_true (Lab.allTo_iff.1 h k hk)
  · rw [List.getElem?_eq_none (by omega), List.getElem?_eq_none (by omega)]
theorem same_not {nm nm2 : ByteArray} {ms ms2 : List Mt} {k : Nat} (h : eqAt ms ms2 k = false) : same nm nm2 ms ms2 = false := by
  unfold same
  rw [Bool.and_eq_false_iff]
  right
  rw [decide_eq_false_iff_not]
  intro e
  subst e
  unfold eqAt at h
  simp at h
theorem same_len {nm nm2 : ByteArray} {ms ms2 : List Mt} (h : ¬ ms.length = ms2.length) : same nm nm2 ms ms2 = false := by
  unfold same
  rw [Bool.and_eq_false_iff]
  right
  rw [decide_eq_false_iff_not]
  intro e
  exact h (by rw [e])
theorem same_nm {nm nm2 : ByteArray} {ms ms2 : List Mt} (h : ¬ nm = nm2) : same nm nm2 ms ms2 = false := by
  unfold same
  rw [decide_eq_false h]
  rfl
end Sel

set_option maxRecDepth 100000 in
set_option maxHeartbeats 8000000 in
theorem same_any (nm nm2 : ByteArray) (A B : Option Addr) (n c m d : Nat) (ms ms2 : List Lab.Mt) (w : World) (h : Mts w w.heap.size A n c ms) (g : Mts w w.heap.size B m d ms2) :
    Calls Tryd.prog 38 #[.agg #[.string nm, .slice A n c], .agg #[.string nm2, .slice B m d]] w fun e w' => e = .returned (.bool (Sel.same nm nm2 ms ms2)) ∧ Below w.heap.size w w' := by
  have hl := h.len
  have hl2 := g.len
  have hcap := Nat.le_trans h.1.2.1 h.1.2.2.1
  have HH := Lib.hid h
  have HG := Lib.hid g
  have HL := Lib.hid hl
  have HL2 := Lib.hid hl2
  clear h g
  by_cases hnm : nm = nm2
  · by_cases hnn : n = m
    · subst hnm hnn
      have hN : ((n : Int) != (n : Int)) = false := by simp
      clear hl hl2
      go_enter Tryd.func38, Tryd.ntmps38
      go_wp2
      have hB2 : Below w.heap.size w ((w.alloc (.cells #[.string nm, .slice A n c] 24)).alloc (.cells #[.string nm, .slice B n d] 24)) := ((Below.refl _ w).alloc (Nat.le_refl _) _).alloc (by simp) _
      have b1 := (Mem.Blk.new w 24 #[.string nm, .slice A n c]).alloc (.cells #[.string nm, .slice B n d] 24)
      have b2 : Mem.Blk ((w.alloc (.cells #[.string nm, .slice A n c] 24)).alloc (.cells #[.string nm, .slice B n d] 24)) (w.heap.size + 1) 24 #[.string nm, .slice B n d] := by
        simpa using Mem.Blk.new (w.alloc (.cells #[.string nm, .slice A n c] 24)) 24 #[.string nm, .slice B n d]
      generalize (w.alloc (.cells #[.string nm, .slice A n c] 24)).alloc (.cells #[.string nm, .slice B n d] 24) = W2 at hB2 b1 b2 ⊢
      have q1 := b1.cell 1
      have q2 := b2.cell 1
      simp at q1 q2
      have hl1 := b1.lt
      have hl2 := b2.lt
      have Q1 := Lib.hid q1
      have Q2 := Lib.hid q2
      clear b1 b2 q1 q2
      go_loopw [5] (fun i wr => ∃ k : Nat, k ≤ n ∧ i = .int .i64 (k : Nat) ∧ Lab.allTo (Sel.eqAt ms ms2) k = true ∧ Below W2.heap.size W2 wr) (fun i _ => n - (intOf i).toNat)
      case atStart => exact ⟨0, Nat.zero_le _, rfl, rfl, Below.refl _ _⟩
      case round =>
        obtain ⟨k, hk, rfl, hall, hb1⟩ := hrel
        have HALL := Lib.hid hall
        clear hall
        have hb := hB2.trans (hb1.mono hB2.size)
        have q1 := (hb1.cell (p := ⟨w.heap.size, 1, none⟩) hl1).trans Q1.out
        have q2 := (hb1.cell (p := ⟨w.heap.size + 1, 1, none⟩) hl2).trans Q2.out
        by_cases hlt : k < n
        · have hdk : decide (k < n) = true := decide_eq_true hlt
          obtain ⟨b, off, rfl, hbB, hcell⟩ := HH.out.at_ hlt
          obtain ⟨b', off', rfl, hbB', hcell'⟩ := HG.out.at_ hlt
          obtain ⟨p, hp⟩ : ∃ p, ms[k]? = some p := ⟨_, List.getElem?_eq_getElem (by rw [HL.out]; exact hlt)⟩
          obtain ⟨p', hp'⟩ : ∃ p, ms2[k]? = some p := ⟨_, List.getElem?_eq_getElem (by rw [HL2.out]; exact hlt)⟩
          have h1 := (hb.cell (p := ⟨b, off + k * 3, none⟩) hbB).trans (hcell k p hp).1
          have h2 := (hb.cell (p := ⟨b, off + k * 3 + 1, none⟩) hbB).trans (hcell k p hp).2.1
          have h3 := (hb.cell (p := ⟨b, off + k * 3 + 2, none⟩) hbB).trans (hcell k p hp).2.2
          have g1 := (hb.cell (p := ⟨b', off' + k * 3, none⟩) hbB').trans (hcell' k p' hp').1
          have g2 := (hb.cell (p := ⟨b', off' + k * 3 + 1, none⟩) hbB').trans (hcell' k p' hp').2.1
          have g3 := (hb.cell (p := ⟨b', off' + k * 3 + 2, none⟩) hbB').trans (hcell' k p' hp').2.2
          have j0 : (0 : Int) ≤ (k : Int) := by omega
          have j1 : (k : Int) < (n : Int) := by omega
          by_cases hpp : p = p'
          · have hne : ∀ w : World, (binOp .neq 45 (.agg #[.string p.1, .string p.2.1, .bool p.2.2]) (.agg #[.string p'.1, .string p'.2.1, .bool p'.2.2])).run Tryd.prog w = .ok (.bool false) w := fun w => by rw [mt_neq, decide_eq_true hpp]; rfl
            have HS := Lib.hid (Lab.allTo_step HALL.out (show Sel.eqAt ms ms2 k = true by unfold Sel.eqAt; rw [hp, hp', hpp]; simp))
            clear hcell hcell' hp hp' hpp
            go_wp2
            go_quiet (fail)
            go_wp2
            go_roundw
            case rel => exact ⟨k + 1, by omega, by go_num, HS.out, (by repeat (first | assumption | exact Below.refl _ _ | apply Mem.below_drewN | apply Below.drew | refine Below.alloc ?_ (by first | assumption | omega | (simp; done) | (simp; omega)) _ | refine Below.setCell ?_ (by first | assumption | omega | (simp; done) | (simp; omega)) _))⟩
            case measure => simp [intOf]; omega
          · have hne : ∀ w : World, (binOp .neq 45 (.agg #[.string p.1, .string p.2.1, .bool p.2.2]) (.agg #[.string p'.1, .string p'.2.1, .bool p'.2.2])).run Tryd.prog w = .ok (.bool true) w := fun w => by rw [mt_neq, decide_eq_false hpp]; rfl
            have HS := Lib.hid (Sel.same_not (nm := nm) (nm2 := nm) (show Sel.eqAt ms ms2 k = false by unfold Sel.eqAt; rw [hp, hp']; simpa using hpp))
            clear hcell hcell' hp hp' hpp
            go_wp2
            go_quiet (fail)
            go_wp2
            go_ret
            exact ⟨by rw [HS.out]; rfl, (by repeat (first | assumption | exact Below.refl _ _ | apply Mem.below_drewN | apply Below.drew | refine Below.alloc ?_ (by first | assumption | omega | (simp; done) | (simp; omega)) _ | refine Below.setCell ?_ (by first | assumption | omega | (simp; done) | (simp; omega)) _))⟩
        · obtain rfl : k = n := by omega
          have hdk : decide (k < k) = false := decide_eq_false (by omega)
          have HS := Lib.hid (Sel.same_all (nm := nm) (HL.out.trans HL2.out.symm) (by rw [HL.out]; exact HALL.out))
          go_wp2
          go_ret
          exact ⟨by rw [HS.out]; rfl, hb⟩
    · have HS := Lib.hid (Sel.same_len (nm := nm) (nm2 := nm2) (show ¬ ms.length = ms2.length by omega))
      subst hnm
      have hN : ((n : Int) != (m : Int)) = true := by simp; omega
      have hN2 : ¬ (n : Int) = (m : Int) := by omega
      clear hl hl2
      go_enter Tryd.func38, Tryd.ntmps38
      go_wp2
      go_ret
      exact ⟨by rw [HS.out]; rfl, (by repeat (first | assumption | exact Below.refl _ _ | apply Mem.below_drewN | apply Below.drew | refine Below.alloc ?_ (by first | assumption | omega | (simp; done) | (simp; omega)) _ | refine Below.setCell ?_ (by first | assumption | omega | (simp; done) | (simp; omega)) _))⟩
  · have HS := Lib.hid (Sel.same_nm (ms := ms) (ms2 := ms2) hnm)
    have hne := Sel.ba_ne hnm
    have hne2 : ¬ nm.toList = nm2.toList := fun e => hnm (Sel.ba_eq e)
    clear hl hl2 hnm
    go_enter Tryd.func38, Tryd.ntmps38
    go_wp2
    go_ret
    exact ⟨by rw [HS.out]; rfl, (by repeat (first | assumption | exact Below.refl _ _ | apply Mem.below_drewN | apply Below.drew | refine Below.alloc ?_ (by first | assumption | omega | (simp; done) | (simp; omega)) _ | refine Below.setCell ?_ (by first | assumption | omega | (simp; done) | (simp; omega)) _))⟩
end Go.Proofs.YtbdochcajpempaaDoor

/- The walks of the references' Few and Short: each says something, true or false; true, that there are few. -/
namespace Go.Proofs.YtbdochcajpempaaDoor
open Go.RowKit
set_option linter.unusedSimpArgs false
set_option linter.unusedVariables false

/-- it says true or false, true of no more than K, and nothing that lay has turned -/
def FewB (w : World) (n K : Nat) (e : Ending) (w' : World) : Prop := ∃ b : Bool, e = .returned (.bool b) ∧ (b = true → n ≤ K) ∧ Below w.heap.size w w'
def Cnt (x : Value) : Prop := ∃ i : Int, x = .int .i64 i

set_option maxRecDepth 100000 in
set_option maxHeartbeats 4000000 in
theorem fewS_any (nm : ByteArray) (A : Option Addr) (n c : Nat) (xs : List Lab.Mt) (w : World) (h : Mts w w.heap.size A n c xs) :
    Calls Tryd.prog 9 #[.agg #[.string nm, .slice A n c]] w (FewB w n 40) := by
  have hl := h.len
  have hcap := Nat.le_trans h.1.2.1 h.1.2.2.1
  have HL := Lib.hid hl
  have HH := Lib.hid h
  clear h hl
  go_enter Tryd.func9, Tryd.ntmps9
  go_wp2
  have hB1 := (Below.refl w.heap.size w).alloc (Nat.le_refl _) (.cells #[.string nm, .slice A n c] 24)
  have hblk := (Mem.Blk.new w 24 #[.string nm, .slice A n c])
  have hlt1 : w.heap.size < (w.alloc (.cells #[.string nm, .slice A n c] 24)).heap.size := by simp
  have hsz1 : w.heap.size ≤ (w.alloc (.cells #[.string nm, .slice A n c] 24)).heap.size := by simp
  obtain ⟨W1, hW1⟩ : ∃ W1, W1 = w.alloc (.cells #[.string nm, .slice A n c] 24) := ⟨_, rfl⟩
  rw [← hW1] at hB1 hblk hlt1 hsz1 ⊢
  clear hW1
  have HBLK := Lib.hid hblk
  clear hblk
  go_loopw [3, 4] (fun s3 s4 wr => ∃ k : Nat, k ≤ n ∧ s4 = .int .i64 (k : Nat) ∧ Cnt s3 ∧ Below W1.heap.size W1 wr) (fun _ s4 _ => n - (intOf s4).toNat)
  case atStart => exact ⟨0, Nat.zero_le _, rfl, ⟨_, rfl⟩, Below.refl _ _⟩
  case round =>
    obtain ⟨k, hk, rfl, ⟨x, rfl⟩, hb1⟩ := hrel
    have hb := hB1.trans (hb1.mono hB1.size)
    have x1 : wr.cell? ⟨w.heap.size, 1, none⟩ = some (.slice A n c) := (hb1.cell (p := ⟨w.heap.size, 1, none⟩) hlt1).trans (HBLK.out.cell 1)
    by_cases hlt : k < n
    · have hdk : decide (k < n) = true := decide_eq_true hlt
      obtain ⟨b, off, rfl, hbB, hcell⟩ := HH.out.at_ hlt
      obtain ⟨p, hp⟩ : ∃ p, xs[k]? = some p := ⟨_, List.getElem?_eq_getElem (by rw [HL.out]; exact hlt)⟩
      have h1 := (hb.cell (p := ⟨b, off + k * 3, none⟩) hbB).trans (hcell k p hp).1
      have h2 := (hb.cell (p := ⟨b, off + k * 3 + 1, none⟩) hbB).trans (hcell k p hp).2.1
      clear hcell hp
      go_wp2
      go_quiet (fail)
      go_wp2
      go_roundw
      case rel => exact ⟨k + 1, by omega, by go_num, ⟨_, rfl⟩, Mem.below_drewN hb1 _⟩
      case measure => simp [intOf]; omega
    · obtain rfl : k = n := by omega
      have hdk : decide (k < k) = false := decide_eq_false (by omega)
      rcases hd1 : decide ((k : Int) ≤ 40) with _ | _
      · go_wp2
        go_ret
        exact ⟨_, rfl, (by first | exact fun h => absurd h (by decide) | (intro _; have := of_decide_eq_true hd1; omega)), hb⟩
      · rcases hd2 : decide (x ≤ 3000) with _ | _
        all_goals
          go_wp2
          go_ret
          exact ⟨_, rfl, (by first | exact fun h => absurd h (by decide) | (intro _; have := of_decide_eq_true hd1; omega)), hb⟩

set_option maxRecDepth 100000 in
set_option maxHeartbeats 4000000 in
theorem short_any (A : Option Addr) (n c : Nat) (xs : List Sel.Tk) (w : World) (h : Tks w w.heap.size A n c xs) :
    Calls Tryd.prog 10 #[.slice A n c] w (FewB w n 1500) := by
  have hl := h.len
  have hcap := Nat.le_trans h.1.2.1 h.1.2.2.1
  have HL := Lib.hid hl
  have HH := Lib.hid h
  clear h hl
  go_enter Tryd.func10, Tryd.ntmps10
  go_wp2
  go_loopw [3, 4] (fun s3 s4 wr => ∃ k : Nat, k ≤ n ∧ s4 = .int .i64 (k : Nat) ∧ Cnt s3 ∧ Below w.heap.size w wr) (fun _ s4 _ => n - (intOf s4).toNat)
  case atStart => exact ⟨0, Nat.zero_le _, rfl, ⟨_, rfl⟩, Below.refl _ _⟩
  case round =>
    obtain ⟨k, hk, rfl, ⟨x, rfl⟩, hb⟩ := hrel
    by_cases hlt : k < n
    · have hdk : decide (k < n) = true := decide_eq_true hlt
      obtain ⟨b, off, p, rfl, hbB, -, -, -, -, h2⟩ := HH.out.at_ hlt
      have h2 := (hb.cell (p := ⟨b, off + k * 3 + 2, none⟩) hbB).trans h2
      go_wp2
      go_roundw
      case rel => exact ⟨k + 1, by omega, by go_num, ⟨_, rfl⟩, (by repeat (first | assumption | exact Below.refl _ _ | apply Mem.below_drewN | apply Below.drew | refine Below.alloc ?_ (by first | assumption | omega | (simp; done) | (simp; omega)) _ | refine Below.setCell ?_ (by first | assumption | omega | (simp; done) | (simp; omega)) _))⟩
      case measure => simp [intOf]; omega
    · obtain rfl : k = n := by omega
      have hdk : decide (k < k) = false := decide_eq_false (by omega)
      rcases hd1 : decide ((k : Int) ≤ 1500) with _ | _
      · go_wp2
        go_ret
        exact ⟨_, rfl, (by first | exact fun h => absurd h (by decide) | (intro _; have := of_decide_eq_true hd1; omega)), hb⟩
      · rcases hd2 : decide (x ≤ 20000) with _ | _
        all_goals
          go_wp2
          go_ret
          exact ⟨_, rfl, (by first | exact fun h => absurd h (by decide) | (intro _; have := of_decide_eq_true hd1; omega)), hb⟩

end Go.Proofs.YtbdochcajpempaaDoor
