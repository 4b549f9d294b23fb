/- The walks of label's Get and of the reference's Get. -/
import Derived.Test.YtidfiiogjfpfmaaSelPlain
namespace Go.Proofs.Ytidfiiogjfpfmaa
open Go.RowKit
set_option linter.unusedSimpArgs false
set_option linter.unusedVariables false

namespace Lab
/-- what pairs count as -/
def counted (xs : List Pr) : List Pr := if sane xs = true then xs else []
theorem get_counted (xs : List Pr) (nm : ByteArray) : get xs nm = find (counted xs) nm := by
  unfold get counted
  split <;> rfl
def notAt (l : List Pr) (n : ByteArray) (i : Nat) : Bool :=
  match l[i]? with
  | none => true
  | some p => !(p.1.toList == n.toList)
theorem notAt_is {l : List Pr} {n : ByteArray} {i : Nat} {p : Pr} (h : l[i]? = some p) : notAt l n i = !(p.1.toList == n.toList) := by
  unfold notAt
  rw [h]
theorem notAt_succ (a : Pr) (l : List Pr) (n : ByteArray) (i : Nat) : notAt (a :: l) n (i + 1) = notAt l n i := by
  unfold notAt
  rw [List.getElem?_cons_succ]
theorem find_at {l : List Pr} {n : ByteArray} {k : Nat} {p : Pr} (h : allTo (notAt l n) k = true) (hp : l[k]? = some p) (he : (p.1.toList == n.toList) = true) : find l n = some p.2 := by
  induction l generalizing k with
  | nil => simp at hp
  | cons a l ih =>
    cases k with
    | zero =>
      simp only [List.getElem?_cons_zero, Option.some.injEq] at hp
      subst hp
      unfold find
      rw [List.find?_cons, he]
      rfl
    | succ k =>
      rw [List.getElem?_cons_succ] at hp
      have h0 := allTo_iff.1 h 0 (by omega)
      rw [notAt_is (p := a) rfl, Bool.not_eq_true'] at h0
      have := ih (k := k) (allTo_iff.2 fun i hi => by rw [← notAt_succ a]; exact allTo_iff.1 h (i + 1) (by omega)) hp
      unfold find at this ⊢
      rw [List.find?_cons, h0]
      exact this
theorem find_none {l : List Pr} {n : ByteArray} (h : allTo (notAt l n) l.length = true) : find l n = none := by
  unfold find
  rw [Option.map_eq_none_iff, List.find?_eq_none]
  intro p hp
  obtain ⟨i, hi⟩ := List.mem_iff_getElem?.1 hp
  have := allTo_iff.1 h i (List.getElem?_eq_some_iff.1 hi).1
  rw [notAt_is hi, Bool.not_eq_true'] at this
  rw [this]
  simp
end Lab
/-- what Get hands back -/
def getV (x : Option ByteArray) : Value := .tuple #[.string (x.getD ⟨#[]⟩), .bool x.isSome]
theorem getV_some {x : Option ByteArray} {v : ByteArray} (h : x = some v) : Ending.returned (.tuple #[.string v, .bool true]) = .returned (getV x) := by subst h; rfl
theorem getV_none {x : Option ByteArray} (h : x = none) : Ending.returned (.tuple #[.string ⟨#[]⟩, .bool false]) = .returned (getV x) := by subst h; rfl
theorem counted_prs {W : World} {A : Option Addr} {n c : Nat} {xs : List Lab.Pr} (h : Prs W W.heap.size A n c xs) (hs : Lab.sane xs = true) : Prs W W.heap.size A n c (Lab.counted xs) := by
  unfold Lab.counted
  rw [if_pos hs]
  exact h

set_option maxRecDepth 100000 in
set_option maxHeartbeats 4000000 in
theorem counts_any (A : Option Addr) (n c : Nat) (xs : List Lab.Pr) (w : World) (h : Prs w w.heap.size A n c xs) :
    Calls Try.prog 38 #[.slice A n c] w fun e w' => ∃ A' n' c', e = .returned (.slice A' n' c') ∧ Prs w' w'.heap.size A' n' c' (Lab.counted xs) ∧ Below w.heap.size w w' := by
  have HH := Lib.hid h
  rcases hs : Lab.sane xs with _ | _
  · have HC := Lib.hid (show Lab.counted xs = [] by unfold Lab.counted; rw [hs]; rfl)
    have HS := Lib.hid hs
    clear h hs
    go_enter Try.func38, Try.ntmps38
    go_wp2_with fail
    have hx := labSane_any A n c xs w HH.out
    rw [HS.out] at hx
    refine hx.mono ?_
    rintro e w2 ⟨rfl, hb2⟩
    go_wp2
    go_ret
    refine ⟨none, 0, 0, rfl, ?_, hb2⟩
    rw [HC.out]
    exact ⟨Recs.none_ _ _, fun p hp => absurd hp (by simp)⟩
  · have HS := Lib.hid hs
    clear h hs
    go_enter Try.func38, Try.ntmps38
    go_wp2_with fail
    have hx := labSane_any A n c xs w HH.out
    rw [HS.out] at hx
    refine hx.mono ?_
    rintro e w2 ⟨rfl, hb2⟩
    go_wp2
    go_ret
    exact ⟨A, n, c, rfl, counted_prs (HH.out.later hb2) HS.out, hb2⟩

set_option maxRecDepth 100000 in
set_option maxHeartbeats 4000000 in
theorem get_is (A0 : Option Addr) (n0 c0 : Nat) (xs : List Lab.Pr) (nm : ByteArray) (x : Option ByteArray) (hx : Lab.get xs nm = x) (w : World) (h : Prs w w.heap.size A0 n0 c0 xs) :
    Calls Try.prog 36 #[.slice A0 n0 c0, .string nm] w fun e w' => e = .returned (getV x) ∧ Below w.heap.size w w' := by
  have HH0 := Lib.hid h
  have HX := Lib.hid (hx.symm.trans (Lab.get_counted xs nm))
  clear h hx
  go_enter Try.func36, Try.ntmps36
  go_wp2_with fail
  refine (counts_any A0 n0 c0 xs w HH0.out).mono ?_
  rintro e w2 ⟨A, n, c, rfl, hP, hb2⟩
  obtain ⟨ys, hys⟩ : ∃ ys, Lab.counted xs = ys := ⟨_, rfl⟩
  rw [hys] at hP HX
  have hl := hP.len
  have hcap := Nat.le_trans hP.1.2.1 hP.1.2.2.1
  have HL := Lib.hid hl
  have HH := Lib.hid hP
  have HB2 := Lib.hid hb2
  clear hys hP hl hb2
  go_wp2
  go_loopw [11] (fun i wr => ∃ k : Nat, k ≤ n ∧ i = .int .i64 (k : Nat) ∧ Lab.allTo (Lab.notAt ys nm) k = true ∧ Below w2.heap.size w2 wr) (fun i _ => n - (intOf i).toNat)
  case atStart => exact ⟨0, Nat.zero_le _, rfl, rfl, Below.refl _ _⟩
  case round =>
    obtain ⟨k, hk, rfl, hall, hb⟩ := hrel
    have HALL := Lib.hid hall
    clear hall
    have hB := HB2.out.trans (hb.mono HB2.out.size)
    by_cases hlt : k < n
    · have hdk : decide (k < n) = true := decide_eq_true hlt
      obtain ⟨b, off, rfl, hbB, hcell⟩ := HH.out.at_ hlt
      obtain ⟨p, hp⟩ : ∃ p, ys[k]? = some p := ⟨_, List.getElem?_eq_getElem (by rw [HL.out]; exact hlt)⟩
      have h1 := (hb.cell (p := ⟨b, off + k * 2, none⟩) hbB).trans (hcell k p hp).1
      have h2 := (hb.cell (p := ⟨b, off + k * 2 + 1, none⟩) hbB).trans (hcell k p hp).2
      have hbs := hb.size
      have hBs := hB.size
      have HP := Lib.hid hp
      clear hcell hp
      rcases he : (p.1.toList == nm.toList) with _ | _
      · have HS := Lib.hid (Lab.allTo_step HALL.out (show Lab.notAt ys nm k = true by rw [Lab.notAt_is HP.out, he]; rfl))
        go_wp2
        go_roundw
        case rel => exact ⟨k + 1, by omega, by go_num, HS.out, (by repeat (first | assumption | exact Below.refl _ _ | apply Mem.below_drewN | apply Below.drew | refine Below.alloc ?_ (by first | assumption | omega | (simp; done) | (simp; omega)) _ | refine Below.setCell ?_ (by first | assumption | omega | (simp; done) | (simp; omega)) _))⟩
        case measure => simp [intOf]; omega
      · have HF := Lib.hid (HX.out.trans (Lab.find_at HALL.out HP.out he))
        go_wp2
        go_ret2
        exact ⟨getV_some HF.out, (by repeat (first | assumption | exact Below.refl _ _ | apply Mem.below_drewN | apply Below.drew | refine Below.alloc ?_ (by first | assumption | omega | (simp; done) | (simp; omega)) _ | refine Below.setCell ?_ (by first | assumption | omega | (simp; done) | (simp; omega)) _))⟩
    · obtain rfl : k = n := by omega
      have hdk : decide (k < k) = false := decide_eq_false (by omega)
      have HF := Lib.hid (HX.out.trans (Lab.find_none (by rw [HL.out]; exact HALL.out)))
      go_wp2
      go_ret2
      exact ⟨getV_none HF.out, hB⟩

end Go.Proofs.Ytidfiiogjfpfmaa
