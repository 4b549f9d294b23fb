/- The walks of sel's Sane and of the reference's Sane. -/
import Derived.Test.YtidfiiogjfpfmaaLabB
namespace Go.Proofs.Ytidfiiogjfpfmaa
open Go.RowKit
set_option linter.unusedSimpArgs false
set_option linter.unusedVariables false

namespace Lab
/-- what is asked of a label -/
abbrev Mt := ByteArray × ByteArray × Bool
def selAt (ms : List Mt) (i : Nat) : Bool :=
  match ms[i]? with
  | none => true
  | some m => name m.1 && decide (m.2.1.size ≤ 64)
def selSane (n : ByteArray) (ms : List Mt) : Bool := name n && decide (ms.length ≤ 8) && allTo (selAt ms) ms.length
theorem selAt_is {ms : List Mt} {m : Mt} {k : Nat} (h : ms[k]? = some m) : selAt ms k = (name m.1 && decide (m.2.1.size ≤ 64)) := by
  unfold selAt
  rw [h]
end Lab
def mtCells (m : Lab.Mt) : List Value := [.string m.1, .string m.2.1, .bool m.2.2]
theorem mtCells_len (m : Lab.Mt) : (mtCells m).length = 3 := rfl
/-- matches in memory -/
def Mts (W : World) (B : Nat) (A : Option Addr) (n c : Nat) (xs : List Lab.Mt) : Prop :=
  Recs mtCells 3 W B A n c xs ∧ ∀ p ∈ xs, p.1.size ≤ 9223372036854775807 ∧ p.2.1.size ≤ 9223372036854775807
section
variable {W W' : World} {B B' n c : Nat} {A : Option Addr} {xs : List Lab.Mt}
theorem Mts.len (h : Mts W B A n c xs) : xs.length = n := h.1.1
theorem Mts.below (h : Mts W B A n c xs) (hb : Below B W W') : Mts W' B A n c xs := ⟨h.1.below hb, h.2⟩
theorem Mts.later (h : Mts W W.heap.size A n c xs) (hb : Below W.heap.size W W') : Mts W' W'.heap.size A n c xs := ⟨h.1.later hb, h.2⟩
theorem Mts.more (h : Mts W B A n c xs) (hB : B ≤ B') : Mts W B' A n c xs := ⟨h.1.more hB, h.2⟩
theorem Mts.alloc (h : Mts W B A n c xs) (hB : B ≤ W.heap.size) (o : Obj) : Mts (W.alloc o) B A n c xs := ⟨h.1.alloc hB o, h.2⟩
theorem Mts.at_ (h : Mts W B A n c xs) {k : Nat} (hk : k < n) : ∃ b off, A = some ⟨b, off, none⟩ ∧ b < B ∧ ∀ j p, xs[j]? = some p → W.cell? ⟨b, off + j * 3, none⟩ = some (.string p.1) ∧ W.cell? ⟨b, off + j * 3 + 1, none⟩ = some (.string p.2.1) ∧ W.cell? ⟨b, off + j * 3 + 2, none⟩ = some (.bool p.2.2) := by
  obtain ⟨b, off, e, hb, hc⟩ := h.1.at_ (by omega)
  exact ⟨b, off, e, hb, fun j p hp => ⟨hc j p hp 0 _ rfl, hc j p hp 1 _ rfl, hc j p hp 2 _ rfl⟩⟩
end

set_option maxRecDepth 100000 in
set_option maxHeartbeats 4000000 in
theorem selSane_any (nm : ByteArray) (A : Option Addr) (n c : Nat) (xs : List Lab.Mt) (w : World) (h : Mts w w.heap.size A n c xs) :
    Calls Try.prog 34 #[.agg #[.string nm, .slice A n c]] w fun e w' => e = .returned (.bool (Lab.selSane nm xs)) ∧ Below w.heap.size w w' := by
  have hl := h.len
  rcases hnm : Lab.name nm with _ | _
  · have HNM := Lib.hid hnm
    have HS := Lib.hid (show Lab.selSane nm xs = false by unfold Lab.selSane; rw [hnm]; rfl)
    clear h hl hnm
    go_enter Try.func34, Try.ntmps34
    go_wp2_with fail
    refine (name_is _ _ HNM.out _).mono ?_
    rintro e w9 ⟨rfl, rfl⟩
    go_wp2
    go_ret
    exact ⟨by rw [HS.out]; rfl, (by repeat (first | assumption | exact Below.refl _ _ | apply Mem.below_drewN | apply Below.drew | refine Below.alloc ?_ (by first | assumption | omega | (simp; done) | (simp; omega)) _ | refine Below.setCell ?_ (by first | assumption | omega | (simp; done) | (simp; omega)) _))⟩
  · have HNM := Lib.hid hnm
    by_cases h8 : 8 < n
    · have hd : decide ((8 : Int) < (n : Int)) = true := decide_eq_true (by omega)
      have HS := Lib.hid (show Lab.selSane nm xs = false by unfold Lab.selSane; rw [hl, decide_eq_false (by omega : ¬ n ≤ 8), Bool.and_false]; rfl)
      clear h hl hnm
      go_enter Try.func34, Try.ntmps34
      go_wp2_with fail
      refine (name_is _ _ HNM.out _).mono ?_
      rintro e w9 ⟨rfl, rfl⟩
      go_wp2
      go_ret
      exact ⟨by rw [HS.out]; rfl, (by repeat (first | assumption | exact Below.refl _ _ | apply Mem.below_drewN | apply Below.drew | refine Below.alloc ?_ (by first | assumption | omega | (simp; done) | (simp; omega)) _ | refine Below.setCell ?_ (by first | assumption | omega | (simp; done) | (simp; omega)) _))⟩
    · have hd : decide ((8 : Int) < (n : Int)) = false := decide_eq_false (by omega)
      have HS := Lib.hid (show Lab.selSane nm xs = Lab.allTo (Lab.selAt xs) xs.length by unfold Lab.selSane; rw [hl, hnm, decide_eq_true (by omega : n ≤ 8)]; rfl)
      have HL := Lib.hid hl
      have HH := Lib.hid h
      clear h hl hnm
      go_enter Try.func34, Try.ntmps34
      go_wp2_with fail
      refine (name_is _ _ HNM.out _).mono ?_
      rintro e w9 ⟨rfl, rfl⟩
      go_wp2
      have hB1 := (Below.refl w.heap.size w).alloc (Nat.le_refl _) (.cells #[.string nm, .slice A n c] 43)
      go_loopw [18] (fun i wr => ∃ k : Nat, k ≤ n ∧ i = .int .i64 (k : Nat) ∧ Lab.allTo (Lab.selAt xs) k = true ∧ Below w.heap.size w wr) (fun i _ => n - (intOf i).toNat)
      case atStart => exact ⟨0, Nat.zero_le _, rfl, rfl, hB1⟩
      case round =>
        obtain ⟨k, hk, rfl, hall, hb⟩ := hrel
        have HALL := Lib.hid hall
        clear hall
        by_cases hlt : k < n
        · have hdk : decide (k < n) = true := decide_eq_true hlt
          obtain ⟨b, off, rfl, hbB, hcell⟩ := HH.out.at_ hlt
          obtain ⟨p, hp⟩ : ∃ p, xs[k]? = some p := ⟨_, List.getElem?_eq_getElem (by rw [HL.out]; exact hlt)⟩
          have h1 := (hb.cell (p := ⟨b, off + k * 3, none⟩) hbB).trans (hcell k p hp).1
          have h2 := (hb.cell (p := ⟨b, off + k * 3 + 1, none⟩) hbB).trans (hcell k p hp).2.1
          have h3 := (hb.cell (p := ⟨b, off + k * 3 + 2, none⟩) hbB).trans (hcell k p hp).2.2
          have hbs := hb.size
          have hpz := (HH.out.2 p (List.mem_of_getElem? hp)).2
          have hat := Lab.selAt_is hp
          clear hcell hp
          rcases hn : Lab.name p.1 with _ | _
          · have HB := Lib.hid (show Lab.selSane nm xs = false by rw [HS.out]; exact Lab.allTo_bad (by rw [HL.out]; exact hlt) (by rw [hat, hn]; rfl))
            have HN := Lib.hid hn
            clear hn hat
            go_wp2_with fail
            refine (name_is _ _ HN.out _).mono ?_
            rintro e w9 ⟨rfl, rfl⟩
            go_wp2
            go_ret
            exact ⟨by rw [HB.out]; rfl, (by repeat (first | assumption | exact Below.refl _ _ | apply Mem.below_drewN | apply Below.drew | refine Below.alloc ?_ (by first | assumption | omega | (simp; done) | (simp; omega)) _ | refine Below.setCell ?_ (by first | assumption | omega | (simp; done) | (simp; omega)) _))⟩
          · have HN := Lib.hid hn
            by_cases h64 : 64 < p.2.1.size
            · have HB := Lib.hid (show Lab.selSane nm xs = false by rw [HS.out]; exact Lab.allTo_bad (by rw [HL.out]; exact hlt) (by rw [hat, decide_eq_false (by omega : ¬ p.2.1.size ≤ 64), Bool.and_false]))
              have hd64 : decide ((64 : Int) < (p.2.1.size : Int)) = true := decide_eq_true (by omega)
              clear hn h64 hat
              go_wp2_with fail
              refine (name_is _ _ HN.out _).mono ?_
              rintro e w9 ⟨rfl, rfl⟩
              go_wp2
              go_ret
              exact ⟨by rw [HB.out]; rfl, (by repeat (first | assumption | exact Below.refl _ _ | apply Mem.below_drewN | apply Below.drew | refine Below.alloc ?_ (by first | assumption | omega | (simp; done) | (simp; omega)) _ | refine Below.setCell ?_ (by first | assumption | omega | (simp; done) | (simp; omega)) _))⟩
            · have hd64 : decide ((64 : Int) < (p.2.1.size : Int)) = false := decide_eq_false (by omega)
              have HOK := Lib.hid (Lab.allTo_step HALL.out (show Lab.selAt xs k = true by rw [hat, hn, decide_eq_true (by omega : p.2.1.size ≤ 64)]; rfl))
              clear hn h64 hat
              go_wp2_with fail
              refine (name_is _ _ HN.out _).mono ?_
              rintro e w9 ⟨rfl, rfl⟩
              go_wp2
              go_roundw
              case rel => exact ⟨k + 1, by omega, by go_num, HOK.out, (by repeat (first | assumption | exact Below.refl _ _ | apply Mem.below_drewN | apply Below.drew | refine Below.alloc ?_ (by first | assumption | omega | (simp; done) | (simp; omega)) _ | refine Below.setCell ?_ (by first | assumption | omega | (simp; done) | (simp; omega)) _))⟩
              case measure => simp [intOf]; omega
        · obtain rfl : k = n := by omega
          have hdk : decide (k < k) = false := decide_eq_false (by omega)
          go_wp2
          go_ret
          exact ⟨by rw [HS.out, HL.out, HALL.out]; rfl, hb⟩

end Go.Proofs.Ytidfiiogjfpfmaa
