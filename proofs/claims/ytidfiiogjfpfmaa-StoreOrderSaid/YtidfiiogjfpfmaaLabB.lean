/- The walks of label's Sane and of the reference's Sane. -/
import Derived.Test.YtidfiiogjfpfmaaLabA
import Derived.Test.YtidfiiogjfpfmaaRecs
import Derived.Deep.QuietTactic
import Derived.Deep.RegionHeld3
namespace Go.Proofs.Ytidfiiogjfpfmaa
open Go.RowKit
set_option linter.unusedSimpArgs false
set_option linter.unusedVariables false

def prCells (p : Lab.Pr) : List Value := [.string p.1, .string p.2]
theorem prCells_len (p : Lab.Pr) : (prCells p).length = 2 := rfl
/-- pairs in memory, their texts no longer than texts may be -/
def Prs (W : World) (B : Nat) (A : Option Addr) (n c : Nat) (xs : List Lab.Pr) : Prop :=
  Recs prCells 2 W B A n c xs ∧ ∀ p ∈ xs, p.1.size ≤ 9223372036854775807 ∧ p.2.size ≤ 9223372036854775807
section
variable {W W' : World} {B B' n c : Nat} {A : Option Addr} {xs : List Lab.Pr}
theorem Prs.len (h : Prs W B A n c xs) : xs.length = n := h.1.1
theorem Prs.below (h : Prs W B A n c xs) (hb : Below B W W') : Prs W' B A n c xs := ⟨h.1.below hb, h.2⟩
theorem Prs.later (h : Prs W W.heap.size A n c xs) (hb : Below W.heap.size W W') : Prs W' W'.heap.size A n c xs := ⟨h.1.later hb, h.2⟩
theorem Prs.more (h : Prs W B A n c xs) (hB : B ≤ B') : Prs W B' A n c xs := ⟨h.1.more hB, h.2⟩
theorem Prs.at_ (h : Prs W B A n c xs) {k : Nat} (hk : k < n) : ∃ b off, A = some ⟨b, off, none⟩ ∧ b < B ∧ ∀ j p, xs[j]? = some p → W.cell? ⟨b, off + j * 2, none⟩ = some (.string p.1) ∧ W.cell? ⟨b, off + j * 2 + 1, none⟩ = some (.string p.2) := by
  obtain ⟨b, off, e, hb, hc⟩ := h.1.at_ (by omega)
  exact ⟨b, off, e, hb, fun j p hp => ⟨hc j p hp 0 _ rfl, hc j p hp 1 _ rfl⟩⟩
end
theorem name_is (s : ByteArray) (b : Bool) (h : Lab.name s = b) (w : World) : Calls Try.prog 47 #[.string s] w fun e w' => e = .returned (.bool b) ∧ w = w' := by
  subst h
  exact name_any s w
theorem str_geq (t : TypeId) (a b : ByteArray) : binOp .geq t (.string a) (.string b) = pure (.bool !(Op.bytesLess a.toList b.toList)) := by simp [binOp, Op.stringOp]
attribute [local go_sem ↓] str_geq
namespace Lab
theorem sane_bad {xs : List Pr} {k : Nat} (hk : k < xs.length) (h : okAt xs k = false) : sane xs = false := by
  unfold sane
  rw [allTo_bad hk h, Bool.and_false]
theorem okAt_zero {xs : List Pr} {p : Pr} (hp : xs[0]? = some p) : okAt xs 0 = (name p.1 && decide (p.2.size ≤ 64)) := by
  unfold okAt
  rw [hp]
  simp
theorem okAt_first {xs : List Pr} {p : Pr} {k : Nat} (h0 : k = 0) (hp : xs[k]? = some p) : okAt xs k = (name p.1 && decide (p.2.size ≤ 64)) := by
  subst h0
  exact okAt_zero hp
theorem okAt_next {xs : List Pr} {p q : Pr} {k : Nat} (h0 : 0 < k) (hp : xs[k]? = some p) (hq : xs[k - 1]? = some q) : okAt xs k = (name p.1 && decide (p.2.size ≤ 64) && Op.bytesLess q.1.toList p.1.toList) := by
  obtain ⟨k, rfl⟩ : ∃ j, k = j + 1 := ⟨k - 1, by omega⟩
  unfold okAt
  rw [hp]
  simp only [show xs[k]? = some q from hq]
theorem okAt_succ {xs : List Pr} {p q : Pr} {k : Nat} (hp : xs[k + 1]? = some p) (hq : xs[k]? = some q) : okAt xs (k + 1) = (name p.1 && decide (p.2.size ≤ 64) && Op.bytesLess q.1.toList p.1.toList) := by
  unfold okAt
  rw [hp]
  simp only [hq]
theorem okAt_name {xs : List Pr} {p : Pr} {k : Nat} (hp : xs[k]? = some p) (h : name p.1 = false) : okAt xs k = false := by
  unfold okAt
  rw [hp]
  simp only [h, Bool.false_and]
theorem okAt_size {xs : List Pr} {p : Pr} {k : Nat} (hp : xs[k]? = some p) (h : 64 < p.2.size) : okAt xs k = false := by
  unfold okAt
  rw [hp]
  simp only [decide_eq_false (by omega : ¬ p.2.size ≤ 64), Bool.and_false, Bool.false_and]
end Lab

set_option maxRecDepth 100000 in
set_option maxHeartbeats 4000000 in
theorem labSane_any (A : Option Addr) (n c : Nat) (xs : List Lab.Pr) (w : World) (h : Prs w w.heap.size A n c xs) :
    Calls Try.prog 35 #[.slice A n c] w fun e w' => e = .returned (.bool (Lab.sane xs)) ∧ Below w.heap.size w w' := by
  have hl := h.len
  by_cases h16 : 16 < n
  · have hd : decide ((16 : Int) < (n : Int)) = true := decide_eq_true (by omega)
    have HS := Lib.hid (show Lab.sane xs = false by unfold Lab.sane; rw [hl, decide_eq_false (by omega : ¬ n ≤ 16)]; rfl)
    clear h hl
    go_enter Try.func35, Try.ntmps35
    go_wp2
    go_ret
    exact ⟨by rw [HS.out]; rfl, Below.refl _ _⟩
  · have hd : decide ((16 : Int) < (n : Int)) = false := decide_eq_false (by omega)
    have HS := Lib.hid (show Lab.sane xs = Lab.allTo (Lab.okAt xs) xs.length by unfold Lab.sane; rw [hl, decide_eq_true (by omega : n ≤ 16)]; rfl)
    have HL := Lib.hid hl
    have HH := Lib.hid h
    clear h hl
    go_enter Try.func35, Try.ntmps35
    go_wp2
    go_loopw [10] (fun i wr => ∃ k : Nat, k ≤ n ∧ i = .int .i64 (k : Nat) ∧ Lab.allTo (Lab.okAt xs) k = true ∧ Below w.heap.size w wr) (fun i _ => n - (intOf i).toNat)
    case atStart => exact ⟨0, Nat.zero_le _, rfl, rfl, Below.refl _ _⟩
    case round =>
      obtain ⟨k, hk, rfl, hall, hb⟩ := hrel
      have HALL := Lib.hid hall
      clear hall
      by_cases hlt : k < n
      · have hdk : decide (k < n) = true := decide_eq_true hlt
        obtain ⟨b, off, rfl, hbB, hcell⟩ := HH.out.at_ hlt
        obtain ⟨p, hp⟩ : ∃ p, xs[k]? = some p := ⟨_, List.getElem?_eq_getElem (by rw [HL.out]; exact hlt)⟩
        have h1 := (hb.cell (p := ⟨b, off + k * 2, none⟩) hbB).trans (hcell k p hp).1
        have h2 := (hb.cell (p := ⟨b, off + k * 2 + 1, none⟩) hbB).trans (hcell k p hp).2
        have HC := Lib.hid hcell
        have HP := Lib.hid hp
        have hbs := hb.size
        have hpz := (HH.out.2 p (List.mem_of_getElem? hp)).2
        clear hcell hp
        rcases hn : Lab.name p.1 with _ | _
        · have HB := Lib.hid (Lab.sane_bad (by rw [HL.out]; exact hlt) (Lab.okAt_name HP.out hn))
          have HN := Lib.hid hn
          clear hn
          go_wp2_with fail
          refine (name_is _ _ HN.out _).mono ?_
          rintro e w9 ⟨rfl, rfl⟩
          go_wp2
          go_ret
          exact ⟨by rw [HB.out]; rfl, (by repeat (first | assumption | exact Below.refl _ _ | apply Mem.below_drewN | apply Below.drew | refine Below.alloc ?_ (by first | assumption | omega | (simp; done) | (simp; omega)) _ | refine Below.setCell ?_ (by first | assumption | omega | (simp; done) | (simp; omega)) _))⟩
        · have HN := Lib.hid hn
          by_cases h64 : 64 < p.2.size
          · have HB := Lib.hid (Lab.sane_bad (by rw [HL.out]; exact hlt) (Lab.okAt_size HP.out h64))
            have hd64 : decide ((64 : Int) < (p.2.size : Int)) = true := decide_eq_true (by omega)
            clear hn h64
            go_wp2_with fail
            refine (name_is _ _ HN.out _).mono ?_
            rintro e w9 ⟨rfl, rfl⟩
            go_wp2
            go_ret
            exact ⟨by rw [HB.out]; rfl, (by repeat (first | assumption | exact Below.refl _ _ | apply Mem.below_drewN | apply Below.drew | refine Below.alloc ?_ (by first | assumption | omega | (simp; done) | (simp; omega)) _ | refine Below.setCell ?_ (by first | assumption | omega | (simp; done) | (simp; omega)) _))⟩
          · have hd64 : decide ((64 : Int) < (p.2.size : Int)) = false := decide_eq_false (by omega)
            rcases Nat.eq_zero_or_pos k with hk0 | hk0
            · have hok : Lab.okAt xs k = true := by rw [Lab.okAt_first hk0 HP.out, hn, decide_eq_true (by omega : p.2.size ≤ 64)]; rfl
              have HOK := Lib.hid (Lab.allTo_step HALL.out hok)
              have hd0 : decide (0 < k) = false := decide_eq_false (by omega)
              clear hn h64 hok hk0
              go_wp2_with fail
              refine (name_is _ _ HN.out _).mono ?_
              rintro e w9 ⟨rfl, rfl⟩
              go_wp2
              go_quiet (fail)
              go_wp2
              go_roundw
              case rel => exact ⟨k + 1, by omega, by go_num, HOK.out, (by repeat (first | assumption | exact Below.refl _ _ | apply Mem.below_drewN | apply Below.drew | refine Below.alloc ?_ (by first | assumption | omega | (simp; done) | (simp; omega)) _ | refine Below.setCell ?_ (by first | assumption | omega | (simp; done) | (simp; omega)) _))⟩
              case measure => simp [intOf]; omega
            · obtain ⟨q, hq⟩ : ∃ q, xs[k - 1]? = some q := ⟨_, List.getElem?_eq_getElem (by rw [HL.out]; omega)⟩
              have hokq := Lab.okAt_next hk0 HP.out hq
              have h3 : ∀ o, (wr.alloc o).cell? ⟨b, off + (k - 1) * 2, none⟩ = some (.string q.1) := fun o => (World.cell?_alloc_lt wr o _ (show b < wr.heap.size by omega)).trans ((hb.cell (p := ⟨b, off + (k - 1) * 2, none⟩) hbB).trans (HC.out (k - 1) q hq).1)
              have i0 : (0 : Int) ≤ (k : Int) - 1 := by omega
              have i1 : (k : Int) - 1 < (n : Int) := by omega
              have s1 : IntKind.i64.wrap ((k : Int) - 1) = (k : Int) - 1 := IntWalk.i64_in _ (by omega)
              have s2 : ((k : Int) - 1).toNat = k - 1 := by omega
              have hd0 : decide (0 < k) = true := decide_eq_true hk0
              rcases hless : Op.bytesLess q.1.toList p.1.toList with _ | _
              · have HB := Lib.hid (Lab.sane_bad (by rw [HL.out]; exact hlt) (show Lab.okAt xs k = false by rw [hokq, hless, Bool.and_false]))
                clear hn h64 hokq hq
                go_wp2_with fail
                refine (name_is _ _ HN.out _).mono ?_
                rintro e w9 ⟨rfl, rfl⟩
                go_wp2
                go_quiet (fail)
                clear s1 s2
                go_wp2
                go_ret
                exact ⟨by rw [HB.out]; rfl, (by repeat (first | assumption | exact Below.refl _ _ | apply Mem.below_drewN | apply Below.drew | refine Below.alloc ?_ (by first | assumption | omega | (simp; done) | (simp; omega)) _ | refine Below.setCell ?_ (by first | assumption | omega | (simp; done) | (simp; omega)) _))⟩
              · have hok : Lab.okAt xs k = true := by rw [hokq, hn, decide_eq_true (by omega : p.2.size ≤ 64), hless]; rfl
                have HOK := Lib.hid (Lab.allTo_step HALL.out hok)
                clear hn h64 hokq hq hok
                go_wp2_with fail
                refine (name_is _ _ HN.out _).mono ?_
                rintro e w9 ⟨rfl, rfl⟩
                go_wp2
                go_quiet (fail)
                clear s1 s2
                go_wp2
                go_roundw
                case rel => exact ⟨k + 1, by omega, by go_num, HOK.out, (by repeat (first | assumption | exact Below.refl _ _ | apply Mem.below_drewN | apply Below.drew | refine Below.alloc ?_ (by first | assumption | omega | (simp; done) | (simp; omega)) _ | refine Below.setCell ?_ (by first | assumption | omega | (simp; done) | (simp; omega)) _))⟩
                case measure => simp [intOf]; omega
      · obtain rfl : k = n := by omega
        have hdk : decide (k < k) = false := decide_eq_false (by omega)
        go_wp2
        go_ret
        exact ⟨by rw [HS.out, HL.out, HALL.out]; rfl, hb⟩

end Go.Proofs.Ytidfiiogjfpfmaa
