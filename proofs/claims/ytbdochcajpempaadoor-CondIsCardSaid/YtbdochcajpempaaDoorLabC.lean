/- The texts LabPlain, LabA, LabB, LabC in one. -/
import GoSem.Op.String
import Derived.Laws.Strings
import Derived.Test.YtbdochcajpempaaDoorProg
import Derived.WalkKit
import Derived.WalkSpells
import Derived.WalkLawsBesides
import Derived.Lib.Hide
import Derived.IntWalk
import Derived.BigQuiet
import Derived.Deep.QuietTactic
import Derived.LoopTactic
import Derived.Below
import Derived.Test.YtbdochcajpempaaDoorRecs
import Derived.Deep.RegionHeld3
/- The plain law of labels: what is a name, and which pairs are labels. -/
namespace Go.Proofs.YtbdochcajpempaaDoor.Lab

abbrev Bs := List UInt8
abbrev bl (s : ByteArray) : Bs := s.data.toList
abbrev Pr := ByteArray × ByteArray
/-- so many hold -/
def allTo (P : Nat → Bool) : Nat → Bool
  | 0 => true
  | n + 1 => allTo P n && P n
theorem allTo_iff {P : Nat → Bool} {n : Nat} : allTo P n = true ↔ ∀ i, i < n → P i = true := by
  induction n with
  | zero => exact ⟨fun _ i hi => absurd hi (by omega), fun _ => rfl⟩
  | succ n ih =>
    unfold allTo
    rw [Bool.and_eq_true, ih]
    constructor
    · intro h i hi
      rcases Nat.lt_or_ge i n with h' | h'
      · exact h.1 i h'
      · obtain rfl : i = n := by omega
        exact h.2
    · exact fun h => ⟨fun i hi => h i (by omega), h n (by omega)⟩
theorem allTo_bad {P : Nat → Bool} {n i : Nat} (hi : i < n) (h : P i = false) : allTo P n = false := by
  rcases hx : allTo P n with _ | _
  · rfl
  · rw [allTo_iff.1 hx i hi] at h
    cases h
theorem allTo_step {P : Nat → Bool} {n : Nat} (h : allTo P n = true) (h2 : P n = true) : allTo P (n + 1) = true := by
  unfold allTo
  rw [h, h2]
  rfl
theorem allTo_congr {P Q : Nat → Bool} {n : Nat} (h : ∀ i, i < n → P i = Q i) : allTo P n = allTo Q n := by
  induction n with
  | zero => rfl
  | succ n ih =>
    unfold allTo
    rw [ih (fun i hi => h i (by omega)), h n (by omega)]
def letter (c : UInt8) : Bool := (decide (97 ≤ c) && decide (c ≤ 122)) || (decide (65 ≤ c) && decide (c ≤ 90)) || c == 95
def digit (c : UInt8) : Bool := decide (48 ≤ c) && decide (c ≤ 57)
/-- may an octet stand at a place of a name? -/
def nameAt (s : ByteArray) (i : Nat) : Bool := letter (s.get! i) || (digit (s.get! i) && decide (0 < i))
def name (s : ByteArray) : Bool := decide (1 ≤ s.size) && decide (s.size ≤ 64) && allTo (nameAt s) s.size
theorem get_at (s : ByteArray) (i : Nat) (h : i < s.size) : s.get! i = s[i] := by
  simp [ByteArray.get!, getElem!_pos, h]
  rfl
/-- is the pair at a place as it should be? -/
def okAt (l : List Pr) (i : Nat) : Bool :=
  match l[i]? with
  | none => true
  | some p => name p.1 && decide (p.2.size ≤ 64) && (match i with
    | 0 => true
    | k + 1 => match l[k]? with
      | none => true
      | some q => Op.bytesLess q.1.toList p.1.toList)
def sane (l : List Pr) : Bool := decide (l.length ≤ 16) && allTo (okAt l) l.length
def find (l : List Pr) (n : ByteArray) : Option ByteArray := (l.find? fun p => p.1.toList == n.toList).map (·.2)
def get (l : List Pr) (n : ByteArray) : Option ByteArray := if sane l = true then find l n else none
end Go.Proofs.YtbdochcajpempaaDoor.Lab

/- The walks of label's Name and of the reference's Name. -/
namespace Go.Proofs.YtbdochcajpempaaDoor
open Go.RowKit
set_option linter.unusedSimpArgs false
set_option linter.unusedVariables false

namespace Lab
theorem retb {a b : Bool} (h : a = b) : Ending.returned (.bool a) = .returned (.bool b) := by rw [h]
theorem o_le (c : UInt8) (n : Nat) (hn : n < 256) : (c ≤ UInt8.ofNat n) ↔ (c.toNat : Int) ≤ (n : Int) := by
  rw [UInt8.le_iff_toNat_le, UInt8.toNat_ofNat']
  omega
theorem o_ge (c : UInt8) (n : Nat) (hn : n < 256) : (UInt8.ofNat n ≤ c) ↔ (n : Int) ≤ (c.toNat : Int) := by
  rw [UInt8.le_iff_toNat_le, UInt8.toNat_ofNat']
  omega
theorem o_eq (c : UInt8) (n : Nat) (hn : n < 256) : (c = UInt8.ofNat n) ↔ (c.toNat : Int) = (n : Int) := by
  rw [← UInt8.toNat_inj, UInt8.toNat_ofNat']
  omega
theorem digit_int (c : UInt8) : (digit c = true) ↔ (48 ≤ (c.toNat : Int) ∧ (c.toNat : Int) ≤ 57) := by
  have h1 := o_ge c 48 (by decide)
  have h2 := o_le c 57 (by decide)
  simp only [digit, Bool.and_eq_true, decide_eq_true_eq]
  exact ⟨fun h => ⟨h1.1 h.1, h2.1 h.2⟩, fun h => ⟨h1.2 h.1, h2.2 h.2⟩⟩
theorem letter_int (c : UInt8) : (letter c = true) ↔ ((97 ≤ (c.toNat : Int) ∧ (c.toNat : Int) ≤ 122) ∨ (65 ≤ (c.toNat : Int) ∧ (c.toNat : Int) ≤ 90) ∨ (c.toNat : Int) = 95) := by
  have h1 := o_ge c 97 (by decide)
  have h2 := o_le c 122 (by decide)
  have h3 := o_ge c 65 (by decide)
  have h4 := o_le c 90 (by decide)
  have h5 := o_eq c 95 (by decide)
  simp only [letter, Bool.or_eq_true, Bool.and_eq_true, decide_eq_true_eq, beq_iff_eq]
  constructor
  · rintro ((h | h) | h)
    · exact .inl ⟨h1.1 h.1, h2.1 h.2⟩
    · exact .inr (.inl ⟨h3.1 h.1, h4.1 h.2⟩)
    · exact .inr (.inr (h5.1 h))
  · rintro (h | h | h)
    · exact .inl (.inl ⟨h1.2 h.1, h2.2 h.2⟩)
    · exact .inl (.inr ⟨h3.2 h.1, h4.2 h.2⟩)
    · exact .inr (h5.2 h)
theorem nameAt_is (s : ByteArray) (i : Nat) (h : i < s.size) (c : UInt8) (hc : s[i] = c) : nameAt s i = (letter c || (digit c && decide (0 < i))) := by
  unfold nameAt
  rw [get_at s i h, hc]
/-- the ways in which an octet may stand there -/
theorem nameAt_yes {s : ByteArray} {i : Nat} {h : i < s.size} {c : UInt8} (hc : s[i] = c) (hn : nameAt s i = true) :
    (97 ≤ (c.toNat : Int) ∧ (c.toNat : Int) ≤ 122) ∨ (65 ≤ (c.toNat : Int) ∧ (c.toNat : Int) ≤ 90) ∨ (c.toNat : Int) = 95 ∨ (48 ≤ (c.toNat : Int) ∧ (c.toNat : Int) ≤ 57 ∧ 0 < i) := by
  rw [nameAt_is s i h c hc, Bool.or_eq_true, Bool.and_eq_true, letter_int, digit_int, decide_eq_true_eq] at hn
  rcases hn with (h1 | h1 | h1) | h1
  · exact .inl h1
  · exact .inr (.inl h1)
  · exact .inr (.inr (.inl h1))
  · exact .inr (.inr (.inr ⟨h1.1.1, h1.1.2, h1.2⟩))
/-- and in which it may not -/
theorem nameAt_no {s : ByteArray} {i : Nat} {h : i < s.size} {c : UInt8} (hc : s[i] = c) (hn : nameAt s i = false) :
    (c.toNat : Int) < 48 ∨ (57 < (c.toNat : Int) ∧ (c.toNat : Int) < 65) ∨ (90 < (c.toNat : Int) ∧ (c.toNat : Int) < 95) ∨ (95 < (c.toNat : Int) ∧ (c.toNat : Int) < 97) ∨ 122 < (c.toNat : Int) ∨ (48 ≤ (c.toNat : Int) ∧ (c.toNat : Int) ≤ 57 ∧ i = 0) := by
  rw [nameAt_is s i h c hc, Bool.or_eq_false_iff, Bool.and_eq_false_iff] at hn
  have h1 : ¬ ((97 ≤ (c.toNat : Int) ∧ (c.toNat : Int) ≤ 122) ∨ (65 ≤ (c.toNat : Int) ∧ (c.toNat : Int) ≤ 90) ∨ (c.toNat : Int) = 95) := fun h => by rw [(letter_int c).2 h] at hn; cases hn.1
  rcases hn.2 with h2 | h2
  · have h3 : ¬ (48 ≤ (c.toNat : Int) ∧ (c.toNat : Int) ≤ 57) := fun h => by rw [(digit_int c).2 h] at h2; cases h2
    omega
  · have h3 : ¬ 0 < i := of_decide_eq_false h2
    omega
end Lab

set_option maxRecDepth 100000 in
set_option maxHeartbeats 4000000 in
theorem name_any (s : ByteArray) (w : World) : Calls Tryd.prog 49 #[.string s] w fun e w' => e = .returned (.bool (Lab.name s)) ∧ w = w' := by
  by_cases h1 : s.size < 1
  · have hd : decide (s.size < 1) = true := decide_eq_true h1
    have hd' : decide ((s.size : Int) < 1) = true := decide_eq_true (by omega)
    have HN := Lib.hid (show Lab.name s = false by unfold Lab.name; rw [decide_eq_false (by omega : ¬ 1 ≤ s.size)]; rfl)
    clear h1
    go_enter Tryd.func49, Tryd.ntmps49
    go_wp2
    go_ret
    exact ⟨by rw [HN.out]; rfl, rfl⟩
  · have hd' : decide ((s.size : Int) < 1) = false := decide_eq_false (by omega)
    by_cases h2 : 64 < s.size
    · have hd2 : decide ((64 : Int) < (s.size : Int)) = true := decide_eq_true (by omega)
      have HN := Lib.hid (show Lab.name s = false by unfold Lab.name; rw [decide_eq_false (by omega : ¬ s.size ≤ 64), Bool.and_false]; rfl)
      clear h1
      go_enter Tryd.func49, Tryd.ntmps49
      go_wp2
      go_ret
      exact ⟨by rw [HN.out]; rfl, rfl⟩
    · have hd2 : decide ((64 : Int) < (s.size : Int)) = false := decide_eq_false (by omega)
      have HN := Lib.hid (show Lab.name s = Lab.allTo (Lab.nameAt s) s.size by unfold Lab.name; rw [decide_eq_true (by omega : 1 ≤ s.size), decide_eq_true (by omega : s.size ≤ 64)]; rfl)
      clear h1
      go_enter Tryd.func49, Tryd.ntmps49
      go_wp2
      go_loop [3] (fun j => ∃ i : Nat, i ≤ s.size ∧ j = .int .i64 (i : Nat) ∧ Lab.allTo (Lab.nameAt s) i = true) (fun j => s.size - (intOf j).toNat)
      case atStart => exact ⟨0, Nat.zero_le _, rfl, rfl⟩
      case round =>
        obtain ⟨i, hi, rfl, hall⟩ := hrel
        have HALL := Lib.hid hall
        clear hall
        by_cases hlt : i < s.size
        · have hdi : decide (i < s.size) = true := decide_eq_true hlt
          obtain ⟨c, hc⟩ : ∃ c, s[i] = c := ⟨_, rfl⟩
          rcases hn : Lab.nameAt s i with _ | _
          · have hways := Lab.nameAt_no hc hn
            have HB := Lib.hid (show Lab.name s = false by rw [HN.out]; exact Lab.allTo_bad hlt hn)
            have n95 : ((c.toNat : Int) == 95) = false := by rw [beq_eq_false_iff_ne]; omega
            clear hn
            rcases hways with h | ⟨h, h'⟩ | ⟨h, h'⟩ | ⟨h, h'⟩ | h | ⟨h, h', hz⟩
            · have a1 : decide ((97 : Int) ≤ (c.toNat : Int)) = false := by first | exact decide_eq_true (by omega) | exact decide_eq_false (by omega)
              have a2 : decide ((c.toNat : Int) ≤ 122) = true := by first | exact decide_eq_true (by omega) | exact decide_eq_false (by omega)
              have a3 : decide ((65 : Int) ≤ (c.toNat : Int)) = false := by first | exact decide_eq_true (by omega) | exact decide_eq_false (by omega)
              have a4 : decide ((c.toNat : Int) ≤ 90) = true := by first | exact decide_eq_true (by omega) | exact decide_eq_false (by omega)
              have a5 : decide ((48 : Int) ≤ (c.toNat : Int)) = false := by first | exact decide_eq_true (by omega) | exact decide_eq_false (by omega)
              have a6 : decide ((c.toNat : Int) ≤ 57) = true := by first | exact decide_eq_true (by omega) | exact decide_eq_false (by omega)
              clear h
              go_wp2
              go_ret
              exact ⟨by rw [HB.out]; rfl, rfl⟩
            · have a1 : decide ((97 : Int) ≤ (c.toNat : Int)) = false := by first | exact decide_eq_true (by omega) | exact decide_eq_false (by omega)
              have a2 : decide ((c.toNat : Int) ≤ 122) = true := by first | exact decide_eq_true (by omega) | exact decide_eq_false (by omega)
              have a3 : decide ((65 : Int) ≤ (c.toNat : Int)) = false := by first | exact decide_eq_true (by omega) | exact decide_eq_false (by omega)
              have a4 : decide ((c.toNat : Int) ≤ 90) = true := by first | exact decide_eq_true (by omega) | exact decide_eq_false (by omega)
              have a5 : decide ((48 : Int) ≤ (c.toNat : Int)) = true := by first | exact decide_eq_true (by omega) | exact decide_eq_false (by omega)
              have a6 : decide ((c.toNat : Int) ≤ 57) = false := by first | exact decide_eq_true (by omega) | exact decide_eq_false (by omega)
              clear h h'
              go_wp2
              go_ret
              exact ⟨by rw [HB.out]; rfl, rfl⟩
            · have a1 : decide ((97 : Int) ≤ (c.toNat : Int)) = false := by first | exact decide_eq_true (by omega) | exact decide_eq_false (by omega)
              have a2 : decide ((c.toNat : Int) ≤ 122) = true := by first | exact decide_eq_true (by omega) | exact decide_eq_false (by omega)
              have a3 : decide ((65 : Int) ≤ (c.toNat : Int)) = true := by first | exact decide_eq_true (by omega) | exact decide_eq_false (by omega)
              have a4 : decide ((c.toNat : Int) ≤ 90) = false := by first | exact decide_eq_true (by omega) | exact decide_eq_false (by omega)
              have a5 : decide ((48 : Int) ≤ (c.toNat : Int)) = true := by first | exact decide_eq_true (by omega) | exact decide_eq_false (by omega)
              have a6 : decide ((c.toNat : Int) ≤ 57) = false := by first | exact decide_eq_true (by omega) | exact decide_eq_false (by omega)
              clear h h'
              go_wp2
              go_ret
              exact ⟨by rw [HB.out]; rfl, rfl⟩
            · have a1 : decide ((97 : Int) ≤ (c.toNat : Int)) = false := by first | exact decide_eq_true (by omega) | exact decide_eq_false (by omega)
              have a2 : decide ((c.toNat : Int) ≤ 122) = true := by first | exact decide_eq_true (by omega) | exact decide_eq_false (by omega)
              have a3 : decide ((65 : Int) ≤ (c.toNat : Int)) = true := by first | exact decide_eq_true (by omega) | exact decide_eq_false (by omega)
              have a4 : decide ((c.toNat : Int) ≤ 90) = false := by first | exact decide_eq_true (by omega) | exact decide_eq_false (by omega)
              have a5 : decide ((48 : Int) ≤ (c.toNat : Int)) = true := by first | exact decide_eq_true (by omega) | exact decide_eq_false (by omega)
              have a6 : decide ((c.toNat : Int) ≤ 57) = false := by first | exact decide_eq_true (by omega) | exact decide_eq_false (by omega)
              clear h h'
              go_wp2
              go_ret
              exact ⟨by rw [HB.out]; rfl, rfl⟩
            · have a1 : decide ((97 : Int) ≤ (c.toNat : Int)) = true := by first | exact decide_eq_true (by omega) | exact decide_eq_false (by omega)
              have a2 : decide ((c.toNat : Int) ≤ 122) = false := by first | exact decide_eq_true (by omega) | exact decide_eq_false (by omega)
              have a3 : decide ((65 : Int) ≤ (c.toNat : Int)) = true := by first | exact decide_eq_true (by omega) | exact decide_eq_false (by omega)
              have a4 : decide ((c.toNat : Int) ≤ 90) = false := by first | exact decide_eq_true (by omega) | exact decide_eq_false (by omega)
              have a5 : decide ((48 : Int) ≤ (c.toNat : Int)) = true := by first | exact decide_eq_true (by omega) | exact decide_eq_false (by omega)
              have a6 : decide ((c.toNat : Int) ≤ 57) = false := by first | exact decide_eq_true (by omega) | exact decide_eq_false (by omega)
              clear h
              go_wp2
              go_ret
              exact ⟨by rw [HB.out]; rfl, rfl⟩
            · have hi1 : ((i : Int) == 0) = true := by rw [beq_iff_eq]; omega
              have a1 : decide ((97 : Int) ≤ (c.toNat : Int)) = false := by first | exact decide_eq_true (by omega) | exact decide_eq_false (by omega)
              have a2 : decide ((c.toNat : Int) ≤ 122) = true := by first | exact decide_eq_true (by omega) | exact decide_eq_false (by omega)
              have a3 : decide ((65 : Int) ≤ (c.toNat : Int)) = false := by first | exact decide_eq_true (by omega) | exact decide_eq_false (by omega)
              have a4 : decide ((c.toNat : Int) ≤ 90) = true := by first | exact decide_eq_true (by omega) | exact decide_eq_false (by omega)
              have a5 : decide ((48 : Int) ≤ (c.toNat : Int)) = true := by first | exact decide_eq_true (by omega) | exact decide_eq_false (by omega)
              have a6 : decide ((c.toNat : Int) ≤ 57) = true := by first | exact decide_eq_true (by omega) | exact decide_eq_false (by omega)
              clear h h' hz
              go_wp2
              go_ret
              exact ⟨by rw [HB.out]; rfl, rfl⟩
          · have hways := Lab.nameAt_yes hc hn
            have HS := Lib.hid (Lab.allTo_step HALL.out hn)
            clear hn
            rcases hways with ⟨h, h'⟩ | ⟨h, h'⟩ | h | ⟨h, h', h0⟩
            · have n95 : ((c.toNat : Int) == 95) = false := by rw [beq_eq_false_iff_ne]; omega
              have a1 : decide ((97 : Int) ≤ (c.toNat : Int)) = true := by first | exact decide_eq_true (by omega) | exact decide_eq_false (by omega)
              have a2 : decide ((c.toNat : Int) ≤ 122) = true := by first | exact decide_eq_true (by omega) | exact decide_eq_false (by omega)
              have a3 : decide ((65 : Int) ≤ (c.toNat : Int)) = true := by first | exact decide_eq_true (by omega) | exact decide_eq_false (by omega)
              have a4 : decide ((c.toNat : Int) ≤ 90) = false := by first | exact decide_eq_true (by omega) | exact decide_eq_false (by omega)
              have a5 : decide ((48 : Int) ≤ (c.toNat : Int)) = true := by first | exact decide_eq_true (by omega) | exact decide_eq_false (by omega)
              have a6 : decide ((c.toNat : Int) ≤ 57) = false := by first | exact decide_eq_true (by omega) | exact decide_eq_false (by omega)
              clear h h'
              go_wp2
              go_round
              case rel => exact ⟨i + 1, by omega, by go_num, HS.out⟩
              case measure => simp [intOf]; omega
            · have n95 : ((c.toNat : Int) == 95) = false := by rw [beq_eq_false_iff_ne]; omega
              have a1 : decide ((97 : Int) ≤ (c.toNat : Int)) = false := by first | exact decide_eq_true (by omega) | exact decide_eq_false (by omega)
              have a2 : decide ((c.toNat : Int) ≤ 122) = true := by first | exact decide_eq_true (by omega) | exact decide_eq_false (by omega)
              have a3 : decide ((65 : Int) ≤ (c.toNat : Int)) = true := by first | exact decide_eq_true (by omega) | exact decide_eq_false (by omega)
              have a4 : decide ((c.toNat : Int) ≤ 90) = true := by first | exact decide_eq_true (by omega) | exact decide_eq_false (by omega)
              have a5 : decide ((48 : Int) ≤ (c.toNat : Int)) = true := by first | exact decide_eq_true (by omega) | exact decide_eq_false (by omega)
              have a6 : decide ((c.toNat : Int) ≤ 57) = false := by first | exact decide_eq_true (by omega) | exact decide_eq_false (by omega)
              clear h h'
              go_wp2
              go_round
              case rel => exact ⟨i + 1, by omega, by go_num, HS.out⟩
              case measure => simp [intOf]; omega
            · have n95 : ((c.toNat : Int) == 95) = true := by rw [beq_iff_eq]; exact h
              have a1 : decide ((97 : Int) ≤ (c.toNat : Int)) = false := by first | exact decide_eq_true (by omega) | exact decide_eq_false (by omega)
              have a2 : decide ((c.toNat : Int) ≤ 122) = true := by first | exact decide_eq_true (by omega) | exact decide_eq_false (by omega)
              have a3 : decide ((65 : Int) ≤ (c.toNat : Int)) = true := by first | exact decide_eq_true (by omega) | exact decide_eq_false (by omega)
              have a4 : decide ((c.toNat : Int) ≤ 90) = false := by first | exact decide_eq_true (by omega) | exact decide_eq_false (by omega)
              have a5 : decide ((48 : Int) ≤ (c.toNat : Int)) = true := by first | exact decide_eq_true (by omega) | exact decide_eq_false (by omega)
              have a6 : decide ((c.toNat : Int) ≤ 57) = false := by first | exact decide_eq_true (by omega) | exact decide_eq_false (by omega)
              clear h
              go_wp2
              go_round
              case rel => exact ⟨i + 1, by omega, by go_num, HS.out⟩
              case measure => simp [intOf]; omega
            · have n95 : ((c.toNat : Int) == 95) = false := by rw [beq_eq_false_iff_ne]; omega
              have hi0 : ((i : Int) == 0) = false := by rw [beq_eq_false_iff_ne]; omega
              have a1 : decide ((97 : Int) ≤ (c.toNat : Int)) = false := by first | exact decide_eq_true (by omega) | exact decide_eq_false (by omega)
              have a2 : decide ((c.toNat : Int) ≤ 122) = true := by first | exact decide_eq_true (by omega) | exact decide_eq_false (by omega)
              have a3 : decide ((65 : Int) ≤ (c.toNat : Int)) = false := by first | exact decide_eq_true (by omega) | exact decide_eq_false (by omega)
              have a4 : decide ((c.toNat : Int) ≤ 90) = true := by first | exact decide_eq_true (by omega) | exact decide_eq_false (by omega)
              have a5 : decide ((48 : Int) ≤ (c.toNat : Int)) = true := by first | exact decide_eq_true (by omega) | exact decide_eq_false (by omega)
              have a6 : decide ((c.toNat : Int) ≤ 57) = true := by first | exact decide_eq_true (by omega) | exact decide_eq_false (by omega)
              clear h h' h0
              go_wp2
              go_round
              case rel => exact ⟨i + 1, by omega, by go_num, HS.out⟩
              case measure => simp [intOf]; omega
        · obtain rfl : i = s.size := by omega
          have hdi : decide (s.size < s.size) = false := decide_eq_false (by omega)
          go_wp2
          go_ret
          exact ⟨by rw [HN.out, HALL.out]; rfl, rfl⟩

set_option maxHeartbeats 400000 in
theorem rLetter_any (c : UInt8) (w : World) : Calls Tryd.prog 68 #[.int .u8 (c.toNat : Int)] w fun e w' => e = .returned (.bool (Lab.letter c)) ∧ w = w' := by
  go_enter Tryd.func68, Tryd.ntmps68
  go_wp2
  all_goals go_ret
  all_goals exact ⟨Lab.retb (by rw [Bool.eq_iff_iff, Lab.letter_int]; simp; try omega), rfl⟩
theorem rLetter_at (x : Int) (c : UInt8) (hx : x = (c.toNat : Int)) (b : Bool) (hb : Lab.letter c = b) (w : World) : Calls Tryd.prog 68 #[.int .u8 x] w fun e w' => e = .returned (.bool b) ∧ w = w' := by
  subst hx hb
  exact rLetter_any c w

set_option maxRecDepth 100000 in
set_option maxHeartbeats 4000000 in
theorem rName_any (s : ByteArray) (hs : s.size ≤ 9223372036854775807) (w : World) : Calls Tryd.prog 50 #[.string s] w fun e w' => e = .returned (.bool (Lab.name s)) ∧ w = w' := by
  go_enter Tryd.func50, Tryd.ntmps50
  go_wp2
  go_loop [3] (fun j => ∃ i : Nat, i ≤ s.size ∧ j = .int .i64 (i : Nat) ∧ Lab.allTo (Lab.nameAt s) i = true) (fun j => s.size - (intOf j).toNat)
  case atStart => exact ⟨0, Nat.zero_le _, rfl, rfl⟩
  case round =>
    obtain ⟨i, hi, rfl, hall⟩ := hrel
    have HALL := Lib.hid hall
    clear hall
    by_cases hlt : i < s.size
    · have hdi : decide (i < s.size) = true := decide_eq_true hlt
      obtain ⟨c, hc⟩ : ∃ c, s[i] = c := ⟨_, rfl⟩
      rcases hn : Lab.nameAt s i with _ | _
      · have hways := Lab.nameAt_no hc hn
        have HB := Lib.hid (show Lab.name s = false by unfold Lab.name; rw [Lab.allTo_bad hlt hn, Bool.and_false])
        have hlf : Lab.letter c = false := by
          rw [Lab.nameAt_is s i hlt c hc, Bool.or_eq_false_iff] at hn
          exact hn.1
        have HL := Lib.hid hlf
        clear hn hlf
        have hcase : ((i : Int) == 0) = true ∨ (((i : Int) == 0) = false ∧ decide ((c.toNat : Int) < 48) = true) ∨ (((i : Int) == 0) = false ∧ decide ((c.toNat : Int) < 48) = false ∧ decide ((57 : Int) < (c.toNat : Int)) = true) := by
          by_cases hz : i = 0
          · exact .inl (by rw [beq_iff_eq]; omega)
          · have hz1 : ((i : Int) == 0) = false := by rw [beq_eq_false_iff_ne]; omega
            by_cases h48 : (c.toNat : Int) < 48
            · exact .inr (.inl ⟨hz1, decide_eq_true h48⟩)
            · exact .inr (.inr ⟨hz1, decide_eq_false h48, decide_eq_true (by omega)⟩)
        clear hways
        rcases hcase with hi1 | ⟨hi1, hcd⟩ | ⟨hi1, hcd, hcd2⟩
        · go_wp2_with fail
          refine (rLetter_at _ c rfl _ HL.out _).mono ?_
          rintro e w' ⟨rfl, rfl⟩
          go_wp2
          go_ret
          exact ⟨by rw [HB.out]; rfl, rfl⟩
        · go_wp2_with fail
          refine (rLetter_at _ c rfl _ HL.out _).mono ?_
          rintro e w' ⟨rfl, rfl⟩
          go_wp2
          go_ret
          exact ⟨by rw [HB.out]; rfl, rfl⟩
        · go_wp2_with fail
          refine (rLetter_at _ c rfl _ HL.out _).mono ?_
          rintro e w' ⟨rfl, rfl⟩
          go_wp2
          go_ret
          exact ⟨by rw [HB.out]; rfl, rfl⟩
      · have HS := Lib.hid (Lab.allTo_step HALL.out hn)
        rw [Lab.nameAt_is s i hlt c hc, Bool.or_eq_true] at hn
        rcases hl : Lab.letter c with _ | _
        · have hdg : Lab.digit c = true ∧ 0 < i := by
            rcases hn with h | h
            · rw [hl] at h; cases h
            · rw [Bool.and_eq_true, decide_eq_true_eq] at h; exact h
          have hb := (Lab.digit_int c).1 hdg.1
          have hi1 : ((i : Int) == 0) = false := by rw [beq_eq_false_iff_ne]; omega
          have hcd : decide ((c.toNat : Int) < 48) = false := decide_eq_false (by omega)
          have hcd2 : decide ((57 : Int) < (c.toNat : Int)) = false := decide_eq_false (by omega)
          have HL := Lib.hid hl
          clear hn hl hdg hb
          go_wp2_with fail
          refine (rLetter_at _ c rfl _ HL.out _).mono ?_
          rintro e w' ⟨rfl, rfl⟩
          go_wp2
          go_round
          case rel => exact ⟨i + 1, by omega, by go_num, HS.out⟩
          case measure => simp [intOf]; omega
        · have HL := Lib.hid hl
          clear hn hl
          go_wp2_with fail
          refine (rLetter_at _ c rfl _ HL.out _).mono ?_
          rintro e w' ⟨rfl, rfl⟩
          go_wp2
          go_round
          case rel => exact ⟨i + 1, by omega, by go_num, HS.out⟩
          case measure => simp [intOf]; omega
    · obtain rfl : i = s.size := by omega
      have hdi : decide (s.size < s.size) = false := decide_eq_false (by omega)
      have HN := Lib.hid (show Lab.name s = (decide (1 ≤ s.size) && decide (s.size ≤ 64)) by unfold Lab.name; rw [HALL.out, Bool.and_true])
      by_cases h1 : 1 ≤ s.size
      · have hd1 : decide (1 ≤ (s.size : Int)) = true := decide_eq_true (by omega)
        by_cases h2 : s.size ≤ 64
        · have hd2 : decide ((s.size : Int) ≤ 64) = true := decide_eq_true (by omega)
          go_wp2
          go_ret
          exact ⟨by rw [HN.out, decide_eq_true h1, decide_eq_true h2]; rfl, rfl⟩
        · have hd2 : decide ((s.size : Int) ≤ 64) = false := decide_eq_false (by omega)
          go_wp2
          go_ret
          exact ⟨by rw [HN.out, decide_eq_true h1, decide_eq_false h2]; rfl, rfl⟩
      · have hd1 : decide (1 ≤ (s.size : Int)) = false := decide_eq_false (by omega)
        go_wp2
        go_ret
        exact ⟨by rw [HN.out, decide_eq_false h1]; rfl, rfl⟩
end Go.Proofs.YtbdochcajpempaaDoor

/- The walks of label's Sane and of the reference's Sane. -/
namespace Go.Proofs.YtbdochcajpempaaDoor
open Go.RowKit
set_option linter.unusedSimpArgs false
set_option linter.unusedVariables false

def prCells (p : Lab.Pr) : List Value := [.string p.1, .string p.2]
theorem prCells_len (p : Lab.Pr) : (prCells p).length = 2 := rfl
/-- pairs in memory, their texts no longer than texts may be -/
def Prs (W : World) (B : Nat) (A : Option Addr) (n c : Nat) (xs : List Lab.Pr) : Prop :=
  Recs prCells 2 W B A n c xs ∧ ∀ p ∈ xs, p.1.size ≤ 9223372036854775807 ∧ p.2.size ≤ 9223372036854775807
section
variable {W W' : World} {B B' n c : Nat} {A : Option Addr} {xs : List Lab.Pr}
theorem Prs.len (h : Prs W B A n c xs) : xs.length = n := h.1.1
theorem Prs.below (h : Prs W B A n c xs) (hb : Below B W W') : Prs W' B A n c xs := ⟨h.1.below hb, h.2⟩
theorem Prs.later (h : Prs W W.heap.size A n c xs) (hb : Below W.heap.size W W') : Prs W' W'.heap.size A n c xs := ⟨h.1.later hb, h.2⟩
theorem Prs.more (h : Prs W B A n c xs) (hB : B ≤ B') : Prs W B' A n c xs := ⟨h.1.more hB, h.2⟩
theorem Prs.at_ (h : Prs W B A n c xs) {k : Nat} (hk : k < n) : ∃ b off, A = some ⟨b, off, none⟩ ∧ b < B ∧ ∀ j p, xs[j]? = some p → W.cell? ⟨b, off + j * 2, none⟩ = some (.string p.1) ∧ W.cell? ⟨b, off + j * 2 + 1, none⟩ = some (.string p.2) := by
  obtain ⟨b, off, e, hb, hc⟩ := h.1.at_ (by omega)
  exact ⟨b, off, e, hb, fun j p hp => ⟨hc j p hp 0 _ rfl, hc j p hp 1 _ rfl⟩⟩
end
theorem name_is (s : ByteArray) (b : Bool) (h : Lab.name s = b) (w : World) : Calls Tryd.prog 49 #[.string s] w fun e w' => e = .returned (.bool b) ∧ w = w' := by
  subst h
  exact name_any s w
theorem rName_is (s : ByteArray) (hs : s.size ≤ 9223372036854775807) (b : Bool) (h : Lab.name s = b) (w : World) : Calls Tryd.prog 50 #[.string s] w fun e w' => e = .returned (.bool b) ∧ w = w' := by
  subst h
  exact rName_any s hs w
theorem rName_q (s : ByteArray) (hs : s.size ≤ 9223372036854775807) (b : Bool) (h : Lab.name s = b) (w : World) : Calls Tryd.prog 50 #[.string s] w fun e w' => e = .returned (.bool b) ∧ w' = w :=
  (rName_is s hs b h w).mono fun _ _ ⟨h1, h2⟩ => ⟨h1, h2.symm⟩
theorem str_geq (t : TypeId) (a b : ByteArray) : binOp .geq t (.string a) (.string b) = pure (.bool !(Op.bytesLess a.toList b.toList)) := by simp [binOp, Op.stringOp]
attribute [local go_sem ↓] str_geq
namespace Lab
theorem sane_bad {xs : List Pr} {k : Nat} (hk : k < xs.length) (h : okAt xs k = false) : sane xs = false := by
  unfold sane
  rw [allTo_bad hk h, Bool.and_false]
theorem okAt_zero {xs : List Pr} {p : Pr} (hp : xs[0]? = some p) : okAt xs 0 = (name p.1 && decide (p.2.size ≤ 64)) := by
  unfold okAt
  rw [hp]
  simp
theorem okAt_first {xs : List Pr} {p : Pr} {k : Nat} (h0 : k = 0) (hp : xs[k]? = some p) : okAt xs k = (name p.1 && decide (p.2.size ≤ 64)) := by
  subst h0
  exact okAt_zero hp
theorem okAt_next {xs : List Pr} {p q : Pr} {k : Nat} (h0 : 0 < k) (hp : xs[k]? = some p) (hq : xs[k - 1]? = some q) : okAt xs k = (name p.1 && decide (p.2.size ≤ 64) && Op.bytesLess q.1.toList p.1.toList) := by
  obtain ⟨k, rfl⟩ : ∃ j, k = j + 1 := ⟨k - 1, by omega⟩
  unfold okAt
  rw [hp]
  simp only [show xs[k]? = some q from hq]
theorem okAt_succ {xs : List Pr} {p q : Pr} {k : Nat} (hp : xs[k + 1]? = some p) (hq : xs[k]? = some q) : okAt xs (k + 1) = (name p.1 && decide (p.2.size ≤ 64) && Op.bytesLess q.1.toList p.1.toList) := by
  unfold okAt
  rw [hp]
  simp only [hq]
theorem okAt_name {xs : List Pr} {p : Pr} {k : Nat} (hp : xs[k]? = some p) (h : name p.1 = false) : okAt xs k = false := by
  unfold okAt
  rw [hp]
  simp only [h, Bool.false_and]
theorem okAt_size {xs : List Pr} {p : Pr} {k : Nat} (hp : xs[k]? = some p) (h : 64 < p.2.size) : okAt xs k = false := by
  unfold okAt
  rw [hp]
  simp only [decide_eq_false (by omega : ¬ p.2.size ≤ 64), Bool.and_false, Bool.false_and]
end Lab

end Go.Proofs.YtbdochcajpempaaDoor

/- The walks of sel's Sane and of the reference's Sane. -/
namespace Go.Proofs.YtbdochcajpempaaDoor
open Go.RowKit
set_option linter.unusedSimpArgs false
set_option linter.unusedVariables false

namespace Lab
/-- what is asked of a label -/
abbrev Mt := ByteArray × ByteArray × Bool
def selAt (ms : List Mt) (i : Nat) : Bool :=
  match ms[i]? with
  | none => true
  | some m => name m.1 && decide (m.2.1.size ≤ 64)
def selSane (n : ByteArray) (ms : List Mt) : Bool := name n && decide (ms.length ≤ 8) && allTo (selAt ms) ms.length
theorem selAt_is {ms : List Mt} {m : Mt} {k : Nat} (h : ms[k]? = some m) : selAt ms k = (name m.1 && decide (m.2.1.size ≤ 64)) := by
  unfold selAt
  rw [h]
end Lab
def mtCells (m : Lab.Mt) : List Value := [.string m.1, .string m.2.1, .bool m.2.2]
theorem mtCells_len (m : Lab.Mt) : (mtCells m).length = 3 := rfl
/-- matches in memory -/
def Mts (W : World) (B : Nat) (A : Option Addr) (n c : Nat) (xs : List Lab.Mt) : Prop :=
  Recs mtCells 3 W B A n c xs ∧ ∀ p ∈ xs, p.1.size ≤ 9223372036854775807 ∧ p.2.1.size ≤ 9223372036854775807
section
variable {W W' : World} {B B' n c : Nat} {A : Option Addr} {xs : List Lab.Mt}
theorem Mts.len (h : Mts W B A n c xs) : xs.length = n := h.1.1
theorem Mts.below (h : Mts W B A n c xs) (hb : Below B W W') : Mts W' B A n c xs := ⟨h.1.below hb, h.2⟩
theorem Mts.later (h : Mts W W.heap.size A n c xs) (hb : Below W.heap.size W W') : Mts W' W'.heap.size A n c xs := ⟨h.1.later hb, h.2⟩
theorem Mts.more (h : Mts W B A n c xs) (hB : B ≤ B') : Mts W B' A n c xs := ⟨h.1.more hB, h.2⟩
theorem Mts.alloc (h : Mts W B A n c xs) (hB : B ≤ W.heap.size) (o : Obj) : Mts (W.alloc o) B A n c xs := ⟨h.1.alloc hB o, h.2⟩
theorem Mts.at_ (h : Mts W B A n c xs) {k : Nat} (hk : k < n) : ∃ b off, A = some ⟨b, off, none⟩ ∧ b < B ∧ ∀ j p, xs[j]? = some p → W.cell? ⟨b, off + j * 3, none⟩ = some (.string p.1) ∧ W.cell? ⟨b, off + j * 3 + 1, none⟩ = some (.string p.2.1) ∧ W.cell? ⟨b, off + j * 3 + 2, none⟩ = some (.bool p.2.2) := by
  obtain ⟨b, off, e, hb, hc⟩ := h.1.at_ (by omega)
  exact ⟨b, off, e, hb, fun j p hp => ⟨hc j p hp 0 _ rfl, hc j p hp 1 _ rfl, hc j p hp 2 _ rfl⟩⟩
end

set_option maxRecDepth 100000 in
set_option maxHeartbeats 4000000 in
theorem selSane_any (nm : ByteArray) (A : Option Addr) (n c : Nat) (xs : List Lab.Mt) (w : World) (h : Mts w w.heap.size A n c xs) :
    Calls Tryd.prog 29 #[.agg #[.string nm, .slice A n c]] w fun e w' => e = .returned (.bool (Lab.selSane nm xs)) ∧ Below w.heap.size w w' := by
  have hl := h.len
  rcases hnm : Lab.name nm with _ | _
  · have HNM := Lib.hid hnm
    have HS := Lib.hid (show Lab.selSane nm xs = false by unfold Lab.selSane; rw [hnm]; rfl)
    clear h hl hnm
    go_enter Tryd.func29, Tryd.ntmps29
    go_wp2_with fail
    refine (name_is _ _ HNM.out _).mono ?_
    rintro e w9 ⟨rfl, rfl⟩
    go_wp2
    go_ret
    exact ⟨by rw [HS.out]; rfl, (by repeat (first | assumption | exact Below.refl _ _ | apply Mem.below_drewN | apply Below.drew | refine Below.alloc ?_ (by first | assumption | omega | (simp; done) | (simp; omega)) _ | refine Below.setCell ?_ (by first | assumption | omega | (simp; done) | (simp; omega)) _))⟩
  · have HNM := Lib.hid hnm
    by_cases h8 : 8 < n
    · have hd : decide ((8 : Int) < (n : Int)) = true := decide_eq_true (by omega)
      have HS := Lib.hid (show Lab.selSane nm xs = false by unfold Lab.selSane; rw [hl, decide_eq_false (by omega : ¬ n ≤ 8), Bool.and_false]; rfl)
      clear h hl hnm
      go_enter Tryd.func29, Tryd.ntmps29
      go_wp2_with fail
      refine (name_is _ _ HNM.out _).mono ?_
      rintro e w9 ⟨rfl, rfl⟩
      go_wp2
      go_ret
      exact ⟨by rw [HS.out]; rfl, (by repeat (first | assumption | exact Below.refl _ _ | apply Mem.below_drewN | apply Below.drew | refine Below.alloc ?_ (by first | assumption | omega | (simp; done) | (simp; omega)) _ | refine Below.setCell ?_ (by first | assumption | omega | (simp; done) | (simp; omega)) _))⟩
    · have hd : decide ((8 : Int) < (n : Int)) = false := decide_eq_false (by omega)
      have HS := Lib.hid (show Lab.selSane nm xs = Lab.allTo (Lab.selAt xs) xs.length by unfold Lab.selSane; rw [hl, hnm, decide_eq_true (by omega : n ≤ 8)]; rfl)
      have HL := Lib.hid hl
      have HH := Lib.hid h
      clear h hl hnm
      go_enter Tryd.func29, Tryd.ntmps29
      go_wp2_with fail
      refine (name_is _ _ HNM.out _).mono ?_
      rintro e w9 ⟨rfl, rfl⟩
      go_wp2
      have hB1 := (Below.refl w.heap.size w).alloc (Nat.le_refl _) (.cells #[.string nm, .slice A n c] 24)
      go_loopw [18] (fun i wr => ∃ k : Nat, k ≤ n ∧ i = .int .i64 (k : Nat) ∧ Lab.allTo (Lab.selAt xs) k = true ∧ Below w.heap.size w wr) (fun i _ => n - (intOf i).toNat)
      case atStart => exact ⟨0, Nat.zero_le _, rfl, rfl, hB1⟩
      case round =>
        obtain ⟨k, hk, rfl, hall, hb⟩ := hrel
        have HALL := Lib.hid hall
        clear hall
        by_cases hlt : k < n
        · have hdk : decide (k < n) = true := decide_eq_true hlt
          obtain ⟨b, off, rfl, hbB, hcell⟩ := HH.out.at_ hlt
          obtain ⟨p, hp⟩ : ∃ p, xs[k]? = some p := ⟨_, List.getElem?_eq_getElem (by rw [HL.out]; exact hlt)⟩
          have h1 := (hb.cell (p := ⟨b, off + k * 3, none⟩) hbB).trans (hcell k p hp).1
          have h2 := (hb.cell (p := ⟨b, off + k * 3 + 1, none⟩) hbB).trans (hcell k p hp).2.1
          have h3 := (hb.cell (p := ⟨b, off + k * 3 + 2, none⟩) hbB).trans (hcell k p hp).2.2
          have hbs := hb.size
          have hpz := (HH.out.2 p (List.mem_of_getElem? hp)).2
          have hat := Lab.selAt_is hp
          clear hcell hp
          rcases hn : Lab.name p.1 with _ | _
          · have HB := Lib.hid (show Lab.selSane nm xs = false by rw [HS.out]; exact Lab.allTo_bad (by rw [HL.out]; exact hlt) (by rw [hat, hn]; rfl))
            have HN := Lib.hid hn
            clear hn hat
            go_wp2_with fail
            refine (name_is _ _ HN.out _).mono ?_
            rintro e w9 ⟨rfl, rfl⟩
            go_wp2
            go_ret
            exact ⟨by rw [HB.out]; rfl, (by repeat (first | assumption | exact Below.refl _ _ | apply Mem.below_drewN | apply Below.drew | refine Below.alloc ?_ (by first | assumption | omega | (simp; done) | (simp; omega)) _ | refine Below.setCell ?_ (by first | assumption | omega | (simp; done) | (simp; omega)) _))⟩
          · have HN := Lib.hid hn
            by_cases h64 : 64 < p.2.1.size
            · have HB := Lib.hid (show Lab.selSane nm xs = false by rw [HS.out]; exact Lab.allTo_bad (by rw [HL.out]; exact hlt) (by rw [hat, decide_eq_false (by omega : ¬ p.2.1.size ≤ 64), Bool.and_false]))
              have hd64 : decide ((64 : Int) < (p.2.1.size : Int)) = true := decide_eq_true (by omega)
              clear hn h64 hat
              go_wp2_with fail
              refine (name_is _ _ HN.out _).mono ?_
              rintro e w9 ⟨rfl, rfl⟩
              go_wp2
              go_ret
              exact ⟨by rw [HB.out]; rfl, (by repeat (first | assumption | exact Below.refl _ _ | apply Mem.below_drewN | apply Below.drew | refine Below.alloc ?_ (by first | assumption | omega | (simp; done) | (simp; omega)) _ | refine Below.setCell ?_ (by first | assumption | omega | (simp; done) | (simp; omega)) _))⟩
            · have hd64 : decide ((64 : Int) < (p.2.1.size : Int)) = false := decide_eq_false (by omega)
              have HOK := Lib.hid (Lab.allTo_step HALL.out (show Lab.selAt xs k = true by rw [hat, hn, decide_eq_true (by omega : p.2.1.size ≤ 64)]; rfl))
              clear hn h64 hat
              go_wp2_with fail
              refine (name_is _ _ HN.out _).mono ?_
              rintro e w9 ⟨rfl, rfl⟩
              go_wp2
              go_roundw
              case rel => exact ⟨k + 1, by omega, by go_num, HOK.out, (by repeat (first | assumption | exact Below.refl _ _ | apply Mem.below_drewN | apply Below.drew | refine Below.alloc ?_ (by first | assumption | omega | (simp; done) | (simp; omega)) _ | refine Below.setCell ?_ (by first | assumption | omega | (simp; done) | (simp; omega)) _))⟩
              case measure => simp [intOf]; omega
        · obtain rfl : k = n := by omega
          have hdk : decide (k < k) = false := decide_eq_false (by omega)
          go_wp2
          go_ret
          exact ⟨by rw [HS.out, HL.out, HALL.out]; rfl, hb⟩

set_option maxRecDepth 100000 in
set_option maxHeartbeats 4000000 in
theorem rSelSane_any (nm : ByteArray) (hnms : nm.size ≤ 9223372036854775807) (A : Option Addr) (n c : Nat) (xs : List Lab.Mt) (w : World) (h : Mts w w.heap.size A n c xs) :
    Calls Tryd.prog 31 #[.agg #[.string nm, .slice A n c]] w fun e w' => e = .returned (.bool (Lab.selSane nm xs)) ∧ Below w.heap.size w w' := by
  have hl := h.len
  have hcap := Nat.le_trans h.1.2.1 h.1.2.2.1
  have HL := Lib.hid hl
  have HH := Lib.hid h
  have HNMS := Lib.hid hnms
  clear h hl
  go_enter Tryd.func31, Tryd.ntmps31
  go_wp2
  have hB1 := (Below.refl w.heap.size w).alloc (Nat.le_refl _) (.cells #[.string nm, .slice A n c] 24)
  have hx0 : (w.alloc (.cells #[.string nm, .slice A n c] 24)).cell? ⟨w.heap.size, 0, none⟩ = some (.string nm) := (Mem.Blk.new w 24 #[.string nm, .slice A n c]).cell 0
  have hx1 : (w.alloc (.cells #[.string nm, .slice A n c] 24)).cell? ⟨w.heap.size, 1, none⟩ = some (.slice A n c) := (Mem.Blk.new w 24 #[.string nm, .slice A n c]).cell 1
  have hlt1 : w.heap.size < (w.alloc (.cells #[.string nm, .slice A n c] 24)).heap.size := by simp
  obtain ⟨W1, hW1⟩ : ∃ W1, W1 = w.alloc (.cells #[.string nm, .slice A n c] 24) := ⟨_, rfl⟩
  rw [← hW1] at hB1 hx0 hx1 hlt1 ⊢
  clear hW1
  have HX0 := Lib.hid hx0
  have HX1 := Lib.hid hx1
  clear hx0 hx1
  go_loopw [3] (fun i wr => ∃ k : Nat, k ≤ n ∧ i = .int .i64 (k : Nat) ∧ Lab.allTo (Lab.selAt xs) k = true ∧ Below W1.heap.size W1 wr) (fun i _ => n - (intOf i).toNat)
  case atStart => exact ⟨0, Nat.zero_le _, rfl, rfl, Below.refl _ _⟩
  case round =>
    obtain ⟨k, hk, rfl, hall, hb⟩ := hrel
    have HALL := Lib.hid hall
    clear hall
    have hb0 := hB1.trans (hb.mono hB1.size)
    have x0 := (hb.cell (p := ⟨w.heap.size, 0, none⟩) hlt1).trans HX0.out
    have x1 := (hb.cell (p := ⟨w.heap.size, 1, none⟩) hlt1).trans HX1.out
    by_cases hlt : k < n
    · have hdk : decide (k < n) = true := decide_eq_true hlt
      obtain ⟨b, off, rfl, hbB, hcell⟩ := HH.out.at_ hlt
      obtain ⟨p, hp⟩ : ∃ p, xs[k]? = some p := ⟨_, List.getElem?_eq_getElem (by rw [HL.out]; exact hlt)⟩
      have h1 := (hb0.cell (p := ⟨b, off + k * 3, none⟩) hbB).trans (hcell k p hp).1
      have h2 := (hb0.cell (p := ⟨b, off + k * 3 + 1, none⟩) hbB).trans (hcell k p hp).2.1
      have hbs := hb.size
      have hpz := (HH.out.2 p (List.mem_of_getElem? hp)).2
      have HPZ := Lib.hid (HH.out.2 p (List.mem_of_getElem? hp)).1
      have hat := Lab.selAt_is hp
      clear hcell hp
      rcases hn : Lab.name p.1 with _ | _
      · have HB := Lib.hid (show Lab.selSane nm xs = false by unfold Lab.selSane; rw [Lab.allTo_bad (by rw [HL.out]; exact hlt) (by rw [hat, hn]; rfl), Bool.and_false])
        have HN := Lib.hid hn
        clear hn hat
        go_wp2_with fail
        refine (rName_is _ HPZ.out _ HN.out _).mono ?_
        rintro e w9 ⟨rfl, rfl⟩
        go_wp2
        go_ret
        exact ⟨by rw [HB.out]; rfl, hb0⟩
      · have HN := Lib.hid hn
        by_cases h64 : 64 < p.2.1.size
        · have HB := Lib.hid (show Lab.selSane nm xs = false by unfold Lab.selSane; rw [Lab.allTo_bad (by rw [HL.out]; exact hlt) (by rw [hat, decide_eq_false (by omega : ¬ p.2.1.size ≤ 64), Bool.and_false]), Bool.and_false])
          have hd64 : decide ((64 : Int) < (p.2.1.size : Int)) = true := decide_eq_true (by omega)
          clear hn h64 hat
          go_wp2_with fail
          refine (rName_is _ HPZ.out _ HN.out _).mono ?_
          rintro e w9 ⟨rfl, rfl⟩
          go_wp2
          go_ret
          exact ⟨by rw [HB.out]; rfl, hb0⟩
        · have hd64 : decide ((64 : Int) < (p.2.1.size : Int)) = false := decide_eq_false (by omega)
          have HOK := Lib.hid (Lab.allTo_step HALL.out (show Lab.selAt xs k = true by rw [hat, hn, decide_eq_true (by omega : p.2.1.size ≤ 64)]; rfl))
          clear hn h64 hat
          go_wp2_with fail
          refine (rName_is _ HPZ.out _ HN.out _).mono ?_
          rintro e w9 ⟨rfl, rfl⟩
          go_wp2
          go_roundw
          case rel => exact ⟨k + 1, by omega, by go_num, HOK.out, hb⟩
          case measure => simp [intOf]; omega
    · obtain rfl : k = n := by omega
      have hdk : decide (k < k) = false := decide_eq_false (by omega)
      have HS := Lib.hid (show Lab.selSane nm xs = (Lab.name nm && decide (k ≤ 8)) by unfold Lab.selSane; rw [HL.out, HALL.out, Bool.and_true])
      rcases hnm : Lab.name nm with _ | _
      · have HN := Lib.hid hnm
        clear hnm
        go_wp2_with fail
        refine (rName_is _ HNMS.out _ HN.out _).mono ?_
        rintro e w9 ⟨rfl, rfl⟩
        go_wp2
        go_ret
        exact ⟨by rw [HS.out, HN.out]; rfl, hb0⟩
      · have HN := Lib.hid hnm
        clear hnm
        by_cases h8 : k ≤ 8
        · have hd : decide ((k : Int) ≤ 8) = true := decide_eq_true (by omega)
          go_wp2_with fail
          refine (rName_is _ HNMS.out _ HN.out _).mono ?_
          rintro e w9 ⟨rfl, rfl⟩
          go_wp2
          go_ret
          exact ⟨by rw [HS.out, HN.out, decide_eq_true h8]; rfl, hb0⟩
        · have hd : decide ((k : Int) ≤ 8) = false := decide_eq_false (by omega)
          go_wp2_with fail
          refine (rName_is _ HNMS.out _ HN.out _).mono ?_
          rintro e w9 ⟨rfl, rfl⟩
          go_wp2
          go_ret
          exact ⟨by rw [HS.out, HN.out, decide_eq_false h8]; rfl, hb0⟩
end Go.Proofs.YtbdochcajpempaaDoor
