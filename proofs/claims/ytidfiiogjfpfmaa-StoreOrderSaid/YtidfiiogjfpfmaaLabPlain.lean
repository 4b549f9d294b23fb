/- The plain law of labels: what is a name, and which pairs are labels. -/
import GoSem.Op.String
import Derived.Laws.Strings
namespace Go.Proofs.Ytidfiiogjfpfmaa.Lab

abbrev Bs := List UInt8
abbrev bl (s : ByteArray) : Bs := s.data.toList
abbrev Pr := ByteArray × ByteArray
/-- so many hold -/
def allTo (P : Nat → Bool) : Nat → Bool
  | 0 => true
  | n + 1 => allTo P n && P n
theorem allTo_iff {P : Nat → Bool} {n : Nat} : allTo P n = true ↔ ∀ i, i < n → P i = true := by
  induction n with
  | zero => exact ⟨fun _ i hi => absurd hi (by omega), fun _ => rfl⟩
  | succ n ih =>
    unfold allTo
    rw [Bool.and_eq_true, ih]
    constructor
    · intro h i hi
      rcases Nat.lt_or_ge i n with h' | h'
      · exact h.1 i h'
      · obtain rfl : i = n := by omega
        exact h.2
    · exact fun h => ⟨fun i hi => h i (by omega), h n (by omega)⟩
theorem allTo_bad {P : Nat → Bool} {n i : Nat} (hi : i < n) (h : P i = false) : allTo P n = false := by
  rcases hx : allTo P n with _ | _
  · rfl
  · rw [allTo_iff.1 hx i hi] at h
    cases h
theorem allTo_step {P : Nat → Bool} {n : Nat} (h : allTo P n = true) (h2 : P n = true) : allTo P (n + 1) = true := by
  unfold allTo
  rw [h, h2]
  rfl
theorem allTo_congr {P Q : Nat → Bool} {n : Nat} (h : ∀ i, i < n → P i = Q i) : allTo P n = allTo Q n := by
  induction n with
  | zero => rfl
  | succ n ih =>
    unfold allTo
    rw [ih (fun i hi => h i (by omega)), h n (by omega)]
def letter (c : UInt8) : Bool := (decide (97 ≤ c) && decide (c ≤ 122)) || (decide (65 ≤ c) && decide (c ≤ 90)) || c == 95
def digit (c : UInt8) : Bool := decide (48 ≤ c) && decide (c ≤ 57)
/-- may an octet stand at a place of a name? -/
def nameAt (s : ByteArray) (i : Nat) : Bool := letter (s.get! i) || (digit (s.get! i) && decide (0 < i))
def name (s : ByteArray) : Bool := decide (1 ≤ s.size) && decide (s.size ≤ 64) && allTo (nameAt s) s.size
theorem get_at (s : ByteArray) (i : Nat) (h : i < s.size) : s.get! i = s[i] := by
  simp [ByteArray.get!, getElem!_pos, h]
  rfl
/-- is the pair at a place as it should be? -/
def okAt (l : List Pr) (i : Nat) : Bool :=
  match l[i]? with
  | none => true
  | some p => name p.1 && decide (p.2.size ≤ 64) && (match i with
    | 0 => true
    | k + 1 => match l[k]? with
      | none => true
      | some q => Op.bytesLess q.1.toList p.1.toList)
def sane (l : List Pr) : Bool := decide (l.length ≤ 16) && allTo (okAt l) l.length
def find (l : List Pr) (n : ByteArray) : Option ByteArray := (l.find? fun p => p.1.toList == n.toList).map (·.2)
def get (l : List Pr) (n : ByteArray) : Option ByteArray := if sane l = true then find l n else none
end Go.Proofs.Ytidfiiogjfpfmaa.Lab
