/- The plain law of selectors: what reads tokens, and what a selector's text is. -/
import Derived.Test.YtidfiiogjfpfmaaLabC
namespace Go.Proofs.Ytidfiiogjfpfmaa.Sel

/-- a token: what it is, where it begins, its text -/
abbrev Tk := Int × Int × ByteArray
abbrev Mt := Lab.Mt
/-- what stands at a place -/
def isK (ts : List Tk) (i : Nat) (k : Int) : Bool :=
  match ts[i]? with
  | none => false
  | some t => t.1 == k
def isS (ts : List Tk) (i : Nat) (s : ByteArray) : Bool :=
  match ts[i]? with
  | none => false
  | some t => t.1 == 4 && decide (t.2.2 = s)
def sOf (ts : List Tk) (i : Nat) : ByteArray :=
  match ts[i]? with
  | none => ⟨#[]⟩
  | some t => t.2.2
def wrong (ts : List Tk) (i : Nat) : Int := if ts.length ≤ i then 3 else 1
/-- the error of a name at a place -/
def nameE (ts : List Tk) (i : Nat) : Int :=
  match ts[i]? with
  | none => 3
  | some t => if t.1 = 1 then (if Lab.name t.2.2 = true then 0 else 7) else 1
def eqS : ByteArray := ⟨#[61]⟩
def neS : ByteArray := ⟨#[33, 61]⟩
def opS : ByteArray := ⟨#[123]⟩
def clS : ByteArray := ⟨#[125]⟩
def coS : ByteArray := ⟨#[44]⟩
def none_ : Mt := (⟨#[]⟩, ⟨#[]⟩, false)
/-- the value's part of a match: its place, and its error -/
def valE (ts : List Tk) (i n : Nat) : Int :=
  match ts[i]? with
  | none => 3
  | some t => if t.1 = 3 then (if 64 < t.2.2.size ∨ 8 ≤ n then 4 else 0) else 1
/-- a match at a place behind n others: what it is, the place behind, the error -/
def matchAt (ts : List Tk) (i n : Nat) : Mt × Nat × Int :=
  if nameE ts i ≠ 0 then (none_, i, nameE ts i)
  else if isS ts (i + 1) neS = false ∧ isS ts (i + 1) eqS = false then (none_, i + 1, wrong ts (i + 1))
  else if valE ts (i + 2) n ≠ 0 then (none_, i + 2, valE ts (i + 2) n)
  else ((sOf ts i, sOf ts (i + 2), isS ts (i + 1) neS), i + 3, 0)
/-- the matches from a place on -/
def matches_ (ts : List Tk) : Nat → Nat → List Mt → List Mt × Nat × Int
  | 0, i, _ => ([], i, 3)
  | f + 1, i, ms =>
    match matchAt ts i ms.length with
    | (m, j, e) =>
      if e ≠ 0 then ([], j, e)
      else if isS ts j clS = true then (ms ++ [m], j + 1, 0)
      else if isS ts j coS = true then matches_ ts f (j + 1) (ms ++ [m])
      else ([], j, wrong ts j)
/-- a selector at a place: its name, its matches, the place behind, the error -/
def selAt (ts : List Tk) (i : Nat) : ByteArray × List Mt × Nat × Int :=
  if nameE ts i ≠ 0 then (⟨#[]⟩, [], i, nameE ts i)
  else if isS ts (i + 1) opS = false then (sOf ts i, [], i + 1, 0)
  else if isS ts (i + 2) clS = true then (sOf ts i, [], i + 3, 0)
  else match matches_ ts 10 (i + 2) [] with
    | (ms, j, e) => if e ≠ 0 then (⟨#[]⟩, [], j, e) else (sOf ts i, ms, j, 0)
def parse (ts : List Tk) (i : Int) : ByteArray × List Mt × Nat × Int :=
  if i < 0 then (⟨#[]⟩, [], 0, 3) else selAt ts (min i.toNat ts.length)

theorem ba_eq {u s : ByteArray} (h : u.toList = s.toList) : u = s := by
  rw [ByteArray.toList_eq, ByteArray.toList_eq] at h
  cases u; cases s
  exact congrArg _ (Array.toList_inj.1 h)
theorem ba_ne {u s : ByteArray} (h : ¬ u = s) : (u.toList == s.toList) = false := by
  rw [beq_eq_false_iff_ne]
  exact fun e => h (ba_eq e)
theorem nameE_none {ts : List Tk} {i : Nat} (h : ts[i]? = none) : nameE ts i = 3 := by unfold nameE; rw [h]
theorem nameE_some {ts : List Tk} {i : Nat} {t : Tk} (h : ts[i]? = some t) : nameE ts i = if t.1 = 1 then (if Lab.name t.2.2 = true then 0 else 7) else 1 := by unfold nameE; rw [h]
theorem isK_none {ts : List Tk} {i : Nat} {k : Int} (h : ts[i]? = none) : isK ts i k = false := by unfold isK; rw [h]
theorem isK_some {ts : List Tk} {i : Nat} {k : Int} {t : Tk} (h : ts[i]? = some t) : isK ts i k = (t.1 == k) := by unfold isK; rw [h]
theorem isS_none {ts : List Tk} {i : Nat} {s : ByteArray} (h : ts[i]? = none) : isS ts i s = false := by unfold isS; rw [h]
theorem isS_some {ts : List Tk} {i : Nat} {s : ByteArray} {t : Tk} (h : ts[i]? = some t) : isS ts i s = (t.1 == 4 && decide (t.2.2 = s)) := by unfold isS; rw [h]
theorem sOf_some {ts : List Tk} {i : Nat} {t : Tk} (h : ts[i]? = some t) : sOf ts i = t.2.2 := by unfold sOf; rw [h]
theorem valE_none {ts : List Tk} {i n : Nat} (h : ts[i]? = none) : valE ts i n = 3 := by unfold valE; rw [h]
theorem valE_some {ts : List Tk} {i n : Nat} {t : Tk} (h : ts[i]? = some t) : valE ts i n = if t.1 = 3 then (if 64 < t.2.2.size ∨ 8 ≤ n then 4 else 0) else 1 := by unfold valE; rw [h]
theorem isS_lt {ts : List Tk} {i : Nat} {s : ByteArray} (h : isS ts i s = true) : i < ts.length := by
  rcases hx : ts[i]? with _ | t
  · rw [isS_none hx] at h; cases h
  · exact (List.getElem?_eq_some_iff.1 hx).1
theorem isK_lt {ts : List Tk} {i : Nat} {k : Int} (h : isK ts i k = true) : i < ts.length := by
  rcases hx : ts[i]? with _ | t
  · rw [isK_none hx] at h; cases h
  · exact (List.getElem?_eq_some_iff.1 hx).1
theorem nameE_lt {ts : List Tk} {i : Nat} (h : nameE ts i = 0) : i < ts.length := by
  rcases hx : ts[i]? with _ | t
  · rw [nameE_none hx] at h; cases h
  · exact (List.getElem?_eq_some_iff.1 hx).1
theorem valE_lt {ts : List Tk} {i n : Nat} (h : valE ts i n = 0) : i < ts.length := by
  rcases hx : ts[i]? with _ | t
  · rw [valE_none hx] at h; cases h
  · exact (List.getElem?_eq_some_iff.1 hx).1
theorem wrong_ne (ts : List Tk) (i : Nat) : wrong ts i ≠ 0 := by unfold wrong; split <;> omega
theorem valE_text {ts : List Tk} {i n : Nat} (h : isK ts i 3 = false) : valE ts i n = wrong ts i := by
  rcases hx : ts[i]? with _ | t
  · have h1 := List.getElem?_eq_none_iff.1 hx
    rw [valE_none hx]
    unfold wrong
    rw [if_pos h1]
  · have h1 := (List.getElem?_eq_some_iff.1 hx).1
    rw [isK_some hx] at h
    rw [valE_some hx, if_neg (by simpa using h)]
    unfold wrong
    rw [if_neg (by omega)]
theorem valE_is {ts : List Tk} {i n : Nat} {t : Tk} (h : isK ts i 3 = true) (hx : ts[i]? = some t) : valE ts i n = if 64 < t.2.2.size ∨ 8 ≤ n then 4 else 0 := by
  rw [isK_some hx] at h
  rw [valE_some hx, if_pos (by simpa using h)]
end Go.Proofs.Ytidfiiogjfpfmaa.Sel
