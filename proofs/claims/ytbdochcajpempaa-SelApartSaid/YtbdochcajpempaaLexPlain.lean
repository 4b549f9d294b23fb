/- The plain law of lex: a text's tokens, on lists of octets. -/
namespace Go.Proofs.Ytbdochcajpempaa.Lex

abbrev Bs := List UInt8
def white (c : UInt8) : Bool := c == 32 || c == 9 || c == 13 || c == 10
def letter (c : UInt8) : Bool := (decide (97 ≤ c) && decide (c ≤ 122)) || (decide (65 ≤ c) && decide (c ≤ 90)) || c == 95
def digit (c : UInt8) : Bool := decide (48 ≤ c) && decide (c ≤ 57)
/-- what is left behind white and remarks; true: within a remark -/
def skip : Bool → Bs → Bs
  | _, [] => []
  | true, c :: l => if c = 10 then skip false l else skip true l
  | false, c :: l => if white c then skip false l else if c = 35 then skip true l else c :: l
def twos : Bs := [61, 33, 60, 62]
def ones : Bs := [123, 125, 40, 41, 44, 58, 59, 61, 60, 62]
def firstIs (p : UInt8 → Bool) : Bs → Bool
  | [] => false
  | d :: _ => p d
/-- what begins with c, and how many octets a sign has -/
def begins (c : UInt8) (l : Bs) : Nat × Nat :=
  if letter c then (1, 0) else
  if digit c || (c == 45 && firstIs digit l) then (2, 0) else
  if c == 34 then (3, 0) else
  if twos.contains c && firstIs (· == 61) l then (4, 2) else
  if ones.contains c then (4, 1) else (0, 0)
/-- does a run go on? -/
def goes (points : Bool) (c : UInt8) : Bool := letter c || digit c || (points && c == 46)
/-- a text's octets and what is left behind it; or an error and its place -/
def text : Bs → Nat → Except (Nat × Int) (Bs × Bs)
  | [], _ => .error (0, 12)
  | c :: l, i =>
    if c = 34 then .ok ([], l) else
    if c = 10 then .error (0, 12) else
    if c = 92 then
      match l with
      | [] => .error (0, 12)
      | d :: l' => if d = 92 ∨ d = 34 then (text l' (i + 2)).map (fun r => (d :: r.1, r.2)) else if d = 110 then (text l' (i + 2)).map (fun r => (10 :: r.1, r.2)) else .error (i, 1)
    else (text l (i + 1)).map (fun r => (c :: r.1, r.2))
structure Tok where
  k : Nat
  at_ : Nat
  s : Bs
/-- one token: its kind, its text, what is left; or an error and its place -/
def one (c : UInt8) (l : Bs) : Except (Nat × Int) (Nat × Bs × Bs) :=
  match begins c l with
  | (1, _) => .ok (1, c :: l.takeWhile (goes false), l.dropWhile (goes false))
  | (2, _) => .ok (2, c :: l.takeWhile (goes true), l.dropWhile (goes true))
  | (3, _) => (text l 1).map (fun r => (3, r.1, r.2))
  | (0, _) => .error (0, 1)
  | (k, n) => .ok (k, (c :: l).take n, (c :: l).drop n)
def all : Nat → Bs → Nat → List Tok × Nat × Int
  | 0, _, n => ([], n, 0)
  | f + 1, l, n =>
    match skip false l with
    | [] => ([], n, 0)
    | c :: r =>
      match one c r with
      | .error (m, e) => ([], n - (r.length + 1) + m, e)
      | .ok (k, p, r') => (⟨k, n - (r.length + 1), p⟩ :: (all f r' n).1, (all f r' n).2)
end Go.Proofs.Ytbdochcajpempaa.Lex
