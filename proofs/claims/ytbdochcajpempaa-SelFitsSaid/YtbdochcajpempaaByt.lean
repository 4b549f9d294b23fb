/- A row of octets that the call owns: as a string; and one octet more. -/
import Derived.Test.YtbdochcajpempaaProg
import Derived.Lib.Strings
import Derived.Lib.Slices
import Derived.Lib.Builder
import Derived.Lib.OthersKept
import Derived.Lib.AppendStr
import Derived.WalkKit
import Derived.WalkSpells
import Derived.WalkLawsBesides
import Derived.Laws.Externs
import Derived.Laws.BytesArg
import Derived.Laws.OwnMore
namespace Go.Proofs.Ytbdochcajpempaa.Byt
open Go.RowKit

theorem infoByte : (Try.prog.info? 5).map (fun i => (i.zero, i.size, i.bytes)) = some (some (.int .u8 0), 1, 1) := by kernel_rfl
theorem own_string {w : World} {B : Nat} {v : Value} {l : List UInt8} (h : w.ownsRow B 5 1 v l.length (Lib.byteCells l)) :
    (convert 75 9 v).run Try.prog w = .ok (.string ⟨l.toArray⟩) w := by
  rcases h.2 with ⟨rfl, h0⟩ | ⟨g, cap, cur, rfl, hbg, hg, hnc, hcm, hcs, htk⟩
  · have : l = [] := List.eq_nil_of_length_eq_zero h0
    subst this
    rw [run_convert_bytes_nil w 75 5 Try.underlying75 Try.underlying5 0 0 9 Try.underlying9]
    rfl
  · refine run_convert_bytes_back w 75 9 5 ⟨g, 0, none⟩ cap l Try.underlying75 Try.underlying5 Try.underlying9 ?_
    intro j hj
    have := h.cells (g := g) rfl j (.int .u8 l[j].toNat) (by simp [Lib.byteCells, hj])
    simpa [Addr.add] using this
theorem cells_snoc (l : List UInt8) (c : UInt8) : Lib.byteCells (l ++ [c]) = Lib.byteCells l ++ [.int .u8 (c.toNat : Int)] := by simp [Lib.byteCells]
theorem cells_len (l : List UInt8) : (Lib.byteCells l).length = l.length := Lib.byteCells_length l
theorem own_snoc {w : World} {B : Nat} {v : Value} {l : List UInt8} {c : UInt8} (h : w.ownsRow B 5 1 v (l.length + 1) (Lib.byteCells l ++ [.int .u8 (c.toNat : Int)])) :
    w.ownsRow B 5 1 v (l ++ [c]).length (Lib.byteCells (l ++ [c])) := by
  rw [cells_snoc, List.length_append]
  exact h
theorem own_ge {w : World} {B : Nat} {v : Value} {n : Nat} {xs : List Value} {g : Nat} (h : w.ownsRow B 5 1 v n xs) (e : v.ownBlock = some g) : B ≤ g := (h.lt g e).1
end Go.Proofs.Ytbdochcajpempaa.Byt
