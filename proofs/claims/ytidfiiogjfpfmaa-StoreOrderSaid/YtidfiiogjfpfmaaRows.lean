/-
  No cell of these rows narrows 'for every input' (looked for: loops, veiled, ifaces, maps, wideKeys, modest, calm, conditions, laid).
  DERIVED. THE GIVEN ROWS OF THIS SEAT. 4 by the template 'for every input the law returns true; each argument reads behind the call as it read before'; 0 by the template 'total and deterministic' (their statements: YtidfiiogjfpfmaaTotals.lean).
  GIVEN WITH THE SEED: the statements are not yours to turn. If you find one false, say at which input.
  Laid BY PROGRAM, IN A SANDBOX (cutbox-rows.mjs): the forced cells as the released guide's own fill.sh prints them over the translation 6d9f773e6028ce01… (all of the seat's roots in one cut). By AI agents, Wed Nov 11 2026. No macro, syntax, notation, axiom, sorry.
-/
import Derived.Test.YtidfiiogjfpfmaaChecked
import GoSem.Claim
import GoSem.ClaimJoined
import GoSem.ClaimMapViews
import Derived.JoinedTies
import Derived.KernelRfl
namespace Go.Proofs.Ytidfiiogjfpfmaa
/- THE CELL 'sum', in the pinned program and in every row, IS THE sha256 OF THE DUMP (.gsa) THAT YtidfiiogjfpfmaaProg.lean LOADS. Nothing in Lean hashes anything: it is a label: what it is worth is what the hold of that sum in a sandbox is worth. -/
noncomputable def Try.pinned : Pinned := { name := "ytidfiiogjfpfmaa", sum := "6d9f773e6028ce01492b1f7ff8dff1e8ffde027e62b1327a89626090c958a839", checked := Try.checked }
namespace Rows
def none {H : Type} : Left H := { results := [], args := [] }

/-- 'watchtowerlaw14.StoreAdds': WHATEVER THE INPUT: true; the input reads as it did. -/
def storeAddsSpec : ChangeSpec := { name := "storeAdds", fn := fun _ => fun
  | [d1, d2, d3, d4] => { results := [.lit (.bool true)], args := [d1, d2, d3, d4] }
  | _ => none }
def storeAddsRow : OpenClaim := { program := "ytidfiiogjfpfmaa", sum := "6d9f773e6028ce01492b1f7ff8dff1e8ffde027e62b1327a89626090c958a839", func := "watchtower/watchtowerlaw14.StoreAdds", spec := "storeAdds", inPlace := ["slices.overlaps[watchtower/api.Series]"], unfollowed := true, recurses := true, apart := false }
def StoreAddsSaid : Prop := storeAddsRow.holds Try.pinned (OpenSpec.ofChange storeAddsSpec)

/-- ITS FALSE NEIGHBOUR: 'it returns false'. Refute it at one input. -/
def storeAddsWrong : ChangeSpec := { name := "storeAdds", fn := fun _ => fun
  | [d1, d2, d3, d4] => { results := [.lit (.bool false)], args := [d1, d2, d3, d4] }
  | _ => none }
def StoreAddsWrongFalsely : Prop := storeAddsRow.holds Try.pinned (OpenSpec.ofChange storeAddsWrong)

/-- 'watchtowerlaw14.StoreOrder': WHATEVER THE INPUT: true; the input reads as it did. -/
def storeOrderSpec : ChangeSpec := { name := "storeOrder", fn := fun _ => fun
  | [d1, d2, d3, d4, d5] => { results := [.lit (.bool true)], args := [d1, d2, d3, d4, d5] }
  | _ => none }
def storeOrderRow : OpenClaim := { program := "ytidfiiogjfpfmaa", sum := "6d9f773e6028ce01492b1f7ff8dff1e8ffde027e62b1327a89626090c958a839", func := "watchtower/watchtowerlaw14.StoreOrder", spec := "storeOrder", inPlace := ["slices.overlaps[watchtower/api.Series]"], unfollowed := true, recurses := true, apart := false }
def StoreOrderSaid : Prop := storeOrderRow.holds Try.pinned (OpenSpec.ofChange storeOrderSpec)

/-- ITS FALSE NEIGHBOUR: 'it returns false'. Refute it at one input. -/
def storeOrderWrong : ChangeSpec := { name := "storeOrder", fn := fun _ => fun
  | [d1, d2, d3, d4, d5] => { results := [.lit (.bool false)], args := [d1, d2, d3, d4, d5] }
  | _ => none }
def StoreOrderWrongFalsely : Prop := storeOrderRow.holds Try.pinned (OpenSpec.ofChange storeOrderWrong)

/-- 'watchtowerlaw14.StoreFinds': WHATEVER THE INPUT: true; the input reads as it did. -/
def storeFindsSpec : ChangeSpec := { name := "storeFinds", fn := fun _ => fun
  | [d1, d2, d3, d4] => { results := [.lit (.bool true)], args := [d1, d2, d3, d4] }
  | _ => none }
def storeFindsRow : OpenClaim := { program := "ytidfiiogjfpfmaa", sum := "6d9f773e6028ce01492b1f7ff8dff1e8ffde027e62b1327a89626090c958a839", func := "watchtower/watchtowerlaw14.StoreFinds", spec := "storeFinds", inPlace := ["slices.overlaps[watchtower/api.Series]"], unfollowed := true, recurses := true, apart := false }
def StoreFindsSaid : Prop := storeFindsRow.holds Try.pinned (OpenSpec.ofChange storeFindsSpec)

/-- ITS FALSE NEIGHBOUR: 'it returns false'. Refute it at one input. -/
def storeFindsWrong : ChangeSpec := { name := "storeFinds", fn := fun _ => fun
  | [d1, d2, d3, d4] => { results := [.lit (.bool false)], args := [d1, d2, d3, d4] }
  | _ => none }
def StoreFindsWrongFalsely : Prop := storeFindsRow.holds Try.pinned (OpenSpec.ofChange storeFindsWrong)

/-- 'watchtowerlaw14.StoreTwice': WHATEVER THE INPUT: true; the input reads as it did. -/
def storeTwiceSpec : ChangeSpec := { name := "storeTwice", fn := fun _ => fun
  | [d1, d2, d3, d4] => { results := [.lit (.bool true)], args := [d1, d2, d3, d4] }
  | _ => none }
def storeTwiceRow : OpenClaim := { program := "ytidfiiogjfpfmaa", sum := "6d9f773e6028ce01492b1f7ff8dff1e8ffde027e62b1327a89626090c958a839", func := "watchtower/watchtowerlaw14.StoreTwice", spec := "storeTwice", inPlace := ["slices.overlaps[watchtower/api.Series]"], unfollowed := true, recurses := true, apart := false }
def StoreTwiceSaid : Prop := storeTwiceRow.holds Try.pinned (OpenSpec.ofChange storeTwiceSpec)

/-- ITS FALSE NEIGHBOUR: 'it returns false'. Refute it at one input. -/
def storeTwiceWrong : ChangeSpec := { name := "storeTwice", fn := fun _ => fun
  | [d1, d2, d3, d4] => { results := [.lit (.bool false)], args := [d1, d2, d3, d4] }
  | _ => none }
def StoreTwiceWrongFalsely : Prop := storeTwiceRow.holds Try.pinned (OpenSpec.ofChange storeTwiceWrong)

/- THE SECOND FORM. 'bulk': how many values and letters a reading holds, each counted each time it is reached (what is shared counts as often as it is met; a slice's spare places count too). A statement '..UptoSaid' is the law's where the arguments, and the package variables that the reading takes, are together of bulk at most 1048576: NARROWER than '..Said'. Prove '..Said' where nothing that the law and all that it calls make is longer than what came in: it says more and counts as full. Else prove '..UptoSaid'. A law counts once. -/
mutual
def uptoBulk {H : Type} : DataW H → Nat
  | .lit (.string bytes) => bytes.length + 1
  | .lit _ => 1
  | .nil => 1
  | .ptr d => uptoBulk d + 1
  | .slice elems spare => uptoBulkAll elems + uptoBulkAll spare + 1
  | .agg parts => uptoBulkAll parts + 1
  | .iface _ d => uptoBulk d + 1
  | .map entries => uptoBulkEntries entries + 1
  | .held _ => 1
def uptoBulkAll {H : Type} : List (DataW H) → Nat
  | [] => 0
  | d :: r => uptoBulk d + uptoBulkAll r
def uptoBulkEntries {H : Type} : List (Lit × DataW H) → Nat
  | [] => 0
  | x :: r => uptoBulkEntry x + uptoBulkEntries r
def uptoBulkEntry {H : Type} : Lit × DataW H → Nat
  | (.string bytes, d) => bytes.length + uptoBulk d + 1
  | (_, d) => uptoBulk d + 1
 end
def uptoSmall : (H : Type) → List (DataW H) → Bool := fun _ ds => decide (uptoBulkAll ds ≤ 1048576)
def OpenSpec.upto (s : _root_.Go.ChangeSpec) : _root_.Go.OpenSpec := { _root_.Go.OpenSpec.ofChange s with cond := some uptoSmall }

/-- 'watchtowerlaw14.StoreAdds', WHERE WHAT IT READS IS OF BULK AT MOST 1048576: true; the input reads as it did. -/
def storeAddsUptoRow : OpenClaim := { program := "ytidfiiogjfpfmaa", sum := "6d9f773e6028ce01492b1f7ff8dff1e8ffde027e62b1327a89626090c958a839", func := "watchtower/watchtowerlaw14.StoreAdds", spec := "storeAdds", inPlace := ["slices.overlaps[watchtower/api.Series]"], unfollowed := true, recurses := true, apart := false, narrowed := true }
def StoreAddsUptoSaid : Prop := storeAddsUptoRow.holds Try.pinned (OpenSpec.upto storeAddsSpec)

/-- 'watchtowerlaw14.StoreOrder', WHERE WHAT IT READS IS OF BULK AT MOST 1048576: true; the input reads as it did. -/
def storeOrderUptoRow : OpenClaim := { program := "ytidfiiogjfpfmaa", sum := "6d9f773e6028ce01492b1f7ff8dff1e8ffde027e62b1327a89626090c958a839", func := "watchtower/watchtowerlaw14.StoreOrder", spec := "storeOrder", inPlace := ["slices.overlaps[watchtower/api.Series]"], unfollowed := true, recurses := true, apart := false, narrowed := true }
def StoreOrderUptoSaid : Prop := storeOrderUptoRow.holds Try.pinned (OpenSpec.upto storeOrderSpec)

/-- 'watchtowerlaw14.StoreFinds', WHERE WHAT IT READS IS OF BULK AT MOST 1048576: true; the input reads as it did. -/
def storeFindsUptoRow : OpenClaim := { program := "ytidfiiogjfpfmaa", sum := "6d9f773e6028ce01492b1f7ff8dff1e8ffde027e62b1327a89626090c958a839", func := "watchtower/watchtowerlaw14.StoreFinds", spec := "storeFinds", inPlace := ["slices.overlaps[watchtower/api.Series]"], unfollowed := true, recurses := true, apart := false, narrowed := true }
def StoreFindsUptoSaid : Prop := storeFindsUptoRow.holds Try.pinned (OpenSpec.upto storeFindsSpec)

/-- 'watchtowerlaw14.StoreTwice', WHERE WHAT IT READS IS OF BULK AT MOST 1048576: true; the input reads as it did. -/
def storeTwiceUptoRow : OpenClaim := { program := "ytidfiiogjfpfmaa", sum := "6d9f773e6028ce01492b1f7ff8dff1e8ffde027e62b1327a89626090c958a839", func := "watchtower/watchtowerlaw14.StoreTwice", spec := "storeTwice", inPlace := ["slices.overlaps[watchtower/api.Series]"], unfollowed := true, recurses := true, apart := false, narrowed := true }
def StoreTwiceUptoSaid : Prop := storeTwiceUptoRow.holds Try.pinned (OpenSpec.upto storeTwiceSpec)

end Rows
end Go.Proofs.Ytidfiiogjfpfmaa
