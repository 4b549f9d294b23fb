/- What every row's proof of this seat takes: two closed facts; what the listed variables give; a world in which they lie. -/
import Derived.Test.YtanacoollaajkaaDoorRows
import Derived.Test.YtanacoollaajkaaDoorRow
import Derived.Test.YtanacoollaajkaaDoorDurB
import Derived.ChangeMaps5
import Derived.ProofKit
import Derived.LaidMore
import Derived.OpenShut
import Derived.LaidLaws
import Derived.LaidHandle
import Derived.Stop.Joined
import Derived.Stop.LaidErr
namespace Go.Proofs.YtanacoollaajkaaDoor
open Go.RowKit Go.WideShapes Go.ChangeShapes Go.Joins Go.Deep

theorem Trydown : ownKnob Tryd.prog.godebug = none := by kernel_rfl
theorem TrydlaidOut : laidOutB Tryd.prog = true := by kernel_rfl
theorem gUnits : Tryd.prog.globalNamed "watchtower/dur.units" = some 0 := by kernel_rfl
theorem gPow : Tryd.prog.globalNamed "internal/strconv.uint64pow10" = some 1 := by kernel_rfl
theorem tUnits : (Tryd.prog.globals[0]?).map (·.type) = some 36 := by kernel_rfl
theorem tPow : (Tryd.prog.globals[1]?).map (·.type) = some 55 := by kernel_rfl
theorem cUnit : Tryd.prog.cellsOf 35 = 2 := by kernel_rfl
theorem cUnits : Tryd.prog.cellsOf 36 = 10 := by kernel_rfl
theorem cU64 : Tryd.prog.cellsOf 48 = 1 := by kernel_rfl
theorem cPow : Tryd.prog.cellsOf 55 = 20 := by kernel_rfl
theorem cStr : Tryd.prog.cellsOf 9 = 1 := by kernel_rfl
theorem cInt : Tryd.prog.cellsOf 3 = 1 := by kernel_rfl

abbrev laid4 : List (String × DataW Unit) := [("math/bits.deBruijn32tab", Rows.laid_math_bits_deBruijn32tab), ("math/bits.deBruijn64tab", Rows.laid_math_bits_deBruijn64tab), ("internal/strconv.uint64pow10", Rows.laid_internal_strconv_uint64pow10), ("watchtower/dur.units", Rows.laid_watchtower_dur_units)]

/-- The door's own heap meets the condition. -/
theorem door_met (os : Os) (args : Array Value) : laidMetH Tryd.prog laid4 ((World.doorLaid Tryd.prog 34 os).forCall (fun _ _ => 0) ⟨#[], args, []⟩).memory :=
  laidMetH_of_parts3 (fuel := 8) (laidMet_of_run' 8 (by kernel_rfl) (by kernel_rfl)) (by kernel_rfl) (by kernel_rfl)

section
variable {H : Type} {enc : TypeId × Value → H} {w : World} {base : Nat} {sp : Nat → Bool} {held : Bool} {fuel : Nat}
theorem unit_cells {l : List Value} {b : List UInt8} {z : Int} {p : List MemPlace} (h : DataW.trod enc Tryd.prog w base sp held fuel 35 l = some (.agg [.lit (.string b), .lit (.int .i64 z)], p)) : l = [.string ⟨b.toArray⟩, .int .i64 z] := by
  obtain ⟨xs, n, _, hx, hl, hlen, hf⟩ := DataW.trod_struct Tryd.underlying35 h
  rw [cUnit] at hl
  match l, hl with
  | [u, v], _ =>
    have h0 := hf 0 _ rfl
    have h1 := hf 1 _ rfl
    match xs, hlen with
    | [y0, y1], _ =>
      simp only [Prod.mk.injEq, DataW.agg.injEq, List.map_cons, List.map_nil, List.cons.injEq, and_true] at hx
      obtain ⟨⟨e0, e1⟩, _⟩ := hx
      have h0' : DataW.trod enc Tryd.prog w base sp held n 9 [u] = some y0 := h0
      have h1' : DataW.trod enc Tryd.prog w base sp held n 3 [v] = some y1 := h1
      obtain ⟨s, hs, hd, _⟩ := DataW.trod_string Tryd.underlying9 h0'
      obtain ⟨k, hk, hd1, _⟩ := DataW.trod_int Tryd.underlying3 h1'
      injection hs with hs _
      injection hk with hk _
      subst hs hk
      rw [hd] at e0
      rw [hd1] at e1
      simp only [DataW.lit.injEq, Lit.string.injEq, Lit.int.injEq, true_and] at e0 e1
      subst e0 e1
      rfl
end
theorem chunk {cs : List Value} {u v : Value} {i : Nat} (h : (cs.drop (i * 2)).take 2 = [u, v]) : cs[i * 2]? = some u ∧ cs[i * 2 + 1]? = some v := by
  have h0 := congrArg (fun l : List Value => l[0]?) h
  have h1 := congrArg (fun l : List Value => l[1]?) h
  simp [List.getElem?_take, List.getElem?_drop] at h0 h1
  exact ⟨h0, h1⟩
/-- what the condition gives the walks -/
theorem glob_of_laid {W : World} (h : laidMetH Tryd.prog laid4 W) : Glob W := by
  rw [MakeChecks.laidMetH_plain _ _ _ (by kernel_rfl)] at h
  have h2 := laidMet.tail (laidMet.tail h)
  refine ⟨?_, Lib.tabIs_of_head gPow tPow Tryd.underlying55 Tryd.underlying48 cU64 cPow h2⟩
  obtain ⟨ps, ⟨g', t', cs, fuel, p, q, hg', ht', hvar, hd, _, _⟩, _⟩ := laidMet.tail h2
  obtain rfl := Option.some.inj (gUnits.symm.trans hg')
  obtain rfl := Option.some.inj (tUnits.symm.trans ht')
  obtain ⟨xs, m, _, hx, hl, hlen, hf⟩ := DataW.trod_array Tryd.underlying36 hd
  rw [cUnits] at hl
  have hxs : xs.map (·.1) = [.agg [.lit (.string [100]), .lit (.int .i64 86400000)], .agg [.lit (.string [104]), .lit (.int .i64 3600000)], .agg [.lit (.string [109]), .lit (.int .i64 60000)], .agg [.lit (.string [115]), .lit (.int .i64 1000)], .agg [.lit (.string [109, 115]), .lit (.int .i64 1)]] := by
    have := congrArg Prod.fst hx
    injection this with this
    exact this.symm
  match xs, hlen, hxs, hf with
  | [x0, x1, x2, x3, x4], _, hxs, hf =>
    simp only [List.map_cons, List.map_nil, List.cons.injEq, and_true] at hxs
    obtain ⟨e0, e1, e2, e3, e4⟩ := hxs
    rw [cUnit] at hf
    have k0 := chunk (unit_cells ((hf 0 (by decide)).trans (congrArg some (Prod.ext e0 rfl : x0 = (_, x0.2)))))
    have k1 := chunk (unit_cells ((hf 1 (by decide)).trans (congrArg some (Prod.ext e1 rfl : x1 = (_, x1.2)))))
    have k2 := chunk (unit_cells ((hf 2 (by decide)).trans (congrArg some (Prod.ext e2 rfl : x2 = (_, x2.2)))))
    have k3 := chunk (unit_cells ((hf 3 (by decide)).trans (congrArg some (Prod.ext e3 rfl : x3 = (_, x3.2)))))
    have k4 := chunk (unit_cells ((hf 4 (by decide)).trans (congrArg some (Prod.ext e4 rfl : x4 = (_, x4.2)))))
    have hcs : cs = unitCells := by
      apply Array.toList_inj.1
      generalize cs.toList = l at *
      match l, hl with
      | [a0, a1, a2, a3, a4, a5, a6, a7, a8, a9], _ =>
        simp at k0 k1 k2 k3 k4
        obtain ⟨rfl, rfl⟩ := k0
        obtain ⟨rfl, rfl⟩ := k1
        obtain ⟨rfl, rfl⟩ := k2
        obtain ⟨rfl, rfl⟩ := k3
        obtain ⟨rfl, rfl⟩ := k4
        rfl
    unfold World.var? at hvar
    rw [gUnits] at hvar
    try simp only [Option.bind_some] at hvar
    split at hvar
    · rename_i cs' t fr hh
      injection hvar with hvar
      exact ⟨t, fr, by rw [hh, hvar, hcs]⟩
    · cases hvar
end Go.Proofs.YtanacoollaajkaaDoor
