/- The texts CondOpen, CondOpn in one. -/
import Derived.Test.YtbdochcajpempaaDoorRows
import Derived.Test.YtbdochcajpempaaDoorRow
import Derived.Test.YtbdochcajpempaaDoorCondG
import Derived.ChangeMaps5
import Derived.ProofKit
import Derived.LaidMore
import Derived.Lay
import Derived.OpenShut
import Derived.LaidLaws
import Derived.LaidHandle
import Derived.Lib.LaidTab
import Derived.Stop.Joined
import Derived.Stop.LaidErr
import Derived.Test.YtbdochcajpempaaDoorCondE
import Derived.SizedLaws
/- What every row's proof of this seat takes: two closed facts; what the listed variables give; a world in which they lie. -/
namespace Go.Proofs.YtbdochcajpempaaDoor
set_option linter.unusedSimpArgs false
set_option linter.unusedVariables false
open Go.RowKit Go.WideShapes Go.ChangeShapes Go.Joins Go.Deep

theorem Trydown : ownKnob Tryd.prog.godebug = none := by kernel_rfl
theorem TrydlaidOut : laidOutB Tryd.prog = true := by kernel_rfl
theorem gSigns : Tryd.prog.globalNamed "watchtower/cond.signs" = some 0 := by kernel_rfl
theorem gPow : Tryd.prog.globalNamed "internal/strconv.uint64pow10" = some 2 := by kernel_rfl
theorem tSigns : (Tryd.prog.globals[0]?).map (·.type) = some 51 := by kernel_rfl
theorem tPow : (Tryd.prog.globals[2]?).map (·.type) = some 111 := by kernel_rfl
theorem cU64 : Tryd.prog.cellsOf 104 = 1 := by kernel_rfl
theorem cPow : Tryd.prog.cellsOf 111 = 20 := by kernel_rfl
theorem cStr : Tryd.prog.cellsOf 9 = 1 := by kernel_rfl
theorem cSigns : Tryd.prog.cellsOf 51 = 7 := by kernel_rfl

abbrev laid4 : List (String × DataW Unit) := [("math/bits.deBruijn32tab", Rows.laid_math_bits_deBruijn32tab), ("math/bits.deBruijn64tab", Rows.laid_math_bits_deBruijn64tab), ("internal/strconv.uint64pow10", Rows.laid_internal_strconv_uint64pow10), ("unicode/utf8.acceptRanges", Rows.laid_unicode_utf8_acceptRanges), ("watchtower/cond.signs", Rows.laid_watchtower_cond_signs), ("unicode/utf8.first", Rows.laid_unicode_utf8_first)]

set_option maxRecDepth 100000 in
/-- A world in which the listed variables lie meets the condition. -/
theorem door_met (os : Os) (args : Array Value) : laidMetH Tryd.prog laid4 ((World.laidAll Tryd.prog os laid4).forCall (fun _ _ => 0) ⟨#[], args, []⟩).memory := by
  rw [MakeChecks.laidMetH_plain _ _ _ (by kernel_rfl)]
  exact laidMet_laidAll _ (by kernel_rfl) (by kernel_rfl)

section
variable {H : Type} {enc : TypeId × Value → H} {w : World} {base : Nat} {sp : Nat → Bool} {held : Bool} {fuel : Nat}
theorem str_cell {l : List Value} {b : List UInt8} {p : List MemPlace} (h : DataW.trod enc Tryd.prog w base sp held fuel 9 l = some (.lit (.string b), p)) : l = [.string ⟨b.toArray⟩] := by
  obtain ⟨s, hs, hd, _⟩ := DataW.trod_string Tryd.underlying9 h
  have hd1 := congrArg Prod.fst hd
  simp only at hd1
  injection hd1 with hd1
  injection hd1 with hd1
  subst hd1
  rw [hs]
end
set_option maxRecDepth 100000 in
/-- what the condition gives the walks -/
theorem glob_of_laid {W : World} (h : laidMetH Tryd.prog laid4 W) : CGlob W := by
  rw [MakeChecks.laidMetH_plain _ _ _ (by kernel_rfl)] at h
  have h2 := laidMet.tail (laidMet.tail h)
  refine ⟨?_, Lib.tabIs_of_head gPow tPow Tryd.underlying111 Tryd.underlying104 cU64 cPow h2⟩
  obtain ⟨ps, ⟨g', t', cs, fuel, p, q, hg', ht', hvar, hd, _, _⟩, _⟩ := laidMet.tail (laidMet.tail h2)
  obtain rfl := Option.some.inj (gSigns.symm.trans hg')
  obtain rfl := Option.some.inj (tSigns.symm.trans ht')
  obtain ⟨xs, m, _, hx, hl, hlen, hf⟩ := DataW.trod_array Tryd.underlying51 hd
  rw [cSigns] at hl
  have hxs : xs.map (·.1) = [.lit (.string []), .lit (.string [62]), .lit (.string [62, 61]), .lit (.string [60]), .lit (.string [60, 61]), .lit (.string [61, 61]), .lit (.string [33, 61])] := by
    have := congrArg Prod.fst hx
    injection this with this
    exact this.symm
  match xs, hlen, hxs, hf with
  | [x0, x1, x2, x3, x4, x5, x6], _, hxs, hf =>
    simp only [List.map_cons, List.map_nil, List.cons.injEq, and_true] at hxs
    obtain ⟨e0, e1, e2, e3, e4, e5, e6⟩ := hxs
    rw [cStr] at hf
    have k0 := str_cell ((hf 0 (by decide)).trans (congrArg some (Prod.ext e0 rfl : x0 = (_, x0.2))))
    have k1 := str_cell ((hf 1 (by decide)).trans (congrArg some (Prod.ext e1 rfl : x1 = (_, x1.2))))
    have k2 := str_cell ((hf 2 (by decide)).trans (congrArg some (Prod.ext e2 rfl : x2 = (_, x2.2))))
    have k3 := str_cell ((hf 3 (by decide)).trans (congrArg some (Prod.ext e3 rfl : x3 = (_, x3.2))))
    have k4 := str_cell ((hf 4 (by decide)).trans (congrArg some (Prod.ext e4 rfl : x4 = (_, x4.2))))
    have k5 := str_cell ((hf 5 (by decide)).trans (congrArg some (Prod.ext e5 rfl : x5 = (_, x5.2))))
    have k6 := str_cell ((hf 6 (by decide)).trans (congrArg some (Prod.ext e6 rfl : x6 = (_, x6.2))))
    have hcs : cs = signCells := by
      apply Array.toList_inj.1
      generalize cs.toList = l at *
      match l, hl with
      | [a0, a1, a2, a3, a4, a5, a6], _ =>
        simp only [List.drop_zero, List.drop_succ_cons, List.take_succ_cons, List.take_zero, Nat.zero_mul, Nat.mul_one, List.cons.injEq, and_true] at k0 k1 k2 k3 k4 k5 k6
        subst k0 k1 k2 k3 k4 k5 k6
        rfl
    unfold World.var? at hvar
    rw [gSigns] at hvar
    try simp only [Option.bind_some] at hvar
    split at hvar
    · rename_i cs' t fr hh
      injection hvar with hvar
      exact ⟨t, fr, by rw [hh, hvar, hcs]⟩
    · cases hvar
end Go.Proofs.YtbdochcajpempaaDoor

/- How an argument that is what is asked, or tokens, is opened. -/
namespace Go.Proofs.YtbdochcajpempaaDoor
set_option linter.unusedSimpArgs false
set_option linter.unusedVariables false
set_option maxRecDepth 100000
open Go.RowKit Go.WideShapes Go.ChangeShapes Go.Joins Go.Deep

section
variable {H : Type} {enc : TypeId × Value → H} {W : World} {P : Program} {base : Nat}
/-- a field of a struct that reads -/
theorem fld {fs : Array Field} {xs : List (DataW H × List MemPlace)} {n : Nat} {cs : List Value}
    (hf : ∀ (i : Nat) (f : Field), fs[i]? = some f → DataW.trod enc P W 0 (fun _ => true) true n f.type ((cs.drop f.offset).take (P.cellsOf f.type)) = xs[i]?) (hx : xs.length = fs.size)
    (i : Nat) (f : Field) (hi : fs[i]? = some f) (t : TypeId) (off k : Nat) (ht : f.type = t) (ho : f.offset = off) (hk : P.cellsOf t = k) :
    ∃ y, DataW.trod enc P W 0 (fun _ => true) true n t ((cs.drop off).take k) = some y := by
  subst ht ho hk
  have := hf i f hi
  obtain ⟨y, hy⟩ : ∃ y, xs[i]? = some y := ⟨_, List.getElem?_eq_getElem (by rw [hx]; exact (Array.getElem?_eq_some_iff.1 hi).1)⟩
  exact ⟨y, this.trans hy⟩
/-- a slice of records that reads; each record goes with a datum of the slice -/
theorem open_recs {α : Type} (d : α) {f : α → List Value} {sz : Nat} {Q : DataW H → α → Prop} {t e : TypeId} {fuel : Nat} {cs : List Value} {x : DataW H × List MemPlace} (ht : P.underlying t = some (.slice e)) (hz : P.cellsOf e = sz) (hf : ∀ x, (f x).length = sz) (hpos : 0 < sz)
    (hdec : ∀ n cs' y, DataW.trod enc P W 0 (fun _ => true) true n e cs' = some y → ∃ x : α, cs' = f x ∧ Q y.1 x)
    (h : DataW.trod enc P W 0 (fun _ => true) true fuel t cs = some x) :
    ∃ A n c xs, cs = [.slice A n c] ∧ Recs f sz W W.heap.size A n c xs ∧ ∀ z ∈ xs, ∃ D spare, x.1 = .slice D spare ∧ ∃ y ∈ D, Q y z := by
  rcases Go.Deep.open_slice ht h with ⟨hcs, _⟩ | ⟨a, len, cap, m, n, D, Pl, hcs, _, hl, hm, hmm, hxx, hi⟩
  · exact ⟨none, 0, 0, [], hcs, Recs.none_ _ _, fun x hx => by cases hx⟩
  · have hcl : ∀ i, ∃ x : α, i < len → Q (D i) x ∧ ∀ j u, (f x)[j]? = some u → W.cell? ((a.add (i * sz)).add j) = some u := by
      intro i
      by_cases hil : i < len
      · obtain ⟨cs', hc, hT⟩ := hi i (by rw [hmm]; show i < cap; omega)
        obtain ⟨x, rfl, hq⟩ := hdec _ _ _ hT
        obtain ⟨_, hcl, hat⟩ := World.cells?_some hc
        rw [hz] at hat
        refine ⟨x, fun _ => ⟨hq, fun j u hu => ?_⟩⟩
        have hj : j < sz := by have := (List.getElem?_eq_some_iff.1 hu).1; rwa [hf] at this
        exact (hat j hj).trans hu
      · exact ⟨d, fun h => absurd h hil⟩
    obtain ⟨F, hF⟩ := Classical.axiomOfChoice hcl
    refine ⟨some a, len, cap, (List.range len).map F, hcs, ⟨by simp, hl, by unfold maxLen at hm; exact hm, fun h0 => ?_⟩, ?_⟩
    · obtain ⟨b, off, spot⟩ := a
      obtain ⟨u0, hu0⟩ : ∃ u, (f (F 0))[0]? = some u := ⟨_, List.getElem?_eq_getElem (by rw [hf]; exact hpos)⟩
      have hspot : spot = none := by simpa [Addr.add] using World.cell?_spot ((hF 0 h0).2 0 u0 hu0)
      subst hspot
      refine ⟨b, off, rfl, World.block_lt_of_cell? W ⟨b, off + 0 * sz + 0, none⟩ (by have := (hF 0 h0).2 0 u0 hu0; rwa [Go.WideShapes.add_plain, Go.WideShapes.add_plain] at this), fun j x hj i u hu => ?_⟩
      have hjl : j < len := by have := (List.getElem?_eq_some_iff.1 hj).1; simpa using this
      have e : F j = x := by rw [List.getElem?_map, List.getElem?_range hjl] at hj; simpa using hj
      subst e
      have := (hF j hjl).2 i u hu
      rwa [Go.WideShapes.add_plain, Go.WideShapes.add_plain] at this
    · intro z hz
      obtain ⟨i, hi, rfl⟩ := List.mem_map.1 hz
      refine ⟨_, _, by rw [hxx], D i, List.mem_map.2 ⟨i, hi, rfl⟩, (hF i (List.mem_range.1 hi)).1⟩
end
theorem weights_all {H : Type} {P : Program} {e : TypeId} {n : Nat} : ∀ {ds : List (DataW H)} {d : DataW H}, d ∈ ds → n ∈ d.weights P e → n ∈ DataW.weightsAll P e ds
  | [], _, h, _ => by cases h
  | a :: ds, d, h, hn => by
    rw [DataW.weightsAll, List.mem_append]
    rcases List.mem_cons.1 h with rfl | h
    · exact .inl hn
    · exact .inr (weights_all h hn)

theorem cInt : Tryd.prog.cellsOf 3 = 1 := by kernel_rfl
theorem cBool : Tryd.prog.cellsOf 4 = 1 := by kernel_rfl
theorem cMatch : Tryd.prog.cellsOf 45 = 3 := by kernel_rfl
theorem cToken : Tryd.prog.cellsOf 47 = 3 := by kernel_rfl
theorem cSel : Tryd.prog.cellsOf 24 = 2 := by kernel_rfl
theorem cMatchs : Tryd.prog.cellsOf 22 = 1 := by kernel_rfl
theorem cExpr : Tryd.prog.cellsOf 26 = 4 := by kernel_rfl

theorem len2 {cs : List Value} (h : cs.length = 2) : ∃ a b, cs = [a, b] := by
  rcases cs with _ | ⟨a, _ | ⟨b, _ | ⟨c, cs⟩⟩⟩ <;> simp at h
  exact ⟨a, b, rfl⟩
theorem len3 {cs : List Value} (h : cs.length = 3) : ∃ a b c, cs = [a, b, c] := by
  rcases cs with _ | ⟨a, cs⟩
  · simp at h
  · obtain ⟨b, c, rfl⟩ := len2 (by simpa using h)
    exact ⟨a, b, c, rfl⟩
theorem len4 {cs : List Value} (h : cs.length = 4) : ∃ a b c d, cs = [a, b, c, d] := by
  rcases cs with _ | ⟨a, cs⟩
  · simp at h
  · obtain ⟨b, c, d, rfl⟩ := len3 (by simpa using h)
    exact ⟨a, b, c, d, rfl⟩

section
variable {H : Type} {enc : TypeId × Value → H} {W : World} {base : Nat}
theorem dec_match {n : Nat} {cs : List Value} {y : DataW H × List MemPlace} (h : DataW.trod enc Tryd.prog W 0 (fun _ => true) true n 45 cs = some y) :
    ∃ p : Lab.Mt, cs = mtCells p ∧ p.1.size ≤ 9223372036854775807 ∧ p.2.1.size ≤ 9223372036854775807 := by
  obtain ⟨xs, n', _, _, hl, hx, hf⟩ := DataW.trod_struct Tryd.underlying45 h
  obtain ⟨c0, c1, c2, rfl⟩ := len3 (hl.trans cMatch)
  obtain ⟨y0, h0⟩ := fld hf hx 0 _ rfl 9 0 1 rfl rfl cStr
  obtain ⟨y1, h1⟩ := fld hf hx 1 _ rfl 9 1 1 rfl rfl cStr
  obtain ⟨y2, h2⟩ := fld hf hx 2 _ rfl 4 2 1 rfl rfl cBool
  obtain ⟨s0, q0, _, z0⟩ := DataW.trod_string Tryd.underlying9 h0
  obtain ⟨s1, q1, _, z1⟩ := DataW.trod_string Tryd.underlying9 h1
  obtain ⟨b2, q2, _⟩ := DataW.trod_bool Tryd.underlying4 h2
  change [c0] = _ at q0
  change [c1] = _ at q1
  change [c2] = _ at q2
  cases q0
  cases q1
  cases q2
  exact ⟨(s0, s1, b2), rfl, z0, z1⟩
theorem dec_sel {n : Nat} {cs : List Value} {y : DataW H × List MemPlace} (h : DataW.trod enc Tryd.prog W 0 (fun _ => true) true n 24 cs = some y) :
    ∃ s A m c xs, cs = [.string s, .slice A m c] ∧ s.size ≤ 9223372036854775807 ∧ Mts W W.heap.size A m c xs := by
  obtain ⟨xs, n', _, _, hl, hx, hf⟩ := DataW.trod_struct Tryd.underlying24 h
  obtain ⟨c0, c1, rfl⟩ := len2 (hl.trans cSel)
  obtain ⟨y0, h0⟩ := fld hf hx 0 _ rfl 9 0 1 rfl rfl cStr
  obtain ⟨y1, h1⟩ := fld hf hx 1 _ rfl 22 1 1 rfl rfl cMatchs
  obtain ⟨s0, q0, _, z0⟩ := DataW.trod_string Tryd.underlying9 h0
  obtain ⟨A, m, c, l, q1, hR, hQ⟩ := open_recs ((⟨#[]⟩, ⟨#[]⟩, false) : Lab.Mt) Tryd.underlying22 cMatch mtCells_len (by decide) (Q := fun _ p => p.1.size ≤ 9223372036854775807 ∧ p.2.1.size ≤ 9223372036854775807) (fun n cs' y h => dec_match h) h1
  change [c0] = _ at q0
  change [c1] = _ at q1
  cases q0
  cases q1
  exact ⟨s0, A, m, c, l, rfl, z0, hR, fun z hz => by obtain ⟨_, _, _, _, _, hq⟩ := hQ z hz; exact hq⟩
theorem dec_token {n : Nat} {cs : List Value} {y : DataW H × List MemPlace} (h : DataW.trod enc Tryd.prog W 0 (fun _ => true) true n 47 cs = some y) :
    ∃ p : Sel.Tk, cs = tkCells p ∧ p.2.2.size ≤ 9223372036854775807 ∧ p.2.2.size ∈ y.1.weights Tryd.prog 47 := by
  obtain ⟨xs, n', hd, hdx, hl, hx, hf⟩ := DataW.trod_struct Tryd.underlying47 h
  obtain ⟨c0, c1, c2, rfl⟩ := len3 (hl.trans cToken)
  obtain ⟨y0, h0⟩ := fld hf hx 0 _ rfl 3 0 1 rfl rfl cInt
  obtain ⟨y1, h1⟩ := fld hf hx 1 _ rfl 3 1 1 rfl rfl cInt
  obtain ⟨y2, h2x⟩ : ∃ y, xs[2]? = some y := ⟨_, List.getElem?_eq_getElem (by rw [hx]; decide)⟩
  have h2 := hf 2 _ rfl
  rw [h2x] at h2
  have h2 : DataW.trod enc Tryd.prog W 0 (fun _ => true) true n' 9 [c2] = some y2 := h2
  obtain ⟨i0, q0, _⟩ := DataW.trod_int Tryd.underlying3 h0
  obtain ⟨i1, q1, _⟩ := DataW.trod_int Tryd.underlying3 h1
  obtain ⟨s2, q2, r2, z2⟩ := DataW.trod_string Tryd.underlying9 h2
  change [c0] = _ at q0
  change [c1] = _ at q1
  cases q0
  cases q1
  cases q2
  refine ⟨(i0, i1, s2), rfl, z2, ?_⟩
  subst hdx
  have hw : DataW.weights Tryd.prog 47 (DataW.agg (xs.map (·.1))) = DataW.weightsEach Tryd.prog [3, 3, 9] (xs.map (·.1)) := by
    simp only [DataW.weights, Tryd.underlying47]
    rfl
  show s2.size ∈ DataW.weights Tryd.prog 47 (DataW.agg (xs.map (·.1)))
  rw [hw]
  refine DataW.weights_mem_each (j := 2) (t := 9) (d := y2.1) rfl (by rw [List.getElem?_map, h2x]; rfl) _ ?_
  rw [r2]
  simp only [DataW.weights, List.mem_singleton]
  exact Lex.size_bl s2
theorem open_toks {v : Value} {d : DataW H} {p : List MemPlace} (hv : Value.okWide Tryd.prog W .any base 27 v) (h : DataW.Trod enc Tryd.prog W 0 (fun _ => true) true 27 v d p) :
    ∃ A n c xs, v = .slice A n c ∧ Tks W W.heap.size A n c xs ∧ ∀ t ∈ xs, t.2.2.size ∈ d.weights Tryd.prog 27 := by
  obtain ⟨a0, len, cap, rfl⟩ := okWide_slice Tryd.underlying27 hv
  obtain ⟨fuel, hf⟩ := h
  obtain ⟨A, n, c, xs, q, hR, hQ⟩ := open_recs ((0, 0, ⟨#[]⟩) : Sel.Tk) Tryd.underlying27 cToken tkCells_len (by decide) (Q := fun y p => p.2.2.size ≤ 9223372036854775807 ∧ p.2.2.size ∈ y.weights Tryd.prog 47) (fun n cs' y h => dec_token h) hf
  change [Value.slice a0 len cap] = _ at q
  cases q
  refine ⟨_, _, _, xs, rfl, ⟨hR, fun t ht => ?_⟩, fun t ht => ?_⟩
  · obtain ⟨_, _, _, _, _, hq⟩ := hQ t ht
    exact hq.1
  · obtain ⟨D, sp, hd, y, hy, hq⟩ := hQ t ht
    have hd : d = .slice D sp := hd
    subst hd
    simp only [DataW.weights, Tryd.underlying27]
    rw [List.mem_cons, List.mem_append]
    exact .inr (.inl (weights_all hy hq.2))
theorem open_expr {v : Value} {d : DataW H} {p : List MemPlace} (hv : Value.okWide Tryd.prog W .any base 26 v) (h : DataW.Trod enc Tryd.prog W 0 (fun _ => true) true 26 v d p) :
    ∃ s A n c xs op u, v = .agg #[.string s, .slice A n c, .int .i64 op, .int .i64 u] ∧ s.size ≤ 9223372036854775807 ∧ Mts W W.heap.size A n c xs := by
  obtain ⟨cs, rfl, hsz⟩ := okWide_struct Tryd.underlying26 hv
  obtain ⟨fuel, hf⟩ := h
  obtain ⟨xs, n', _, _, hl, hx, hff⟩ := DataW.trod_struct Tryd.underlying26 hf
  have hl : cs.toList.length = 4 := hl.trans cExpr
  obtain ⟨c0, c1, c2, c3, hcs⟩ := len4 hl
  have hcs2 : cs = #[c0, c1, c2, c3] := Array.toList_inj.1 hcs
  subst hcs2
  obtain ⟨y0, h0⟩ := fld hff hx 0 _ rfl 24 0 2 rfl rfl cSel
  obtain ⟨y1, h1⟩ := fld hff hx 1 _ rfl 3 2 1 rfl rfl cInt
  obtain ⟨y2, h2⟩ := fld hff hx 2 _ rfl 3 3 1 rfl rfl cInt
  have h0 : DataW.trod enc Tryd.prog W 0 (fun _ => true) true n' 24 [c0, c1] = some y0 := h0
  have h1 : DataW.trod enc Tryd.prog W 0 (fun _ => true) true n' 3 [c2] = some y1 := h1
  have h2 : DataW.trod enc Tryd.prog W 0 (fun _ => true) true n' 3 [c3] = some y2 := h2
  obtain ⟨s, A, m, c, ms, hg, hz, hin⟩ := dec_sel h0
  obtain ⟨i1, q1, _⟩ := DataW.trod_int Tryd.underlying3 h1
  obtain ⟨i2, q2, _⟩ := DataW.trod_int Tryd.underlying3 h2
  cases hg
  cases q1
  cases q2
  exact ⟨s, A, m, c, ms, i1, i2, rfl, hz, hin⟩
end
end Go.Proofs.YtbdochcajpempaaDoor
