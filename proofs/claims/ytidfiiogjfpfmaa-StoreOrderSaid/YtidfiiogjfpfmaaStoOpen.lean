/- How an argument that is a store, a selector, a sample or labels is opened. -/
import Derived.Test.YtidfiiogjfpfmaaRows
import Derived.Test.YtidfiiogjfpfmaaRow
import Derived.Test.YtidfiiogjfpfmaaStoD
namespace Go.Proofs.Ytidfiiogjfpfmaa
set_option linter.unusedSimpArgs false
set_option linter.unusedVariables false
open Go.RowKit Go.WideShapes Go.ChangeShapes Go.Joins Go.Deep

theorem Tryown : ownKnob Try.prog.godebug = none := by kernel_rfl
theorem TrylaidOut : laidOutB Try.prog = true := by kernel_rfl

section
variable {H : Type} {enc : TypeId × Value → H} {W : World} {P : Program} {base : Nat}
/-- a field of a struct that reads -/
theorem fld {fs : Array Field} {xs : List (DataW H × List MemPlace)} {n : Nat} {cs : List Value}
    (hf : ∀ (i : Nat) (f : Field), fs[i]? = some f → DataW.trod enc P W 0 (fun _ => true) true n f.type ((cs.drop f.offset).take (P.cellsOf f.type)) = xs[i]?) (hx : xs.length = fs.size)
    (i : Nat) (f : Field) (hi : fs[i]? = some f) (t : TypeId) (off k : Nat) (ht : f.type = t) (ho : f.offset = off) (hk : P.cellsOf t = k) :
    ∃ y, DataW.trod enc P W 0 (fun _ => true) true n t ((cs.drop off).take k) = some y := by
  subst ht ho hk
  have := hf i f hi
  obtain ⟨y, hy⟩ : ∃ y, xs[i]? = some y := ⟨_, List.getElem?_eq_getElem (by rw [hx]; exact (Array.getElem?_eq_some_iff.1 hi).1)⟩
  exact ⟨y, this.trans hy⟩
/-- a slice of records that reads -/
theorem open_recs {α : Type} (d : α) {f : α → List Value} {sz : Nat} {Q : α → Prop} {t e : TypeId} {fuel : Nat} {cs : List Value} {x : DataW H × List MemPlace} (ht : P.underlying t = some (.slice e)) (hz : P.cellsOf e = sz) (hf : ∀ x, (f x).length = sz) (hpos : 0 < sz)
    (hdec : ∀ n cs' y, DataW.trod enc P W 0 (fun _ => true) true n e cs' = some y → ∃ x : α, cs' = f x ∧ Q x)
    (h : DataW.trod enc P W 0 (fun _ => true) true fuel t cs = some x) :
    ∃ A n c xs, cs = [.slice A n c] ∧ Recs f sz W W.heap.size A n c xs ∧ ∀ x ∈ xs, Q x := by
  rcases Go.Deep.open_slice ht h with ⟨hcs, _⟩ | ⟨a, len, cap, m, n, D, Pl, hcs, _, hl, hm, hmm, _, hi⟩
  · exact ⟨none, 0, 0, [], hcs, Recs.none_ _ _, fun x hx => by cases hx⟩
  · have hcl : ∀ i, ∃ x : α, i < len → Q x ∧ ∀ j u, (f x)[j]? = some u → W.cell? ((a.add (i * sz)).add j) = some u := by
      intro i
      by_cases hil : i < len
      · obtain ⟨cs', hc, hT⟩ := hi i (by rw [hmm]; show i < cap; omega)
        obtain ⟨x, rfl, hq⟩ := hdec _ _ _ hT
        obtain ⟨_, hcl, hat⟩ := World.cells?_some hc
        rw [hz] at hat
        refine ⟨x, fun _ => ⟨hq, fun j u hu => ?_⟩⟩
        have hj : j < sz := by have := (List.getElem?_eq_some_iff.1 hu).1; rwa [hf] at this
        exact (hat j hj).trans hu
      · exact ⟨d, fun h => absurd h hil⟩
    obtain ⟨F, hF⟩ := Classical.axiomOfChoice hcl
    refine ⟨some a, len, cap, (List.range len).map F, hcs, ⟨by simp, hl, by unfold maxLen at hm; exact hm, fun h0 => ?_⟩, ?_⟩
    · obtain ⟨b, off, spot⟩ := a
      obtain ⟨u0, hu0⟩ : ∃ u, (f (F 0))[0]? = some u := ⟨_, List.getElem?_eq_getElem (by rw [hf]; exact hpos)⟩
      have hspot : spot = none := by simpa [Addr.add] using World.cell?_spot ((hF 0 h0).2 0 u0 hu0)
      subst hspot
      refine ⟨b, off, rfl, World.block_lt_of_cell? W ⟨b, off + 0 * sz + 0, none⟩ (by have := (hF 0 h0).2 0 u0 hu0; rwa [Go.WideShapes.add_plain, Go.WideShapes.add_plain] at this), fun j x hj i u hu => ?_⟩
      have hjl : j < len := by have := (List.getElem?_eq_some_iff.1 hj).1; simpa using this
      have e : F j = x := by rw [List.getElem?_map, List.getElem?_range hjl] at hj; simpa using hj
      subst e
      have := (hF j hjl).2 i u hu
      rwa [Go.WideShapes.add_plain, Go.WideShapes.add_plain] at this
    · intro x hx
      obtain ⟨i, hi, rfl⟩ := List.mem_map.1 hx
      exact (hF i (List.mem_range.1 hi)).1
end

def smCells (x : Int × Int) : List Value := [.int .i64 x.1, .int .i64 x.2]
theorem smCells_len (x : Int × Int) : (smCells x).length = 2 := rfl
theorem cString : Try.prog.cellsOf 9 = 1 := by kernel_rfl
theorem cInt : Try.prog.cellsOf 3 = 1 := by kernel_rfl
theorem cBool : Try.prog.cellsOf 4 = 1 := by kernel_rfl
theorem cPair : Try.prog.cellsOf 61 = 2 := by kernel_rfl
theorem cMatch : Try.prog.cellsOf 59 = 3 := by kernel_rfl
theorem cSample : Try.prog.cellsOf 25 = 2 := by kernel_rfl
theorem cSeries : Try.prog.cellsOf 50 = 2 := by kernel_rfl
theorem cPairs : Try.prog.cellsOf 23 = 1 := by kernel_rfl
theorem cSamples : Try.prog.cellsOf 33 = 1 := by kernel_rfl
theorem cSel : Try.prog.cellsOf 43 = 2 := by kernel_rfl
theorem cMatchs : Try.prog.cellsOf 41 = 1 := by kernel_rfl

theorem len2 {cs : List Value} (h : cs.length = 2) : ∃ a b, cs = [a, b] := by
  rcases cs with _ | ⟨a, _ | ⟨b, _ | ⟨c, cs⟩⟩⟩ <;> simp at h
  exact ⟨a, b, rfl⟩
theorem len3 {cs : List Value} (h : cs.length = 3) : ∃ a b c, cs = [a, b, c] := by
  rcases cs with _ | ⟨a, cs⟩
  · simp at h
  · obtain ⟨b, c, rfl⟩ := len2 (by simpa using h)
    exact ⟨a, b, c, rfl⟩
theorem len4 {cs : List Value} (h : cs.length = 4) : ∃ a b c d, cs = [a, b, c, d] := by
  rcases cs with _ | ⟨a, cs⟩
  · simp at h
  · obtain ⟨b, c, d, rfl⟩ := len3 (by simpa using h)
    exact ⟨a, b, c, d, rfl⟩

section
variable {H : Type} {enc : TypeId × Value → H} {W : World} {base : Nat}
theorem dec_pair {n : Nat} {cs : List Value} {y : DataW H × List MemPlace} (h : DataW.trod enc Try.prog W 0 (fun _ => true) true n 61 cs = some y) :
    ∃ p : Lab.Pr, cs = prCells p ∧ p.1.size ≤ 9223372036854775807 ∧ p.2.size ≤ 9223372036854775807 := by
  obtain ⟨xs, n', _, _, hl, hx, hf⟩ := DataW.trod_struct Try.underlying61 h
  obtain ⟨c0, c1, rfl⟩ := len2 (hl.trans cPair)
  obtain ⟨y0, h0⟩ := fld hf hx 0 _ rfl 9 0 1 rfl rfl cString
  obtain ⟨y1, h1⟩ := fld hf hx 1 _ rfl 9 1 1 rfl rfl cString
  obtain ⟨s0, q0, _, z0⟩ := DataW.trod_string Try.underlying9 h0
  obtain ⟨s1, q1, _, z1⟩ := DataW.trod_string Try.underlying9 h1
  change [c0] = _ at q0
  change [c1] = _ at q1
  cases q0
  cases q1
  exact ⟨(s0, s1), rfl, z0, z1⟩
theorem dec_match {n : Nat} {cs : List Value} {y : DataW H × List MemPlace} (h : DataW.trod enc Try.prog W 0 (fun _ => true) true n 59 cs = some y) :
    ∃ p : Lab.Mt, cs = mtCells p ∧ p.1.size ≤ 9223372036854775807 ∧ p.2.1.size ≤ 9223372036854775807 := by
  obtain ⟨xs, n', _, _, hl, hx, hf⟩ := DataW.trod_struct Try.underlying59 h
  obtain ⟨c0, c1, c2, rfl⟩ := len3 (hl.trans cMatch)
  obtain ⟨y0, h0⟩ := fld hf hx 0 _ rfl 9 0 1 rfl rfl cString
  obtain ⟨y1, h1⟩ := fld hf hx 1 _ rfl 9 1 1 rfl rfl cString
  obtain ⟨y2, h2⟩ := fld hf hx 2 _ rfl 4 2 1 rfl rfl cBool
  obtain ⟨s0, q0, _, z0⟩ := DataW.trod_string Try.underlying9 h0
  obtain ⟨s1, q1, _, z1⟩ := DataW.trod_string Try.underlying9 h1
  obtain ⟨b2, q2, _⟩ := DataW.trod_bool Try.underlying4 h2
  change [c0] = _ at q0
  change [c1] = _ at q1
  change [c2] = _ at q2
  cases q0
  cases q1
  cases q2
  exact ⟨(s0, s1, b2), rfl, z0, z1⟩
theorem dec_sel {n : Nat} {cs : List Value} {y : DataW H × List MemPlace} (h : DataW.trod enc Try.prog W 0 (fun _ => true) true n 43 cs = some y) :
    ∃ s A m c xs, cs = [.string s, .slice A m c] ∧ s.size ≤ 9223372036854775807 ∧ Mts W W.heap.size A m c xs := by
  obtain ⟨xs, n', _, _, hl, hx, hf⟩ := DataW.trod_struct Try.underlying43 h
  obtain ⟨c0, c1, rfl⟩ := len2 (hl.trans cSel)
  obtain ⟨y0, h0⟩ := fld hf hx 0 _ rfl 9 0 1 rfl rfl cString
  obtain ⟨y1, h1⟩ := fld hf hx 1 _ rfl 41 1 1 rfl rfl cMatchs
  obtain ⟨s0, q0, _, z0⟩ := DataW.trod_string Try.underlying9 h0
  obtain ⟨A, m, c, l, q1, hR, hQ⟩ := open_recs ((⟨#[]⟩, ⟨#[]⟩, false) : Lab.Mt) Try.underlying41 cMatch mtCells_len (by decide) (fun n cs' y h => dec_match h) h1
  change [c0] = _ at q0
  change [c1] = _ at q1
  cases q0
  cases q1
  exact ⟨s0, A, m, c, l, rfl, z0, hR, hQ⟩
theorem open_sel {v : Value} {d : DataW H} {p : List MemPlace} (hv : Value.okWide Try.prog W .any base 43 v) (h : DataW.Trod enc Try.prog W 0 (fun _ => true) true 43 v d p) :
    ∃ s A n c xs, v = .agg #[.string s, .slice A n c] ∧ s.size ≤ 9223372036854775807 ∧ Mts W W.heap.size A n c xs := by
  obtain ⟨cs, rfl, hsz⟩ := okWide_struct Try.underlying43 hv
  obtain ⟨fuel, hf⟩ := h
  obtain ⟨s, A, n, c, xs, hg, hz, hin⟩ := dec_sel hf
  refine ⟨s, A, n, c, xs, ?_, hz, hin⟩
  have : cs = (#[.string s, .slice A n c] : Array Value) := by
    change cs.toList = _ at hg
    exact Array.toList_inj.1 hg
  rw [this]
theorem open_prs {v : Value} {d : DataW H} {p : List MemPlace} (hv : Value.okWide Try.prog W .any base 23 v) (h : DataW.Trod enc Try.prog W 0 (fun _ => true) true 23 v d p) :
    ∃ A n c xs, v = .slice A n c ∧ Prs W W.heap.size A n c xs := by
  obtain ⟨a0, len, cap, rfl⟩ := okWide_slice Try.underlying23 hv
  obtain ⟨fuel, hf⟩ := h
  obtain ⟨A, n, c, xs, q, hR, hQ⟩ := open_recs ((⟨#[]⟩, ⟨#[]⟩) : Lab.Pr) Try.underlying23 cPair prCells_len (by decide) (fun n cs' y h => dec_pair h) hf
  change [Value.slice a0 len cap] = _ at q
  cases q
  exact ⟨_, _, _, xs, rfl, hR, hQ⟩
theorem dec_sample {n : Nat} {cs : List Value} {y : DataW H × List MemPlace} (h : DataW.trod enc Try.prog W 0 (fun _ => true) true n 25 cs = some y) :
    ∃ p : Int × Int, cs = smCells p := by
  obtain ⟨xs, n', _, _, hl, hx, hf⟩ := DataW.trod_struct Try.underlying25 h
  obtain ⟨c0, c1, rfl⟩ := len2 (hl.trans cSample)
  obtain ⟨y0, h0⟩ := fld hf hx 0 _ rfl 3 0 1 rfl rfl cInt
  obtain ⟨y1, h1⟩ := fld hf hx 1 _ rfl 3 1 1 rfl rfl cInt
  obtain ⟨i0, q0, _⟩ := DataW.trod_int Try.underlying3 h0
  obtain ⟨i1, q1, _⟩ := DataW.trod_int Try.underlying3 h1
  change [c0] = _ at q0
  change [c1] = _ at q1
  cases q0
  cases q1
  exact ⟨(i0, i1), rfl⟩
theorem smp_of_recs {A : Option Addr} {n c : Nat} {xs : List (Int × Int)} (h : Recs smCells 2 W W.heap.size A n c xs) : SerW.Smp W W.heap.size A n c xs := by
  refine ⟨h.1, h.2.1, h.2.2.1, fun hn => ?_⟩
  obtain ⟨b, off, hA, hb, hc⟩ := h.2.2.2 hn
  refine ⟨b, off, hA, hb, fun j hj => ?_⟩
  obtain ⟨x, hx⟩ : ∃ x, xs[j]? = some x := ⟨_, List.getElem?_eq_getElem (by rw [h.1]; exact hj)⟩
  have h1 := hc j x hx 0 _ rfl
  have h2 := hc j x hx 1 _ rfl
  have hg : xs.getD j (0, 0) = x := by rw [List.getD_eq_getElem?_getD, hx]; rfl
  have t1 : Ser.tAt xs j = x.1 := by unfold Ser.tAt; first | rw [hg] | simp [hx]
  have t2 : Ser.vAt xs j = x.2 := by unfold Ser.vAt; first | rw [hg] | simp [hx]
  rw [t1, t2]
  exact ⟨h1, h2⟩
theorem dec_series {n : Nat} {cs : List Value} {y : DataW H × List MemPlace} (h : DataW.trod enc Try.prog W 0 (fun _ => true) true n 50 cs = some y) :
    ∃ s : Sto.Se, cs = seCells s ∧ SeIn W W.heap.size s := by
  obtain ⟨xs, n', _, _, hl, hx, hf⟩ := DataW.trod_struct Try.underlying50 h
  obtain ⟨c0, c1, rfl⟩ := len2 (hl.trans cSeries)
  obtain ⟨y0, h0⟩ := fld hf hx 0 _ rfl 23 0 1 rfl rfl cPairs
  obtain ⟨y1, h1⟩ := fld hf hx 1 _ rfl 33 1 1 rfl rfl cSamples
  obtain ⟨LA, Ln, Lc, ls, q0, hR, hQ⟩ := open_recs ((⟨#[]⟩, ⟨#[]⟩) : Lab.Pr) Try.underlying23 cPair prCells_len (by decide) (fun n cs' y h => dec_pair h) h0
  obtain ⟨SA, Sn, Sc, ss, q1, hS, _⟩ := open_recs (Q := fun _ => True) ((0, 0) : Int × Int) Try.underlying33 cSample smCells_len (by decide) (fun n cs' y h => let ⟨p, hp⟩ := dec_sample h; ⟨p, hp, trivial⟩) h1
  change [c0] = _ at q0
  change [c1] = _ at q1
  cases q0
  cases q1
  exact ⟨⟨LA, Ln, Lc, ls, SA, Sn, Sc, ss⟩, rfl, ⟨hR, hQ⟩, smp_of_recs hS⟩
theorem open_stt {v : Value} {d : DataW H} {p : List MemPlace} (hv : Value.okWide Try.prog W .any base 22 v) (h : DataW.Trod enc Try.prog W 0 (fun _ => true) true 22 v d p) :
    ∃ A n c ses, v = .slice A n c ∧ Stt W W.heap.size A n c ses := by
  obtain ⟨a0, len, cap, rfl⟩ := okWide_slice Try.underlying22 hv
  obtain ⟨fuel, hf⟩ := h
  obtain ⟨A, n, c, xs, q, hR, hQ⟩ := open_recs (⟨none, 0, 0, [], none, 0, 0, []⟩ : Sto.Se) Try.underlying22 cSeries seCells_len (by decide) (fun n cs' y h => dec_series h) hf
  change [Value.slice a0 len cap] = _ at q
  cases q
  exact ⟨_, _, _, xs, rfl, hR, hQ⟩
theorem open_sample {v : Value} {d : DataW H} {p : List MemPlace} (hv : Value.okWide Try.prog W .any base 25 v) (h : DataW.Trod enc Try.prog W 0 (fun _ => true) true 25 v d p) :
    ∃ x : Int × Int, v = .agg #[.int .i64 x.1, .int .i64 x.2] := by
  obtain ⟨cs, rfl, hsz⟩ := okWide_struct Try.underlying25 hv
  obtain ⟨fuel, hf⟩ := h
  obtain ⟨m, hg⟩ := dec_sample hf
  refine ⟨m, ?_⟩
  have : cs = (#[.int .i64 m.1, .int .i64 m.2] : Array Value) := by
    change cs.toList = _ at hg
    exact Array.toList_inj.1 hg
  rw [this]
end
end Go.Proofs.Ytidfiiogjfpfmaa
