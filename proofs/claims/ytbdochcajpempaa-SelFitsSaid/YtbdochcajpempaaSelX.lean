/- The statement SelParsed: the plain law, and the walk. -/
import Derived.Test.YtbdochcajpempaaSelW
namespace Go.Proofs.Ytbdochcajpempaa
open Go.RowKit
set_option linter.unusedSimpArgs false
set_option linter.unusedVariables false

namespace Sel
theorem nameE_range {ts : List Tk} {i : Nat} (hi : i ≤ ts.length) : nameE ts i = 3 ↔ i = ts.length := by
  rcases hx : ts[i]? with _ | t
  · have := List.getElem?_eq_none_iff.1 hx
    rw [nameE_none hx]
    exact ⟨fun _ => by omega, fun _ => rfl⟩
  · have := (List.getElem?_eq_some_iff.1 hx).1
    rw [nameE_some hx]
    constructor
    · intro h
      split at h
      · split at h <;> omega
      · omega
    · intro h
      omega
theorem wrong_range {ts : List Tk} {i : Nat} (hi : i ≤ ts.length) : wrong ts i = 3 ↔ i = ts.length := by
  unfold wrong
  split <;> omega
theorem valE_range {ts : List Tk} {i n : Nat} (hi : i ≤ ts.length) : valE ts i n = 3 ↔ i = ts.length := by
  rcases hx : ts[i]? with _ | t
  · have := List.getElem?_eq_none_iff.1 hx
    rw [valE_none hx]
    exact ⟨fun _ => by omega, fun _ => rfl⟩
  · have := (List.getElem?_eq_some_iff.1 hx).1
    rw [valE_some hx]
    constructor
    · intro h
      split at h
      · split at h <;> omega
      · omega
    · intro h
      omega
theorem matchAt_range {ts : List Tk} {i k j : Nat} {m : Mt} {e : Int} (hi : i ≤ ts.length) (h : matchAt ts i k = (m, j, e)) : (e = 0 → okM m ∧ k < 8 ∧ i < j ∧ j ≤ ts.length) ∧ (e ≠ 0 → i ≤ j ∧ j ≤ ts.length ∧ (e = 3 ↔ j = ts.length)) := by
  constructor
  · rintro rfl
    obtain ⟨h1, h2, h3, h4⟩ := matchAt_ok h
    refine ⟨⟨h1, h2⟩, h3, by omega, ?_⟩
    unfold matchAt at h
    split at h
    · rename_i hv; injection h with _ h; injection h with _ h2; exact absurd h2 hv
    · split at h
      · injection h with _ h; injection h with _ h2; exact absurd h2 (wrong_ne _ _)
      · split at h
        · rename_i hv; injection h with _ h; injection h with _ h2; exact absurd h2 hv
        · rename_i hv
          have := valE_lt (ts := ts) (i := i + 2) (n := k) (by omega)
          omega
  · intro he
    unfold matchAt at h
    split at h
    · injection h with _ h; injection h with h1 h2
      subst h1 h2
      exact ⟨Nat.le_refl _, hi, nameE_range hi⟩
    · rename_i hn
      have hlt := nameE_lt (ts := ts) (i := i) (by omega)
      split at h
      · injection h with _ h; injection h with h1 h2
        subst h1 h2
        exact ⟨by omega, by omega, wrong_range (by omega)⟩
      · rename_i hs
        have hs2 : isS ts (i + 1) neS = true ∨ isS ts (i + 1) eqS = true := by
          rcases h1 : isS ts (i + 1) neS with _ | _
          · rcases h2 : isS ts (i + 1) eqS with _ | _
            · exact absurd ⟨h1, h2⟩ hs
            · exact .inr rfl
          · exact .inl rfl
        have hlt2 : i + 1 < ts.length := hs2.elim isS_lt isS_lt
        split at h
        · injection h with _ h; injection h with h1 h2
          subst h1 h2
          exact ⟨by omega, by omega, valE_range (by omega)⟩
        · injection h with _ h; injection h with _ h2
          exact absurd h2.symm he
theorem matches_range {ts : List Tk} : ∀ (f i : Nat) (acc ms : List Mt) (j : Nat) (e : Int), i ≤ ts.length → (∀ m ∈ acc, okM m) → acc.length ≤ 8 → f + acc.length = 10 → matches_ ts f i acc = (ms, j, e) →
    (e = 0 → (∀ m ∈ ms, okM m) ∧ ms.length ≤ 8 ∧ i < j ∧ j ≤ ts.length) ∧ (e ≠ 0 → i ≤ j ∧ j ≤ ts.length ∧ (e = 3 ↔ j = ts.length))
  | 0, i, acc, ms, j, e, _, _, h8, hf, _ => absurd hf (by omega)
  | f + 1, i, acc, ms, j, e, hi, hok, h8, hf, h => by
    rcases hma : matchAt ts i acc.length with ⟨m, j2, e2⟩
    have hr := matchAt_range hi hma
    rw [matches_up hma] at h
    split at h
    · rename_i he2
      injection h with _ h; injection h with h1 h2
      subst h1 h2
      exact ⟨fun h0 => absurd h0 he2, fun _ => hr.2 he2⟩
    · rename_i he2
      obtain ⟨hm, hk8, hij, hj⟩ := hr.1 (by omega)
      have hok2 : ∀ x ∈ acc ++ [m], okM x := by
        intro x hx
        rw [List.mem_append, List.mem_singleton] at hx
        rcases hx with hx | rfl
        · exact hok x hx
        · exact hm
      split at h
      · rename_i hs
        injection h with h0 h; injection h with h1 h2
        subst h0 h1 h2
        have := isS_lt hs
        exact ⟨fun _ => ⟨hok2, by simp; omega, by omega, by omega⟩, fun h => absurd rfl h⟩
      · split at h
        · rename_i hs
          have := isS_lt hs
          have ih := matches_range f (j2 + 1) (acc ++ [m]) ms j e (by omega) hok2 (by simp; omega) (by simp; omega) h
          exact ⟨fun h0 => by have := ih.1 h0; exact ⟨this.1, this.2.1, by omega, this.2.2.2⟩, fun h0 => by have := ih.2 h0; exact ⟨by omega, this.2.1, this.2.2⟩⟩
        · injection h with _ h; injection h with h1 h2
          subst h1 h2
          exact ⟨fun h0 => absurd h0 (wrong_ne _ _), fun _ => ⟨by omega, by omega, wrong_range (by omega)⟩⟩
theorem sane_of {nm : ByteArray} {ms : List Mt} (h : Lab.name nm = true) (h8 : ms.length ≤ 8) (hok : ∀ m ∈ ms, okM m) : Lab.selSane nm ms = true := by
  unfold Lab.selSane
  rw [h, decide_eq_true h8, Bool.true_and, Bool.true_and, Lab.allTo_iff]
  intro k hk
  have hp : ms[k]? = some ms[k] := List.getElem?_eq_getElem hk
  have := hok ms[k] (List.getElem_mem hk)
  rw [Lab.selAt_is hp, this.1, decide_eq_true this.2]
  rfl
theorem nameE_name {ts : List Tk} {i : Nat} (h : nameE ts i = 0) : Lab.name (sOf ts i) = true := by
  rcases hx : ts[i]? with _ | t
  · rw [nameE_none hx] at h; cases h
  · rw [nameE_some hx] at h
    rw [sOf_some hx]
    split at h
    · split at h
      · assumption
      · omega
    · omega
theorem selAt_range {ts : List Tk} {i j : Nat} {nm : ByteArray} {ms : List Mt} {e : Int} (hi : i ≤ ts.length) (h : selAt ts i = (nm, ms, j, e)) :
    (e = 0 → Lab.selSane nm ms = true ∧ i < ts.length ∧ i < j ∧ j ≤ ts.length) ∧ (e ≠ 0 → nm = ⟨#[]⟩ ∧ ms = [] ∧ i ≤ j ∧ j ≤ ts.length ∧ (e = 3 ↔ j = ts.length)) := by
  unfold selAt at h
  split at h
  · rename_i hn
    injection h with h0 h; injection h with h1 h; injection h with h2 h3
    subst h0 h1 h2 h3
    exact ⟨fun h => absurd h hn, fun _ => ⟨rfl, rfl, Nat.le_refl _, hi, nameE_range hi⟩⟩
  · rename_i hn
    have hn0 : nameE ts i = 0 := by omega
    have hnm := nameE_name hn0
    have hlt := nameE_lt hn0
    split at h
    · injection h with h0 h; injection h with h1 h; injection h with h2 h3
      subst h0 h1 h2 h3
      exact ⟨fun _ => ⟨sane_of hnm (by simp) (fun m hm => absurd hm (by simp)), by omega, by omega, by omega⟩, fun h => absurd rfl h⟩
    · rename_i hop
      have hlt1 := isS_lt (show isS ts (i + 1) opS = true by simpa using hop)
      split at h
      · rename_i hcl
        have := isS_lt hcl
        injection h with h0 h; injection h with h1 h; injection h with h2 h3
        subst h0 h1 h2 h3
        exact ⟨fun _ => ⟨sane_of hnm (by simp) (fun m hm => absurd hm (by simp)), by omega, by omega, by omega⟩, fun h => absurd rfl h⟩
      · rcases hms : matches_ ts 10 (i + 2) [] with ⟨ms2, j2, e2⟩
        have hr := matches_range 10 (i + 2) [] ms2 j2 e2 (by omega) (fun m hm => absurd hm (by simp)) (by simp) rfl hms
        rw [hms] at h
        simp only at h
        split at h
        · rename_i he2
          injection h with h0 h; injection h with h1 h; injection h with h2 h3
          subst h0 h1 h2 h3
          have := hr.2 he2
          exact ⟨fun h => absurd h he2, fun _ => ⟨rfl, rfl, by omega, this.2.1, this.2.2⟩⟩
        · rename_i he2
          injection h with h0 h; injection h with h1 h; injection h with h2 h3
          subst h0 h1 h2 h3
          have := hr.1 (by omega)
          exact ⟨fun _ => ⟨sane_of hnm this.2.1 this.1, by omega, by omega, this.2.2.2⟩, fun h => absurd rfl h⟩
end Sel

set_option maxRecDepth 100000 in
set_option maxHeartbeats 16000000 in
theorem selParsed_any (B : Option Addr) (n2 c2 : Nat) (ts : List Sel.Tk) (x : Int) (w : World) (hT : Tks w w.heap.size B n2 c2 ts) :
    Calls Try.prog 5 #[.slice B n2 c2, .int .i64 x] w fun e w' => LawR w e w' := by
  have HT := Lib.hid hT
  have hl := hT.len
  clear hT
  by_cases hx : x < 0
  · have hd : decide (x < 0) = true := decide_eq_true hx
    go_enter Try.func5, Try.ntmps5
    go_wp2_with fail
    refine (awake_any w).mono ?_
    rintro e w2 ⟨rfl, hC2⟩
    go_wp2_with fail
    refine (short_any B n2 c2 ts w2 (HT.out.later hC2)).mono ?_
    rintro e w3 ⟨few, rfl, -, hb3⟩
    have hC3 := hC2.trans (hb3.mono hC2.size)
    rcases few with _ | _
    · go_wp2
      go_ret
      exact ⟨rfl, hC3⟩
    · go_wp2
      go_ret
      exact ⟨rfl, hC3⟩
  · obtain ⟨X, hX⟩ : ∃ X : Nat, x = X := ⟨x.toNat, by omega⟩
    subst hX
    have hd : decide ((X : Int) < 0) = false := decide_eq_false hx
    rcases hps : Sel.parse ts (X : Int) with ⟨nm1, ms1, j1, e1⟩
    have hpp := hps
    unfold Sel.parse at hpp
    rw [if_neg hx, show (X : Int).toNat = X from rfl, hl] at hpp
    have hr := Sel.selAt_range (by rw [hl]; omega) hpp
    rw [hl] at hr
    have HPS := Lib.hid hps
    clear hx hps hpp
    go_enter Try.func5, Try.ntmps5
    go_wp2_with fail
    refine (awake_any w).mono ?_
    rintro e w2 ⟨rfl, hC2⟩
    go_wp2_with fail
    refine (short_any B n2 c2 ts w2 (HT.out.later hC2)).mono ?_
    rintro e w3 ⟨few, rfl, -, hb3⟩
    have hC3 := hC2.trans (hb3.mono hC2.size)
    rcases few with _ | _
    · go_wp2
      go_ret
      exact ⟨rfl, hC3⟩
    by_cases he1 : e1 = 0
    · obtain ⟨hsn, hpl, hpj, hjl⟩ := hr.1 he1
      subst he1
      have hXj : X < j1 := by omega
      have hdj : decide (X < j1) = true := decide_eq_true hXj
      have hdl : decide (j1 ≤ n2) = true := decide_eq_true hjl
      obtain ⟨L, hL1, hL2, hL3⟩ := Sel.round hsn
      obtain ⟨q, hq⟩ : ∃ q, Sel.print nm1 ms1 = q := ⟨_, rfl⟩
      rw [hq] at hL1
      have hqs : q.size ≤ 60000 := by
        rw [← hq]
        unfold Sel.print
        rw [if_pos hsn]
        have h1 := Sel.textTo_size hsn ms1.length
        have h2 := (Sel.sane_nm hsn).2.2.1
        have h3 := (Sel.sane_nm hsn).2.1
        split
        · omega
        · rw [ByteArray.size_append, show Sel.clS.size = 1 from rfl]
          omega
      have HQ := Lib.hid hq
      have HSN := Lib.hid hsn
      have HL1 := Lib.hid hL1
      have HL3 := Lib.hid hL3
      clear hr hpl hpj hXj hjl hL1 hL2 hL3 hq hsn
      go_wp2_with fail
      refine (parse_is B n2 c2 X ts nm1 ms1 j1 0 HPS.out w3 (HT.out.later hC3)).mono ?_
      rintro e w6 ⟨A6, n6, c6, rfl, hM6, hb6⟩
      have ha6 := (Below.refl w6.heap.size w6).alloc (Nat.le_refl _) (.cells #[.string nm1, .slice A6 n6 c6] 24)
      have hbl6 := Mem.Blk.new w6 24 #[.string nm1, .slice A6 n6 c6]
      have hC7 := (hC3.trans (hb6.mono hC3.size)).trans (ha6.mono (hC3.trans (hb6.mono hC3.size)).size)
      have hM7 := hM6.later ha6
      have hl6 : w6.heap.size < (w6.alloc (.cells #[.string nm1, .slice A6 n6 c6] 24)).heap.size := by simp
      clear hM6 ha6
      go_wp2_with fail
      generalize w6.alloc (.cells #[.string nm1, .slice A6 n6 c6] 24) = w7 at hbl6 hC7 hM7 hl6 ⊢
      refine (print_is nm1 A6 n6 c6 ms1 q HQ.out w7 hM7).mono ?_
      rintro e w8 ⟨rfl, hb8⟩
      have hC8 := hC7.trans (hb8.mono hC7.size)
      have hM8 := hM7.later hb8
      have hbl8 := hbl6.below hb8 hl6
      have hl8 := Nat.lt_of_lt_of_le hl6 hb8.size
      clear hM7 hbl6 hl6 hb8
      go_wp2_with fail
      refine (all_is q hqs w8 L _ _ HL1.out).mono ?_
      rintro e w9 ⟨A9, n9, c9, rfl, hT9, hb9⟩
      have hC9 := hC8.trans (hb9.mono hC8.size)
      have hM9 := hM8.later hb9
      have hbl9 := hbl8.below hb9 hl8
      have hl9 := Nat.lt_of_lt_of_le hl8 hb9.size
      have hn9 := hT9.len
      rw [List.length_map] at hn9
      clear hM8 hbl8 hl8 hb9
      go_wp2_with fail
      refine (parse_is A9 n9 c9 0 _ nm1 ms1 n9 0 (by rw [HL3.out, hn9]) w9 hT9).mono ?_
      rintro e w10 ⟨A10, n10, c10, rfl, hM10, hb10⟩
      have ha10 := (Below.refl w10.heap.size w10).alloc (Nat.le_refl _) (.cells #[.string nm1, .slice A10 n10 c10] 24)
      have hb910 := hb10.trans (ha10.mono hb10.size)
      have hbl10 := Mem.Blk.new w10 24 #[.string nm1, .slice A10 n10 c10]
      have hC11 := hC9.trans (hb910.mono hC9.size)
      have hM11 := hM10.later ha10
      have hMA := hM9.later hb910
      have hbA := hbl9.below hb910 hl9
      have hlA := Nat.lt_of_lt_of_le hl9 hb910.size
      have hlB : w10.heap.size < (w10.alloc (.cells #[.string nm1, .slice A10 n10 c10] 24)).heap.size := by simp
      clear hM10 ha10 hb10 hb910 hM9 hbl9 hl9 hT9
      have u0 := hbA.cell 0
      have u1 := hbA.cell 1
      have v0 := hbl10.cell 0
      have v1 := hbl10.cell 1
      rw [show (#[.string nm1, .slice A6 n6 c6] : Array Value)[0]? = some (.string nm1) from rfl] at u0
      rw [show (#[.string nm1, .slice A6 n6 c6] : Array Value)[1]? = some (.slice A6 n6 c6) from rfl] at u1
      rw [show (#[.string nm1, .slice A10 n10 c10] : Array Value)[0]? = some (.string nm1) from rfl] at v0
      rw [show (#[.string nm1, .slice A10 n10 c10] : Array Value)[1]? = some (.slice A10 n10 c10) from rfl] at v1
      go_wp2_with fail
      generalize w10.alloc (.cells #[.string nm1, .slice A10 n10 c10] 24) = w11 at hbl10 hC11 hM11 hMA hbA hlA hlB u0 u1 v0 v1 ⊢
      refine (selSane_is nm1 A6 n6 c6 ms1 true HSN.out w11 hMA).mono ?_
      rintro e w12 ⟨rfl, hb12⟩
      have u0 := (hb12.cell (p := ⟨w6.heap.size, 0, none⟩) hlA).trans u0
      have u1 := (hb12.cell (p := ⟨w6.heap.size, 1, none⟩) hlA).trans u1
      have v0 := (hb12.cell (p := ⟨w10.heap.size, 0, none⟩) hlB).trans v0
      have v1 := (hb12.cell (p := ⟨w10.heap.size, 1, none⟩) hlB).trans v1
      have hC12 := hC11.trans (hb12.mono hC11.size)
      go_wp2_with fail
      refine (same_is nm1 nm1 A6 A10 n6 c6 n10 c10 ms1 ms1 true (Sel.same_self _ _) w12 (hMA.later hb12) (hM11.later hb12)).mono ?_
      rintro e w13 ⟨rfl, hb13⟩
      have hC13 := hC12.trans (hb13.mono hC12.size)
      go_wp2
      go_ret
      exact ⟨rfl, hC13⟩
    · obtain ⟨hnm, hms, hpj, hjl, h3⟩ := hr.2 he1
      subst hnm hms
      have hdl : decide (j1 ≤ n2) = true := decide_eq_true hjl
      have hmin : decide (min (X : Int) (n2 : Int) ≤ (j1 : Int)) = true := decide_eq_true (by omega)
      have h3b : (e1 == 3) = ((j1 : Int) == (n2 : Int)) := by
        rw [Bool.eq_iff_iff, beq_iff_eq, beq_iff_eq, h3]
        omega
      go_wp2_with fail
      refine (parse_is B n2 c2 X ts ⟨#[]⟩ [] j1 e1 HPS.out w3 (HT.out.later hC3)).mono ?_
      rintro e w6 ⟨A6, n6, c6, rfl, hM6, hb6⟩
      have ha6 := (Below.refl w6.heap.size w6).alloc (Nat.le_refl _) (.cells #[.string ⟨#[]⟩, .slice A6 n6 c6] 24)
      have hbl6 := Mem.Blk.new w6 24 #[.string ⟨#[]⟩, .slice A6 n6 c6]
      have hC7 := (hC3.trans (hb6.mono hC3.size)).trans (ha6.mono (hC3.trans (hb6.mono hC3.size)).size)
      have hM7 := hM6.later ha6
      clear hM6 ha6
      go_wp2_with fail
      generalize w6.alloc (.cells #[.string ⟨#[]⟩, .slice A6 n6 c6] 24) = w7 at hbl6 hC7 hM7 ⊢
      refine (same_is ⟨#[]⟩ ⟨#[]⟩ A6 none n6 c6 0 0 [] [] true (Sel.same_self _ _) w7 hM7 (mts_none _)).mono ?_
      rintro e w8 ⟨rfl, hb8⟩
      have hC8 := hC7.trans (hb8.mono hC7.size)
      have HH3 := Lib.hid h3b
      clear h3 h3b hr hpj
      go_wp2
      go_ret
      refine ⟨?_, hC8⟩
      show Ending.returned (.bool ((e1 == 3) == ((j1 : Int) == (n2 : Int)))) = _
      rw [HH3.out, beq_self_eq_true]
end Go.Proofs.Ytbdochcajpempaa
