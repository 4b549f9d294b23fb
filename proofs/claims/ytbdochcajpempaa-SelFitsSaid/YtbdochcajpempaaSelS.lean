/- The walk of watchtowerlaw08's awake. -/
import Derived.Test.YtbdochcajpempaaSelH
import Derived.Test.YtbdochcajpempaaSelQ
import Derived.Test.YtbdochcajpempaaSelR
import Derived.Test.YtbdochcajpempaaLexJ
import Derived.Test.YtbdochcajpempaaLexPlain
namespace Go.Proofs.Ytbdochcajpempaa
open Go.RowKit
set_option linter.unusedSimpArgs false
set_option linter.unusedVariables false

namespace Lex
/-- a token as the reader takes it -/
def toTk (t : Tok) : Sel.Tk := ((t.k : Int), (t.at_ : Int), ⟨t.s.toArray⟩)
theorem tok_len {l : List Tok} {t : Tok} (h : t ∈ l) : t.s.length ≤ tl l := by
  induction l with
  | nil => cases h
  | cons a l ih =>
    rw [List.mem_cons] at h
    unfold tl
    rcases h with rfl | h
    · unfold tokText
      split
      · have := quote_ge t.s
        omega
      · omega
    · have := ih h
      omega
end Lex
theorem Tks.of_toks {W : World} {B n c : Nat} {A : Option Addr} {l : List Lex.Tok} (h : Toks W B A n c l) (hl : ∀ t ∈ l, t.s.length ≤ 60000) : Tks W B A n c (l.map Lex.toTk) := by
  refine ⟨⟨by rw [List.length_map]; exact h.1, h.2.1, h.2.2.1, fun hn => ?_⟩, fun t ht => ?_⟩
  · obtain ⟨b, off, e, hb, hc⟩ := h.2.2.2 hn
    refine ⟨b, off, e, hb, fun j x hj i u hu => ?_⟩
    rw [List.getElem?_map, Option.map_eq_some_iff] at hj
    obtain ⟨y, hy, rfl⟩ := hj
    exact hc j y hy i u hu
  · obtain ⟨y, hy, rfl⟩ := List.mem_map.1 ht
    have := hl y hy
    show (⟨y.s.toArray⟩ : ByteArray).size ≤ _
    rw [Lex.size_mk]
    omega
theorem all_is (s : ByteArray) (hs : s.size ≤ 60000) (w : World) (l : List Lex.Tok) (n : Nat) (e : Int) (h : Lex.all (s.size + 1) (Lex.bl s) s.size = (l, n, e)) :
    Calls Try.prog 21 #[.string s] w fun en w' => ∃ A m c, en = .returned (.tuple #[.slice A m c, .int .i64 (n : Int), .int .i64 e]) ∧ Tks w' w'.heap.size A m c (l.map Lex.toTk) ∧ Below w.heap.size w w' := by
  refine (all_any s hs w).mono ?_
  rintro en w' ⟨A, m, c, rfl, hT, hb⟩
  rw [h] at hT ⊢
  refine ⟨A, m, c, rfl, Tks.of_toks hT fun t ht => ?_, hb⟩
  have h1 := Lex.tok_len ht
  have h2 := (Lex.all_len (s.size + 1) (Lex.bl s) s.size).1
  rw [h, Lex.bl_len] at h2
  simp only at h2
  omega
namespace Sel
def exT : ByteArray := ⟨#[117, 112, 123, 106, 111, 98, 61, 34, 97, 34, 44, 120, 33, 61, 34, 98, 34, 125, 32, 62, 32, 49]⟩
def exL : List Lex.Tok := [⟨1, 0, [117, 112]⟩, ⟨4, 2, [123]⟩, ⟨1, 3, [106, 111, 98]⟩, ⟨4, 6, [61]⟩, ⟨3, 7, [97]⟩, ⟨4, 10, [44]⟩, ⟨1, 11, [120]⟩, ⟨4, 12, [33, 61]⟩, ⟨3, 14, [98]⟩, ⟨4, 17, [125]⟩, ⟨4, 19, [62]⟩, ⟨2, 21, [49]⟩]
def exN : ByteArray := ⟨#[117, 112]⟩
def exM : List Mt := [(⟨#[106, 111, 98]⟩, ⟨#[97]⟩, false), (⟨#[120]⟩, ⟨#[98]⟩, true)]
theorem ex1 : Lex.all (exT.size + 1) (Lex.bl exT) exT.size = (exL, 22, 0) := by rfl
set_option maxRecDepth 100000 in
theorem ex2 : parse (exL.map Lex.toTk) 0 = (exN, exM, 10, 0) := by rfl
theorem ex3 : Lab.selSane exN exM = true := by rfl
theorem ex4 : print exN exM = ⟨#[117, 112, 123, 106, 111, 98, 61, 34, 97, 34, 44, 120, 33, 61, 34, 98, 34, 125]⟩ := by rfl
theorem ex5 : fits exN exM [(nameL, exN), (⟨#[106, 111, 98]⟩, ⟨#[97]⟩)] = true := by
  simp only [fits, headFit, fitAt, okV, Lab.get, Lab.find, Lab.sane, Lab.okAt, Lab.allTo, exM, List.length, ByteArray.toList_eq]
  rfl
theorem ex6 : fits exN exM [(nameL, exN)] = false := by
  simp only [fits, headFit, fitAt, okV, Lab.get, Lab.find, Lab.sane, Lab.okAt, Lab.allTo, exM, List.length, ByteArray.toList_eq]
  rfl
end Sel
/-- pairs in a block that has just been made -/
theorem prs_two {W : World} {g : Nat} {t : TypeId} {p q : Lab.Pr} (h : Mem.Blk W g t #[.string p.1, .string p.2, .string q.1, .string q.2]) (hp : p.1.size ≤ 64 ∧ p.2.size ≤ 64) (hq : q.1.size ≤ 64 ∧ q.2.size ≤ 64) : Prs W W.heap.size (some ⟨g, 0, none⟩) 2 2 [p, q] := by
  refine ⟨⟨rfl, by decide, by decide, fun _ => ⟨g, 0, rfl, h.lt, fun j x hj i u hu => ?_⟩⟩, fun x hx => ?_⟩
  · have hc := h.cell (0 + j * 2 + i)
    rw [hc]
    match j, hj with
    | 0, hj =>
      cases hj
      match i, hu with
      | 0, hu => cases hu; rfl
      | 1, hu => cases hu; rfl
    | 1, hj =>
      cases hj
      match i, hu with
      | 0, hu => cases hu; rfl
      | 1, hu => cases hu; rfl
  · rw [List.mem_cons, List.mem_singleton] at hx
    rcases hx with rfl | rfl <;> omega
theorem prs_one {W : World} {g : Nat} {t : TypeId} {p : Lab.Pr} (h : Mem.Blk W g t #[.string p.1, .string p.2]) (hp : p.1.size ≤ 64 ∧ p.2.size ≤ 64) : Prs W W.heap.size (some ⟨g, 0, none⟩) 1 1 [p] := by
  refine ⟨⟨rfl, by decide, by decide, fun _ => ⟨g, 0, rfl, h.lt, fun j x hj i u hu => ?_⟩⟩, fun x hx => ?_⟩
  · have hc := h.cell (0 + j * 2 + i)
    rw [hc]
    match j, hj with
    | 0, hj =>
      cases hj
      match i, hu with
      | 0, hu => cases hu; rfl
      | 1, hu => cases hu; rfl
  · rw [List.mem_singleton] at hx
    subst hx
    omega

set_option maxRecDepth 100000 in
set_option maxHeartbeats 8000000 in
theorem awake_any (w : World) : Calls Try.prog 8 #[] w fun e w' => e = .returned (.bool true) ∧ Below w.heap.size w w' := by
  go_enter Try.func8, Try.ntmps8
  go_wp2_with fail
  refine (all_is Sel.exT (by decide) w _ _ _ Sel.ex1).mono ?_
  rintro e w1 ⟨A1, n1, c1, rfl, hT, hb1⟩
  go_wp2_with fail
  refine (parse_is A1 n1 c1 0 _ _ _ _ _ Sel.ex2 w1 hT).mono ?_
  rintro e w2 ⟨A2, n2, c2, rfl, hM, hb2⟩
  have hB2 := hb1.trans (hb2.mono hb1.size)
  have ha := (Below.refl w2.heap.size w2).alloc (Nat.le_refl _) (.cells #[.string Sel.exN, .slice A2 n2 c2] 24)
  have hblk3 := Mem.Blk.new w2 24 #[.string Sel.exN, .slice A2 n2 c2]
  have hM3 := hM.later ha
  have hB3 := hB2.trans (ha.mono hB2.size)
  have hl3 : w2.heap.size < (w2.alloc (.cells #[.string Sel.exN, .slice A2 n2 c2] 24)).heap.size := by simp
  clear hT hb1 hb2 hM ha hB2
  go_wp2_with fail
  generalize w2.alloc (.cells #[.string Sel.exN, .slice A2 n2 c2] 24) = w3 at hblk3 hM3 hB3 hl3 ⊢
  have k0 := hblk3.cell 0
  have k1 := hblk3.cell 1
  simp at k0 k1
  have hx := selSane_any Sel.exN A2 n2 c2 Sel.exM w3 hM3
  rw [Sel.ex3] at hx
  refine hx.mono ?_
  rintro e w4 ⟨rfl, hb4⟩
  have hM4 := hM3.later hb4
  have hB4 := hB3.trans (hb4.mono hB3.size)
  have k0 := (hb4.cell (p := ⟨w2.heap.size, 0, none⟩) hl3).trans k0
  have k1 := (hb4.cell (p := ⟨w2.heap.size, 1, none⟩) hl3).trans k1
  have hl4 := Nat.lt_of_lt_of_le hl3 hb4.size
  clear hx hb4
  go_wp2_with fail
  have hx := print_any Sel.exN A2 n2 c2 Sel.exM w4 hM4
  rw [Sel.ex4] at hx
  refine hx.mono ?_
  rintro e w5 ⟨rfl, hb5⟩
  have hM5 := hM4.later hb5
  have hB5 := hB4.trans (hb5.mono hB4.size)
  have k0 := (hb5.cell (p := ⟨w2.heap.size, 0, none⟩) hl4).trans k0
  have k1 := (hb5.cell (p := ⟨w2.heap.size, 1, none⟩) hl4).trans k1
  have hl5 := Nat.lt_of_lt_of_le hl4 hb5.size
  clear hx hb5
  have ha6 := (Below.refl w5.heap.size w5).alloc (Nat.le_refl _) (.cells #[.string Sel.nameL, .string Sel.exN, .string ⟨#[106, 111, 98]⟩, .string ⟨#[97]⟩] 48)
  have hP6 := prs_two (p := (Sel.nameL, Sel.exN)) (q := (⟨#[106, 111, 98]⟩, ⟨#[97]⟩)) (Mem.Blk.new w5 48 #[.string Sel.nameL, .string Sel.exN, .string ⟨#[106, 111, 98]⟩, .string ⟨#[97]⟩]) (by decide) (by decide)
  go_wp2_with fail
  have hx := fits_any Sel.exN (by decide) A2 n2 c2 Sel.exM _ 2 2 _ _ (hM5.later ha6) hP6
  rw [Sel.ex5] at hx
  refine hx.mono ?_
  rintro e w7 ⟨rfl, hb7⟩
  have hb57 : Below w5.heap.size w5 w7 := ha6.trans (hb7.mono ha6.size)
  have hM7 := hM5.later hb57
  have hB7 := hB5.trans (hb57.mono hB5.size)
  have k0 := (hb57.cell (p := ⟨w2.heap.size, 0, none⟩) hl5).trans k0
  have k1 := (hb57.cell (p := ⟨w2.heap.size, 1, none⟩) hl5).trans k1
  have hl7 := Nat.lt_of_lt_of_le hl5 hb57.size
  clear hx hb7 hb57 ha6 hP6
  have ha8 := (Below.refl w7.heap.size w7).alloc (Nat.le_refl _) (.cells #[.string Sel.nameL, .string Sel.exN] 48)
  have hP8 := prs_one (p := (Sel.nameL, Sel.exN)) (Mem.Blk.new w7 48 #[.string Sel.nameL, .string Sel.exN]) (by decide)
  go_wp2_with fail
  have hx := fits_any Sel.exN (by decide) A2 n2 c2 Sel.exM _ 1 1 _ _ (hM7.later ha8) hP8
  rw [Sel.ex6] at hx
  refine hx.mono ?_
  rintro e w9 ⟨rfl, hb9⟩
  have hb79 : Below w7.heap.size w7 w9 := ha8.trans (hb9.mono ha8.size)
  have hB9 := hB7.trans (hb79.mono hB7.size)
  clear hx
  go_wp2
  go_ret
  exact ⟨rfl, hB9⟩
end Go.Proofs.Ytbdochcajpempaa
