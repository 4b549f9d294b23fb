/- The walks of watchtowerlaw09's awake, CondNot, CondOrder. -/
import Derived.Test.YtbdochcajpempaaDoorCondI
import Derived.Test.YtbdochcajpempaaDoorRow
import Derived.Test.YtbdochcajpempaaDoorSelS
namespace Go.Proofs.YtbdochcajpempaaDoor
open Go.RowKit
set_option linter.unusedSimpArgs false
set_option linter.unusedVariables false

namespace Cond
def exT : ByteArray := ⟨#[40, 40, 117, 112, 62, 61, 50, 41, 41]⟩
def exL : List Lex.Tok := [⟨4, 0, [40]⟩, ⟨4, 1, [40]⟩, ⟨1, 2, [117, 112]⟩, ⟨4, 4, [62, 61]⟩, ⟨2, 6, [50]⟩, ⟨4, 7, [41]⟩, ⟨4, 8, [41]⟩]
def exN : ByteArray := ⟨#[117, 112]⟩
def exP : ByteArray := ⟨#[117, 112, 32, 62, 61, 32, 50]⟩
theorem ex1 : Lex.all (exT.size + 1) (Lex.bl exT) exT.size = (exL, 9, 0) := by rfl
set_option maxRecDepth 100000 in
theorem ex2 : parse (exL.map Lex.toTk) 0 = ((exN, [], 2, 2000), 7, 0) := by rfl
theorem ex3 : sane exN [] 2 2000 = true := by rfl
theorem ex4 : print exN [] 2 2000 = exP := by
  unfold print
  rw [if_pos ex3]
  unfold text numB
  rw [show Num.print 2000 = Num.pos 2000 from rfl]
  unfold Num.pos
  rw [show 2000 / 1000 = 2 from rfl, digs_one (by decide)]
  rfl
theorem exS : ∀ t ∈ exL.map Lex.toTk, t.2.2.size ≤ 4611686018427387904 := by
  intro t ht
  obtain ⟨y, hy, rfl⟩ := List.mem_map.1 ht
  have hy2 : y.s.length ≤ 2 := by
    have : ∀ z ∈ exL, z.s.length ≤ 2 := by decide
    exact this y hy
  show (⟨y.s.toArray⟩ : ByteArray).size ≤ _
  rw [Lex.size_mk]
  omega
end Cond
theorem not_is (op r : Int) (h : Cond.not_ op = r) (w : World) : Calls Tryd.prog 17 #[.int .i64 op] w fun e w' => e = .returned (.int .i64 r) ∧ w = w' := by subst h; exact not_any op w
theorem rNot_is (op r : Int) (h : Cond.not_ op = r) (w : World) : Calls Tryd.prog 18 #[.int .i64 op] w fun e w' => e = .returned (.int .i64 r) ∧ w = w' := by subst h; exact rNot_any op w
theorem holds_is (op v t : Int) (b : Bool) (h : Cond.holds op v t = b) (w : World) : Calls Tryd.prog 15 #[.int .i64 op, .int .i64 v, .int .i64 t] w fun e w' => e = .returned (.bool b) ∧ w = w' := by subst h; exact holds_any op v t w
theorem rHolds_is (op v t : Int) (b : Bool) (h : Cond.holds op v t = b) (w : World) : Calls Tryd.prog 16 #[.int .i64 op, .int .i64 v, .int .i64 t] w fun e w' => e = .returned (.bool b) ∧ w = w' := by subst h; exact rHolds_any op v t w

set_option maxRecDepth 100000 in
set_option maxHeartbeats 8000000 in
theorem awake_any (w : World) (hG : CGlob w) : Calls Tryd.prog 8 #[] w fun e w' => e = .returned (.bool true) ∧ Below w.heap.size w w' := by
  have HG := Lib.hid hG
  have hxN : Cond.exN.toList = [117, 112] := by rw [ByteArray.toList_eq]; rfl
  have hxP : Cond.exP.toList = [117, 112, 32, 62, 61, 32, 50] := by rw [ByteArray.toList_eq]; rfl
  clear hG
  go_enter Tryd.func8, Tryd.ntmps8
  go_wp2_with fail
  refine (all_is Cond.exT (by decide) w _ _ _ Cond.ex1).mono ?_
  rintro e w1 ⟨A1, n1, c1, rfl, hT, hb1⟩
  go_wp2_with fail
  refine (cparse_is A1 n1 c1 0 _ _ _ _ _ _ _ Cond.ex2 Cond.exS w1 (HG.out.below hb1).1 hT).mono ?_
  rintro e w2 ⟨A2, n2, c2, rfl, hM, hb2⟩
  have hB2 := hb1.trans (hb2.mono hb1.size)
  have ha := (Below.refl w2.heap.size w2).alloc (Nat.le_refl _) (.cells #[.string Cond.exN, .slice A2 n2 c2, .int .i64 2, .int .i64 2000] 26)
  have hblk3 := Mem.Blk.new w2 26 #[.string Cond.exN, .slice A2 n2 c2, .int .i64 2, .int .i64 2000]
  have hM3 := hM.later ha
  have hB3 := hB2.trans (ha.mono hB2.size)
  have hl3 : w2.heap.size < (w2.alloc (.cells #[.string Cond.exN, .slice A2 n2 c2, .int .i64 2, .int .i64 2000] 26)).heap.size := by simp
  clear hT hb1 hb2 hM ha hB2
  have k0 := hblk3.cell 0
  have k1 := hblk3.cell 1
  have k2 := hblk3.cell 2
  have k3 := hblk3.cell 3
  rw [show (#[.string Cond.exN, .slice A2 n2 c2, .int .i64 2, .int .i64 2000] : Array Value)[0]? = some (.string Cond.exN) from rfl] at k0
  rw [show (#[.string Cond.exN, .slice A2 n2 c2, .int .i64 2, .int .i64 2000] : Array Value)[1]? = some (.slice A2 n2 c2) from rfl] at k1
  rw [show (#[.string Cond.exN, .slice A2 n2 c2, .int .i64 2, .int .i64 2000] : Array Value)[2]? = some (.int .i64 2) from rfl] at k2
  rw [show (#[.string Cond.exN, .slice A2 n2 c2, .int .i64 2, .int .i64 2000] : Array Value)[3]? = some (.int .i64 2000) from rfl] at k3
  go_wp2_with fail
  generalize w2.alloc (.cells #[.string Cond.exN, .slice A2 n2 c2, .int .i64 2, .int .i64 2000] 26) = w3 at hblk3 hM3 hB3 hl3 k0 k1 k2 k3 ⊢
  refine (cSane_any Cond.exN A2 n2 c2 [] 2 2000 true Cond.ex3 w3 hM3).mono ?_
  rintro e w4 ⟨rfl, hb4⟩
  have hM4 := hM3.later hb4
  have hB4 := hB3.trans (hb4.mono hB3.size)
  have k0 := (hb4.cell (p := ⟨w2.heap.size, 0, none⟩) hl3).trans k0
  have k1 := (hb4.cell (p := ⟨w2.heap.size, 1, none⟩) hl3).trans k1
  have k2 := (hb4.cell (p := ⟨w2.heap.size, 2, none⟩) hl3).trans k2
  have k3 := (hb4.cell (p := ⟨w2.heap.size, 3, none⟩) hl3).trans k3
  have HG4 := Lib.hid (HG.out.below hB4)
  clear hb4
  go_wp2_with fail
  refine (cprint_is Cond.exN A2 n2 c2 [] 2 2000 Cond.exP Cond.ex4 w4 HG4.out hM4).mono ?_
  rintro e w5 ⟨rfl, hb5⟩
  have hB5 := hB4.trans (hb5.mono hB4.size)
  clear hb5 k0 k1 k2 k3
  go_wp2_with fail
  refine (holds_is 2 2000 2000 true rfl w5).mono ?_
  rintro e w' ⟨rfl, rfl⟩
  go_wp2_with fail
  refine (not_is 2 3 rfl w5).mono ?_
  rintro e w' ⟨rfl, rfl⟩
  go_wp2
  go_ret
  exact ⟨rfl, hB5⟩

namespace Cond
theorem not_out {op : Int} (h : op < 1 ∨ 6 < op) (v t : Int) : not_ op = 0 ∧ holds op v t = false ∧ holds 0 v t = false := by
  unfold not_ holds
  have e1 : ¬ op = 1 := by omega
  have e2 : ¬ op = 2 := by omega
  have e3 : ¬ op = 3 := by omega
  have e4 : ¬ op = 4 := by omega
  have e5 : ¬ op = 5 := by omega
  have e6 : ¬ op = 6 := by omega
  simp [e1, e2, e3, e4, e5, e6]
theorem not_in {op : Int} (h1 : 1 ≤ op) (h6 : op ≤ 6) (v t : Int) : holds (not_ op) v t = !(holds op v t) ∧ not_ (not_ op) = op := by
  have hk : op = 1 ∨ op = 2 ∨ op = 3 ∨ op = 4 ∨ op = 5 ∨ op = 6 := by omega
  rcases hk with rfl | rfl | rfl | rfl | rfl | rfl
  · refine ⟨?_, rfl⟩
    show decide (v ≤ t) = !decide (t < v)
    rw [← decide_not]; exact decide_eq_decide.2 (by omega)
  · refine ⟨?_, rfl⟩
    show decide (v < t) = !decide (t ≤ v)
    rw [← decide_not]; exact decide_eq_decide.2 (by omega)
  · refine ⟨?_, rfl⟩
    show decide (t ≤ v) = !decide (v < t)
    rw [← decide_not]; exact decide_eq_decide.2 (by omega)
  · refine ⟨?_, rfl⟩
    show decide (t < v) = !decide (v ≤ t)
    rw [← decide_not]; exact decide_eq_decide.2 (by omega)
  · refine ⟨?_, rfl⟩
    show (v != t) = !(v == t)
    rfl
  · refine ⟨?_, rfl⟩
    show (v == t) = !(v != t)
    rw [bne, Bool.not_not]
theorem same_or (v t : Int) : holds 2 v t = (holds 1 v t || holds 5 v t) := by
  show decide (t ≤ v) = (decide (t < v) || (v == t))
  rw [Bool.eq_iff_iff]
  simp
  omega
theorem turned (v t : Int) : holds 3 v t = holds 1 t v := rfl
end Cond

set_option maxRecDepth 100000 in
set_option maxHeartbeats 8000000 in
theorem condNot_any (op v t : Int) (w : World) (hG : CGlob w) : Calls Tryd.prog 4 #[.int .i64 op, .int .i64 v, .int .i64 t] w fun e w' => LawR w e w' := by
  have HG := Lib.hid hG
  clear hG
  by_cases hin : 1 ≤ op ∧ op ≤ 6
  · obtain ⟨r, hr⟩ : ∃ r, Cond.not_ op = r := ⟨_, rfl⟩
    have hn := Cond.not_in hin.1 hin.2 v t
    rw [hr] at hn
    obtain ⟨b, hb⟩ : ∃ b, Cond.holds op v t = b := ⟨_, rfl⟩
    rw [hb] at hn
    obtain ⟨b1, h1⟩ : ∃ b, Cond.holds 1 v t = b := ⟨_, rfl⟩
    obtain ⟨b5, h5⟩ : ∃ b, Cond.holds 5 v t = b := ⟨_, rfl⟩
    obtain ⟨b3, h3⟩ : ∃ b, Cond.holds 3 v t = b := ⟨_, rfl⟩
    have h2 := Cond.same_or v t
    rw [h1, h5] at h2
    have h3b : Cond.holds 1 t v = b3 := h3
    have d1 : decide (op < 1) = false := decide_eq_false (by omega)
    have d6 : decide (6 < op) = false := decide_eq_false (by omega)
    have HR := Lib.hid hr
    have HB := Lib.hid hb
    have HN := Lib.hid hn
    have H1 := Lib.hid h1
    have H5 := Lib.hid h5
    have H3 := Lib.hid h3
    have H2 := Lib.hid h2
    have H3B := Lib.hid h3b
    clear hr hb hn h1 h5 h3 h2 h3b hin
    go_enter Tryd.func4, Tryd.ntmps4
    go_wp2_with fail
    refine (awake_any w HG.out).mono ?_
    rintro e w1 ⟨rfl, hb1⟩
    go_wp2_with fail
    refine (not_is op r HR.out w1).mono ?_
    rintro e w' ⟨rfl, rfl⟩
    go_wp2_with fail
    refine (holds_is op v t b HB.out w1).mono ?_
    rintro e w' ⟨rfl, rfl⟩
    go_wp2_with fail
    refine (holds_is r v t (!b) HN.out.1 w1).mono ?_
    rintro e w' ⟨rfl, rfl⟩
    have hbb : (b != !b) = true := by cases b <;> rfl
    go_wp2_with fail
    refine (not_is r op HN.out.2 w1).mono ?_
    rintro e w' ⟨rfl, rfl⟩
    go_wp2_with fail
    refine (holds_is 2 v t (b1 || b5) H2.out w1).mono ?_
    rintro e w' ⟨rfl, rfl⟩
    go_wp2_with fail
    refine (holds_is 1 v t b1 H1.out w1).mono ?_
    rintro e w' ⟨rfl, rfl⟩
    rcases b1 with _ | _
    · go_wp2_with fail
      refine (holds_is 5 v t b5 H5.out w1).mono ?_
      rintro e w' ⟨rfl, rfl⟩
      go_wp2_with fail
      refine (holds_is 3 v t b3 H3.out w1).mono ?_
      rintro e w' ⟨rfl, rfl⟩
      go_wp2_with fail
      refine (holds_is 1 t v b3 H3B.out w1).mono ?_
      rintro e w' ⟨rfl, rfl⟩
      go_wp2
      go_ret
      exact ⟨by simp, hb1⟩
    · go_wp2_with fail
      refine (holds_is 3 v t b3 H3.out w1).mono ?_
      rintro e w' ⟨rfl, rfl⟩
      go_wp2_with fail
      refine (holds_is 1 t v b3 H3B.out w1).mono ?_
      rintro e w' ⟨rfl, rfl⟩
      go_wp2
      go_ret
      exact ⟨by simp, hb1⟩
  · have hout : op < 1 ∨ 6 < op := by omega
    obtain ⟨hn, hh, hh0⟩ := Cond.not_out hout v t
    have HN := Lib.hid hn
    have HH := Lib.hid hh
    have HH0 := Lib.hid hh0
    clear hn hh hh0 hin
    rcases hout with hlo | hhi
    · have d1 : decide (op < 1) = true := decide_eq_true hlo
      go_enter Tryd.func4, Tryd.ntmps4
      go_wp2_with fail
      refine (awake_any w HG.out).mono ?_
      rintro e w1 ⟨rfl, hb1⟩
      go_wp2_with fail
      refine (not_is op 0 HN.out w1).mono ?_
      rintro e w' ⟨rfl, rfl⟩
      go_wp2_with fail
      refine (holds_is op v t false HH.out w1).mono ?_
      rintro e w' ⟨rfl, rfl⟩
      go_wp2_with fail
      refine (holds_is 0 v t false HH0.out w1).mono ?_
      rintro e w' ⟨rfl, rfl⟩
      go_wp2
      go_ret
      exact ⟨rfl, hb1⟩
    · have d1 : decide (op < 1) = false := decide_eq_false (by omega)
      have d6 : decide (6 < op) = true := decide_eq_true hhi
      go_enter Tryd.func4, Tryd.ntmps4
      go_wp2_with fail
      refine (awake_any w HG.out).mono ?_
      rintro e w1 ⟨rfl, hb1⟩
      go_wp2_with fail
      refine (not_is op 0 HN.out w1).mono ?_
      rintro e w' ⟨rfl, rfl⟩
      go_wp2_with fail
      refine (holds_is op v t false HH.out w1).mono ?_
      rintro e w' ⟨rfl, rfl⟩
      go_wp2_with fail
      refine (holds_is 0 v t false HH0.out w1).mono ?_
      rintro e w' ⟨rfl, rfl⟩
      go_wp2
      go_ret
      exact ⟨rfl, hb1⟩
end Go.Proofs.YtbdochcajpempaaDoor
