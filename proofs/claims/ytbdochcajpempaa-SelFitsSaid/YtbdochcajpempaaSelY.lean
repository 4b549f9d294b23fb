/- The statement SelBack: the walk. -/
import Derived.Test.YtbdochcajpempaaSelX
namespace Go.Proofs.Ytbdochcajpempaa
open Go.RowKit
set_option linter.unusedSimpArgs false
set_option linter.unusedVariables false

theorem infoTk : (Try.prog.info? 39).map (fun i => (i.zero, i.size, i.bytes)) = some (some (.agg #[.int .i64 0, .int .i64 0, .string ⟨#[]⟩]), 3, 32) := by kernel_rfl
theorem tk_own_none (w : World) : (w.alloc (.cells #[] 39)).ownsRow w.heap.size 39 3 (.slice (some ⟨w.heap.size, 0, none⟩) 0 0) 0 [] :=
  ⟨by simp, .inr ⟨w.heap.size, 0, #[], rfl, Nat.le_refl _, heap_alloc_new w _, Nat.le_refl _, by unfold maxLen; omega, rfl, rfl⟩⟩
theorem tk_one (L : List Sel.Tk) : ∀ u ∈ L.flatMap tkCells, u.oneCell' = true := by
  intro u hu
  obtain ⟨t, _, ht⟩ := List.mem_flatMap.1 hu
  simp only [tkCells, List.mem_cons, List.not_mem_nil, or_false] at ht
  rcases ht with rfl | rfl | rfl <;> rfl
theorem Sel.stands_ahead {ts M : List Sel.Tk} {L : List (Nat × Lex.Bs)} (h : Sel.Stands M 0 L) (r : List Sel.Tk) : Sel.Stands (ts ++ (M ++ r)) ts.length L := by
  intro j x hx
  obtain ⟨t, ht, h1, h2⟩ := h j x hx
  rw [Nat.zero_add] at ht
  refine ⟨t, ?_, h1, h2⟩
  rw [List.getElem?_append_right (by omega), show ts.length + j - ts.length = j by omega, List.getElem?_append_left (List.getElem?_eq_some_iff.1 ht).1]
  exact ht
/-- behind whatever tokens, and ahead of whatever that is no bracket, it is the same -/
theorem Sel.ahead_behind {ts : List Sel.Tk} {b : Sel.Tk} {nm : ByteArray} {ms : List Sel.Mt} {L : List Lex.Tok} (h : Lab.selSane nm ms = true) (hL : Lex.bare L = Sel.stoks nm ms) (hb : ¬ (b.1 = 4 ∧ b.2.2 = Sel.opS ∧ ms = [])) :
    Sel.parse (ts ++ (L.map Lex.toTk ++ [b])) (ts.length : Int) = (nm, ms, ts.length + L.length, 0) := by
  unfold Sel.parse
  rw [if_neg (by omega), show ((ts.length : Int)).toNat = ts.length from rfl, Nat.min_eq_left (by simp), Sel.sel_stands h (Sel.stands_ahead (Sel.stands_bare hL) [b]), ← Sel.bare_length, hL]
  intro hm
  subst hm
  have h1 : L.length = 1 := by rw [← Sel.bare_length, hL]; rfl
  have hx : (ts ++ (L.map Lex.toTk ++ [b]))[ts.length + 1]? = some b := by
    rw [List.getElem?_append_right (by omega), show ts.length + 1 - ts.length = 1 by omega, List.getElem?_append_right (by rw [List.length_map]; omega), List.length_map, h1]
    rfl
  rw [Sel.isS_some hx]
  rw [Bool.and_eq_false_iff]
  by_cases h4 : b.1 = 4
  · right
    exact decide_eq_false fun e => hb ⟨h4, e, rfl⟩
  · left
    simpa using h4

set_option maxRecDepth 100000 in
set_option maxHeartbeats 16000000 in
theorem selBack_any (nm : ByteArray) (A : Option Addr) (n c : Nat) (ms : List Lab.Mt) (B : Option Addr) (n2 c2 : Nat) (ts : List Sel.Tk) (bk ba : Int) (bs : ByteArray) (hbs : bs.size ≤ 9223372036854775807) (w : World)
    (hM : Mts w w.heap.size A n c ms) (hT : Tks w w.heap.size B n2 c2 ts) :
    Calls Try.prog 4 #[.agg #[.string nm, .slice A n c], .slice B n2 c2, .agg #[.int .i64 bk, .int .i64 ba, .string bs]] w fun e w' => LawR w e w' := by
  have HM := Lib.hid hM
  have HT := Lib.hid hT
  have hlen := hT.len
  have hnlen := hM.len
  clear hM hT
  go_enter Try.func4, Try.ntmps4
  go_wp2_with fail
  have hB2 : Below w.heap.size w ((w.alloc (.cells #[.string nm, .slice A n c] 24)).alloc (.cells #[.int .i64 bk, .int .i64 ba, .string bs] 39)) := ((Below.refl _ w).alloc (Nat.le_refl _) _).alloc (by simp) _
  have b1 := (Mem.Blk.new w 24 #[.string nm, .slice A n c]).alloc (.cells #[.int .i64 bk, .int .i64 ba, .string bs] 39)
  have b2 : Mem.Blk ((w.alloc (.cells #[.string nm, .slice A n c] 24)).alloc (.cells #[.int .i64 bk, .int .i64 ba, .string bs] 39)) (w.heap.size + 1) 39 #[.int .i64 bk, .int .i64 ba, .string bs] := by
    simpa using Mem.Blk.new (w.alloc (.cells #[.string nm, .slice A n c] 24)) 39 #[.int .i64 bk, .int .i64 ba, .string bs]
  generalize (w.alloc (.cells #[.string nm, .slice A n c] 24)).alloc (.cells #[.int .i64 bk, .int .i64 ba, .string bs] 39) = W1 at hB2 b1 b2 ⊢
  have hlA := b1.lt
  have hlB := b2.lt
  have BA := Lib.hid b1
  have BB := Lib.hid b2
  clear b1 b2
  have HM := Lib.hid ((HM.out.below hB2).more hB2.size)
  have HT := Lib.hid ((HT.out.below hB2).more hB2.size)
  refine (awake_any W1).mono ?_
  rintro e w2 ⟨rfl, hC2⟩
  have u0 := (hC2.cell (p := ⟨w.heap.size, 0, none⟩) hlA).trans (BA.out.cell 0)
  have u1 := (hC2.cell (p := ⟨w.heap.size, 1, none⟩) hlA).trans (BA.out.cell 1)
  have v0 := (hC2.cell (p := ⟨w.heap.size + 1, 0, none⟩) hlB).trans (BB.out.cell 0)
  have v1 := (hC2.cell (p := ⟨w.heap.size + 1, 1, none⟩) hlB).trans (BB.out.cell 1)
  have v2 := (hC2.cell (p := ⟨w.heap.size + 1, 2, none⟩) hlB).trans (BB.out.cell 2)
  rw [show (#[.string nm, .slice A n c] : Array Value)[0]? = some (.string nm) from rfl] at u0
  rw [show (#[.string nm, .slice A n c] : Array Value)[1]? = some (.slice A n c) from rfl] at u1
  rw [show (#[.int .i64 bk, .int .i64 ba, .string bs] : Array Value)[0]? = some (.int .i64 bk) from rfl] at v0
  rw [show (#[.int .i64 bk, .int .i64 ba, .string bs] : Array Value)[1]? = some (.int .i64 ba) from rfl] at v1
  rw [show (#[.int .i64 bk, .int .i64 ba, .string bs] : Array Value)[2]? = some (.string bs) from rfl] at v2
  go_wp2_with fail
  refine (fewS_any nm A n c ms w2 (HM.out.later hC2)).mono ?_
  rintro e w3 ⟨few, rfl, hf40, hb3⟩
  have hC3 := hC2.trans (hb3.mono hC2.size)
  have u0 := (hC3.cell (p := ⟨w.heap.size, 0, none⟩) hlA).trans (BA.out.cell 0)
  have u1 := (hC3.cell (p := ⟨w.heap.size, 1, none⟩) hlA).trans (BA.out.cell 1)
  have v0 := (hC3.cell (p := ⟨w.heap.size + 1, 0, none⟩) hlB).trans (BB.out.cell 0)
  have v1 := (hC3.cell (p := ⟨w.heap.size + 1, 1, none⟩) hlB).trans (BB.out.cell 1)
  have v2 := (hC3.cell (p := ⟨w.heap.size + 1, 2, none⟩) hlB).trans (BB.out.cell 2)
  rw [show (#[.string nm, .slice A n c] : Array Value)[0]? = some (.string nm) from rfl] at u0
  rw [show (#[.string nm, .slice A n c] : Array Value)[1]? = some (.slice A n c) from rfl] at u1
  rw [show (#[.int .i64 bk, .int .i64 ba, .string bs] : Array Value)[0]? = some (.int .i64 bk) from rfl] at v0
  rw [show (#[.int .i64 bk, .int .i64 ba, .string bs] : Array Value)[1]? = some (.int .i64 ba) from rfl] at v1
  rw [show (#[.int .i64 bk, .int .i64 ba, .string bs] : Array Value)[2]? = some (.string bs) from rfl] at v2
  rcases few with _ | _
  · go_wp2
    go_ret
    exact ⟨rfl, hB2.trans (hC3.mono hB2.size)⟩
  have hf40 := hf40 rfl
  go_wp2_with fail
  refine (short_any B n2 c2 ts w3 (HT.out.later hC3)).mono ?_
  rintro e w4 ⟨few, rfl, hsh, hb4⟩
  have hC4 := hC3.trans (hb4.mono hC3.size)
  have u0 := (hC4.cell (p := ⟨w.heap.size, 0, none⟩) hlA).trans (BA.out.cell 0)
  have u1 := (hC4.cell (p := ⟨w.heap.size, 1, none⟩) hlA).trans (BA.out.cell 1)
  have v0 := (hC4.cell (p := ⟨w.heap.size + 1, 0, none⟩) hlB).trans (BB.out.cell 0)
  have v1 := (hC4.cell (p := ⟨w.heap.size + 1, 1, none⟩) hlB).trans (BB.out.cell 1)
  have v2 := (hC4.cell (p := ⟨w.heap.size + 1, 2, none⟩) hlB).trans (BB.out.cell 2)
  rw [show (#[.string nm, .slice A n c] : Array Value)[0]? = some (.string nm) from rfl] at u0
  rw [show (#[.string nm, .slice A n c] : Array Value)[1]? = some (.slice A n c) from rfl] at u1
  rw [show (#[.int .i64 bk, .int .i64 ba, .string bs] : Array Value)[0]? = some (.int .i64 bk) from rfl] at v0
  rw [show (#[.int .i64 bk, .int .i64 ba, .string bs] : Array Value)[1]? = some (.int .i64 ba) from rfl] at v1
  rw [show (#[.int .i64 bk, .int .i64 ba, .string bs] : Array Value)[2]? = some (.string bs) from rfl] at v2
  rcases few with _ | _
  · go_wp2
    go_ret
    exact ⟨rfl, hB2.trans (hC4.mono hB2.size)⟩
  have hsh := hsh rfl
  rcases hs : Lab.selSane nm ms with _ | _
  · have HS := Lib.hid hs
    have HQ := Lib.hid (show Sel.print nm ms = ⟨#[]⟩ by unfold Sel.print; rw [hs]; rfl)
    clear hs
    go_wp2_with fail
    refine (print_is nm A n c ms _ HQ.out w4 (HM.out.later hC4)).mono ?_
    rintro e w5 ⟨rfl, hb5⟩
    have hC5 := hC4.trans (hb5.mono hC4.size)
    have u0 := (hC5.cell (p := ⟨w.heap.size, 0, none⟩) hlA).trans (BA.out.cell 0)
    have u1 := (hC5.cell (p := ⟨w.heap.size, 1, none⟩) hlA).trans (BA.out.cell 1)
    have v0 := (hC5.cell (p := ⟨w.heap.size + 1, 0, none⟩) hlB).trans (BB.out.cell 0)
    have v1 := (hC5.cell (p := ⟨w.heap.size + 1, 1, none⟩) hlB).trans (BB.out.cell 1)
    have v2 := (hC5.cell (p := ⟨w.heap.size + 1, 2, none⟩) hlB).trans (BB.out.cell 2)
    rw [show (#[.string nm, .slice A n c] : Array Value)[0]? = some (.string nm) from rfl] at u0
    rw [show (#[.string nm, .slice A n c] : Array Value)[1]? = some (.slice A n c) from rfl] at u1
    rw [show (#[.int .i64 bk, .int .i64 ba, .string bs] : Array Value)[0]? = some (.int .i64 bk) from rfl] at v0
    rw [show (#[.int .i64 bk, .int .i64 ba, .string bs] : Array Value)[1]? = some (.int .i64 ba) from rfl] at v1
    rw [show (#[.int .i64 bk, .int .i64 ba, .string bs] : Array Value)[2]? = some (.string bs) from rfl] at v2
    go_wp2_with fail
    refine (all_is ⟨#[]⟩ (by decide) w5 [] 0 0 rfl).mono ?_
    rintro e w6 ⟨A6, n6, c6, rfl, hT6, hb6⟩
    have hC6 := hC5.trans (hb6.mono hC5.size)
    have u0 := (hC6.cell (p := ⟨w.heap.size, 0, none⟩) hlA).trans (BA.out.cell 0)
    have u1 := (hC6.cell (p := ⟨w.heap.size, 1, none⟩) hlA).trans (BA.out.cell 1)
    have v0 := (hC6.cell (p := ⟨w.heap.size + 1, 0, none⟩) hlB).trans (BB.out.cell 0)
    have v1 := (hC6.cell (p := ⟨w.heap.size + 1, 1, none⟩) hlB).trans (BB.out.cell 1)
    have v2 := (hC6.cell (p := ⟨w.heap.size + 1, 2, none⟩) hlB).trans (BB.out.cell 2)
    rw [show (#[.string nm, .slice A n c] : Array Value)[0]? = some (.string nm) from rfl] at u0
    rw [show (#[.string nm, .slice A n c] : Array Value)[1]? = some (.slice A n c) from rfl] at u1
    rw [show (#[.int .i64 bk, .int .i64 ba, .string bs] : Array Value)[0]? = some (.int .i64 bk) from rfl] at v0
    rw [show (#[.int .i64 bk, .int .i64 ba, .string bs] : Array Value)[1]? = some (.int .i64 ba) from rfl] at v1
    rw [show (#[.int .i64 bk, .int .i64 ba, .string bs] : Array Value)[2]? = some (.string bs) from rfl] at v2
    have hn6 := hT6.len
    obtain rfl : 0 = n6 := hn6
    go_wp2_with fail
    refine (selSane_is nm A n c ms _ HS.out w6 (HM.out.later hC6)).mono ?_
    rintro e w7 ⟨rfl, hb7⟩
    have hC7 := hC6.trans (hb7.mono hC6.size)
    go_wp2
    go_ret
    exact ⟨rfl, hB2.trans (hC7.mono hB2.size)⟩
  · obtain ⟨L, hL1, hL2, hL3⟩ := Sel.round hs
    obtain ⟨q, hq⟩ : ∃ q, Sel.print nm ms = q := ⟨_, rfl⟩
    rw [hq] at hL1
    have hqs : q.size ≤ 60000 := by
      rw [← hq]
      unfold Sel.print
      rw [if_pos hs]
      have h1 := Sel.textTo_size hs ms.length
      have h2 := (Sel.sane_nm hs).2.2.1
      have h3 := (Sel.sane_nm hs).2.1
      split
      · omega
      · rw [ByteArray.size_append, show Sel.clS.size = 1 from rfl]
        omega
    have hLn : L.length ≤ 60000 := by
      have := (Lex.all_len (q.size + 1) (Lex.bl q) q.size).2
      rw [hL1, Lex.bl_len] at this
      simp only at this
      omega
    have HS := Lib.hid hs
    have HQ := Lib.hid hq
    have HL1 := Lib.hid hL1
    have HL2 := Lib.hid hL2
    have HL3 := Lib.hid hL3
    clear hs hq hL1 hL2 hL3
    go_wp2_with fail
    refine (print_is nm A n c ms q HQ.out w4 (HM.out.later hC4)).mono ?_
    rintro e w5 ⟨rfl, hb5⟩
    have hC5 := hC4.trans (hb5.mono hC4.size)
    have u0 := (hC5.cell (p := ⟨w.heap.size, 0, none⟩) hlA).trans (BA.out.cell 0)
    have u1 := (hC5.cell (p := ⟨w.heap.size, 1, none⟩) hlA).trans (BA.out.cell 1)
    have v0 := (hC5.cell (p := ⟨w.heap.size + 1, 0, none⟩) hlB).trans (BB.out.cell 0)
    have v1 := (hC5.cell (p := ⟨w.heap.size + 1, 1, none⟩) hlB).trans (BB.out.cell 1)
    have v2 := (hC5.cell (p := ⟨w.heap.size + 1, 2, none⟩) hlB).trans (BB.out.cell 2)
    rw [show (#[.string nm, .slice A n c] : Array Value)[0]? = some (.string nm) from rfl] at u0
    rw [show (#[.string nm, .slice A n c] : Array Value)[1]? = some (.slice A n c) from rfl] at u1
    rw [show (#[.int .i64 bk, .int .i64 ba, .string bs] : Array Value)[0]? = some (.int .i64 bk) from rfl] at v0
    rw [show (#[.int .i64 bk, .int .i64 ba, .string bs] : Array Value)[1]? = some (.int .i64 ba) from rfl] at v1
    rw [show (#[.int .i64 bk, .int .i64 ba, .string bs] : Array Value)[2]? = some (.string bs) from rfl] at v2
    go_wp2_with fail
    refine (all_is q hqs w5 L _ _ HL1.out).mono ?_
    rintro e w6 ⟨A6, n6, c6, rfl, hT6, hb6⟩
    have hC6 := hC5.trans (hb6.mono hC5.size)
    have u0 := (hC6.cell (p := ⟨w.heap.size, 0, none⟩) hlA).trans (BA.out.cell 0)
    have u1 := (hC6.cell (p := ⟨w.heap.size, 1, none⟩) hlA).trans (BA.out.cell 1)
    have v0 := (hC6.cell (p := ⟨w.heap.size + 1, 0, none⟩) hlB).trans (BB.out.cell 0)
    have v1 := (hC6.cell (p := ⟨w.heap.size + 1, 1, none⟩) hlB).trans (BB.out.cell 1)
    have v2 := (hC6.cell (p := ⟨w.heap.size + 1, 2, none⟩) hlB).trans (BB.out.cell 2)
    rw [show (#[.string nm, .slice A n c] : Array Value)[0]? = some (.string nm) from rfl] at u0
    rw [show (#[.string nm, .slice A n c] : Array Value)[1]? = some (.slice A n c) from rfl] at u1
    rw [show (#[.int .i64 bk, .int .i64 ba, .string bs] : Array Value)[0]? = some (.int .i64 bk) from rfl] at v0
    rw [show (#[.int .i64 bk, .int .i64 ba, .string bs] : Array Value)[1]? = some (.int .i64 ba) from rfl] at v1
    rw [show (#[.int .i64 bk, .int .i64 ba, .string bs] : Array Value)[2]? = some (.string bs) from rfl] at v2
    have hn6 := hT6.len
    rw [List.length_map] at hn6
    have hc6 := hT6.cap
    have hc2 := HT.out.cap
    go_wp2_with fail
    refine (selSane_is nm A n c ms _ HS.out w6 (HM.out.later hC6)).mono ?_
    rintro e w7 ⟨rfl, hb7⟩
    have hC7 := hC6.trans (hb7.mono hC6.size)
    have HT7 := Lib.hid (hT6.later hb7)
    have HTA := Lib.hid (HT.out.later hC7)
    have HM7 := Lib.hid (HM.out.later hC7)
    clear hT6 hb7 hb6 hb5 hb4 hb3 u0 u1 v0 v1 v2 hC2 hC3 hC4 hC5 hC6
    have u0 := (hC7.cell (p := ⟨w.heap.size, 0, none⟩) hlA).trans (BA.out.cell 0)
    have u1 := (hC7.cell (p := ⟨w.heap.size, 1, none⟩) hlA).trans (BA.out.cell 1)
    have v0 := (hC7.cell (p := ⟨w.heap.size + 1, 0, none⟩) hlB).trans (BB.out.cell 0)
    have v1 := (hC7.cell (p := ⟨w.heap.size + 1, 1, none⟩) hlB).trans (BB.out.cell 1)
    have v2 := (hC7.cell (p := ⟨w.heap.size + 1, 2, none⟩) hlB).trans (BB.out.cell 2)
    rw [show (#[.string nm, .slice A n c] : Array Value)[0]? = some (.string nm) from rfl] at u0
    rw [show (#[.string nm, .slice A n c] : Array Value)[1]? = some (.slice A n c) from rfl] at u1
    rw [show (#[.int .i64 bk, .int .i64 ba, .string bs] : Array Value)[0]? = some (.int .i64 bk) from rfl] at v0
    rw [show (#[.int .i64 bk, .int .i64 ba, .string bs] : Array Value)[1]? = some (.int .i64 ba) from rfl] at v1
    rw [show (#[.int .i64 bk, .int .i64 ba, .string bs] : Array Value)[2]? = some (.string bs) from rfl] at v2
    have hlA7 := Nat.lt_of_lt_of_le hlA hC7.size
    have hlB7 := Nat.lt_of_lt_of_le hlB hC7.size
    obtain ⟨i0, hi, hz0, hz1, hz2⟩ := info_parts infoTk
    have HRd := Lib.hid ((Recs.reads tkCells_len (by decide) HTA.out.1).alloc (Nat.le_refl _) (.cells #[] 39))
    go_wp2_with (first
      | (at_builtin; refine Mem.wpList_append_any _ rfl (.tmp 44) (.tmp 45) 25 rfl w7.heap.size 39 i0 _ 3 32 Try.underlying25 hi hz0 hz1 hz2 rfl (by decide) (.slice (some ⟨w7.heap.size, 0, none⟩) 0 0) 0 [] rfl (tk_own_none w7) w7.heap.size B n2 c2 _ rfl HRd.out (tk_one ts) (by unfold maxLen; omega) (by omega) (by simp) ?_; intro v8 w8 hown8 hg8 hat8; have hb8 : Below w7.heap.size w7 w8 := ((Below.refl _ _).alloc (Nat.le_refl _) _).grown hg8 (by simp) (fun k e => by simp [Value.ownBlock] at e; omega); simp only [Nat.zero_add, List.nil_append] at hown8; have HO8 := Lib.hid hown8; clear hown8 hg8 hat8; have HRd9 := Lib.hid (Recs.reads tkCells_len (by decide) (HT7.out.1.below hb8)))
      | (at_builtin; refine Mem.wpList_append_any _ rfl (.tmp 47) (.tmp 48) 25 rfl w7.heap.size 39 i0 _ 3 32 Try.underlying25 hi hz0 hz1 hz2 rfl (by decide) v8 n2 _ rfl HO8.out w7.heap.size A6 n6 c6 _ rfl HRd9.out (tk_one _) (by unfold maxLen; omega) (by omega) hb8.size ?_; intro v9 w9 hown9 hg9 hat9; have hb9 : Below w7.heap.size w7 w9 := hb8.grown hg9 hb8.size (fun k e => (HO8.out.lt k e).1); have HO9 := Lib.hid hown9; clear hown9 hg9 hat9; have HB9 := Lib.hid hb9; have x0 := (hb9.cell (p := ⟨w.heap.size + 1, 0, none⟩) hlB7).trans v0; have x1 := (hb9.cell (p := ⟨w.heap.size + 1, 1, none⟩) hlB7).trans v1; have x2 := (hb9.cell (p := ⟨w.heap.size + 1, 2, none⟩) hlB7).trans v2)
      | (at_builtin; refine wpList_append_own _ rfl _ _ 25 rfl w7.heap.size 39 i0 _ 3 32 Try.underlying25 hi hz0 hz1 hz2 rfl (by decide) _ _ _ rfl (HO9.out.alloc (.cells #[.int .i64 bk, .int .i64 ba, .string bs] 39)) ⟨w9.heap.size, 0, none⟩ 1 1 [.int .i64 bk, .int .i64 ba, .string bs] rfl rfl ?c1 ?c2 ?c3 ?c4 ?c5 ?_))
    case c1 =>
      intro j u hj
      match j, hj with
      | 0, hj => simp at hj; subst hj; simp [Addr.add]
      | 1, hj => simp at hj; subst hj; simp [Addr.add]
      | 2, hj => simp at hj; subst hj; simp [Addr.add]
    case c2 => intro u hu; simp at hu; rcases hu with rfl | rfl | rfl <;> rfl
    case c3 => unfold maxLen; omega
    case c4 => omega
    case c5 => have := HB9.out.size; simp; omega
    intro v10 w10 hown10 hg10 hat10
    have hb10 : Below w7.heap.size w7 w10 := (HB9.out.alloc HB9.out.size _).grown hg10 (by have := HB9.out.size; simp; omega) (fun k e => (HO9.out.lt k e).1)
    have hown : w10.ownsRow w7.heap.size 39 3 v10 (n2 + n6 + 1) ((ts ++ (L.map Lex.toTk ++ [(bk, ba, bs)])).flatMap tkCells) := by
      rw [List.flatMap_append, List.flatMap_append]
      exact hown10
    obtain ⟨A10, c10, rfl, hrec⟩ := Recs.of_own tkCells_len (by decide) hown
    have HALL := Lib.hid (show Tks w10 w10.heap.size A10 (n2 + n6 + 1) c10 (ts ++ (L.map Lex.toTk ++ [(bk, ba, bs)])) from ⟨hrec, fun t ht => by
      rw [List.mem_append, List.mem_append, List.mem_singleton] at ht
      rcases ht with ht | ht | rfl
      · exact HTA.out.2 t ht
      · exact HT7.out.2 t ht
      · exact hbs⟩)
    have hB10 := hB2.trans ((hC7.trans (hb10.mono hC7.size)).mono hB2.size)
    have u0 := (hb10.cell (p := ⟨w.heap.size, 0, none⟩) hlA7).trans u0
    have u1 := (hb10.cell (p := ⟨w.heap.size, 1, none⟩) hlA7).trans u1
    have v0 := (hb10.cell (p := ⟨w.heap.size + 1, 0, none⟩) hlB7).trans v0
    have v2 := (hb10.cell (p := ⟨w.heap.size + 1, 2, none⟩) hlB7).trans v2
    have hlA10 := Nat.lt_of_lt_of_le hlA7 hb10.size
    have hlB10 := Nat.lt_of_lt_of_le hlB7 hb10.size
    have HT10 := Lib.hid (HT7.out.later hb10)
    have HM10 := Lib.hid (HM7.out.later hb10)
    have HP0 := Lib.hid (show Sel.parse (L.map Lex.toTk) 0 = (nm, ms, n6, 0) by rw [HL3.out, hn6])
    clear hown10 hg10 hat10 hown hrec hb10 v1 x0 x1 x2 hb8 hb9
    generalize hN : n2 + n6 + 1 = N at HALL
    go_wp2_with fail
    refine (parse_is A6 n6 c6 0 _ nm ms n6 0 HP0.out w10 HT10.out).mono ?_
    rintro e w11 ⟨A11, n11, c11, rfl, hM11, hb11⟩
    have ha11 := (Below.refl w11.heap.size w11).alloc (Nat.le_refl _) (.cells #[.string nm, .slice A11 n11 c11] 24)
    have hb112 := hb11.trans (ha11.mono hb11.size)
    have hbl12 := Mem.Blk.new w11 24 #[.string nm, .slice A11 n11 c11]
    have hM12 := hM11.later ha11
    have hlX12 : w11.heap.size < (w11.alloc (.cells #[.string nm, .slice A11 n11 c11] 24)).heap.size := by simp
    go_wp2_with fail
    generalize w11.alloc (.cells #[.string nm, .slice A11 n11 c11] 24) = w12 at ha11 hb112 hbl12 hM12 hlX12 ⊢
    have hALL12 := HALL.out.later hb112
    rcases hpa : Sel.parse (ts ++ (L.map Lex.toTk ++ [(bk, ba, bs)])) ((n2 : Nat) : Int) with ⟨nm2, ms2, j2, e2⟩
    refine (parse_is A10 N c10 _ _ nm2 ms2 j2 e2 hpa w12 hALL12).mono ?_
    rintro e w13 ⟨A13, n13, c13, rfl, hM13, hb13⟩
    have hb1013 := hb112.trans (hb13.mono hb112.size)
    have u0 := (hb1013.cell (p := ⟨w.heap.size, 0, none⟩) hlA10).trans u0
    have u1 := (hb1013.cell (p := ⟨w.heap.size, 1, none⟩) hlA10).trans u1
    have v0 := (hb1013.cell (p := ⟨w.heap.size + 1, 0, none⟩) hlB10).trans v0
    have v2 := (hb1013.cell (p := ⟨w.heap.size + 1, 2, none⟩) hlB10).trans v2
    have x0 := (hb13.cell (p := ⟨w11.heap.size, 0, none⟩) hlX12).trans (hbl12.cell 0)
    have x1 := (hb13.cell (p := ⟨w11.heap.size, 1, none⟩) hlX12).trans (hbl12.cell 1)
    rw [show (#[.string nm, .slice A11 n11 c11] : Array Value)[0]? = some (.string nm) from rfl] at x0
    rw [show (#[.string nm, .slice A11 n11 c11] : Array Value)[1]? = some (.slice A11 n11 c11) from rfl] at x1
    have hlA13 := Nat.lt_of_lt_of_le hlA10 hb1013.size
    have hlB13 := Nat.lt_of_lt_of_le hlB10 hb1013.size
    have hlX13 := Nat.lt_of_lt_of_le hlX12 hb13.size
    have HMS := Lib.hid (HM10.out.later hb1013)
    have HMA := Lib.hid (hM12.later hb13)
    have HMB := Lib.hid hM13
    have hB13 := hB10.trans (hb1013.mono hB10.size)
    obtain ⟨p, hp⟩ : ∃ p, n2 + n6 = p := ⟨_, rfl⟩
    have hw : IntKind.i64.wrap ((n2 : Int) + (n6 : Int)) = ((p : Nat) : Int) := by rw [← hp, show (n2 : Int) + (n6 : Int) = ((n2 + n6 : Nat) : Int) by omega]; exact IntWalk.i64_in _ (by omega)
    have U0 : ∀ o, (w13.alloc o).cell? ⟨w.heap.size, 0, none⟩ = some (.string nm) := fun o => (World.cell?_alloc_lt w13 o _ hlA13).trans u0
    have U1 : ∀ o, (w13.alloc o).cell? ⟨w.heap.size, 1, none⟩ = some (.slice A n c) := fun o => (World.cell?_alloc_lt w13 o _ hlA13).trans u1
    have V0 : ∀ o, (w13.alloc o).cell? ⟨w.heap.size + 1, 0, none⟩ = some (.int .i64 bk) := fun o => (World.cell?_alloc_lt w13 o _ hlB13).trans v0
    have V2 : ∀ o, (w13.alloc o).cell? ⟨w.heap.size + 1, 2, none⟩ = some (.string bs) := fun o => (World.cell?_alloc_lt w13 o _ hlB13).trans v2
    have X0 : ∀ o, (w13.alloc o).cell? ⟨w11.heap.size, 0, none⟩ = some (.string nm) := fun o => (World.cell?_alloc_lt w13 o _ hlX13).trans x0
    have X1 : ∀ o, (w13.alloc o).cell? ⟨w11.heap.size, 1, none⟩ = some (.slice A11 n11 c11) := fun o => (World.cell?_alloc_lt w13 o _ hlX13).trans x1
    have HPA := Lib.hid hpa
    have HNL := Lib.hid hnlen
    have HLN := Lib.hid hlen
    have HN6 := Lib.hid hn6
    have HPP := Lib.hid hp
    clear u0 u1 v0 v2 x0 x1 hpa hb112 hb1013 hb13 hbl12 hM11 hM12 hM13 hALL12 ha11 hb11 hlen hnlen hn6 hp hN hLn hqs hsh hf40 hc6 hc2
    by_cases hC : bk = 4 ∧ bs = Sel.opS ∧ ms = []
    · obtain ⟨rfl, hbo, hms⟩ := hC
      have hbo2 : bs = ⟨#[123]⟩ := hbo
      clear hbo
      subst hbo2
      have hn0 : ((n : Int) == 0) = true := by
        have := HNL.out
        rw [hms] at this
        simp at this
        rw [beq_iff_eq]
        omega
      clear hms
      have hb14 : Below w13.heap.size w13 (w13.alloc (.cells #[.string nm, .slice A n c] 24)) := (Below.refl _ w13).alloc (Nat.le_refl _) _
      have hMs := HMS.out.later hb14
      have hM12 := HMA.out.later hb14
      have hM15 := (HMS.out).later hb14
      have hbl := Mem.Blk.new w13 24 #[.string nm, .slice A n c]
      have hlt14 : w13.heap.size < (w13.alloc (.cells #[.string nm, .slice A n c] 24)).heap.size := by simp
      have y0 := U0 (.cells #[.string nm, .slice A n c] 24)
      have y1 := U1 (.cells #[.string nm, .slice A n c] 24)
      have hlA14 : w.heap.size < (w13.alloc (.cells #[.string nm, .slice A n c] 24)).heap.size := by omega
      go_wp2_with fail
      generalize w13.alloc (.cells #[.string nm, .slice A n c] 24) = w14 at hb14 hMs hM12 hM15 hbl hlt14 hlA14 y0 y1 ⊢
      refine (same_is nm nm A11 A n11 c11 n c ms ms true (Sel.same_self _ _) w14 hM12 hMs).mono ?_
      rintro e w15 ⟨rfl, hb15⟩
      have z0 := (hb15.cell (p := ⟨w13.heap.size, 0, none⟩) hlt14).trans (hbl.cell 0)
      have z1 := (hb15.cell (p := ⟨w13.heap.size, 1, none⟩) hlt14).trans (hbl.cell 1)
      rw [show (#[.string nm, .slice A n c] : Array Value)[0]? = some (.string nm) from rfl] at z0
      rw [show (#[.string nm, .slice A n c] : Array Value)[1]? = some (.slice A n c) from rfl] at z1
      have y0 := (hb15.cell (p := ⟨w.heap.size, 0, none⟩) hlA14).trans y0
      have y1 := (hb15.cell (p := ⟨w.heap.size, 1, none⟩) hlA14).trans y1
      go_wp2_with fail
      refine (same_is nm nm A A n c n c ms ms true (Sel.same_self _ _) w15 (hM15.later hb15) (hMs.later hb15)).mono ?_
      rintro e w16 ⟨rfl, hb16⟩
      have hE := (hB13.trans (hb14.mono hB13.size)).trans ((hb15.trans (hb16.mono hb15.size)).mono (hB13.trans (hb14.mono hB13.size)).size)
      go_wp2
      go_ret
      exact ⟨rfl, hE⟩
    · have hgd := Sel.ahead_behind (ts := ts) (b := (bk, ba, bs)) HS.out HL2.out hC
      rw [HLN.out, HN6.out, HPP.out] at hgd
      have h2 := HPA.out
      rw [hgd] at h2
      injection h2 with h21 h2
      injection h2 with h22 h2
      injection h2 with h23 h24
      subst h21 h22 h23 h24
      clear hgd
      by_cases h4 : bk = 4
      · by_cases ho : bs = Sel.opS
        · have hn0 : ((n : Int) == 0) = false := by
            rw [beq_eq_false_iff_ne]
            intro h0
            refine hC ⟨h4, ho, ?_⟩
            have := HNL.out
            exact List.eq_nil_of_length_eq_zero (by omega)
          have ho2 : bs = ⟨#[123]⟩ := ho
          clear hC ho
          subst h4 ho2
          have hb14 : Below w13.heap.size w13 (w13.alloc (.cells #[.string nm, .slice A13 n13 c13] 24)) := (Below.refl _ w13).alloc (Nat.le_refl _) _
          have hMs := HMS.out.later hb14
          have hM12 := HMA.out.later hb14
          have hM15 := (HMB.out).later hb14
          have hbl := Mem.Blk.new w13 24 #[.string nm, .slice A13 n13 c13]
          have hlt14 : w13.heap.size < (w13.alloc (.cells #[.string nm, .slice A13 n13 c13] 24)).heap.size := by simp
          have y0 := U0 (.cells #[.string nm, .slice A13 n13 c13] 24)
          have y1 := U1 (.cells #[.string nm, .slice A13 n13 c13] 24)
          have hlA14 : w.heap.size < (w13.alloc (.cells #[.string nm, .slice A13 n13 c13] 24)).heap.size := by omega
          go_wp2_with fail
          generalize w13.alloc (.cells #[.string nm, .slice A13 n13 c13] 24) = w14 at hb14 hMs hM12 hM15 hbl hlt14 hlA14 y0 y1 ⊢
          refine (same_is nm nm A11 A n11 c11 n c ms ms true (Sel.same_self _ _) w14 hM12 hMs).mono ?_
          rintro e w15 ⟨rfl, hb15⟩
          have z0 := (hb15.cell (p := ⟨w13.heap.size, 0, none⟩) hlt14).trans (hbl.cell 0)
          have z1 := (hb15.cell (p := ⟨w13.heap.size, 1, none⟩) hlt14).trans (hbl.cell 1)
          rw [show (#[.string nm, .slice A13 n13 c13] : Array Value)[0]? = some (.string nm) from rfl] at z0
          rw [show (#[.string nm, .slice A13 n13 c13] : Array Value)[1]? = some (.slice A13 n13 c13) from rfl] at z1
          have y0 := (hb15.cell (p := ⟨w.heap.size, 0, none⟩) hlA14).trans y0
          have y1 := (hb15.cell (p := ⟨w.heap.size, 1, none⟩) hlA14).trans y1
          go_wp2_with fail
          refine (same_is nm nm A13 A n13 c13 n c ms ms true (Sel.same_self _ _) w15 (hM15.later hb15) (hMs.later hb15)).mono ?_
          rintro e w16 ⟨rfl, hb16⟩
          have hE := (hB13.trans (hb14.mono hB13.size)).trans ((hb15.trans (hb16.mono hb15.size)).mono (hB13.trans (hb14.mono hB13.size)).size)
          go_wp2
          go_ret
          exact ⟨rfl, hE⟩
        · have hos2 : ¬ bs.toList = [123] := fun e => ho (Sel.ba_eq (e.trans (by unfold Sel.opS; rw [ByteArray.toList_eq])))
          have hos : (bs.toList == [123]) = false := by rw [beq_eq_false_iff_ne]; exact hos2
          subst h4
          clear hC ho
          have hb14 : Below w13.heap.size w13 (w13.alloc (.cells #[.string nm, .slice A13 n13 c13] 24)) := (Below.refl _ w13).alloc (Nat.le_refl _) _
          have hMs := HMS.out.later hb14
          have hM12 := HMA.out.later hb14
          have hM15 := (HMB.out).later hb14
          have hbl := Mem.Blk.new w13 24 #[.string nm, .slice A13 n13 c13]
          have hlt14 : w13.heap.size < (w13.alloc (.cells #[.string nm, .slice A13 n13 c13] 24)).heap.size := by simp
          have y0 := U0 (.cells #[.string nm, .slice A13 n13 c13] 24)
          have y1 := U1 (.cells #[.string nm, .slice A13 n13 c13] 24)
          have hlA14 : w.heap.size < (w13.alloc (.cells #[.string nm, .slice A13 n13 c13] 24)).heap.size := by omega
          go_wp2_with fail
          generalize w13.alloc (.cells #[.string nm, .slice A13 n13 c13] 24) = w14 at hb14 hMs hM12 hM15 hbl hlt14 hlA14 y0 y1 ⊢
          refine (same_is nm nm A11 A n11 c11 n c ms ms true (Sel.same_self _ _) w14 hM12 hMs).mono ?_
          rintro e w15 ⟨rfl, hb15⟩
          have z0 := (hb15.cell (p := ⟨w13.heap.size, 0, none⟩) hlt14).trans (hbl.cell 0)
          have z1 := (hb15.cell (p := ⟨w13.heap.size, 1, none⟩) hlt14).trans (hbl.cell 1)
          rw [show (#[.string nm, .slice A13 n13 c13] : Array Value)[0]? = some (.string nm) from rfl] at z0
          rw [show (#[.string nm, .slice A13 n13 c13] : Array Value)[1]? = some (.slice A13 n13 c13) from rfl] at z1
          have y0 := (hb15.cell (p := ⟨w.heap.size, 0, none⟩) hlA14).trans y0
          have y1 := (hb15.cell (p := ⟨w.heap.size, 1, none⟩) hlA14).trans y1
          go_wp2_with fail
          refine (same_is nm nm A13 A n13 c13 n c ms ms true (Sel.same_self _ _) w15 (hM15.later hb15) (hMs.later hb15)).mono ?_
          rintro e w16 ⟨rfl, hb16⟩
          have hE := (hB13.trans (hb14.mono hB13.size)).trans ((hb15.trans (hb16.mono hb15.size)).mono (hB13.trans (hb14.mono hB13.size)).size)
          go_wp2
          go_ret
          exact ⟨rfl, hE⟩
      · have h4b : (bk == 4) = false := by rw [beq_eq_false_iff_ne]; exact h4
        clear hC h4
        have hb14 : Below w13.heap.size w13 (w13.alloc (.cells #[.string nm, .slice A13 n13 c13] 24)) := (Below.refl _ w13).alloc (Nat.le_refl _) _
        have hMs := HMS.out.later hb14
        have hM12 := HMA.out.later hb14
        have hM15 := (HMB.out).later hb14
        have hbl := Mem.Blk.new w13 24 #[.string nm, .slice A13 n13 c13]
        have hlt14 : w13.heap.size < (w13.alloc (.cells #[.string nm, .slice A13 n13 c13] 24)).heap.size := by simp
        have y0 := U0 (.cells #[.string nm, .slice A13 n13 c13] 24)
        have y1 := U1 (.cells #[.string nm, .slice A13 n13 c13] 24)
        have hlA14 : w.heap.size < (w13.alloc (.cells #[.string nm, .slice A13 n13 c13] 24)).heap.size := by omega
        go_wp2_with fail
        generalize w13.alloc (.cells #[.string nm, .slice A13 n13 c13] 24) = w14 at hb14 hMs hM12 hM15 hbl hlt14 hlA14 y0 y1 ⊢
        refine (same_is nm nm A11 A n11 c11 n c ms ms true (Sel.same_self _ _) w14 hM12 hMs).mono ?_
        rintro e w15 ⟨rfl, hb15⟩
        have z0 := (hb15.cell (p := ⟨w13.heap.size, 0, none⟩) hlt14).trans (hbl.cell 0)
        have z1 := (hb15.cell (p := ⟨w13.heap.size, 1, none⟩) hlt14).trans (hbl.cell 1)
        rw [show (#[.string nm, .slice A13 n13 c13] : Array Value)[0]? = some (.string nm) from rfl] at z0
        rw [show (#[.string nm, .slice A13 n13 c13] : Array Value)[1]? = some (.slice A13 n13 c13) from rfl] at z1
        have y0 := (hb15.cell (p := ⟨w.heap.size, 0, none⟩) hlA14).trans y0
        have y1 := (hb15.cell (p := ⟨w.heap.size, 1, none⟩) hlA14).trans y1
        go_wp2_with fail
        refine (same_is nm nm A13 A n13 c13 n c ms ms true (Sel.same_self _ _) w15 (hM15.later hb15) (hMs.later hb15)).mono ?_
        rintro e w16 ⟨rfl, hb16⟩
        have hE := (hB13.trans (hb14.mono hB13.size)).trans ((hb15.trans (hb16.mono hb15.size)).mono (hB13.trans (hb14.mono hB13.size)).size)
        go_wp2
        go_ret
        exact ⟨rfl, hE⟩
end Go.Proofs.Ytbdochcajpempaa
