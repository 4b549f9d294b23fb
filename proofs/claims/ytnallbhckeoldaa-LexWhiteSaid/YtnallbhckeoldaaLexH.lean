/- The walk of lex's Join: tokens as a text. -/
import Derived.Test.YtnallbhckeoldaaLexG
import Derived.Test.YtnallbhckeoldaaRecs
namespace Go.Proofs.Ytnallbhckeoldaa
open Go.RowKit

namespace Bld
theorem At.below {B b : Nat} {bs : List Value} {w w' : World} (h : At B b bs w) (hb : Below w.heap.size w w') : At B b bs w' := by
  have hlt := Lib.BuilderAt.lt h
  obtain ⟨hB, v, hbk, hown, hne⟩ := h
  refine ⟨hB, v, (hb.block b hlt).trans hbk, ⟨hown.1, ?_⟩, hne⟩
  rcases hown.2 with h0 | ⟨g, cap, cur, hv, hbg, hg, rest⟩
  · exact .inl h0
  · exact .inr ⟨g, cap, cur, hv, hbg, (hb.block g (Array.getElem?_eq_some_iff.1 hg).1).trans hg, rest⟩
theorem Is.below {B b : Nat} {bs : List Value} {w w' : World} (h : Is B b bs w) (hb : Below w.heap.size w w') : Is B b bs w' := by
  have key : ∀ p, Lib.BuilderAt 46 5 B b p bs w → Lib.BuilderAt 46 5 B b p bs w' := by
    intro p h
    have hlt := Lib.BuilderAt.lt h
    obtain ⟨hB, v, hbk, hown, hne⟩ := h
    refine ⟨hB, v, (hb.block b hlt).trans hbk, ⟨hown.1, ?_⟩, hne⟩
    rcases hown.2 with h0 | ⟨g, cap, cur, hv, hbg, hg, rest⟩
    · exact .inl h0
    · exact .inr ⟨g, cap, cur, hv, hbg, (hb.block g (Array.getElem?_eq_some_iff.1 hg).1).trans hg, rest⟩
  exact h.elim (fun h => .inl (key _ h)) (fun h => .inr (key _ h))
theorem Is.lt {B b : Nat} {bs : List Value} {w : World} (h : Is B b bs w) : b < w.heap.size := h.elim Lib.BuilderAt.lt Lib.BuilderAt.lt
end Bld
namespace Lex
/-- a token's cells -/
def tokCells (t : Tok) : List Value := [.int .i64 (t.k : Int), .int .i64 (t.at_ : Int), .string ⟨t.s.toArray⟩]
theorem tokCells_len (t : Tok) : (tokCells t).length = 3 := rfl
/-- what is still to be joined at token k -/
def rest (xs : List Tok) (k : Nat) : Bs := if k = 0 then join (bare xs) else joinR (bare (xs.drop k))
theorem bare_cons (t : Tok) (l : List Tok) : bare (t :: l) = (t.k, t.s) :: bare l := rfl
theorem rest_step {xs : List Tok} {k : Nat} {x : Tok} (h : xs[k]? = some x) : rest xs k = (if k = 0 then [] else [32]) ++ (tokText x.k x.s ++ rest xs (k + 1)) := by
  have hlt := (List.getElem?_eq_some_iff.1 h).1
  have hd : xs.drop k = x :: xs.drop (k + 1) := by
    rw [List.drop_eq_getElem_cons hlt]
    rw [List.getElem?_eq_getElem hlt] at h
    rw [Option.some.inj h]
  unfold rest
  rw [if_neg (by omega : ¬ k + 1 = 0)]
  by_cases hk : k = 0
  · subst hk
    rw [if_pos rfl, if_pos rfl]
    rw [List.drop_zero] at hd
    rw [hd]
    rfl
  · rw [if_neg hk, if_neg hk, hd]
    rfl
theorem rest_end {xs : List Tok} {k : Nat} (h : xs.length ≤ k) : rest xs k = [] := by
  unfold rest
  split
  · rename_i hk
    subst hk
    rw [List.eq_nil_of_length_eq_zero (Nat.le_zero.1 h)]
    rfl
  · rw [List.drop_eq_nil_of_le h]
    rfl
theorem quote_ge (l : Bs) : l.length ≤ (quote l).length := by
  have : ∀ l : Bs, l.length ≤ (quoteIn l).length := by
    intro l
    induction l with
    | nil => exact Nat.le_refl _
    | cons c l ih =>
      unfold quoteIn
      split
      · simp; omega
      · split
        · simp; omega
        · simp; omega
  have := this l
  simp [quote]
  omega
end Lex
abbrev Toks (W : World) (B : Nat) (A : Option Addr) (n c : Nat) (xs : List Lex.Tok) : Prop := Recs Lex.tokCells 3 W B A n c xs

set_option maxRecDepth 100000 in
set_option maxHeartbeats 4000000 in
theorem join_any (A : Option Addr) (n c : Nat) (xs : List Lex.Tok) (w : World) (h : Toks w w.heap.size A n c xs) (hsz : (Lex.join (Lex.bare xs)).length ≤ 100000) :
    Calls Try.prog 10 #[.slice A n c] w fun e w' => e = .returned (.string ⟨(Lex.join (Lex.bare xs)).toArray⟩) ∧ Below w.heap.size w w' := by
  have hlen := h.1
  have hc := h.2.1
  have hc2 := h.2.2.1
  go_enter Try.func10, Try.ntmps10
  go_wp2
  go_loopw [8] (fun i wr => ∃ (k : Nat) (acc : Lex.Bs), k ≤ n ∧ i = .int .i64 k ∧ Bld.Is w.heap.size w.heap.size (Lib.byteCells acc) wr ∧ Below w.heap.size w wr ∧ Lex.join (Lex.bare xs) = acc ++ Lex.rest xs k) (fun i _ => n - (intOf i).toNat)
  case atStart => exact ⟨0, [], Nat.zero_le _, rfl, Lib.fresh_isBuilder _ _ _, (Below.refl _ _).alloc (Nat.le_refl _) _, rfl⟩
  case round =>
    obtain ⟨k, acc, hk, rfl, his, hb, hq⟩ := hrel
    have HQ := Lib.hid hq
    have HI := Lib.hid his
    have hbs := hb.size
    by_cases hlt : k < n
    · obtain ⟨b, off, rfl, hbB, hcell⟩ := h.at_ (by omega)
      obtain ⟨x, hx⟩ : ∃ x, xs[k]? = some x := ⟨_, List.getElem?_eq_getElem (by omega)⟩
      have HX := Lib.hid hx
      have h1 := (hb.cell (p := ⟨b, off + k * 3, none⟩) hbB).trans (hcell k x hx 0 _ rfl)
      have h2 := (hb.cell (p := ⟨b, off + k * 3 + 1, none⟩) hbB).trans (hcell k x hx 1 _ rfl)
      have h3 := (hb.cell (p := ⟨b, off + k * 3 + 2, none⟩) hbB).trans (hcell k x hx 2 _ rfl)
      have HC := Lib.hid hcell
      have HL := Lib.hid hlen
      have HH := Lib.hid h
      have j0 : (0 : Int) ≤ (k : Int) := by omega
      have j1 : (k : Int) < (n : Int) := by omega
      clear hcell h hlen hq his hx
      obtain ⟨O, hO⟩ : ∃ O : Array Value, O = #[.int .i64 (x.k : Int), .int .i64 (x.at_ : Int), .string ⟨x.s.toArray⟩] := ⟨_, rfl⟩
      have hbT := Mem.Blk.new wr 32 O
      rw [hO] at hbT
      clear hO O
      have HBT := Lib.hid hbT
      have hs1 := HQ.out
      rw [Lex.rest_step HX.out] at hs1
      have HS1 := Lib.hid hs1
      have hlq := congrArg List.length hs1
      simp only [List.length_append] at hlq
      have HLQ := Lib.hid hlq
      have HI0 := Lib.hid (Bld.Is.below (w' := wr.alloc (.cells #[.int .i64 (x.k : Int), .int .i64 (x.at_ : Int), .string ⟨x.s.toArray⟩] 32)) HI.out ((Below.refl _ _).alloc (Nat.le_refl _) _))
      have hb0 : Below w.heap.size w (wr.alloc (.cells #[.int .i64 (x.k : Int), .int .i64 (x.at_ : Int), .string ⟨x.s.toArray⟩] 32)) := hb.alloc hbs _
      have hne : wr.heap.size ≠ w.heap.size := by have := HI.out.lt; omega
      clear hbT hs1 hlq
      by_cases hx3 : x.k = 3
      · have hK : ((x.k : Int) == 3) = true := by simp; omega
        have HTX := Lib.hid (show (Lex.tokText x.k x.s).length = (Lex.quote x.s).length by simp [Lex.tokText, hx3])
        have HSZ := Lib.hid (show x.s.length ≤ 100000 by
          have := HLQ.out
          have := HTX.out
          have : x.s.length ≤ (Lex.quote x.s).length := Lex.quote_ge x.s
          omega)
        by_cases hk0 : k = 0
        · have hk0' := Lib.hid hk0
          have hx3' := Lib.hid hx3
          clear hk0 hx3
          have hd : decide (0 < k) = false := by have := hk0'.out; simp; omega
          go_wp2_with fail
          refine (quote_any ⟨x.s.toArray⟩ (by have := HSZ.out; have e : (⟨x.s.toArray⟩ : ByteArray).size = x.s.length := by simp [ByteArray.size]
                                              rw [e]; omega) _).mono ?_
          rintro e w3 ⟨rfl, hb3⟩
          have hi3 := Bld.Is.below HI0.out hb3
          have hb3' : Below w.heap.size w w3 := hb0.trans (hb3.mono hb0.size)
          have HI3 := Lib.hid hi3
          clear hi3 hb3
          go_wp2_with fail
          refine (Bld.writeString_any w.heap.size w.heap.size (Lib.byteCells acc) ⟨(Lex.quote x.s).toArray⟩ _ HI3.out (by rw [Byt.cells_len]; have := HLQ.out; have := HTX.out; simp [ByteArray.size] at this ⊢; omega) hb3'.size).mono ?_
          rintro e w4 ⟨rfl, hat4, hbw4, hoth4⟩
          have hb4 : Below w.heap.size w w4 := hb3'.trans hbw4
          have hi4 : Bld.Is w.heap.size w.heap.size (Lib.byteCells (acc ++ Lex.quote x.s)) w4 := .inr (by rw [show Lib.byteCells (acc ++ Lex.quote x.s) = Lib.byteCells acc ++ Lib.strCells ⟨(Lex.quote x.s).toArray⟩ by simp [Lib.byteCells, Lib.strCells]]; exact hat4)
          have HI4 := Lib.hid hi4
          clear hat4 hoth4 hi4
          go_wp2
          go_roundw
          case rel => exact ⟨k + 1, acc ++ Lex.quote x.s, by omega, by go_num, HI4.out, hb4, by rw [HS1.out]; simp [hk0'.out, Lex.tokText, hx3'.out, List.append_assoc]⟩
          case measure => simp [intOf]; omega
        · have hk0' := Lib.hid hk0
          have hx3' := Lib.hid hx3
          clear hx3
          have hd : decide (0 < k) = true := by simp; omega
          go_wp2_with fail
          refine (Bld.writeByte_any w.heap.size w.heap.size (Lib.byteCells acc) 32 _ HI0.out (by rw [Byt.cells_len]; have := HLQ.out; omega) hb0.size).mono ?_
          rintro e w2 ⟨rfl, hat, hbw, hoth⟩
          have hbT2 : Mem.Blk w2 wr.heap.size 32 _ := hoth _ _ HBT.out (by simpa using hne) (fun c fz e => by cases e)
          have t0 := hbT2.cell 0
          have t2 := hbT2.cell 2
          simp at t0 t2
          have hb2 : Below w.heap.size w w2 := hb0.trans hbw
          have hi2 : Bld.Is w.heap.size w.heap.size (Lib.byteCells (acc ++ [32])) w2 := .inr (by rw [Byt.cells_snoc]; exact hat)
          have HI2 := Lib.hid hi2
          have hb2s := hb2.size
          clear hat hoth hi2 hbT2 hbw hd
          go_wp2_with fail
          refine (quote_any ⟨x.s.toArray⟩ (by have := HSZ.out; have e : (⟨x.s.toArray⟩ : ByteArray).size = x.s.length := by simp [ByteArray.size]
                                              rw [e]; omega) _).mono ?_
          rintro e w3 ⟨rfl, hb3⟩
          have hi3 := Bld.Is.below HI2.out hb3
          have hb3' : Below w.heap.size w w3 := hb2.trans (hb3.mono hb2.size)
          have HI3 := Lib.hid hi3
          clear hi3 hb3
          go_wp2_with fail
          refine (Bld.writeString_any w.heap.size w.heap.size (Lib.byteCells (acc ++ [32])) ⟨(Lex.quote x.s).toArray⟩ _ HI3.out (by rw [Byt.cells_len]; have := HLQ.out; have := HTX.out; simp [ByteArray.size] at this ⊢; omega) hb3'.size).mono ?_
          rintro e w4 ⟨rfl, hat4, hbw4, hoth4⟩
          have hb4 : Below w.heap.size w w4 := hb3'.trans hbw4
          have hi4 : Bld.Is w.heap.size w.heap.size (Lib.byteCells ((acc ++ [32]) ++ Lex.quote x.s)) w4 := .inr (by rw [show Lib.byteCells ((acc ++ [32]) ++ Lex.quote x.s) = Lib.byteCells (acc ++ [32]) ++ Lib.strCells ⟨(Lex.quote x.s).toArray⟩ by simp [Lib.byteCells, Lib.strCells]]; exact hat4)
          have HI4 := Lib.hid hi4
          clear hat4 hoth4 hi4
          go_wp2
          go_roundw
          case rel => exact ⟨k + 1, (acc ++ [32]) ++ Lex.quote x.s, by omega, by go_num, HI4.out, hb4, by rw [HS1.out]; simp [hk0'.out, Lex.tokText, hx3'.out, List.append_assoc]⟩
          case measure => simp [intOf]; omega
      · have hK : ((x.k : Int) == 3) = false := by simp; omega
        have HTX := Lib.hid (show (Lex.tokText x.k x.s).length = x.s.length by simp [Lex.tokText, hx3])
        by_cases hk0 : k = 0
        · have hk0' := Lib.hid hk0
          have hx3' := Lib.hid hx3
          clear hk0 hx3
          have hd : decide (0 < k) = false := by have := hk0'.out; simp; omega
          go_wp2_with fail
          refine (Bld.writeString_any w.heap.size w.heap.size (Lib.byteCells acc) ⟨x.s.toArray⟩ _ HI0.out (by rw [Byt.cells_len]; have := HLQ.out; have := HTX.out; simp [ByteArray.size] at this ⊢; omega) hb0.size).mono ?_
          rintro e w4 ⟨rfl, hat4, hbw4, hoth4⟩
          have hb4 : Below w.heap.size w w4 := hb0.trans hbw4
          have hi4 : Bld.Is w.heap.size w.heap.size (Lib.byteCells (acc ++ x.s)) w4 := .inr (by rw [show Lib.byteCells (acc ++ x.s) = Lib.byteCells acc ++ Lib.strCells ⟨(x.s).toArray⟩ by simp [Lib.byteCells, Lib.strCells]]; exact hat4)
          have HI4 := Lib.hid hi4
          clear hat4 hoth4 hi4
          go_wp2
          go_roundw
          case rel => exact ⟨k + 1, acc ++ x.s, by omega, by go_num, HI4.out, hb4, by rw [HS1.out]; simp [hk0'.out, Lex.tokText, hx3'.out, List.append_assoc]⟩
          case measure => simp [intOf]; omega
        · have hk0' := Lib.hid hk0
          have hx3' := Lib.hid hx3
          clear hx3
          have hd : decide (0 < k) = true := by simp; omega
          go_wp2_with fail
          refine (Bld.writeByte_any w.heap.size w.heap.size (Lib.byteCells acc) 32 _ HI0.out (by rw [Byt.cells_len]; have := HLQ.out; omega) hb0.size).mono ?_
          rintro e w2 ⟨rfl, hat, hbw, hoth⟩
          have hbT2 : Mem.Blk w2 wr.heap.size 32 _ := hoth _ _ HBT.out (by simpa using hne) (fun c fz e => by cases e)
          have t0 := hbT2.cell 0
          have t2 := hbT2.cell 2
          simp at t0 t2
          have hb2 : Below w.heap.size w w2 := hb0.trans hbw
          have hi2 : Bld.Is w.heap.size w.heap.size (Lib.byteCells (acc ++ [32])) w2 := .inr (by rw [Byt.cells_snoc]; exact hat)
          have HI2 := Lib.hid hi2
          have hb2s := hb2.size
          clear hat hoth hi2 hbT2 hbw hd
          go_wp2_with fail
          refine (Bld.writeString_any w.heap.size w.heap.size (Lib.byteCells (acc ++ [32])) ⟨x.s.toArray⟩ _ HI2.out (by rw [Byt.cells_len]; have := HLQ.out; have := HTX.out; simp [ByteArray.size] at this ⊢; omega) hb2.size).mono ?_
          rintro e w4 ⟨rfl, hat4, hbw4, hoth4⟩
          have hb4 : Below w.heap.size w w4 := hb2.trans hbw4
          have hi4 : Bld.Is w.heap.size w.heap.size (Lib.byteCells ((acc ++ [32]) ++ x.s)) w4 := .inr (by rw [show Lib.byteCells ((acc ++ [32]) ++ x.s) = Lib.byteCells (acc ++ [32]) ++ Lib.strCells ⟨(x.s).toArray⟩ by simp [Lib.byteCells, Lib.strCells]]; exact hat4)
          have HI4 := Lib.hid hi4
          clear hat4 hoth4 hi4
          go_wp2
          go_roundw
          case rel => exact ⟨k + 1, (acc ++ [32]) ++ x.s, by omega, by go_num, HI4.out, hb4, by rw [HS1.out]; simp [hk0'.out, Lex.tokText, hx3'.out, List.append_assoc]⟩
          case measure => simp [intOf]; omega
    · obtain rfl : k = n := by omega
      have HE := Lib.hid (show Lex.join (Lex.bare xs) = acc by rw [HQ.out, Lex.rest_end (by omega), List.append_nil])
      clear hq his h
      go_wp2_with fail
      refine (Try.Builder_String_any w.heap.size w.heap.size acc _ HI.out hbs).mono ?_
      rintro e w2 ⟨rfl, hb2⟩
      have hb3 := hb.trans hb2
      go_wp2
      go_ret
      exact ⟨by rw [HE.out]; rfl, hb3⟩
end Go.Proofs.Ytnallbhckeoldaa
