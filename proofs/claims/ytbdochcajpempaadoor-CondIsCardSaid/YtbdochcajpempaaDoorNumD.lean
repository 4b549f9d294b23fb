/- The walks of num's Print and of the reference's Print. -/
import Derived.Test.YtbdochcajpempaaDoorNumC
import Derived.Laws.Rows
import Derived.Lib.LaidTab
import Derived.Lib.ItoaMem
import Derived.Lib.TrimByte
namespace Go.Proofs.YtbdochcajpempaaDoor
open Go.RowKit
set_option linter.unusedSimpArgs false
set_option linter.unusedVariables false

/-- what the package's variables hold -/
def Glob (w : World) : Prop := Lib.TabIs Tryd.prog w "internal/strconv.uint64pow10" .u64 Lib.pow10Tab
theorem Glob.below {w w' : World} (h1 : Glob w) (hb : Below w.heap.size w w') : Glob w' := by
  unfold Glob Lib.TabIs World.var? at *
  cases hg : Tryd.prog.globalNamed "internal/strconv.uint64pow10" with
  | none => rw [hg] at h1; cases h1
  | some g =>
    simp only [hg, Option.bind_some] at h1 ⊢
    have hlt : g < w.heap.size := by
      rcases Nat.lt_or_ge g w.heap.size with h' | h'
      · exact h'
      · rw [Array.getElem?_eq_none h'] at h1; simp at h1
    rw [hb.block g hlt]
    exact h1
theorem below_grow {w : World} (k : Nat) (os : Array Obj) : Below w.heap.size w (Go.Sort.grow (w.drewN k) os) :=
  ⟨rfl, rfl, rfl, by simp [Go.Sort.grow], fun i hi => by
    show (w.heap ++ os)[i]? = w.heap[i]?
    rw [Array.getElem?_append_left hi]⟩
theorem itoa_any (q : Nat) (hq : q ≤ 9223372036854775807) (w : World) (hG : Glob w) :
    Calls Tryd.prog 52 #[.int .i64 (q : Int)] w fun e w' => e = .returned (.string ⟨(Lib.decDigits q).toArray⟩) ∧ Below w.heap.size w w' := by
  refine (Tryd.strconv_Itoa (q : Int) (by omega) (by omega) w hG).mono ?_
  rintro e w' ⟨rfl, k, os, rfl⟩
  exact ⟨by rw [Lib.itoa_nonneg], below_grow k os⟩
theorem itoa_at (x : Int) (q : Nat) (hx : x = (q : Int)) (Y : ByteArray) (hY : (⟨(Lib.decDigits q).toArray⟩ : ByteArray) = Y) (hq : q ≤ 9223372036854775807) (w : World) (hG : Glob w) :
    Calls Tryd.prog 52 #[.int .i64 x] w fun e w' => e = .returned (.string Y) ∧ Below w.heap.size w w' := by
  subst hx hY
  exact itoa_any q hq w hG
theorem rDigits_at (x : Int) (q : Nat) (hx : x = (q : Int)) (Y : ByteArray) (hY : (⟨(Lib.decDigits q).toArray⟩ : ByteArray) = Y) (hq : q ≤ 9007199254740992) (w : World) :
    Calls Tryd.prog 55 #[.int .i64 x] w fun e w' => e = .returned (.string Y) ∧ Below w.heap.size w w' := by
  subst hx hY
  exact rDigits_any q w hq
theorem trim_at (s t : ByteArray) (ht : (⟨(Lib.trimRightB s.data.toList 48).toArray⟩ : ByteArray) = t) (hs : s.size ≤ 9223372036854775807) (w : World) :
    Calls Tryd.prog 53 #[.string s, .string ⟨#[48]⟩] w fun e w' => e = .returned (.string t) ∧ w = w' := by
  subst ht
  refine (Tryd.strings_TrimRight_one s 48 (by decide) w hs).mono ?_
  rintro e w' ⟨rfl, rfl⟩
  exact ⟨rfl, rfl⟩
namespace Num
theorem digs3 (r : Nat) (h : r < 1000) : Lib.decDigits (1000 + r) = [49, oneDigit (r / 100), oneDigit (r / 10 % 10), oneDigit (r % 10)] := by
  rw [digs_more (by omega), digs_more (by omega), digs_more (by omega), digs_one (by omega)]
  unfold oneDigit
  rw [show (1000 + r) / 10 / 10 / 10 = 1 by omega, show (1000 + r) / 10 / 10 % 10 = r / 100 by omega, show (1000 + r) / 10 % 10 = r / 10 % 10 by omega, show (1000 + r) % 10 = r % 10 by omega]
  rfl
theorem one_zero {d : Nat} (h : d < 10) : (oneDigit d == 48) = decide (d = 0) := by
  have := (dig_facts d h).2
  have h48 : (48 : UInt8).toNat = 48 := rfl
  rw [Bool.eq_iff_iff, beq_iff_eq, ← UInt8.toNat_inj, this, h48, decide_eq_true_eq]
  omega
theorem trim_tail (r : Nat) (h : r < 1000) (h0 : r ≠ 0) : Lib.trimRightB [oneDigit (r / 100), oneDigit (r / 10 % 10), oneDigit (r % 10)] 48 = tail r := by
  have e1 := one_zero (d := r / 100) (by omega)
  have e2 := one_zero (d := r / 10 % 10) (by omega)
  have e3 := one_zero (d := r % 10) (by omega)
  unfold Lib.trimRightB
  simp only [List.reverse_cons, List.reverse_nil, List.nil_append, List.cons_append, List.dropWhile_cons, e1, e2, e3]
  by_cases r2 : r % 10 = 0
  · rw [if_pos (by simpa using r2)]
    by_cases r1 : r / 10 % 10 = 0
    · rw [if_pos (by simpa using r1), if_neg (by simp; omega), tail1 h0 (by omega)]
      rfl
    · rw [if_neg (by simpa using r1), tail2 (by omega) r2]
      rfl
  · rw [if_neg (by simpa using r2), tail3 r2]
    rfl
theorem places_ne {r : Nat} (h : r ≠ 0) : places r = 46 :: tail r := by rw [places_tail, if_neg h]
theorem text_is (a b c : ByteArray) : (⟨(bl a ++ (bl b ++ 46 :: bl c)).toArray⟩ : ByteArray) = a ++ b ++ ⟨#[46]⟩ ++ c := by
  apply ba_ext
  rw [bl_mk, bl_append, bl_append, bl_append, List.append_assoc, List.append_assoc]
  rfl
theorem t0 (Y : ByteArray) (l : Bs) (h : (⟨l.toArray⟩ : ByteArray) = Y) : (⟨#[45]⟩ ++ Y : ByteArray) = ⟨(45 :: l).toArray⟩ := by
  subst h
  apply ba_ext
  rw [bl_append, bl_mk, bl_mk]
  rfl
theorem t1 (Y A : ByteArray) (a : UInt8) (h : A = ⟨#[a]⟩) : Y ++ ⟨#[46]⟩ ++ A = (⟨(bl Y ++ 46 :: [a]).toArray⟩ : ByteArray) := by
  subst h
  apply ba_ext
  rw [bl_append, bl_append, bl_mk, List.append_assoc]
  rfl
theorem t2 (Y A C : ByteArray) (a c : UInt8) (h : A = ⟨#[a]⟩) (h2 : C = ⟨#[c]⟩) : Y ++ ⟨#[46]⟩ ++ A ++ C = (⟨(bl Y ++ 46 :: a :: [c]).toArray⟩ : ByteArray) := by
  subst h h2
  apply ba_ext
  rw [bl_append, bl_append, bl_append, bl_mk, List.append_assoc, List.append_assoc]
  rfl
theorem t3 (Y A C E : ByteArray) (a c e : UInt8) (h : A = ⟨#[a]⟩) (h2 : C = ⟨#[c]⟩) (h3 : E = ⟨#[e]⟩) : Y ++ ⟨#[46]⟩ ++ A ++ C ++ E = (⟨(bl Y ++ 46 :: a :: c :: [e]).toArray⟩ : ByteArray) := by
  subst h h2 h3
  apply ba_ext
  rw [bl_append, bl_append, bl_append, bl_append, bl_mk, List.append_assoc, List.append_assoc, List.append_assoc]
  rfl
theorem tail_len (r : Nat) : (tail r).length ≤ 3 := by
  unfold tail
  split
  · simp
  · split
    · simp
    · split <;> simp
end Num

/-- num's Print of a number that is none -/
theorem print_none (v : Int) (hs : Num.sane v = false) (w : World) :
    Calls Tryd.prog 34 #[.int .i64 v] w fun e w' => e = .returned (.string ⟨(Num.print v).toArray⟩) ∧ Below w.heap.size w w' := by
  have HP := Lib.hid (Num.back_none v hs).1
  go_enter Tryd.func34, Tryd.ntmps34
  go_wp2_with fail
  refine (sane_any _ _).mono ?_
  rintro e w2 ⟨rfl, rfl⟩
  rw [hs]
  go_wp2
  go_ret
  rw [HP.out]
  exact ⟨rfl, Below.refl _ _⟩

set_option maxRecDepth 100000 in
set_option maxHeartbeats 8000000 in
/-- num's Print of the number v, whose size is n, with the sign Sg -/
theorem print_some (v : Int) (n : Nat) (b : Bool) (Sg : ByteArray) (hv : (b = true ∧ v = -(n : Int) ∧ 0 < n ∧ Sg = ⟨#[45]⟩) ∨ (b = false ∧ v = (n : Int) ∧ Sg = ⟨#[]⟩)) (hs : Num.sane v = true) (hn : n ≤ 9007199254740992) (w : World) (hG : Glob w) :
    Calls Tryd.prog 34 #[.int .i64 v] w fun e w' => e = .returned (.string ⟨(Num.bl Sg ++ Num.pos n).toArray⟩) ∧ Below w.heap.size w w' := by
  have HG := Lib.hid hG
  have hSg : Sg.size ≤ 1 := by rcases hv with ⟨_, _, _, rfl⟩ | ⟨_, _, rfl⟩ <;> decide
  obtain ⟨q, hq⟩ : ∃ q, q = n / 1000 := ⟨_, rfl⟩
  obtain ⟨r, hr⟩ : ∃ r, r = n % 1000 := ⟨_, rfl⟩
  have hq1 : Int.tdiv (n : Int) 1000 = (q : Int) := by rw [hq]; rfl
  have hr1 : Int.tmod (n : Int) 1000 = (r : Int) := by rw [hr]; rfl
  have hqd : (n : Int) / 1000 = (q : Int) := by rw [hq]; rfl
  have hrm : (n : Int) % 1000 = (r : Int) := by rw [hr]; rfl
  have hr3 : r < 1000 := by omega
  have hqn : q ≤ 9007199254740992 := by omega
  obtain ⟨Y, hY⟩ : ∃ Y : ByteArray, (⟨(Lib.decDigits q).toArray⟩ : ByteArray) = Y := ⟨_, rfl⟩
  have hYs : Y.size ≤ 21 := by rw [← hY, Num.mk_size]; exact Num.digs_len q (by omega)
  have HPOS := Lib.hid (show Num.pos n = Num.bl Y ++ Num.places r by unfold Num.pos; rw [← hq, ← hr, ← hY, Num.bl_mk])
  have HITOA := Lib.hid (fun w (hG : Glob w) => itoa_at (q : Int) q rfl Y hY (by omega) w hG)
  have HS := Lib.hid hs
  obtain ⟨Z, hZ⟩ : ∃ Z : ByteArray, (⟨(Lib.decDigits (1000 + r)).toArray⟩ : ByteArray) = Z := ⟨_, rfl⟩
  have hZb : Num.bl Z = [49, Num.oneDigit (r / 100), Num.oneDigit (r / 10 % 10), Num.oneDigit (r % 10)] := by rw [← hZ, Num.bl_mk, Num.digs3 r hr3]
  have hZs : Z.size = 4 := by rw [← Num.bl_len, hZb]; rfl
  have hZ1 : Num.bl (Z.extract 1 Z.size) = [Num.oneDigit (r / 100), Num.oneDigit (r / 10 % 10), Num.oneDigit (r % 10)] := by rw [Num.bl_from, hZb]; rfl
  obtain ⟨X, hX⟩ : ∃ X, X = Z.extract 1 Z.size := ⟨_, rfl⟩
  rw [← hX] at hZ1
  have hXs : X.size = 3 := by rw [← Num.bl_len, hZ1]; rfl
  have HTRIM := Lib.hid (show ∀ w, r ≠ 0 → Calls Tryd.prog 53 #[.string X, .string ⟨#[48]⟩] w fun e w' => e = .returned (.string ⟨(Num.tail r).toArray⟩) ∧ w = w' from fun w h0 => by
    refine trim_at X _ ?_ (by omega) w
    rw [show X.data.toList = _ from hZ1, Num.trim_tail r hr3 h0])
  have HITOA2 := Lib.hid (fun w (hG : Glob w) => itoa_at (1000 + (r : Int)) (1000 + r) (by omega) Z hZ (by omega) w hG)
  obtain ⟨E, hE⟩ : ∃ E : ByteArray, (⟨(Num.tail r).toArray⟩ : ByteArray) = E := ⟨_, rfl⟩
  rw [hE] at HTRIM
  have hEs : E.size ≤ 3 := by rw [← hE, Num.mk_size]; exact Num.tail_len r
  have HE := Lib.hid (show Num.bl E = Num.tail r by rw [← hE, Num.bl_mk])
  have HX := Lib.hid hX.symm
  have hZs1 : Z.size ≤ 4 := by omega
  have hZs2 : 1 ≤ Z.size := by omega
  clear hZ hZb hZ1 hX hE hZs hXs
  have z1 : ¬ 9223372036854775807 < Sg.size + Y.size := by omega
  clear hG hq hr hY hs
  rcases hv with ⟨rfl, rfl, hn0, hSgv⟩ | ⟨rfl, rfl, hSgv⟩
  all_goals
    subst hSgv
    go_enter Tryd.func34, Tryd.ntmps34
    go_wp2_with fail
    refine (sane_any _ _).mono ?_
    rintro e w2 ⟨rfl, rfl⟩
    rw [HS.out]
    go_wp2_with fail
    refine (HITOA.out _ HG.out).mono ?_
    rintro e w1 ⟨rfl, hb1⟩
    by_cases h0 : r = 0
    · have HR := Lib.hid h0
      have hr0 : ((r : Int) == 0) = true := by rw [beq_iff_eq]; omega
      subst h0
      go_wp2
      go_ret
      refine ⟨?_, hb1⟩
      rw [HPOS.out, show Num.places 0 = [] from rfl, List.append_nil, ← Num.bl_append]
      rfl
    · have hr0 : ((r : Int) == 0) = false := by rw [beq_eq_false_iff_ne]; omega
      have hr0' : ¬ r = 0 := h0
      have HR := Lib.hid h0
      clear h0
      go_wp2_with fail
      refine (HITOA2.out _ (HG.out.below hb1)).mono ?_
      rintro e w2 ⟨rfl, hb2⟩
      have hb2' := hb1.trans (hb2.mono hb1.size)
      clear hb1 hb2
      go_wp2_with fail
      rw [HX.out]
      refine (HTRIM.out _ HR.out).mono ?_
      rintro e w3 ⟨rfl, rfl⟩
      go_wp2
      go_ret
      refine ⟨?_, hb2'⟩
      rw [HPOS.out, Num.places_ne HR.out, ← HE.out, Num.text_is]
      rfl
/-- num's Print of any number -/
theorem num_print_any (v : Int) (w : World) (hG : Glob w) :
    Calls Tryd.prog 34 #[.int .i64 v] w fun e w' => e = .returned (.string ⟨(Num.print v).toArray⟩) ∧ Below w.heap.size w w' := by
  rcases hs : Num.sane v with _ | _
  · exact print_none v hs w
  · have hb := (Num.sane_iff v).1 hs
    unfold Num.print
    rw [if_pos hs]
    by_cases h0 : v < 0
    · rw [if_pos h0]
      exact print_some v v.natAbs true ⟨#[45]⟩ (.inl ⟨rfl, by omega, by omega, rfl⟩) hs (by omega) w hG
    · rw [if_neg h0]
      exact print_some v v.natAbs false ⟨#[]⟩ (.inr ⟨rfl, by omega, rfl⟩) hs (by omega) w hG

/-- the reference's digits of a small number -/
theorem rDigit1 (x : Int) (d : Nat) (hx : x = (d : Int)) (hd : d < 10) (w : World) :
    Calls Tryd.prog 55 #[.int .i64 x] w fun e w' => e = .returned (.string ⟨#[Num.oneDigit d]⟩) ∧ Below w.heap.size w w' := by
  refine rDigits_at x d hx _ ?_ (by omega) w
  rw [digs_one hd]
  rfl

set_option maxRecDepth 100000 in
set_option maxHeartbeats 8000000 in
/-- the reference's Print of a number of 0 or more -/
theorem rPrint_pos (n : Nat) (hn : n ≤ 9007199254740992) (w : World) :
    Calls Tryd.prog 37 #[.int .i64 (n : Int)] w fun e w' => e = .returned (.string ⟨(Num.pos n).toArray⟩) ∧ Below w.heap.size w w' := by
  obtain ⟨q, hq⟩ : ∃ q, q = n / 1000 := ⟨_, rfl⟩
  obtain ⟨r, hr⟩ : ∃ r, r = n % 1000 := ⟨_, rfl⟩
  have hs : Num.sane (n : Int) = true := (Num.sane_iff _).2 (by omega)
  have hqd : (n : Int) / 1000 = (q : Int) := by rw [hq]; rfl
  have hrm : (n : Int) % 1000 = (r : Int) := by rw [hr]; rfl
  have hr3 : r < 1000 := by omega
  have hqn : q ≤ 9007199254740992 := by omega
  obtain ⟨a, ha⟩ : ∃ a, a = r / 100 := ⟨_, rfl⟩
  obtain ⟨b, hb⟩ : ∃ b, b = r / 10 := ⟨_, rfl⟩
  obtain ⟨c, hc⟩ : ∃ c, c = b % 10 := ⟨_, rfl⟩
  obtain ⟨d, hd⟩ : ∃ d, d = r % 10 := ⟨_, rfl⟩
  obtain ⟨h, hh⟩ : ∃ h, h = r % 100 := ⟨_, rfl⟩
  have ha1 : (r : Int) / 100 = (a : Int) := by rw [ha]; rfl
  have hbb : (r : Int) / 10 = (b : Int) := by rw [hb]; rfl
  have hc1 : (b : Int) % 10 = (c : Int) := by rw [hc]; rfl
  have hd1 : (r : Int) % 10 = (d : Int) := by rw [hd]; rfl
  have hh1 : (r : Int) % 100 = (h : Int) := by rw [hh]; rfl
  have b1 : a < 10 := by omega
  have b2 : b < 100 := by omega
  have b3 : c < 10 := by omega
  have b4 : d < 10 := by omega
  have b5 : h < 100 := by omega
  obtain ⟨Y, hY⟩ : ∃ Y : ByteArray, (⟨(Lib.decDigits q).toArray⟩ : ByteArray) = Y := ⟨_, rfl⟩
  have hYs : Y.size ≤ 21 := by rw [← hY, Num.mk_size]; exact Num.digs_len q (by omega)
  have HPOS := Lib.hid (show Num.pos n = Num.bl Y ++ Num.places r by unfold Num.pos; rw [← hq, ← hr, ← hY, Num.bl_mk])
  have HD := Lib.hid (fun w => rDigits_at (q : Int) q rfl Y hY hqn w)
  have HPL := Lib.hid (show Num.places r = if r = 0 then [] else 46 :: Num.oneDigit a :: (if h = 0 then [] else Num.oneDigit c :: (if d = 0 then [] else [Num.oneDigit d])) by
    unfold Num.places
    rw [← ha, ← hh, ← hb, ← hc, ← hd])
  have hhd : h = 0 → d = 0 := by omega
  clear hq hr hY ha hb hc hd hh
  go_enter Tryd.func37, Tryd.ntmps37
  go_wp2_with fail
  refine (rSane_any _ _).mono ?_
  rintro e w2 ⟨rfl, rfl⟩
  rw [hs]
  go_wp2_with fail
  refine (HD.out _).mono ?_
  rintro e w1 ⟨rfl, hb1⟩
  by_cases h0 : r = 0
  · have hr0 : ((r : Int) == 0) = true := by rw [beq_iff_eq]; omega
    have HR := Lib.hid h0
    clear hhd h0
    go_wp2
    go_ret
    refine ⟨?_, hb1⟩
    rw [HPOS.out, HPL.out, if_pos HR.out, List.append_nil]
    rfl
  · have hr0 : ((r : Int) == 0) = false := by rw [beq_eq_false_iff_ne]; omega
    have hr0' : ¬ r = 0 := h0
    have HR := Lib.hid h0
    clear h0
    have z1 : ¬ 9223372036854775807 < Y.size + 1 := by omega
    have z2 : ¬ 9223372036854775807 < Y.size + 1 + 1 := by omega
    have z3 : ¬ 9223372036854775807 < Y.size + 1 + 1 + 1 := by omega
    have z4 : ¬ 9223372036854775807 < Y.size + 1 + 1 + 1 + 1 := by omega
    have e1 : ∀ x : UInt8, (⟨#[x]⟩ : ByteArray).size = 1 := fun _ => rfl
    go_wp2_with fail
    refine (rDigit1 (a : Int) a rfl b1 _).mono ?_
    rintro e w2 ⟨rfl, hb2⟩
    have hb2' := hb1.trans (hb2.mono hb1.size)
    clear hb1 hb2
    obtain ⟨A, hA⟩ : ∃ A : ByteArray, A = ⟨#[Num.oneDigit a]⟩ := ⟨_, rfl⟩
    have HA := Lib.hid hA
    have hAs : A.size = 1 := by rw [hA]; rfl
    rw [← hA]
    clear hA
    by_cases hh0 : h = 0
    · have hn0 : ((h : Int) != 0) = false := by simp; omega
      have hd0 : ((d : Int) != 0) = false := by simp; exact hhd hh0
      have HH := Lib.hid hh0
      clear hh0 hhd
      go_wp2
      go_ret
      refine ⟨?_, hb2'⟩
      rw [HPOS.out, HPL.out, if_neg HR.out, if_pos HH.out, ← Num.t1 Y A (Num.oneDigit a) HA.out]
      rfl
    · have hn0 : ((h : Int) != 0) = true := by simp; omega
      have HH := Lib.hid hh0
      clear hh0 hhd
      go_wp2_with fail
      refine (rDigit1 (c : Int) c rfl b3 _).mono ?_
      rintro e w3 ⟨rfl, hb3⟩
      have hb3' := hb2'.trans (hb3.mono hb2'.size)
      clear hb2' hb3
      obtain ⟨C, hC⟩ : ∃ C : ByteArray, C = ⟨#[Num.oneDigit c]⟩ := ⟨_, rfl⟩
      have HC := Lib.hid hC
      have hCs : C.size = 1 := by rw [hC]; rfl
      rw [← hC]
      clear hC
      by_cases hd0 : d = 0
      · have hd00 : ((d : Int) != 0) = false := by simp; omega
        have HDD := Lib.hid hd0
        clear hd0
        go_wp2
        go_ret
        refine ⟨?_, hb3'⟩
        rw [HPOS.out, HPL.out, if_neg HR.out, if_neg HH.out, if_pos HDD.out, ← Num.t2 Y A C _ _ HA.out HC.out]
        rfl
      · have hd00 : ((d : Int) != 0) = true := by simp; omega
        have HDD := Lib.hid hd0
        clear hd0
        go_wp2_with fail
        refine (rDigit1 (d : Int) d rfl b4 _).mono ?_
        rintro e w4 ⟨rfl, hb4⟩
        have hb4' := hb3'.trans (hb4.mono hb3'.size)
        clear hb3' hb4
        obtain ⟨E, hE⟩ : ∃ E : ByteArray, E = ⟨#[Num.oneDigit d]⟩ := ⟨_, rfl⟩
        have HE := Lib.hid hE
        have hEs : E.size = 1 := by rw [hE]; rfl
        rw [← hE]
        clear hE
        go_wp2
        go_ret
        refine ⟨?_, hb4'⟩
        rw [HPOS.out, HPL.out, if_neg HR.out, if_neg HH.out, if_neg HDD.out, ← Num.t3 Y A C E _ _ _ HA.out HC.out HE.out]
        rfl
theorem rPrint_none (v : Int) (hs : Num.sane v = false) (w : World) :
    Calls Tryd.prog 37 #[.int .i64 v] w fun e w' => e = .returned (.string ⟨(Num.print v).toArray⟩) ∧ Below w.heap.size w w' := by
  have HP := Lib.hid (Num.back_none v hs).1
  go_enter Tryd.func37, Tryd.ntmps37
  go_wp2_with fail
  refine (rSane_any _ _).mono ?_
  rintro e w2 ⟨rfl, rfl⟩
  rw [hs]
  go_wp2
  go_ret
  rw [HP.out]
  exact ⟨rfl, Below.refl _ _⟩
theorem rPrint_at (x : Int) (n : Nat) (hx : x = (n : Int)) (Y : ByteArray) (hY : (⟨(Num.pos n).toArray⟩ : ByteArray) = Y) (hn : n ≤ 9007199254740992) (w : World) :
    Calls Tryd.prog 37 #[.int .i64 x] w fun e w' => e = .returned (.string Y) ∧ Below w.heap.size w w' := by
  subst hx hY
  exact rPrint_pos n hn w
set_option maxRecDepth 100000 in
set_option maxHeartbeats 4000000 in
theorem rPrint_neg (n : Nat) (hn : n ≤ 9007199254740992) (h0 : 0 < n) (w : World) :
    Calls Tryd.prog 37 #[.int .i64 (-(n : Int))] w fun e w' => e = .returned (.string ⟨(45 :: Num.pos n).toArray⟩) ∧ Below w.heap.size w w' := by
  have hs : Num.sane (-(n : Int)) = true := (Num.sane_iff _).2 (by omega)
  have HS := Lib.hid hs
  obtain ⟨Y, hY⟩ : ∃ Y : ByteArray, (⟨(Num.pos n).toArray⟩ : ByteArray) = Y := ⟨_, rfl⟩
  have hYs : Y.size ≤ 25 := by
    rw [← hY, Num.mk_size]
    unfold Num.pos
    rw [List.length_append, Num.places_tail]
    have h1 := Num.digs_len (n / 1000) (by omega)
    have h2 := Num.tail_len (n % 1000)
    split
    · simp only [List.length_nil]; omega
    · rw [List.length_cons]; omega
  have HY := Lib.hid hY
  have HPR := Lib.hid (fun w => rPrint_at (n : Int) n rfl Y hY hn w)
  clear hY hs
  go_enter Tryd.func37, Tryd.ntmps37
  go_wp2_with fail
  refine (rSane_any _ _).mono ?_
  rintro e w2 ⟨rfl, rfl⟩
  rw [HS.out]
  go_wp2_with fail
  refine (HPR.out _).mono ?_
  rintro e w3 ⟨rfl, hb3⟩
  go_wp2
  go_ret
  refine ⟨?_, hb3⟩
  rw [← Num.t0 Y _ HY.out]
  rfl
theorem num_rPrint_any (v : Int) (w : World) :
    Calls Tryd.prog 37 #[.int .i64 v] w fun e w' => e = .returned (.string ⟨(Num.print v).toArray⟩) ∧ Below w.heap.size w w' := by
  rcases hs : Num.sane v with _ | _
  · exact rPrint_none v hs w
  · have hb := (Num.sane_iff v).1 hs
    unfold Num.print
    rw [if_pos hs]
    obtain ⟨n, hn⟩ : ∃ n, n = v.natAbs := ⟨_, rfl⟩
    rw [← hn]
    by_cases h0 : v < 0
    · rw [if_pos h0]
      obtain rfl : v = -(n : Int) := by omega
      exact rPrint_neg n (by omega) (by omega) w
    · rw [if_neg h0]
      obtain rfl : v = (n : Int) := by omega
      exact rPrint_pos n (by omega) w
end Go.Proofs.YtbdochcajpempaaDoor
