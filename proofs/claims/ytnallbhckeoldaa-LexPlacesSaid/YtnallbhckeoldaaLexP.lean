/- The walk of the law LexPlaces. -/
import Derived.Test.YtnallbhckeoldaaLexM
import Derived.Test.YtnallbhckeoldaaRow
namespace Go.Proofs.Ytnallbhckeoldaa
open Go.RowKit
attribute [local go_sem ↓] tok_neq_same tok_eql_same tok_guard

namespace Lex
theorem places_cons {S : Bs} {lo : Nat} {t : Tok} {L : List Tok} {x : Nat × Int} (h : Places S lo (t :: L) x) :
    lo ≤ t.at_ ∧ t.at_ < S.length ∧ 1 ≤ t.k ∧ t.k ≤ 4 ∧ (t.k = 3 → S[t.at_]? = some 34) ∧ (t.k ≠ 3 → t.s ≠ [] ∧ t.at_ + t.s.length ≤ S.length ∧ (S.drop t.at_).take t.s.length = t.s) ∧ Places S (t.at_ + 1) L x := h
theorem places_nil {S : Bs} {lo : Nat} {n : Nat} {e : Int} (h : Places S lo [] (n, e)) : lo ≤ n ∧ n ≤ S.length ∧ (e = 0 → n = S.length) ∧ (e ≠ 0 → n < S.length) := h
theorem drop_at {L : List Tok} {k : Nat} {x : Tok} (h : L[k]? = some x) : L.drop k = x :: L.drop (k + 1) := by
  have hlt := (List.getElem?_eq_some_iff.1 h).1
  rw [List.drop_eq_getElem_cons hlt]
  rw [List.getElem?_eq_getElem hlt] at h
  rw [Option.some.inj h]
end Lex

set_option maxRecDepth 100000 in
set_option maxHeartbeats 4000000 in
theorem lexPlaces_any (s : ByteArray) (w : World) : Calls Try.prog 4 #[.string s] w fun e w' => LawR w e w' := by
  by_cases hs : s.size ≤ 5000
  · obtain ⟨R, hR⟩ : ∃ R, R = Lex.all (s.size + 1) (Lex.bl s) s.size := ⟨_, rfl⟩
    obtain ⟨L, N, E⟩ := R
    have hP := Lex.all_places (Lex.bl s) (s.size + 1) [] (Lex.bl s) 0 rfl (Nat.zero_le _) (by rw [Lex.bl_len]; omega)
    have hE := Lex.all_err (s.size + 1) (Lex.bl s) s.size
    have hln := (Lex.all_len (s.size + 1) (Lex.bl s) s.size).2
    rw [Lex.bl_len] at hP hln
    rw [← hR] at hP hE hln
    have HR := Lib.hid hR.symm
    clear hR
    have HP := Lib.hid hP
    simp only at hE hln
    clear hP
    go_enter Try.func4, Try.ntmps4
    go_wp2_with fail
    refine (awake_any w).mono ?_
    rintro e w1 ⟨rfl, hb1⟩
    go_wp2_with fail
    refine (all_is s (by omega) w1 L N E HR.out).mono ?_
    rintro e w2 ⟨A, n, c, rfl, hT, hb2⟩
    have hb2' := hb1.trans (hb2.mono hb1.size)
    have hn := hT.1
    have hc := hT.2.1
    have hc2 := hT.2.2.1
    have HT := Lib.hid hT
    clear hT
    go_wp2
    go_loopw [7, 8] (fun l i wr => ∃ (k lo : Nat) (la : Int), k ≤ n ∧ i = .int .i64 k ∧ l = .int .i64 la ∧ la + 1 = (lo : Int) ∧ lo ≤ s.size ∧ Lex.Places (Lex.bl s) lo (L.drop k) (N, E) ∧ Below w2.heap.size w2 wr) (fun _ i _ => n - (intOf i).toNat)
    case atStart => exact ⟨0, 0, -1, Nat.zero_le _, rfl, rfl, rfl, Nat.zero_le _, HP.out, Below.refl _ _⟩
    case round =>
      obtain ⟨k, lo, la, hk, rfl, rfl, hla, hlo, hPl, hb⟩ := hrel
      have hbs := hb.size
      by_cases hlt : k < n
      · obtain ⟨b, off, rfl, hbB, hcell⟩ := HT.out.at_ (by omega)
        obtain ⟨x, hx⟩ := Lex.tok_at hn hlt
        have h1 := (hb.cell (p := ⟨b, off + k * 3, none⟩) hbB).trans (hcell k x hx 0 _ rfl)
        have h2 := (hb.cell (p := ⟨b, off + k * 3 + 1, none⟩) hbB).trans (hcell k x hx 1 _ rfl)
        have h3 := (hb.cell (p := ⟨b, off + k * 3 + 2, none⟩) hbB).trans (hcell k x hx 2 _ rfl)
        rw [Lex.drop_at hx] at hPl
        obtain ⟨p1, p2, p3, p4, p5, p6, p7⟩ := Lex.places_cons hPl
        rw [Lex.bl_len] at p2 p6
        have HX := Lib.hid hx
        have HP5 := Lib.hid p5
        have HP6 := Lib.hid p6
        have HP7 := Lib.hid p7
        have hd1 : decide ((x.at_ : Int) ≤ la) = false := by simp; omega
        have hd2 : decide ((s.size : Int) ≤ (x.at_ : Int)) = false := by simp; omega
        have hd3 : decide ((x.k : Int) < 1) = false := by simp; omega
        have hd4 : decide ((4 : Int) < (x.k : Int)) = false := by simp; omega
        have j0 : (0 : Int) ≤ (k : Int) := by omega
        have j1 : (k : Int) < (n : Int) := by omega
        clear hcell hx p5 p6 p7 hPl
        by_cases hk3 : x.k = 3
        · have hK : ((x.k : Int) == 3) = true := by simp; omega
          have hK2 : ((x.k : Int) != 3) = false := by simp; omega
          have hb34 : (s[x.at_].toNat : Int) = 34 := by
            have := HP5.out hk3
            rw [List.getElem?_eq_getElem (by rw [Lex.bl_len]; exact p2)] at this
            exact (n_eq s[x.at_] 34 (by decide)).1 (Option.some.inj this)
          have i0 : (0 : Int) ≤ (x.at_ : Int) := by omega
          have i1 : (x.at_ : Int) < (s.size : Int) := by omega
          have hk3' := Lib.hid hk3
          clear hk3
          go_wp2
          go_quiet (fail)
          go_wp2
          go_roundw
          case rel => exact ⟨k + 1, x.at_ + 1, (x.at_ : Int), by omega, by go_num, rfl, by omega, by omega, HP7.out, (by repeat (first | assumption | exact Below.refl _ _ | apply Mem.below_drewN | apply Below.drew | refine Below.alloc ?_ (by first | assumption | omega | (simp; done) | (simp; omega)) _ | refine Below.setCell ?_ (by first | assumption | omega | (simp; done) | (simp; omega)) _))⟩
          case measure => simp [intOf]; omega
        · have hK : ((x.k : Int) == 3) = false := by simp; omega
          have hK2 : ((x.k : Int) != 3) = true := by simp; omega
          obtain ⟨z, hz⟩ : ∃ z : ByteArray, z = ⟨x.s.toArray⟩ := ⟨_, rfl⟩
          obtain ⟨q1, q2, q3⟩ := HP6.out hk3
          have hzs : z.size = x.s.length := by rw [hz]; simp [ByteArray.size]
          have hne : z.toList.isEmpty = false := by
            rw [Lib.toList_data, hz]
            cases hxs : x.s with
            | nil => exact absurd hxs q1
            | cons a l => rfl
          have hsl : s.extract x.at_ (x.at_ + z.size) = z := by
            apply Lex.ba_ext
            rw [Lex.bl_extract, hzs, show x.at_ + x.s.length - x.at_ = x.s.length by omega, q3, hz]
          have hd5 : decide ((s.size : Int) < (x.at_ : Int) + (z.size : Int)) = false := by simp; omega
          have i0 : (0 : Int) ≤ (x.at_ : Int) := by omega
          have i1 : (x.at_ : Int) + (z.size : Int) ≤ (s.size : Int) := by omega
          have hk3' := Lib.hid hk3
          rw [← hz] at h3
          clear hk3 q1 q2 q3 hz hzs
          go_wp2
          go_quiet (fail)
          go_wp2
          go_roundw
          case rel => exact ⟨k + 1, x.at_ + 1, (x.at_ : Int), by omega, by go_num, rfl, by omega, by omega, HP7.out, (by repeat (first | assumption | exact Below.refl _ _ | apply Mem.below_drewN | apply Below.drew | refine Below.alloc ?_ (by first | assumption | omega | (simp; done) | (simp; omega)) _ | refine Below.setCell ?_ (by first | assumption | omega | (simp; done) | (simp; omega)) _))⟩
          case measure => simp [intOf]; omega
      · obtain rfl : k = n := by omega
        rw [List.drop_eq_nil_of_le (by omega)] at hPl
        obtain ⟨q1, q2, q3, q4⟩ := Lex.places_nil hPl
        rw [Lex.bl_len] at q2 q3 q4
        have hd1 : decide (la ≤ (N : Int)) = true := by simp; omega
        have hd2 : decide ((N : Int) ≤ (s.size : Int)) = true := by simp; omega
        have hb' := hb2'.trans (hb.mono hb2'.size)
        clear hPl HP
        rcases hE with rfl | rfl | rfl
        · obtain rfl := q3 rfl
          clear q3 q4
          go_wp2
          go_ret
          exact ⟨rfl, hb'⟩
        · have hlt2 := q4 (by decide)
          have hd3 : ((N : Int) == (s.size : Int)) = false := by simp; omega
          have hd4 : decide ((N : Int) < (s.size : Int)) = true := by simp; omega
          have hd5 : decide (la < (N : Int)) = true := by simp; omega
          clear q3 q4
          go_wp2
          go_ret
          exact ⟨rfl, hb'⟩
        · have hlt2 := q4 (by decide)
          have hd3 : ((N : Int) == (s.size : Int)) = false := by simp; omega
          have hd4 : decide ((N : Int) < (s.size : Int)) = true := by simp; omega
          have hd5 : decide (la < (N : Int)) = true := by simp; omega
          clear q3 q4
          go_wp2
          go_ret
          exact ⟨rfl, hb'⟩
  · go_enter Try.func4, Try.ntmps4
    go_wp2_with fail
    refine (awake_any w).mono ?_
    rintro e w1 ⟨rfl, hb1⟩
    go_wp2
    go_ret
    exact ⟨rfl, hb1⟩
end Go.Proofs.Ytnallbhckeoldaa
