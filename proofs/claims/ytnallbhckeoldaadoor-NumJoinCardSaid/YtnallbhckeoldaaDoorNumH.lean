/- The walks of the laws NumWhole, NumJoin. -/
import Derived.Test.YtnallbhckeoldaaDoorNumF
namespace Go.Proofs.YtnallbhckeoldaaDoor
open Go.RowKit
set_option linter.unusedSimpArgs false
set_option linter.unusedVariables false

namespace Num
theorem part_text (k r : Nat) (l : Bs) (Y Z : ByteArray) (hY : (⟨(Lib.decDigits k).toArray⟩ : ByteArray) = Y) (hZ : Z = ⟨l.toArray⟩) (h : 1000 * k + r ≤ 9007199254740992) (hr : r < 1000) (hp : places r = l) :
    (⟨(print ((1000 * k + r : Nat) : Int)).toArray⟩ : ByteArray) = Y ++ Z := by
  subst hY hZ
  apply ba_ext
  rw [bl_mk, bl_append, bl_mk, bl_mk, print_part k r h hr, hp]
end Num

set_option maxRecDepth 100000 in
set_option maxHeartbeats 8000000 in
theorem numWhole_any (x : Int) (w : World) (hG : Glob w) : Calls Tryd.prog 7 #[.int .i64 x] w (LawR w) := by
  have HG := Lib.hid hG
  clear hG
  by_cases hr : 0 ≤ x ∧ x ≤ 9007199254739
  · obtain ⟨k, rfl⟩ : ∃ k : Nat, x = (k : Int) := ⟨x.toNat, by omega⟩
    have hk : k ≤ 9007199254739 := by omega
    have hd1 : decide ((9007199254739 : Int) < (k : Int)) = false := by simp; omega
    obtain ⟨Y, hY⟩ : ∃ Y : ByteArray, (⟨(Lib.decDigits k).toArray⟩ : ByteArray) = Y := ⟨_, rfl⟩
    have hYb : Num.bl Y = Lib.decDigits k := by rw [← hY, Num.bl_mk]
    have hdg := Num.val_digs k
    rw [← hYb] at hdg
    have hYs : Y.size ≤ 21 := by rw [← Num.bl_len, hYb]; exact Num.digs_len k (by omega)
    have hYe : Y.toList.isEmpty = false := Num.ne_empty (fun h => by rw [h] at hdg; exact hdg.2.2 rfl)
    obtain ⟨m, hm⟩ : ∃ m : Nat, m = 1000 * k := ⟨_, rfl⟩
    have hmi : (1000 : Int) * (k : Int) = (m : Int) := by omega
    have hmb : m ≤ 9007199254739000 := by omega
    have P0 := Lib.hid (show (⟨(Num.print (m : Int)).toArray⟩ : ByteArray) = Y by rw [hm, Num.print_whole k (by omega), hY])
    have P1 := Lib.hid (show (⟨(Num.print ((m : Int) + 500)).toArray⟩ : ByteArray) = Y ++ ⟨#[46, 53]⟩ by rw [hm]; exact Num.part_text k 500 _ Y _ hY rfl (by omega) (by decide) rfl)
    have P2 := Lib.hid (show (⟨(Num.print ((m : Int) + 50)).toArray⟩ : ByteArray) = Y ++ ⟨#[46, 48, 53]⟩ by rw [hm]; exact Num.part_text k 50 _ Y _ hY rfl (by omega) (by decide) rfl)
    have P3 := Lib.hid (show (⟨(Num.print ((m : Int) + 5)).toArray⟩ : ByteArray) = Y ++ ⟨#[46, 48, 48, 53]⟩ by rw [hm]; exact Num.part_text k 5 _ Y _ hY rfl (by omega) (by decide) rfl)
    have P4 := Lib.hid (show (⟨(Num.print ((m : Int) + 120)).toArray⟩ : ByteArray) = Y ++ ⟨#[46, 49, 50]⟩ by rw [hm]; exact Num.part_text k 120 _ Y _ hY rfl (by omega) (by decide) rfl)
    have HDG := Lib.hid (show ∀ i (h : i < Y.size), Num.digit Y[i] = true from fun i h => by
      have := List.all_eq_true.1 hdg.1 (Y[i]) (by
        have h' : i < (Num.bl Y).length := by rw [Num.bl_len]; exact h
        exact List.getElem_mem h')
      exact this)
    clear hr hY hYb hdg hm
    go_enter Tryd.func7, Tryd.ntmps7
    go_wp2_with fail
    refine (awake_any w HG.out).mono ?_
    rintro e w1 ⟨rfl, hb1⟩
    go_wp2_with fail
    refine (print_is (m : Int) (m : Int) rfl w1 (HG.out.below hb1) _ P0.out).mono ?_
    rintro e w2 ⟨rfl, hb2⟩
    have hb2' := hb1.trans (hb2.mono hb1.size)
    clear hb1 hb2
    go_wp2
    go_loopw [5] (fun s5 wr => ∃ i : Nat, i ≤ Y.size ∧ w2 = wr ∧ s5 = .int .i64 (i : Nat)) (fun s5 _ => Y.size - (intOf s5).toNat)
    case atStart => exact ⟨0, Nat.zero_le _, rfl, rfl⟩
    case round =>
      obtain ⟨i, hi, rfl, rfl⟩ := hrel
      by_cases hlt : i < Y.size
      · have hdi : decide (i < Y.size) = true := decide_eq_true hlt
        have hdg := HDG.out i hlt
        obtain ⟨c, hc⟩ : ∃ c, Y[i] = c := ⟨_, rfl⟩
        rw [hc] at hdg
        obtain ⟨hc1, hc2⟩ := (digit_int c).1 hdg
        have hcd1 : decide ((c.toNat : Int) < 48) = false := decide_eq_false (by omega)
        have hcd2 : decide ((57 : Int) < (c.toNat : Int)) = false := decide_eq_false (by omega)
        clear hdg
        go_wp2
        go_roundw
        case rel => exact ⟨i + 1, by omega, by first | trivial | rfl, by go_num⟩
        case measure => simp [intOf]; omega
      · have hdi : decide (i < Y.size) = false := decide_eq_false hlt
        go_wp2_with fail
        refine (print_is ((m : Int) + 500) _ rfl w2 (HG.out.below hb2') _ P1.out).mono ?_
        rintro e w3 ⟨rfl, hb3⟩
        have hb3' := hb2'.trans (hb3.mono hb2'.size)
        clear hb2' hb3
        go_wp2_with fail
        refine (print_is ((m : Int) + 50) _ rfl w3 (HG.out.below hb3') _ P2.out).mono ?_
        rintro e w4 ⟨rfl, hb4⟩
        have hb4' := hb3'.trans (hb4.mono hb3'.size)
        clear hb3' hb4
        go_wp2_with fail
        refine (print_is ((m : Int) + 5) _ rfl w4 (HG.out.below hb4') _ P3.out).mono ?_
        rintro e w5 ⟨rfl, hb5⟩
        have hb5' := hb4'.trans (hb5.mono hb4'.size)
        clear hb4' hb5
        go_wp2_with fail
        refine (print_is ((m : Int) + 120) _ rfl w5 (HG.out.below hb5') _ P4.out).mono ?_
        rintro e w6 ⟨rfl, hb6⟩
        have hb6' := hb5'.trans (hb6.mono hb5'.size)
        go_wp2
        go_ret
        exact ⟨rfl, hb6'⟩
  · go_enter Tryd.func7, Tryd.ntmps7
    go_wp2_with fail
    refine (awake_any w HG.out).mono ?_
    rintro e w1 ⟨rfl, hb1⟩
    by_cases h1 : x < 0
    · have hd1 : decide (x < 0) = true := decide_eq_true h1
      clear hr
      go_wp2
      go_ret
      exact ⟨rfl, hb1⟩
    · have hd1 : decide (x < 0) = false := decide_eq_false h1
      have hd2 : decide ((9007199254739 : Int) < x) = true := decide_eq_true (by omega)
      clear hr
      go_wp2
      go_ret
      exact ⟨rfl, hb1⟩

set_option maxRecDepth 100000 in
set_option maxHeartbeats 8000000 in
theorem numJoin_any (x : Int) (w : World) (hG : Glob w) : Calls Tryd.prog 8 #[.int .i64 x] w (LawR w) := by
  have HG := Lib.hid hG
  clear hG
  by_cases hr : 0 ≤ x ∧ x ≤ 900719925474
  · obtain ⟨k, rfl⟩ : ∃ k : Nat, x = (k : Int) := ⟨x.toNat, by omega⟩
    have hk : k ≤ 900719925474 := by omega
    have hd1 : decide ((900719925474 : Int) < (k : Int)) = false := by simp; omega
    obtain ⟨Y, hY⟩ : ∃ Y : ByteArray, (⟨(Lib.decDigits k).toArray⟩ : ByteArray) = Y := ⟨_, rfl⟩
    have hYb : Num.bl Y = Lib.decDigits k := by rw [← hY, Num.bl_mk]
    have hYs : Y.size ≤ 21 := by rw [← Num.bl_len, hYb]; exact Num.digs_len k (by omega)
    obtain ⟨m, hm⟩ : ∃ m : Nat, m = 1000 * k := ⟨_, rfl⟩
    have hmi : (1000 : Int) * (k : Int) = (m : Int) := by omega
    have hmb : m ≤ 900719925474000 := by omega
    obtain ⟨n, hn⟩ : ∃ n : Nat, n = 10000 * k := ⟨_, rfl⟩
    have hni : (10000 : Int) * (k : Int) = (n : Int) := by omega
    have hnb : n ≤ 9007199254740000 := by omega
    have P0 := Lib.hid (show (⟨(Num.print (m : Int)).toArray⟩ : ByteArray) = Y by rw [hm, Num.print_whole k (by omega), hY])
    have Q1 := Lib.hid (show Num.parse (Num.bl (Y ++ ⟨#[48]⟩)) = ((n : Int), 0) by rw [Num.bl_append, hYb, hn]; exact Num.join0 k (by omega))
    have Q2 := Lib.hid (show Num.parse (Num.bl (Y ++ ⟨#[46, 48, 48, 48]⟩)) = ((m : Int), 0) by rw [Num.bl_append, hYb, hm]; exact Num.join1 k (by omega))
    have Q3 := Lib.hid (show Num.parse (Num.bl (Y ++ ⟨#[46, 48, 48, 48, 48]⟩)) = (0, 1) by rw [Num.bl_append, hYb]; exact Num.join2 k)
    have s1 : (Y ++ ⟨#[48]⟩ : ByteArray).size ≤ 4611686018427387904 := by rw [ByteArray.size_append, show (⟨#[48]⟩ : ByteArray).size = 1 from rfl]; omega
    have s2 : (Y ++ ⟨#[46, 48, 48, 48]⟩ : ByteArray).size ≤ 4611686018427387904 := by rw [ByteArray.size_append, show (⟨#[46, 48, 48, 48]⟩ : ByteArray).size = 4 from rfl]; omega
    have s3 : (Y ++ ⟨#[46, 48, 48, 48, 48]⟩ : ByteArray).size ≤ 4611686018427387904 := by rw [ByteArray.size_append, show (⟨#[46, 48, 48, 48, 48]⟩ : ByteArray).size = 5 from rfl]; omega
    have S1 := Lib.hid s1
    have S2 := Lib.hid s2
    have S3 := Lib.hid s3
    clear hr hY hYb hm hn s1 s2 s3
    go_enter Tryd.func8, Tryd.ntmps8
    go_wp2_with fail
    refine (awake_any w HG.out).mono ?_
    rintro e w1 ⟨rfl, hb1⟩
    go_wp2_with fail
    refine (print_is (m : Int) (m : Int) rfl w1 (HG.out.below hb1) _ P0.out).mono ?_
    rintro e w2 ⟨rfl, hb2⟩
    have hb2' := hb1.trans (hb2.mono hb1.size)
    clear hb1 hb2
    go_wp2_with fail
    refine (parse_is _ S1.out w2 _ _ Q1.out).mono ?_
    rintro e w3 ⟨rfl, hb3⟩
    have hb3' := hb2'.trans (hb3.mono hb2'.size)
    clear hb2' hb3
    go_wp2_with fail
    refine (parse_is _ S2.out w3 _ _ Q2.out).mono ?_
    rintro e w4 ⟨rfl, hb4⟩
    have hb4' := hb3'.trans (hb4.mono hb3'.size)
    clear hb3' hb4
    go_wp2_with fail
    refine (parse_is _ S3.out w4 _ _ Q3.out).mono ?_
    rintro e w5 ⟨rfl, hb5⟩
    have hb5' := hb4'.trans (hb5.mono hb4'.size)
    clear hb4' hb5
    go_wp2
    go_ret
    exact ⟨rfl, hb5'⟩
  · go_enter Tryd.func8, Tryd.ntmps8
    go_wp2_with fail
    refine (awake_any w HG.out).mono ?_
    rintro e w1 ⟨rfl, hb1⟩
    by_cases h1 : x < 0
    · have hd1 : decide (x < 0) = true := decide_eq_true h1
      clear hr
      go_wp2
      go_ret
      exact ⟨rfl, hb1⟩
    · have hd1 : decide (x < 0) = false := decide_eq_false h1
      have hd2 : decide ((900719925474 : Int) < x) = true := decide_eq_true (by omega)
      clear hr
      go_wp2
      go_ret
      exact ⟨rfl, hb1⟩
end Go.Proofs.YtnallbhckeoldaaDoor
