/- The walk of the law DurUnits. -/
import Derived.Test.YtanacoollaajkaaDoorDurG
namespace Go.Proofs.YtanacoollaajkaaDoor
open Go.RowKit

theorem digits_at (x : Int) (n : Nat) (Y : ByteArray) (w : World) (hx : x = (n : Int)) (hn : n ≤ 9007199254740992) (hY : (⟨(Lib.decDigits n).toArray⟩ : ByteArray) = Y) :
    Calls Tryd.prog 16 #[.int .i64 x] w fun e w' => e = .returned (.string Y) ∧ Below w.heap.size w w' := by
  subst hx hY
  exact digits_any n w hn
namespace Dur
theorem one_unit (n k v : Nat) (hk : k < 5) (Y u : ByteArray) (hY : (⟨(Lib.decDigits n).toArray⟩ : ByteArray) = Y) (hu : bl u = lets k) (hv : n * size k = v) (hm : v ≤ 9007199254740992) : parse (bl (Y ++ u)) = ((v : Int), 0) := by
  have h := sum_part 5 n k 0 [] hk (Nat.zero_le _) (.inl rfl)
  rw [if_pos rfl, List.append_nil, hv] at h
  unfold parse
  rw [bl_append, ← hY, bl_mk, hu, h]
  simp only
  rw [if_pos (by unfold most; omega)]
end Dur

set_option maxRecDepth 100000 in
set_option maxHeartbeats 8000000 in
theorem durUnits_any (d : Int) (w : World) (hG : Glob w) : Calls Tryd.prog 7 #[.int .i64 d] w (LawR w) := by
  have HG := Lib.hid hG
  clear hG
  by_cases hr : 0 ≤ d ∧ d ≤ 1000000
  · obtain ⟨n, rfl⟩ : ∃ n : Nat, d = (n : Int) := ⟨d.toNat, by omega⟩
    have hn : n ≤ 1000000 := by omega
    have hd2 : decide ((1000000 : Int) < (n : Int)) = false := by simp; omega
    have hd2' : decide (1000000 < n) = false := by simp; omega
    obtain ⟨v, hv⟩ : ∃ v, v = 86400000 * n := ⟨_, rfl⟩
    have hvm : v ≤ 86400000000000 := by omega
    have hmul : (86400000 : Int) * (n : Int) = (v : Int) := by omega
    obtain ⟨Y0, h0⟩ : ∃ Y : ByteArray, (⟨(Lib.decDigits n).toArray⟩ : ByteArray) = Y := ⟨_, rfl⟩
    obtain ⟨Y1, h1⟩ : ∃ Y : ByteArray, (⟨(Lib.decDigits (24 * n)).toArray⟩ : ByteArray) = Y := ⟨_, rfl⟩
    obtain ⟨Y2, h2⟩ : ∃ Y : ByteArray, (⟨(Lib.decDigits (1440 * n)).toArray⟩ : ByteArray) = Y := ⟨_, rfl⟩
    obtain ⟨Y3, h3⟩ : ∃ Y : ByteArray, (⟨(Lib.decDigits (86400 * n)).toArray⟩ : ByteArray) = Y := ⟨_, rfl⟩
    obtain ⟨Y4, h4⟩ : ∃ Y : ByteArray, (⟨(Lib.decDigits v).toArray⟩ : ByteArray) = Y := ⟨_, rfl⟩
    have s0 : Y0.size ≤ 21 := by rw [← h0, Dur.mk_size]; exact Dur.digs_len _ (by omega)
    have s1 : Y1.size ≤ 21 := by rw [← h1, Dur.mk_size]; exact Dur.digs_len _ (by omega)
    have s2 : Y2.size ≤ 21 := by rw [← h2, Dur.mk_size]; exact Dur.digs_len _ (by omega)
    have s3 : Y3.size ≤ 21 := by rw [← h3, Dur.mk_size]; exact Dur.digs_len _ (by omega)
    have s4 : Y4.size ≤ 21 := by rw [← h4, Dur.mk_size]; exact Dur.digs_len _ (by omega)
    have P0 := Lib.hid (Dur.one_unit n 0 v (by decide) Y0 ⟨#[100]⟩ h0 rfl (by show n * 86400000 = v; omega) (by omega))
    have P1 := Lib.hid (Dur.one_unit (24 * n) 1 v (by decide) Y1 ⟨#[104]⟩ h1 rfl (by show 24 * n * 3600000 = v; omega) (by omega))
    have P2 := Lib.hid (Dur.one_unit (1440 * n) 2 v (by decide) Y2 ⟨#[109]⟩ h2 rfl (by show 1440 * n * 60000 = v; omega) (by omega))
    have P3 := Lib.hid (Dur.one_unit (86400 * n) 3 v (by decide) Y3 ⟨#[115]⟩ h3 rfl (by show 86400 * n * 1000 = v; omega) (by omega))
    have P4 := Lib.hid (Dur.one_unit v 4 v (by decide) Y4 ⟨#[109, 115]⟩ h4 rfl (by show v * 1 = v; omega) (by omega))
    have H0 := Lib.hid h0
    have H1 := Lib.hid h1
    have H2 := Lib.hid h2
    have H3 := Lib.hid h3
    have H4 := Lib.hid h4
    have hsz : ∀ (Y u : ByteArray), Y.size ≤ 21 → u.size ≤ 2 → (Y ++ u).size ≤ 4611686018427387904 := fun Y u h1 h2 => by
      simp only [ByteArray.size_append]
      omega
    have HSZ := Lib.hid hsz
    clear hr hv h0 h1 h2 h3 h4 hsz
    go_enter Tryd.func7, Tryd.ntmps7
    go_wp2_with fail
    refine (awake_any w HG.out).mono ?_
    rintro e w1 ⟨rfl, hb1⟩
    go_wp2_with fail
    refine (digits_at _ n Y0 w1 rfl (by omega) H0.out).mono ?_
    rintro e w2 ⟨rfl, hb⟩
    have hb2 := hb1.trans (hb.mono hb1.size)
    clear hb
    go_wp2_with fail
    have hz : (Y0 ++ ⟨#[100]⟩ : ByteArray).size ≤ 4611686018427387904 := HSZ.out Y0 ⟨#[100]⟩ s0 (by decide)
    have hc := parse_is (Y0 ++ ⟨#[100]⟩) hz w2 (HG.out.below hb2) _ _ P0.out
    refine hc.mono ?_
    clear hc hz
    rintro e w3 ⟨rfl, hb⟩
    have hb3 := hb2.trans (hb.mono hb2.size)
    clear hb
    go_wp2_with fail
    refine (digits_at _ (24 * n) Y1 w3 (by omega) (by omega) H1.out).mono ?_
    rintro e w4 ⟨rfl, hb⟩
    have hb4 := hb3.trans (hb.mono hb3.size)
    clear hb
    go_wp2_with fail
    have hz : (Y1 ++ ⟨#[104]⟩ : ByteArray).size ≤ 4611686018427387904 := HSZ.out Y1 ⟨#[104]⟩ s1 (by decide)
    have hc := parse_is (Y1 ++ ⟨#[104]⟩) hz w4 (HG.out.below hb4) _ _ P1.out
    refine hc.mono ?_
    clear hc hz
    rintro e w5 ⟨rfl, hb⟩
    have hb5 := hb4.trans (hb.mono hb4.size)
    clear hb
    go_wp2_with fail
    refine (digits_at _ (1440 * n) Y2 w5 (by omega) (by omega) H2.out).mono ?_
    rintro e w6 ⟨rfl, hb⟩
    have hb6 := hb5.trans (hb.mono hb5.size)
    clear hb
    go_wp2_with fail
    have hz : (Y2 ++ ⟨#[109]⟩ : ByteArray).size ≤ 4611686018427387904 := HSZ.out Y2 ⟨#[109]⟩ s2 (by decide)
    have hc := parse_is (Y2 ++ ⟨#[109]⟩) hz w6 (HG.out.below hb6) _ _ P2.out
    refine hc.mono ?_
    clear hc hz
    rintro e w7 ⟨rfl, hb⟩
    have hb7 := hb6.trans (hb.mono hb6.size)
    clear hb
    go_wp2_with fail
    refine (digits_at _ (86400 * n) Y3 w7 (by omega) (by omega) H3.out).mono ?_
    rintro e w8 ⟨rfl, hb⟩
    have hb8 := hb7.trans (hb.mono hb7.size)
    clear hb
    go_wp2_with fail
    have hz : (Y3 ++ ⟨#[115]⟩ : ByteArray).size ≤ 4611686018427387904 := HSZ.out Y3 ⟨#[115]⟩ s3 (by decide)
    have hc := parse_is (Y3 ++ ⟨#[115]⟩) hz w8 (HG.out.below hb8) _ _ P3.out
    refine hc.mono ?_
    clear hc hz
    rintro e w9 ⟨rfl, hb⟩
    have hb9 := hb8.trans (hb.mono hb8.size)
    clear hb
    go_wp2_with fail
    refine (digits_at _ v Y4 w9 (by omega) (by omega) H4.out).mono ?_
    rintro e w10 ⟨rfl, hb⟩
    have hb10 := hb9.trans (hb.mono hb9.size)
    clear hb
    go_wp2_with fail
    have hz : (Y4 ++ ⟨#[109, 115]⟩ : ByteArray).size ≤ 4611686018427387904 := HSZ.out Y4 ⟨#[109, 115]⟩ s4 (by decide)
    have hc := parse_is (Y4 ++ ⟨#[109, 115]⟩) hz w10 (HG.out.below hb10) _ _ P4.out
    refine hc.mono ?_
    clear hc hz
    rintro e w11 ⟨rfl, hb⟩
    have hb11 := hb10.trans (hb.mono hb10.size)
    clear hb
    go_wp2
    go_ret
    exact ⟨rfl, hb11⟩
  · by_cases h1 : d < 0
    · have hd1 : decide (d < 0) = true := by simp; omega
      go_enter Tryd.func7, Tryd.ntmps7
      go_wp2_with fail
      refine (awake_any w HG.out).mono ?_
      rintro e w1 ⟨rfl, hb1⟩
      go_wp2_with fail
      go_ret
      exact ⟨rfl, hb1⟩
    · have hd1 : decide (d < 0) = false := by simp; omega
      have hd2 : decide (1000000 < d) = true := by simp; omega
      go_enter Tryd.func7, Tryd.ntmps7
      go_wp2_with fail
      refine (awake_any w HG.out).mono ?_
      rintro e w1 ⟨rfl, hb1⟩
      go_wp2_with fail
      go_ret
      exact ⟨rfl, hb1⟩
end Go.Proofs.YtanacoollaajkaaDoor
