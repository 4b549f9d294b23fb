/- The walk of the document's example. -/
import Derived.Test.YtidfiiogjfpfmaaStoQ
namespace Go.Proofs.Ytidfiiogjfpfmaa
open Go.RowKit
set_option linter.unusedSimpArgs false
set_option linter.unusedVariables false

theorem mts_blk (w : World) : Mts (w.alloc (.cells #[.string ⟨#[97]⟩, .string ⟨#[49]⟩, .bool true] 59)) (w.alloc (.cells #[.string ⟨#[97]⟩, .string ⟨#[49]⟩, .bool true] 59)).heap.size (some ⟨w.heap.size, 0, none⟩) 1 1 Sto.mA := by
  refine ⟨⟨rfl, by omega, by omega, fun _ => ⟨w.heap.size, 0, rfl, by simp, fun j x hj i u hu => ?_⟩⟩, fun p hp => ?_⟩
  · match j, hj with
    | 0, hj =>
      cases hj
      match i, hu with
      | 0, hu => cases hu; simp
      | 1, hu => cases hu; simp
      | 2, hu => cases hu; simp
  · unfold Sto.mA at hp
    simp at hp
    subst hp
    exact ⟨by decide, by decide⟩
theorem aa_blk (w : World) : Prs (w.alloc (.cells #[.string ⟨#[97]⟩, .string ⟨#[]⟩] 61)) (w.alloc (.cells #[.string ⟨#[97]⟩, .string ⟨#[]⟩] 61)).heap.size (some ⟨w.heap.size, 0, none⟩) 1 1 Sto.aa := by
  refine ⟨⟨rfl, by omega, by omega, fun _ => ⟨w.heap.size, 0, rfl, by simp, fun j x hj i u hu => ?_⟩⟩, fun p hp => ?_⟩
  · match j, hj with
    | 0, hj =>
      cases hj
      match i, hu with
      | 0, hu => cases hu; simp
      | 1, hu => cases hu; simp
  · unfold Sto.aa at hp
    simp at hp
    subst hp
    exact ⟨by decide, by decide⟩

set_option maxRecDepth 100000 in
set_option maxHeartbeats 8000000 in
theorem awake_any (w : World) : Calls Try.prog 7 #[] w fun e w' => e = .returned (.bool true) ∧ Below w.heap.size w w' := by
  go_enter Try.func7, Try.ntmps7
  go_wp2_with fail
  refine (up_any ⟨#[50]⟩ (by decide) _).mono ?_
  rintro e w1 ⟨A1, rfl, hp1, hb1⟩
  have hB1 := hb1
  go_wp2_with fail
  refine (add_any none 0 0 [] A1 2 2 Sto.up2 (1, 5) w1 (Stt.none_ _ _) hp1).mono ?_
  rintro e w2 ⟨A2, n2, c2, ses2, er2, rfl, h2, hr2, hb2⟩
  have hq2 := Sto.ex_add1 hr2
  rw [Prod.mk.injEq] at hq2
  obtain ⟨hs2, rfl⟩ := hq2
  have hB2 := hB1.trans (hb2.mono hB1.size)
  have H2 := Lib.hid h2
  have HS2 := Lib.hid hs2
  clear hp1 hr2 h2 hs2 hb1 hb2 hB1
  go_wp2_with fail
  refine (up_any ⟨#[49]⟩ (by decide) _).mono ?_
  rintro e w3 ⟨A3, rfl, hp3, hb3⟩
  have hB3 := hB2.trans (hb3.mono hB2.size)
  go_wp2_with fail
  refine (add_any A2 n2 c2 ses2 A3 2 2 Sto.up1 (1, 6) w3 (H2.out.later hb3) hp3).mono ?_
  rintro e w4 ⟨A4, n4, c4, ses4, er4, rfl, h4, hr4, hb4⟩
  rw [HS2.out] at hr4
  have hq4 := Sto.ex_add2 hr4
  rw [Prod.mk.injEq] at hq4
  obtain ⟨hs4, rfl⟩ := hq4
  have hB4 := hB3.trans (hb4.mono hB3.size)
  have H4 := Lib.hid h4
  have HS4 := Lib.hid hs4
  clear hp3 hr4 h4 hs4 hb3 hb4 hB3 hB2
  go_wp2_with fail
  have hb45 := (Below.refl w4.heap.size w4).alloc (Nat.le_refl _) (.cells #[.string ⟨#[97]⟩, .string ⟨#[49]⟩, .bool true] 59)
  refine (select_any A4 n4 c4 ses4 ⟨#[117, 112]⟩ (by decide) (some ⟨w4.heap.size, 0, none⟩) 1 1 Sto.mA 3 9 (by omega) _ (H4.out.later hb45) (mts_blk w4)).mono ?_
  rintro e w6 ⟨A6, n6, c6, fs, rfl, hf6, he6, hb6⟩
  rw [HS4.out, Sto.ex_sel] at he6
  have hb46 := hb45.trans (hb6.mono hb45.size)
  have hB6 := hB4.trans (hb46.mono hB4.size)
  have H6 := Lib.hid (H4.out.later hb46)
  have HF6 := Lib.hid hf6
  have HE6 := Lib.hid he6
  clear hf6 he6 hb45 hb46 hb6 hB4
  go_wp2_with fail
  have hb67 := (Below.refl w6.heap.size w6).alloc (Nat.le_refl _) (.cells #[.string ⟨#[97]⟩, .string ⟨#[]⟩] 61)
  refine (add_any A4 n4 c4 ses4 (some ⟨w6.heap.size, 0, none⟩) 1 1 Sto.aa (0, 0) _ (H6.out.later hb67) (aa_blk w6)).mono ?_
  rintro e w8 ⟨A8, n8, c8, ses8, er8, rfl, h8, hr8, hb8⟩
  rw [HS4.out] at hr8
  have hq8 := Sto.ex_add3 hr8
  rw [Prod.mk.injEq] at hq8
  obtain ⟨hs8, rfl⟩ := hq8
  have hb68 := hb67.trans (hb8.mono hb67.size)
  have hB8 := hB6.trans (hb68.mono hB6.size)
  have H8 := Lib.hid (H6.out.later hb68)
  obtain ⟨fo, rfl, hfo⟩ : ∃ fo, fs = [fo] ∧ fo.val = (Sto.up2, (1, 5)) := by
    rcases fs with _ | ⟨fo, _ | ⟨f2, fs⟩⟩
    · have := HE6.out; simp at this
    · have := HE6.out; simp at this; exact ⟨fo, rfl, this⟩
    · have := HE6.out; simp at this
  have hx : fo.x = (1, 5) := congrArg Prod.snd hfo
  have hn6 : n6 = 1 := HF6.out.1.1.symm
  subst hn6
  obtain ⟨bf, off, hAf, hbf, hcf⟩ := (HF6.out.1.at_ (by omega))
  have z2 := (hb68.cell (p := ⟨bf, off + 0 * 3 + 2, none⟩) hbf).trans (hcf 0 fo rfl 2 _ rfl)
  rw [hx] at z2
  subst hAf
  simp at z2
  have Z2 := Lib.hid z2
  clear h8 hr8 hs8 hfo hx hcf hbf hb68 hb67 hb8
  go_wp2_with fail
  refine (stoSane_is A4 n4 c4 ses4 true (by rw [HS4.out]; exact Sto.ex_sane) w8 H8.out).mono ?_
  rintro e w9 ⟨rfl, hb9⟩
  have hB9 := hB8.trans (hb9.mono hB8.size)
  have H9 := Lib.hid (H8.out.later hb9)
  clear hb9 z2
  go_wp2_with fail
  refine (up_any ⟨#[49]⟩ (by decide) w9).mono ?_
  rintro e w10 ⟨A10, rfl, hp10, hb10⟩
  have hB10 := hB9.trans (hb10.mono hB9.size)
  have H10 := Lib.hid (H9.out.later hb10)
  go_wp2_with fail
  refine (get_any A4 n4 c4 ses4 A10 2 2 Sto.up1 w10 H10.out hp10).mono ?_
  rintro e w11 ⟨A11, n11, c11, ss, rfl, hss, hget, hb11⟩
  rw [HS4.out] at hget
  have hs1 := Sto.ex_get hget
  subst hs1
  have hn11 : n11 = 1 := hss.1.symm
  subst hn11
  have hB11 := hB10.trans (hb11.mono hB10.size)
  have H11 := H10.out.later hb11
  have hn4 : n4 = 2 := by have := H11.len; rw [← this, ← List.length_map (f := Sto.Se.val), HS4.out]; rfl
  subst hn4
  obtain ⟨bb, off4, s, hA, hbB, hs, hin, hc0, hc1⟩ := H11.at_ (k := 0) (by omega)
  have hsv : s.ls = Sto.up1 := by
    have : (ses4.map Sto.Se.val)[0]? = some s.val := by rw [List.getElem?_map, hs]; rfl
    rw [HS4.out] at this
    exact (congrArg Prod.fst (Option.some.inj this)).symm
  have hin1 := hin.1
  rw [hsv] at hin1
  have hsn : s.Sn = s.Sn := rfl
  have hLn : s.Ln = 2 := by have := hin1.len; exact this.symm
  obtain ⟨b3, o3, hLA, hb3, hc3⟩ := hin1.at_ (k := 1) (by omega)
  have c3 := (hc3 1 _ rfl).2
  rw [hLA, hLn] at hc0
  subst hA
  clear hss hget hb10 hb11 hp10 hc1 hc3 hin hin1 hsv hs hb3 hbB hsn hLn hLA
  simp at hc0 c3
  go_wp2
  go_ret
  exact ⟨rfl, hB11⟩
end Go.Proofs.Ytidfiiogjfpfmaa
