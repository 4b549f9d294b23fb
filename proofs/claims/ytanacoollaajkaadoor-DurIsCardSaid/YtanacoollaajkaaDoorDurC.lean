/- The walk of dur's Parse. -/
import Derived.Test.YtanacoollaajkaaDoorDurB
import Derived.Deep.LoopGhost
namespace Go.Proofs.YtanacoollaajkaaDoor
open Go.RowKit

namespace Dur
/-- what Parse holds at the head of its loop -/
def PI (s t : ByteArray) (S a : Nat) (first : Bool) : Prop :=
  t.size ≤ s.size ∧ sumA (bl s) 0 = if first = false ∧ bl t = [] then some S else (sumA (bl t) a).map (fun v => S + v)
theorem PI.start (s : ByteArray) : PI s s 0 0 true := by
  refine ⟨Nat.le_refl _, ?_⟩
  rw [if_neg (fun h => by cases h.1)]
  cases sumA (bl s) 0 with
  | none => rfl
  | some v => simp
theorem PI.done {s t : ByteArray} {S a : Nat} (h : PI s t S a false) (ht : bl t = []) : sumA (bl s) 0 = some S := by
  rw [h.2, if_pos ⟨rfl, ht⟩]
theorem PI.bad {s t : ByteArray} {S a : Nat} {b : Bool} (h : PI s t S a b) (hb : b = true ∨ bl t ≠ []) (hn : sumA (bl t) a = none) : parse (bl s) = (0, 1) := by
  have h2 := h.2
  rw [if_neg (fun h => by rcases hb with e | e
                          · rw [e] at h; cases h.1
                          · exact e h.2), hn] at h2
  unfold parse
  rw [show sumOf 6 (bl s) 0 = none from h2]
theorem PI.step {s t t' : ByteArray} {S a k : Nat} {b : Bool} (h : PI s t S a b) (hb : b = true ∨ bl t ≠ []) (hst : starts (bl t) = true) (hu : unitOf (num 0 (bl t)).2 = some k) (hk : a ≤ k)
    (ht : bl t' = (num 0 (bl t)).2.drop (lets k).length) (hsz : t'.size ≤ s.size) : PI s t' (S + (num 0 (bl t)).1 * size k) (k + 1) false := by
  have h2 := h.2
  rw [if_neg (fun h => by rcases hb with e | e
                          · rw [e] at h; cases h.1
                          · exact e h.2), sumA_step hst hu hk, ← ht] at h2
  refine ⟨hsz, ?_⟩
  rw [h2]
  by_cases he : bl t' = []
  · rw [if_pos he, if_pos ⟨rfl, he⟩]
    rfl
  · rw [if_neg he, if_neg (fun h => he h.2)]
    cases sumA (bl t') (k + 1) with
    | none => rfl
    | some v => simp [Nat.add_assoc]
theorem parse_some {l : Bs} {S : Nat} (h : sumA l 0 = some S) : parse l = if S ≤ 9007199254740992 then ((S : Int), 0) else (0, 2) := by
  unfold parse
  rw [show sumOf 6 l 0 = some S from h]
  rfl
end Dur

set_option maxRecDepth 100000 in
set_option maxHeartbeats 8000000 in
theorem parse_any (s : ByteArray) (hs : s.size ≤ 4611686018427387904) (w : World) (hG : Glob w) :
    Calls Tryd.prog 10 #[.string s] w fun e w' => e = .returned (.tuple #[.int .i64 (Dur.parse (Dur.bl s)).1, .int .i64 (Dur.parse (Dur.bl s)).2]) ∧ Below w.heap.size w w' := by
  have HG := Lib.hid hG
  clear hG
  go_enter Tryd.func10, Tryd.ntmps10
  go_wp2
  go_step3
  go_wp2
  go_step3
  go_wp2
  go_loopg [0, 4, 5, 6] 6 (fun g s0 s4 s5 s6 wr => ∃ (t : ByteArray) (S a : Nat) (b : Bool), g + a = 6 ∧ a ≤ 5 ∧ s0 = .string t ∧ s4 = .int .i64 (Dur.cap S : Nat) ∧ s5 = .int .i64 a ∧ s6 = .bool b ∧ Dur.PI s t S a b ∧ Below w.heap.size w wr)
  case atStart => exact ⟨s, 0, 0, true, by omega, by omega, rfl, rfl, rfl, rfl, Dur.PI.start s, Below.refl _ _⟩
  case round =>
    obtain ⟨t, S, a, b, hga, ha, rfl, rfl, rfl, rfl, hPI, hb⟩ := hrel
    have HPI := Lib.hid hPI
    have hts := hPI.1
    have hbs := hb.size
    have hcS := Dur.cap_le S
    clear hPI
    obtain ⟨⟨ty, fr, hg0⟩, _⟩ := HG.out.below hb
    have HG0 := Lib.hid hg0
    clear hg0
    by_cases hend : b = false ∧ Dur.bl t = []
    · obtain ⟨rfl, ht⟩ := hend
      have hte : (t.toList == []) = true := by rw [Lib.toList_data]; rw [show t.data.toList = [] from ht]; rfl
      have HP := Lib.hid (Dur.parse_some (HPI.out.done ht))
      obtain ⟨m, hm⟩ : ∃ m, m = Dur.cap S := ⟨_, rfl⟩
      have HM := Lib.hid hm
      rw [← hm] at hcS ⊢
      have htz : t = ⟨#[]⟩ := Dur.ba_ext ht
      subst htz
      clear ht hm hte
      go_wp2_with fail
      refine (sane_any _ _).mono ?_
      rintro e w2 ⟨rfl, rfl⟩
      rcases hsn : Dur.sane (m : Int) with _ | _
      · go_wp2
        rw [Exit.noGoto_ret]
        go_ret2
        have hS : ¬ S ≤ 9007199254740992 := by
          have := HM.out
          unfold Dur.cap at this
          simp [Dur.sane] at hsn
          omega
        rw [HP.out, if_neg hS]
        exact ⟨rfl, hb⟩
      · go_wp2
        rw [Exit.noGoto_ret]
        go_ret2
        have hS : S ≤ 9007199254740992 ∧ m = S := by
          have := HM.out
          unfold Dur.cap at this
          simp [Dur.sane] at hsn
          omega
        rw [HP.out, if_pos hS.1, hS.2]
        exact ⟨rfl, hb⟩
    · have hb' : b = true ∨ Dur.bl t ≠ [] := by
        rcases b with _ | _
        · exact .inr fun h => hend ⟨rfl, h⟩
        · exact .inl rfl
      have HB := Lib.hid hb'
      have hcond : b = true ∨ (b = false ∧ t.toList.isEmpty = false) := by
        rcases b with _ | _
        · refine .inr ⟨rfl, ?_⟩
          rw [Lib.toList_data]
          rcases hx : t.data.toList with _ | ⟨x, l⟩
          · exact absurd ⟨rfl, hx⟩ hend
          · rfl
        · exact .inl rfl
      clear hend hb'
      obtain ⟨V, hV⟩ : ∃ V, V = (Dur.num 0 (Dur.bl t)).1 := ⟨_, rfl⟩
      obtain ⟨R, hR⟩ : ∃ R, R = (Dur.num 0 (Dur.bl t)).2 := ⟨_, rfl⟩
      have hcnt := count_any t (by omega) wr
      rw [← hV, ← hR] at hcnt
      have HCNT := Lib.hid hcnt
      have HV := Lib.hid hV
      have HR := Lib.hid hR
      obtain ⟨q, hq⟩ : ∃ q, q = t.size - R.length := ⟨_, rfl⟩
      have hns := Dur.num_starts (Dur.bl t) 0
      have hsuf := Dur.num_suf (Dur.bl t) 0
      have hrl := Dur.num_len (Dur.bl t) 0
      rw [← hR, Dur.bl_len] at hns hsuf hrl
      rw [← hq] at hsuf
      have HQ := Lib.hid hq.symm
      have HSUF := Lib.hid ((Dur.bl_from t q).trans hsuf)
      have hqt : q ≤ t.size := by omega
      have hcV := Dur.cap_le V
      clear hcnt hV hR hsuf
      rcases hst : Dur.starts (Dur.bl t) with _ | _
      · have hq0 : q = 0 := by have := hns.2 hst; omega
        have HBAD := Lib.hid (HPI.out.bad HB.out (Dur.sumA_none hst))
        clear hq hns hrl hst
        rcases hcond with rfl | ⟨rfl, hte⟩
        all_goals
          go_wp2_with fail
          refine HCNT.out.mono ?_
          rintro e w2 ⟨rfl, rfl⟩
          rw [HQ.out, hq0]
          go_wp2
          rw [Exit.noGoto_ret]
          go_ret2
          rw [HBAD.out]
          exact ⟨rfl, hb⟩
      · have hq1 : ((q : Int) == 0) = false := by
          have : R.length ≠ t.size := fun h => by rw [hns.1 h] at hst; cases hst
          simp
          omega
        have HSTEP := Lib.hid (show ∀ k t', Dur.unitOf R = some k → a ≤ k → Dur.bl t' = R.drop (Dur.lets k).length → t'.size ≤ s.size → Dur.PI s t' (S + V * Dur.size k) (k + 1) false by
          intro k t' h1 h2 h3 h4
          rw [HV.out]
          rw [HR.out] at h1 h3
          exact HPI.out.step HB.out hst h1 h2 h3 h4)
        have HEND := Lib.hid (show (∀ i, i < 5 → Dur.unitOf R = some i → i < a) → Dur.parse (Dur.bl s) = (0, 1) by
          intro h
          rw [HR.out] at h
          exact HPI.out.bad HB.out (Dur.sumA_unit hst (fun k hk => h k (Dur.unit_lt hk) hk)))
        clear hq hns hrl hst
        rcases hcond with rfl | ⟨rfl, hte⟩
        all_goals
          go_wp2_with fail
          refine HCNT.out.mono ?_
          rintro e w2 ⟨rfl, rfl⟩
          rw [HQ.out]
          go_wp2_with (refine wpList_load_row rfl 36 _ rfl 0 rfl ty unitCells fr _ HG0.out Tryd.underlying36 rfl (by kernel_rfl) ?_)
          obtain ⟨X, hX⟩ : ∃ X, X = t.extract q t.size := ⟨_, rfl⟩
          have HXB := Lib.hid (show Dur.bl X = R by rw [hX]; exact HSUF.out)
          have hXs : X.size ≤ t.size := by rw [hX]; simp
          rw [← hX]
          clear hX
          obtain ⟨G, hG⟩ : ∃ G, G = gk := ⟨_, rfl⟩
          have HGK := Lib.hid hG
          rw [← hG] at hga
          clear hG
          go_loopg [0, 4, 5, 28] 5 (fun g2 s0 s4 s5 s28 wy => ∃ j : Nat, j + g2 = 5 ∧ s28 = .int .i64 j ∧ s0 = .string t ∧ s4 = .int .i64 (Dur.cap S : Nat) ∧ s5 = .int .i64 a ∧ (∀ i, i < j → Dur.unitOf R = some i → i < a) ∧ Below w.heap.size w wy)
          case atStart => exact ⟨0, by omega, rfl, rfl, rfl, rfl, fun i hi => absurd hi (by omega), hb⟩
          case round =>
            obtain ⟨j, hjg, rfl, rfl, rfl, rfl, hno, hby⟩ := hrel
            have HNO := Lib.hid hno
            have hbys := hby.size
            clear hno
            by_cases hj : j < 5
            · have hd5 : decide (j < 5) = true := by simp; omega
              have hidx := units_at j hj
              by_cases hja : j < a
              · have hd : decide (j < a) = true := by simp; omega
                have HN := Lib.hid (show ∀ i, i < j + 1 → Dur.unitOf R = some i → i < a by
                  intro i hi hu
                  rcases Nat.lt_or_ge i j with h | h
                  · exact HNO.out i h hu
                  · omega)
                go_wp2
                go_roundg (gk - 1)
                case rel => exact ⟨j + 1, by omega, by go_num, rfl, rfl, rfl, HN.out, (by repeat (first | assumption | exact Below.refl _ _ | apply Mem.below_drewN | apply Below.drew | refine Below.alloc ?_ (by first | assumption | omega | (simp; done) | (simp; omega)) _ | refine Below.setCell ?_ (by first | assumption | omega | (simp; done) | (simp; omega)) _))⟩
                case measure => omega
              · have hd : decide (j < a) = false := by simp; omega
                have hiff := Dur.unit_iff j hj R
                rcases hpre : List.isPrefixOf (Dur.lets j) R with _ | _
                · have HPRE := Lib.hid hpre
                  have HN := Lib.hid (show ∀ i, i < j + 1 → Dur.unitOf R = some i → i < a by
                    intro i hi hu
                    rcases Nat.lt_or_ge i j with h | h
                    · exact HNO.out i h hu
                    · obtain rfl : i = j := by omega
                      have := (hiff.1 hu).1
                      rw [hpre] at this
                      cases this)
                  clear hiff hpre
                  go_wp2_with (go_at_call 18; refine (has_any X (letS j) false _ (by rw [HXB.out, letS, Dur.bl_mk]; exact HPRE.out)).mono ?_; rintro e w3 ⟨rfl, rfl⟩)
                  go_roundg (gk - 1)
                  case rel => exact ⟨j + 1, by omega, by go_num, rfl, rfl, rfl, HN.out, (by repeat (first | assumption | exact Below.refl _ _ | apply Mem.below_drewN | apply Below.drew | refine Below.alloc ?_ (by first | assumption | omega | (simp; done) | (simp; omega)) _ | refine Below.setCell ?_ (by first | assumption | omega | (simp; done) | (simp; omega)) _))⟩
                  case measure => omega
                · have HPRE := Lib.hid hpre
                  have hl1 : (letS j).size ≤ X.size := by
                    rw [← Dur.bl_len X, HXB.out]
                    obtain ⟨r, hr⟩ := List.isPrefixOf_iff_prefix.1 hpre
                    rw [← hr, List.length_append]
                    have : (letS j).size = (Dur.lets j).length := by unfold letS; simp [ByteArray.size]
                    omega
                  have hnew : ¬ (j = 2 ∧ List.isPrefixOf [109, 115] R = true) → Dur.PI s (X.extract (letS j).size X.size) (S + V * Dur.size j) (j + 1) false := fun h => by
                    refine HSTEP.out j _ (hiff.2 ⟨hpre, h⟩) (by omega) ?_ (by simp; omega)
                    rw [Dur.bl_from, HXB.out]
                    have : (letS j).size = (Dur.lets j).length := by unfold letS; simp [ByteArray.size]
                    rw [this]
                  have hno2 : (j = 2 ∧ List.isPrefixOf [109, 115] R = true) → ∀ i, i < j + 1 → Dur.unitOf R = some i → i < a := fun h i hi hu => by
                    rcases Nat.lt_or_ge i j with h' | h'
                    · exact HNO.out i h' hu
                    · obtain rfl : i = j := by omega
                      exact absurd h (hiff.1 hu).2
                  by_cases hj2 : j = 2
                  · have hm : ((letS j).toList == [109]) = true := by rw [hj2, Lib.toList_data]; rfl
                    rcases hms : List.isPrefixOf [109, 115] R with _ | _
                    · have HMS := Lib.hid hms
                      have HNEW := Lib.hid (hnew (fun h => by rw [h.2] at hms; cases hms))
                      clear hiff hpre hms hnew hno2 hj2
                      go_wp2_with (go_at_call 18; refine (has_any X (letS j) true _ (by rw [HXB.out, letS, Dur.bl_mk]; exact HPRE.out)).mono ?_; rintro e w3 ⟨rfl, rfl⟩)
                      go_wp2_with fail
                      refine (has_any X ⟨#[109, 115]⟩ false _ (by rw [HXB.out]; exact HMS.out)).mono ?_
                      rintro e w3 ⟨rfl, rfl⟩
                      go_wp2_with fail
                      refine (add_any S V (Dur.size j) (Dur.size_pos j) (by unfold Dur.size; split <;> decide) _).mono ?_
                      rintro e w3 ⟨rfl, rfl⟩
                      go_wp2
                      go_roundg (6 - (j + 1))
                      case rel => exact ⟨_, S + V * Dur.size j, j + 1, false, by omega, by omega, rfl, rfl, by go_num, rfl, HNEW.out, (by repeat (first | assumption | exact Below.refl _ _ | apply Mem.below_drewN | apply Below.drew | refine Below.alloc ?_ (by first | assumption | omega | (simp; done) | (simp; omega)) _ | refine Below.setCell ?_ (by first | assumption | omega | (simp; done) | (simp; omega)) _))⟩
                      case measure => have := HGK.out; omega
                    · have HMS := Lib.hid hms
                      have HN := Lib.hid (hno2 ⟨hj2, hms⟩)
                      clear hiff hpre hms hnew hno2 hj2
                      go_wp2_with (go_at_call 18; refine (has_any X (letS j) true _ (by rw [HXB.out, letS, Dur.bl_mk]; exact HPRE.out)).mono ?_; rintro e w3 ⟨rfl, rfl⟩)
                      go_wp2_with fail
                      refine (has_any X ⟨#[109, 115]⟩ true _ (by rw [HXB.out]; exact HMS.out)).mono ?_
                      rintro e w3 ⟨rfl, rfl⟩
                      go_wp2
                      go_roundg (gk - 1)
                      case rel => exact ⟨j + 1, by omega, by go_num, rfl, rfl, rfl, HN.out, (by repeat (first | assumption | exact Below.refl _ _ | apply Mem.below_drewN | apply Below.drew | refine Below.alloc ?_ (by first | assumption | omega | (simp; done) | (simp; omega)) _ | refine Below.setCell ?_ (by first | assumption | omega | (simp; done) | (simp; omega)) _))⟩
                      case measure => omega
                  · have hm : ((letS j).toList == [109]) = false := by
                      rw [Lib.toList_data]
                      rcases j with _ | _ | _ | _ | _ | j
                      · rfl
                      · rfl
                      · omega
                      · rfl
                      · rfl
                      · omega
                    have HNEW := Lib.hid (hnew (fun h => hj2 h.1))
                    clear hiff hpre hnew hno2 hj2
                    go_wp2_with (go_at_call 18; refine (has_any X (letS j) true _ (by rw [HXB.out, letS, Dur.bl_mk]; exact HPRE.out)).mono ?_; rintro e w3 ⟨rfl, rfl⟩)
                    go_wp2_with fail
                    refine (add_any S V (Dur.size j) (Dur.size_pos j) (by unfold Dur.size; split <;> decide) _).mono ?_
                    rintro e w3 ⟨rfl, rfl⟩
                    go_wp2
                    go_roundg (6 - (j + 1))
                    case rel => exact ⟨_, S + V * Dur.size j, j + 1, false, by omega, by omega, rfl, rfl, by go_num, rfl, HNEW.out, (by repeat (first | assumption | exact Below.refl _ _ | apply Mem.below_drewN | apply Below.drew | refine Below.alloc ?_ (by first | assumption | omega | (simp; done) | (simp; omega)) _ | refine Below.setCell ?_ (by first | assumption | omega | (simp; done) | (simp; omega)) _))⟩
                    case measure => have := HGK.out; omega
            · obtain rfl : j = 5 := by omega
              have hd5 : decide ((5 : Nat) < 5) = false := by decide
              have HBAD := Lib.hid (HEND.out HNO.out)
              go_wp2
              rw [Exit.noGoto_ret]
              go_ret2
              rw [HBAD.out]
              exact ⟨rfl, hby⟩
end Go.Proofs.YtanacoollaajkaaDoor
