/- The walk of the law LexParts. -/
import Derived.Test.YtnallbhckeoldaaLexM
import Derived.Test.YtnallbhckeoldaaRow
namespace Go.Proofs.Ytnallbhckeoldaa
open Go.RowKit
attribute [local go_sem ↓] tok_neq_same tok_eql_same tok_guard

namespace Lex
theorem bl_append' (a b : ByteArray) : bl (a ++ b) = bl a ++ bl b := by simp [bl]
/-- the tokens of two lines -/
theorem parts_all (a b u : ByteArray) (hu : bl u = bl a ++ 10 :: bl b) (h0 : (all (a.size + 1) (bl a) a.size).2.2 = 0) :
    all (u.size + 1) (bl u) u.size = ((all (a.size + 1) (bl a) a.size).1 ++ moved (a.size + 1) (all (b.size + 1) (bl b) b.size).1, (all (b.size + 1) (bl b) b.size).2.1 + (a.size + 1), (all (b.size + 1) (bl b) b.size).2.2) := by
  have hus : u.size = a.size + (b.size + 1) := by
    rw [← bl_len u, hu, List.length_append, List.length_cons, bl_len, bl_len]
  have := all_line (a.size + 1) (bl a) (bl b) a.size (u.size + 1) (by rw [bl_len]; omega) (by rw [bl_len, bl_len]; omega) (by rw [bl_len]; omega) h0
  rw [bl_len] at this
  rw [hu, hus]
  rw [hus] at this
  exact this
theorem moved_snoc {xs ys : List Tok} {m k : Nat} {x : Tok} (h : ys[k]? = some x) : (xs ++ (moved m ys).take k).flatMap tokCells ++ [.int .i64 (x.k : Int), .int .i64 ((x.at_ + m : Nat) : Int), .string ⟨x.s.toArray⟩] = (xs ++ (moved m ys).take (k + 1)).flatMap tokCells := by
  have : (moved m ys)[k]? = some ⟨x.k, x.at_ + m, x.s⟩ := by
    unfold moved
    rw [List.getElem?_map, h]; rfl
  rw [List.take_add_one, this, List.flatMap_append, List.flatMap_append, List.flatMap_append, List.append_assoc]
  rfl
theorem places_mem {S : Bs} {lo : Nat} {L : List Tok} {x : Nat × Int} (h : Places S lo L x) : ∀ t ∈ L, t.at_ < S.length := by
  induction L generalizing lo with
  | nil => intro t ht; cases ht
  | cons y L ih =>
    have h' : lo ≤ y.at_ ∧ y.at_ < S.length ∧ 1 ≤ y.k ∧ y.k ≤ 4 ∧ (y.k = 3 → S[y.at_]? = some 34) ∧ (y.k ≠ 3 → y.s ≠ [] ∧ y.at_ + y.s.length ≤ S.length ∧ (S.drop y.at_).take y.s.length = y.s) ∧ Places S (y.at_ + 1) L x := h
    intro t ht
    rcases List.mem_cons.1 ht with rfl | ht
    · exact h'.2.1
    · exact ih h'.2.2.2.2.2.2 t ht
theorem places_n {S : Bs} {lo : Nat} {L : List Tok} {n : Nat} {e : Int} (h : Places S lo L (n, e)) : n ≤ S.length := by
  induction L generalizing lo with
  | nil => exact h.2.1
  | cons y L ih =>
    have h' : lo ≤ y.at_ ∧ y.at_ < S.length ∧ 1 ≤ y.k ∧ y.k ≤ 4 ∧ (y.k = 3 → S[y.at_]? = some 34) ∧ (y.k ≠ 3 → y.s ≠ [] ∧ y.at_ + y.s.length ≤ S.length ∧ (S.drop y.at_).take y.s.length = y.s) ∧ Places S (y.at_ + 1) L (n, e) := h
    exact ih h'.2.2.2.2.2.2
theorem own_none (w : World) : (w.alloc (.cells #[] 32)).ownsRow w.heap.size 32 3 (.slice (some ⟨w.heap.size, 0, none⟩) 0 0) 0 [] :=
  ⟨by simp, .inr ⟨w.heap.size, 0, #[], rfl, Nat.le_refl _, heap_alloc_new w _, Nat.le_refl _, by unfold maxLen; omega, rfl, rfl⟩⟩
theorem toks_one (L : List Tok) : ∀ u ∈ L.flatMap tokCells, u.oneCell' = true := by
  intro u hu
  obtain ⟨t, _, ht⟩ := List.mem_flatMap.1 hu
  simp only [tokCells, List.mem_cons, List.not_mem_nil, or_false] at ht
  rcases ht with rfl | rfl | rfl <;> rfl
end Lex

set_option maxRecDepth 100000 in
set_option maxHeartbeats 4000000 in
theorem lexParts_any (a b : ByteArray) (w : World) : Calls Try.prog 6 #[.string a, .string b] w fun e w' => LawR w e w' := by
  by_cases hs : a.size ≤ 2000
  · by_cases hs2 : b.size ≤ 2000
    · obtain ⟨R, hR⟩ : ∃ R, R = Lex.all (a.size + 1) (Lex.bl a) a.size := ⟨_, rfl⟩
      obtain ⟨R2, hR2⟩ : ∃ R2, R2 = Lex.all (b.size + 1) (Lex.bl b) b.size := ⟨_, rfl⟩
      obtain ⟨L, N, E⟩ := R
      obtain ⟨M, N2, E2⟩ := R2
      have hE := Lex.all_err (a.size + 1) (Lex.bl a) a.size
      have hln := (Lex.all_len (a.size + 1) (Lex.bl a) a.size).2
      have hln2 := (Lex.all_len (b.size + 1) (Lex.bl b) b.size).2
      have hPl := Lex.all_places (Lex.bl b) (b.size + 1) [] (Lex.bl b) 0 rfl (Nat.zero_le _) (by rw [Lex.bl_len]; omega)
      have hPar := Lex.parts_all a b
      rw [Lex.bl_len] at hln hln2 hPl
      rw [← hR, ← hR2] at hPar
      rw [← hR] at hE hln
      rw [← hR2] at hln2 hPl
      simp only at hE hln hln2 hPar
      have HR := Lib.hid hR.symm
      have HR2 := Lib.hid hR2.symm
      have HPar := Lib.hid hPar
      have HPl := Lib.hid hPl
      have hus : (a ++ ⟨#[10]⟩ ++ b : ByteArray).size ≤ 60000 := by
        simp only [ByteArray.size_append]
        show a.size + 1 + b.size ≤ _
        omega
      have hub : Lex.bl (a ++ ⟨#[10]⟩ ++ b) = Lex.bl a ++ 10 :: Lex.bl b := by
        rw [Lex.bl_append', Lex.bl_append', List.append_assoc]
        rfl
      have HUs := Lib.hid hus
      have HUb := Lib.hid hub
      clear hR hR2 hPar hPl hus hub
      go_enter Try.func6, Try.ntmps6
      go_wp2_with fail
      refine (awake_any w).mono ?_
      rintro e w1 ⟨rfl, hb1⟩
      go_wp2_with fail
      refine (all_is a (by omega) w1 L N E HR.out).mono ?_
      rintro e w2 ⟨A, n, c, rfl, hT, hb2⟩
      have hb2' := hb1.trans (hb2.mono hb1.size)
      have HT2 := Lib.hid hT
      have hn := hT.1
      have hc2 := hT.2.2.1
      clear hT
      go_wp2_with fail
      refine (all_is b (by omega) w2 M N2 E2 HR2.out).mono ?_
      rintro e w3 ⟨A2, n2, c2, rfl, hT, hb3⟩
      have hb3' := hb2'.trans (hb3.mono hb2'.size)
      have HT3 := Lib.hid (HT2.out.later hb3)
      have HM3 := Lib.hid hT
      have hn2 := hT.1
      have hc22 := hT.2.2.1
      have hc21 := hT.2.1
      clear hT
      go_wp2_with fail
      have hc := all_any (a ++ ⟨#[10]⟩ ++ b) HUs.out w3
      refine hc.mono ?_
      rintro e w4 ⟨A4, n4, c4, rfl, hT, hb4⟩
      have hb4' := hb3'.trans (hb4.mono hb3'.size)
      have HT4 := Lib.hid (HT3.out.later hb4)
      have HM4 := Lib.hid (HM3.out.later hb4)
      clear hc
      rcases hE with rfl | rfl | rfl
      · rw [HPar.out _ HUb.out rfl] at hT ⊢
        have HU4 := Lib.hid hT
        clear hT
        generalize (a ++ ⟨#[10]⟩ ++ b : ByteArray) = u
        generalize (a ++ ⟨#[10]⟩ : ByteArray) = u2
        obtain ⟨i0, hi, hz0, hz1, hz2⟩ := info_parts infoTok
        have HRd := Lib.hid ((Recs.reads Lex.tokCells_len (by decide) HT4.out).alloc (Nat.le_refl _) (.cells #[] 32))
        have hN2 : N2 ≤ b.size := by have := Lex.places_n HPl.out; rwa [Lex.bl_len] at this
        go_wp2_with (at_builtin; refine Mem.wpList_append_any _ rfl (.tmp 51) (.tmp 52) 23 rfl w4.heap.size 32 i0 _ 3 32 Try.underlying23 hi hz0 hz1 hz2 rfl (by decide) (.slice (some ⟨w4.heap.size, 0, none⟩) 0 0) 0 [] rfl (Lex.own_none w4) w4.heap.size A n c _ rfl HRd.out (Lex.toks_one L) (by unfold maxLen; omega) (by omega) (by simp) ?_; intro v5 w5 hown5 hg5 hat5)
        have hb5 : Below w4.heap.size w4 w5 := ((Below.refl _ _).alloc (Nat.le_refl _) _).grown hg5 (by simp) (fun k e => by simp [Value.ownBlock] at e; omega)
        simp only [Nat.zero_add, List.nil_append] at hown5
        have HO5 := Lib.hid hown5
        clear hown5 hg5 hat5
        go_loopw [15, 16] (fun v i wr => ∃ k : Nat, k ≤ n2 ∧ i = .int .i64 k ∧ wr.ownsRow w4.heap.size 32 3 v (n + k) ((L ++ (Lex.moved (a.size + 1) M).take k).flatMap Lex.tokCells) ∧ Below w4.heap.size w4 wr) (fun _ i _ => n2 - (intOf i).toNat)
        case atStart => exact ⟨0, Nat.zero_le _, rfl, by simpa using HO5.out, hb5⟩
        case round =>
          obtain ⟨k, hk, rfl, hown, hb⟩ := hrel
          have HO := Lib.hid hown
          have hbs := hb.size
          by_cases hlt : k < n2
          · obtain ⟨bb, off, rfl, hbB, hcell⟩ := HM4.out.at_ (by omega)
            obtain ⟨x, hx⟩ := Lex.tok_at hn2 hlt
            have h1 := (hb.cell (p := ⟨bb, off + k * 3, none⟩) hbB).trans (hcell k x hx 0 _ rfl)
            have h2 := (hb.cell (p := ⟨bb, off + k * 3 + 1, none⟩) hbB).trans (hcell k x hx 1 _ rfl)
            have h3 := (hb.cell (p := ⟨bb, off + k * 3 + 2, none⟩) hbB).trans (hcell k x hx 2 _ rfl)
            have hxa : x.at_ < b.size := by
              have := Lex.places_mem HPl.out x (List.mem_of_getElem? hx)
              rwa [Lex.bl_len] at this
            have HX := Lib.hid hx
            clear hcell hx hown
            have j0 : (0 : Int) ≤ (k : Int) := by omega
            have j1 : (k : Int) < (n2 : Int) := by omega
            have w1' : IntKind.i64.wrap ((x.at_ : Int) + (a.size : Int)) = (x.at_ : Int) + (a.size : Int) := IntWalk.i64_in _ (by omega)
            have w2' : IntKind.i64.wrap ((x.at_ : Int) + (a.size : Int) + 1) = (x.at_ : Int) + (a.size : Int) + 1 := IntWalk.i64_in _ (by omega)
            go_wp2
            go_region_law (refine step_append_lies _ (by rfl) _ _ _ (by rfl) _ 32 i0 _ 3 32 Try.underlying23 hi hz0 hz1 hz2 rfl (by omega) _ _ _ (by rfl) (HO.out.alloc _) ⟨wr.heap.size, 0, none⟩ 1 1 [.int .i64 (x.k : Int), .int .i64 ((x.at_ : Int) + (a.size : Int) + 1), .string ⟨x.s.toArray⟩] (by rfl) (by rfl) (World.news_of_block (cs := #[.int .i64 (x.k : Int), .int .i64 ((x.at_ : Int) + (a.size : Int) + 1), .string ⟨x.s.toArray⟩]) (t := 32) (fr := (0, 0)) (heap_alloc_new wr _)) (by simp [Value.oneCell']) (by omega) (by unfold maxLen; omega) (by omega) (by simp; omega) (wr.heap.size + 1) (by simp) ?_; intro gg cap w6 hown6 hgrow6 hat6 hlt6)
            all_goals
              have hb2 : Below w4.heap.size w4 w6 := ((hb.alloc hbs _).drew).grown hgrow6 (by simp; omega) (fun g e => (HO.out.lt g e).1)
              have hown7 := hown6
              rw [show (x.at_ : Int) + (a.size : Int) + 1 = ((x.at_ + (a.size + 1) : Nat) : Int) by omega, Lex.moved_snoc HX.out] at hown7
              have HN := Lib.hid hown7
              clear hown6 hown7 hgrow6 hat6 w1' w2'
              go_wp2
              go_roundw
              case rel => exact ⟨k + 1, by omega, by go_num, HN.out, hb2⟩
              case measure => simp [intOf]; omega
          · obtain rfl : k = n2 := by omega
            obtain ⟨A7, c7, rfl, hT7⟩ := Recs.of_own Lex.tokCells_len (by decide) HO.out
            rw [List.take_of_length_le (by simp [Lex.moved]; omega)] at hT7
            have HT7 := Lib.hid hT7
            have HV7 := Lib.hid (HU4.out.later hb)
            have hb7 := hb4'.trans (hb.mono hb4'.size)
            clear hT7 hown
            go_wp2_with fail
            refine (same_eq A7 A4 (n + k) c7 n4 c4 _ wr HT7.out HV7.out).mono ?_
            rintro e w8 ⟨rfl, hb8⟩
            have hb8' := hb7.trans (hb8.mono hb7.size)
            go_wp2
            go_ret
            exact ⟨rfl, hb8'⟩
      · clear hT
        go_wp2
        go_ret
        exact ⟨rfl, hb4'⟩
      · clear hT
        go_wp2
        go_ret
        exact ⟨rfl, hb4'⟩
    · go_enter Try.func6, Try.ntmps6
      go_wp2_with fail
      refine (awake_any w).mono ?_
      rintro e w1 ⟨rfl, hb1⟩
      go_wp2
      go_ret
      exact ⟨rfl, hb1⟩
  · go_enter Try.func6, Try.ntmps6
    go_wp2_with fail
    refine (awake_any w).mono ?_
    rintro e w1 ⟨rfl, hb1⟩
    go_wp2
    go_ret
    exact ⟨rfl, hb1⟩
end Go.Proofs.Ytnallbhckeoldaa
