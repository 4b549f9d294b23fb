/- The walk of the reference's Append. -/
import Derived.Test.YtjoaafekhleocaaSerH
import Derived.Test.YtjoaafekhleocaaSerPlain4
namespace Go.Proofs.Ytjoaafekhleocaa
open Go.RowKit

theorem one_cells (xs : List (Int × Int)) : ∀ u ∈ (Ser.cells xs).map (Value.int .i64), u.oneCell' = true := by
  intro u hu
  obtain ⟨x, _, rfl⟩ := List.mem_map.1 hu
  rfl
theorem own_empty (w : World) : (w.alloc (.cells #[] 24)).ownsRow w.heap.size 24 2 (.slice (some ⟨w.heap.size, 0, none⟩) 0 0) 0 [] := ⟨by simp, .inr ⟨w.heap.size, 0, #[], rfl, Nat.le_refl _, heap_alloc_new w _, Nat.le_refl _, by unfold maxLen; omega, rfl, rfl⟩⟩

theorem own_cap {W : World} {base e size n cap : Nat} {ad : Addr} {xs : List Value} (h : W.ownsRow base e size (.slice (some ad) n cap) n xs) : n ≤ cap := by
  rcases h.2 with ⟨h, _⟩ | ⟨g, cap', cur, h, _, _, hn, _⟩
  · cases h
  · cases h; exact hn
theorem own_snoc {W : World} {base n gg cap : Nat} {ys : List (Int × Int)} {x : Int × Int} (h : W.ownsRow base 24 2 (.slice (some ⟨gg, 0, none⟩) n cap) n ([] ++ (Ser.cells ys).map (Value.int .i64) ++ [.int .i64 x.1, .int .i64 x.2])) :
    Smp W W.heap.size (some ⟨gg, 0, none⟩) n cap (ys ++ [x]) := by
  have e : [] ++ (Ser.cells ys).map (Value.int .i64) ++ [.int .i64 x.1, .int .i64 x.2] = (Ser.cells (ys ++ [x])).map (Value.int .i64) := by rw [Ser.cells_snoc, List.map_append]; rfl
  rw [e] at h
  obtain ⟨A, c, hv, hs⟩ := Smp.of_own h
  cases hv
  exact hs
theorem rap_short {w W : World} {base n gg cap : Nat} {xs ys : List (Int × Int)} {x : Int × Int} (h : W.ownsRow base 24 2 (.slice (some ⟨gg, 0, none⟩) (0 + n + 1) cap) (0 + n + 1) ([] ++ (Ser.cells ys).map (Value.int .i64) ++ [.int .i64 x.1, .int .i64 x.2]))
    (hB : Below w.heap.size w W) (hn : ys.length = n) (hl : n < 64) (he : Ser.append xs x = (Ser.kept ys ++ [x], 0)) : ApR w xs x (.returned (.tuple #[.slice (some ⟨gg, 0, none⟩) (n + 1) cap, .int .i64 0])) W := by
  rw [Nat.zero_add] at h
  refine ⟨_, n + 1, cap, by rw [he], ?_, hB⟩
  rw [he, Ser.kept_short (by omega)]
  exact own_snoc h
theorem rap_long {w W : World} {base n gg cap : Nat} {xs ys : List (Int × Int)} {x : Int × Int} (h : W.ownsRow base 24 2 (.slice (some ⟨gg, 0, none⟩) (0 + n + 1) cap) (0 + n + 1) ([] ++ (Ser.cells ys).map (Value.int .i64) ++ [.int .i64 x.1, .int .i64 x.2]))
    (hB : Below w.heap.size w W) (hn : ys.length = n) (hl : 64 ≤ n) (he : Ser.append xs x = (Ser.kept ys ++ [x], 0)) : ApR w xs x (.returned (.tuple #[.slice (some ⟨gg, 2, none⟩) n (cap - 1), .int .i64 0])) W := by
  rw [Nat.zero_add] at h
  refine ⟨_, n, cap - 1, by rw [he], ?_, hB⟩
  rw [he, Ser.kept_long (by omega)]
  have := (own_snoc h).tail (by omega)
  rw [Nat.add_sub_cancel, List.tail_append_of_ne_nil (by intro e; subst e; simp at hn; omega)] at this
  simpa using this

set_option maxRecDepth 100000 in
set_option maxHeartbeats 2000000 in
theorem rAppend_any (A : Option Addr) (m c : Nat) (xs : List (Int × Int)) (x : Int × Int) (w : World) (h : Smp w w.heap.size A m c xs) :
    Calls Try.prog 11 #[.slice A m c, .agg #[.int .i64 x.1, .int .i64 x.2]] w (ApR w xs x) := by
  obtain ⟨i0, hi0, hz0, hz1, hz2⟩ := info_parts smpInfo
  go_enter Try.func11, Try.ntmps11
  go_wp2_with fail
  refine (as_any w.heap.size A m c xs _ (by simp) (h.alloc (Nat.le_refl _) _)).mono ?_
  rintro e w1 ⟨A', n', c', rfl, hS, hB⟩
  have b3 := (Mem.Blk.new w 24 #[.int .i64 x.1, .int .i64 x.2]).below hB (by simp)
  have c3 := b3.cell 0
  have c3' := b3.cell 1
  have hsz := hB.size
  have hB1 : Below w.heap.size w w1 := ((Below.refl _ _).alloc (Nat.le_refl _) _).trans (hB.mono (by simp))
  have hlen64 : n' ≤ 64 := by rw [← hS.1]; exact Ser.counted_length xs
  have HS := Lib.hid hS
  have HH := Lib.hid h
  simp at c3 c3' hsz
  have HB3 := Lib.hid b3
  clear hS h hB b3
  by_cases ht : Ser.isTime x.1 = true
  · by_cases hv : Ser.isNum x.2 = true
    · rcases Nat.eq_zero_or_pos n' with hn0 | hn0
      · have hd : decide (0 < n') = false := by simp; omega
        have hnil : Ser.counted xs = [] := List.eq_nil_of_length_eq_zero (by rw [HS.out.1]; exact hn0)
        have he : Ser.append xs x = (Ser.kept (Ser.counted xs) ++ [x], 0) := by rw [Ser.append_first ht hv hnil, hnil]; rfl
        have HE := Lib.hid he
        have HN := Lib.hid hnil
        have HN0 := Lib.hid hn0
        clear he hnil hn0
        go_wp2_with (first | (go_at_call 25; refine (rTime_any _ _).mono ?_; rintro e w' ⟨rfl, rfl⟩) | (go_at_call 26; refine (rNum_any _ _).mono ?_; rintro e w' ⟨rfl, rfl⟩))
        go_quiet (fail)
        obtain ⟨W, hW⟩ : ∃ W, w1.drewN nq = W := ⟨_, rfl⟩
        have hBW : Below w.heap.size w W := by rw [← hW]; exact Mem.below_drewN hB1 _
        have hSW : Smp W w.heap.size A' n' c' (Ser.counted xs) := by rw [← hW]; exact HS.out
        have hb3 : Mem.Blk W w.heap.size 24 #[.int .i64 x.1, .int .i64 x.2] := by rw [← hW]; exact HB3.out
        rw [hW]
        clear hW
        have HR := Lib.hid (hSW.reads.alloc hBW.size (.cells #[] 24))
        have HB := Lib.hid (hb3.alloc (.cells #[] 24))
        have hlt3 := hb3.lt
        have HSW := Lib.hid hSW
        clear hSW hb3 c3 c3'
        go_wp2_with (first | (at_builtin; refine Mem.wpList_append_any _ rfl (.tmp 37) (.tmp 38) 22 rfl W.heap.size 24 i0 _ 2 16 Try.underlying22 hi0 hz0 hz1 hz2 rfl (by decide) (.slice (some ⟨W.heap.size, 0, none⟩) 0 0) 0 [] rfl (own_empty W) w.heap.size _ n' c' _ rfl HR.out (one_cells _) (by unfold maxLen; omega) (by omega) (by simp) ?_; intro v2 w2 hown2 hg2 hat2; have hb4 := HB.out.grown hg2 (by simp [Value.ownBlock]; omega); have d3 := hb4.cell 0; have d3' := hb4.cell 1; simp at d3 d3'; have hs2 := hg2.size; simp at hs2) | (at_builtin; refine wpList_append_lies _ rfl (.tmp 40) (.tmp 42) 22 rfl W.heap.size 24 i0 _ 2 16 Try.underlying22 hi0 hz0 hz1 hz2 rfl (by decide) v2 _ _ rfl (hown2.alloc _) ⟨w2.heap.size, 0, none⟩ 1 1 [.int .i64 x.1, .int .i64 x.2] rfl rfl (World.news_of_block (cs := #[.int .i64 x.1, .int .i64 x.2]) (t := 24) (fr := (0, 0)) (heap_alloc_new w2 _)) (by simp [Value.oneCell']) (by omega) (by unfold maxLen; omega) (by omega) (by simp; omega) (w2.heap.size + 1) (by simp) ?_; intro gg cap w3 hown3 hg3 hat3 hlt4; have hcap := own_cap hown3))
        · have hl : (64 : Int) < n' + 1 := by assumption
          go_ret2
          have hB3 : Below w.heap.size w w3 := (by
    have h2 : Below w.heap.size w w2 := (hBW.alloc hBW.size _).grown hg2 (by simp; have := hBW.size; omega) (fun k e => by simp [Value.ownBlock] at e; have := hBW.size; omega)
    exact (h2.alloc h2.size _).grown hg3 (by simp; have := h2.size; omega) (fun k e => by have := own_ge hown2 e; have := hBW.size; omega))
          exact rap_long hown3 hB3 HSW.out.1 (by omega) HE.out
        · have hl : (n' : Int) + 1 ≤ 64 := by assumption
          go_ret2
          have hB3 : Below w.heap.size w w3 := (by
    have h2 : Below w.heap.size w w2 := (hBW.alloc hBW.size _).grown hg2 (by simp; have := hBW.size; omega) (fun k e => by simp [Value.ownBlock] at e; have := hBW.size; omega)
    exact (h2.alloc h2.size _).grown hg3 (by simp; have := h2.size; omega) (fun k e => by have := own_ge hown2 e; have := hBW.size; omega))
          exact rap_short hown3 hB3 HSW.out.1 (by omega) HE.out
      · have hd : decide (0 < n') = true := by simp; omega
        have hcc := HS.out.2.1
        have hcm := HS.out.2.2.1
        obtain ⟨b, off, hA, hbB, hcell⟩ := HS.out.at_ (k := 0) hn0
        subst hA
        have c6 := (hcell (n' - 1) (by omega)).1
        have i0' : (0 : Int) ≤ (n' : Int) - 1 := by omega
        have i1 : (n' : Int) - 1 < (n' : Int) := by omega
        have s1 : IntKind.i64.wrap ((n' : Int) - 1) = (n' : Int) - 1 := IntWalk.i64_in _ (by omega)
        have s2 : ((n' : Int) - 1).toNat = n' - 1 := by omega
        have hlen := HS.out.1
        have HL := Lib.hid hlen
        clear hcell hlen
        by_cases ho : x.1 ≤ Ser.tAt (Ser.counted xs) (n' - 1)
        · have he := Ser.append_late' ht hv (by rw [HL.out]; exact hn0) (by rw [HL.out]; exact ho)
          have HE := Lib.hid he
          clear he
          go_wp2_with (first | (go_at_call 25; refine (rTime_any _ _).mono ?_; rintro e w' ⟨rfl, rfl⟩) | (go_at_call 26; refine (rNum_any _ _).mono ?_; rintro e w' ⟨rfl, rfl⟩))
          go_quiet (fail)
          clear s1 s2
          go_wp2
          go_ret2
          exact ⟨_, n', c', by rw [HE.out]; rfl, by rw [HE.out]; exact HS.out.more hB1.size, Mem.below_drewN hB1 _⟩
        · have he := Ser.append_ok' ht hv (by rw [HL.out]; exact ho)
          have HE := Lib.hid he
          clear he
          go_wp2_with (first | (go_at_call 25; refine (rTime_any _ _).mono ?_; rintro e w' ⟨rfl, rfl⟩) | (go_at_call 26; refine (rNum_any _ _).mono ?_; rintro e w' ⟨rfl, rfl⟩))
          go_quiet (fail)
          clear s1 s2
          obtain ⟨W, hW⟩ : ∃ W, w1.drewN nq = W := ⟨_, rfl⟩
          have hBW : Below w.heap.size w W := by rw [← hW]; exact Mem.below_drewN hB1 _
          have hSW : Smp W w.heap.size (some ⟨b, off, none⟩) n' c' (Ser.counted xs) := by rw [← hW]; exact HS.out
          have hb3 : Mem.Blk W w.heap.size 24 #[.int .i64 x.1, .int .i64 x.2] := by rw [← hW]; exact HB3.out
          rw [hW]
          clear hW
          have HR := Lib.hid (hSW.reads.alloc hBW.size (.cells #[] 24))
          have HB := Lib.hid (hb3.alloc (.cells #[] 24))
          have hlt3 := hb3.lt
          have HSW := Lib.hid hSW
          clear hSW hb3 c3 c3'
          go_wp2_with (first | (at_builtin; refine Mem.wpList_append_any _ rfl (.tmp 37) (.tmp 38) 22 rfl W.heap.size 24 i0 _ 2 16 Try.underlying22 hi0 hz0 hz1 hz2 rfl (by decide) (.slice (some ⟨W.heap.size, 0, none⟩) 0 0) 0 [] rfl (own_empty W) w.heap.size _ n' c' _ rfl HR.out (one_cells _) (by unfold maxLen; omega) (by omega) (by simp) ?_; intro v2 w2 hown2 hg2 hat2; have hb4 := HB.out.grown hg2 (by simp [Value.ownBlock]; omega); have d3 := hb4.cell 0; have d3' := hb4.cell 1; simp at d3 d3'; have hs2 := hg2.size; simp at hs2) | (at_builtin; refine wpList_append_lies _ rfl (.tmp 40) (.tmp 42) 22 rfl W.heap.size 24 i0 _ 2 16 Try.underlying22 hi0 hz0 hz1 hz2 rfl (by decide) v2 _ _ rfl (hown2.alloc _) ⟨w2.heap.size, 0, none⟩ 1 1 [.int .i64 x.1, .int .i64 x.2] rfl rfl (World.news_of_block (cs := #[.int .i64 x.1, .int .i64 x.2]) (t := 24) (fr := (0, 0)) (heap_alloc_new w2 _)) (by simp [Value.oneCell']) (by omega) (by unfold maxLen; omega) (by omega) (by simp; omega) (w2.heap.size + 1) (by simp) ?_; intro gg cap w3 hown3 hg3 hat3 hlt4; have hcap := own_cap hown3))
          · have hl : (64 : Int) < n' + 1 := by assumption
            go_ret2
            have hB3 : Below w.heap.size w w3 := (by
    have h2 : Below w.heap.size w w2 := (hBW.alloc hBW.size _).grown hg2 (by simp; have := hBW.size; omega) (fun k e => by simp [Value.ownBlock] at e; have := hBW.size; omega)
    exact (h2.alloc h2.size _).grown hg3 (by simp; have := h2.size; omega) (fun k e => by have := own_ge hown2 e; have := hBW.size; omega))
            exact rap_long hown3 hB3 HSW.out.1 (by omega) HE.out
          · have hl : (n' : Int) + 1 ≤ 64 := by assumption
            go_ret2
            have hB3 : Below w.heap.size w w3 := (by
    have h2 : Below w.heap.size w w2 := (hBW.alloc hBW.size _).grown hg2 (by simp; have := hBW.size; omega) (fun k e => by simp [Value.ownBlock] at e; have := hBW.size; omega)
    exact (h2.alloc h2.size _).grown hg3 (by simp; have := h2.size; omega) (fun k e => by have := own_ge hown2 e; have := hBW.size; omega))
            exact rap_short hown3 hB3 HSW.out.1 (by omega) HE.out
    · have hv' : Ser.isNum x.2 = false := by simpa using hv
      clear hv
      go_wp2_with (first | (go_at_call 25; refine (rTime_any _ _).mono ?_; rintro e w' ⟨rfl, rfl⟩) | (go_at_call 26; refine (rNum_any _ _).mono ?_; rintro e w' ⟨rfl, rfl⟩))
      go_ret2
      exact ⟨A', n', c', by rw [Ser.append_range (by simp [hv'])]; rfl, by rw [Ser.append_range (by simp [hv'])]; exact HS.out.more hB1.size, hB1⟩
  · have ht' : Ser.isTime x.1 = false := by simpa using ht
    clear ht
    go_wp2_with (first | (go_at_call 25; refine (rTime_any _ _).mono ?_; rintro e w' ⟨rfl, rfl⟩) | (go_at_call 26; refine (rNum_any _ _).mono ?_; rintro e w' ⟨rfl, rfl⟩))
    go_ret2
    exact ⟨A', n', c', by rw [Ser.append_range (by simp [ht'])]; rfl, by rw [Ser.append_range (by simp [ht'])]; exact HS.out.more hB1.size, hB1⟩
end Go.Proofs.Ytjoaafekhleocaa
