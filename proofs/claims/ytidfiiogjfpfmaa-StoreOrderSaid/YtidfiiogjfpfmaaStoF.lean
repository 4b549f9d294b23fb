/- The walks of the seeker's compare, of sort.Find at it, of store's find. -/
import Derived.Test.YtidfiiogjfpfmaaStoE
namespace Go.Proofs.Ytidfiiogjfpfmaa
open Go.RowKit
set_option linter.unusedSimpArgs false
set_option linter.unusedVariables false

namespace Sto
/-- do the labels stand behind series k's? -/
def gt (es : List E) (l : List Lab.Pr) (k : Nat) : Prop := ∃ e, es[k]? = some e ∧ 0 < Lab.cmpL l (Lab.counted e.1)
/-- how the labels stand to series k's -/
def cmpAt (es : List E) (l : List Lab.Pr) (k : Nat) : Int :=
  match es[k]? with
  | none => 0
  | some e => Lab.cmpL l (Lab.counted e.1)
def there (es : List E) (l : List Lab.Pr) (p : Nat) : Bool :=
  match es[p]? with
  | none => false
  | some e => Lab.cmpL l (Lab.counted e.1) == 0
structure Cut (es : List E) (l : List Lab.Pr) (p : Nat) : Prop where
  le : p ≤ es.length
  lo : ∀ k, k < p → 0 < cmpAt es l k
  hi : ∀ k, p ≤ k → k < es.length → ¬ 0 < cmpAt es l k
def Mono (es : List E) (l : List Lab.Pr) : Prop := ∀ a b, a ≤ b → b < es.length → 0 < cmpAt es l b → 0 < cmpAt es l a
theorem cmpAt_is {es : List E} {l : List Lab.Pr} {k : Nat} {e : E} (h : es[k]? = some e) : cmpAt es l k = Lab.cmpL l (Lab.counted e.1) := by unfold cmpAt; rw [h]
theorem there_is {es : List E} {l : List Lab.Pr} {p : Nat} (h : p < es.length) : there es l p = (cmpAt es l p == 0) := by
  unfold there cmpAt
  rw [List.getElem?_eq_getElem h]
theorem there_none {es : List E} {l : List Lab.Pr} {p : Nat} (h : ¬ p < es.length) : there es l p = false := by
  unfold there
  rw [List.getElem?_eq_none (by omega)]
end Sto

set_option maxRecDepth 100000 in
set_option maxHeartbeats 4000000 in
theorem skcmp_is (A : Option Addr) (n c : Nat) (ses : List Sto.Se) (B : Option Addr) (m d : Nat) (ls : List Lab.Pr) (i : Nat) (hi : i < n) (r : Int) (hr : Sto.cmpAt (ses.map Sto.Se.val) (Lab.counted ls) i = r) (w : World) (h : Stt w w.heap.size A n c ses) (g : Prs w w.heap.size B m d ls) :
    Calls Try.prog 43 #[.agg #[.slice A n c, .slice B m d], .int .i64 (i : Nat)] w fun e w' => e = .returned (.int .i64 r) ∧ Below w.heap.size w w' := by
  obtain ⟨bb, off, s, hA, hbB, hs, hin, hc0, hc1⟩ := h.at_ hi
  rw [Sto.cmpAt_is (show (ses.map Sto.Se.val)[i]? = some s.val by rw [List.getElem?_map, hs]; rfl), show s.val.1 = s.ls from rfl] at hr
  have HIN := Lib.hid hin
  have HG := Lib.hid g
  have HR := Lib.hid hr
  have C0 := Lib.hid hc0
  have i0 : (0 : Int) ≤ (i : Int) := by omega
  have i1 : (i : Int) < (n : Int) := by omega
  subst hA
  clear h g hs hin hc0 hc1 hr
  go_enter Try.func43, Try.ntmps43
  go_wp2
  have hB1 := (Below.refl w.heap.size w).alloc (Nat.le_refl _) (.cells #[.slice (some ⟨bb, off, none⟩) n c, .slice B m d] 80)
  have hblk := (Mem.Blk.new w 80 #[.slice (some ⟨bb, off, none⟩) n c, .slice B m d])
  have hlt1 : w.heap.size < (w.alloc (.cells #[.slice (some ⟨bb, off, none⟩) n c, .slice B m d] 80)).heap.size := by simp
  have hsz1 : w.heap.size ≤ (w.alloc (.cells #[.slice (some ⟨bb, off, none⟩) n c, .slice B m d] 80)).heap.size := by simp
  obtain ⟨W1, hW1⟩ : ∃ W1, W1 = w.alloc (.cells #[.slice (some ⟨bb, off, none⟩) n c, .slice B m d] 80) := ⟨_, rfl⟩
  rw [← hW1] at hB1 hblk hlt1 hsz1 ⊢
  clear hW1
  have HBLK := Lib.hid hblk
  clear hblk
  have hbB1 := Nat.lt_of_lt_of_le hbB hsz1
  refine wp_region_held_drew (S := fun W' => Below W1.heap.size W1 W') (by kernel_rfl) (Below.refl _ _).drew (fun hHeld => ?_)
  refine wpAnyH_take (i := 0) (v := ?_) (by simp only [List.getElem?_toArray, List.getElem?_cons_succ, List.getElem?_cons_zero]; exact rfl) (by kernel_rfl) (by kernel_rfl) (by kernel_rfl) (by exact fun _ _ _ h => h) (Or.inl ⟨by rfl, ?_⟩) hHeld ?_
  rotate_left
  · intro wq hSw; go_simp; all_goals (with_reducible rfl)
  try simp only [Act.put, List.setIfInBounds_toArray, List.set_cons_zero, List.set_cons_succ]
  refine wpAnyH_take (i := 1) (v := ?_) (by simp only [List.getElem?_toArray, List.getElem?_cons_succ, List.getElem?_cons_zero]; exact rfl) (by kernel_rfl) (by kernel_rfl) (by kernel_rfl) (by exact fun _ _ _ h => h) (Or.inl ⟨by rfl, ?_⟩) hHeld ?_
  rotate_left
  · intro wq hSw; have k0 := (hSw.cell (p := ⟨w.heap.size, 0, none⟩) hlt1).trans (HBLK.out.cell 0); have k1 := (hSw.cell (p := ⟨w.heap.size, 1, none⟩) hlt1).trans (HBLK.out.cell 1); simp at k0 k1; go_simp; all_goals (with_reducible rfl)
  try simp only [Act.put, List.setIfInBounds_toArray, List.set_cons_zero, List.set_cons_succ]
  refine wpAnyH_take (i := 2) (v := ?_) (by simp only [List.getElem?_toArray, List.getElem?_cons_succ, List.getElem?_cons_zero]; exact rfl) (by kernel_rfl) (by kernel_rfl) (by kernel_rfl) (by exact fun _ _ _ h => h) (Or.inl ⟨by rfl, ?_⟩) hHeld ?_
  rotate_left
  · intro wq hSw; go_simp; all_goals (with_reducible rfl)
  try simp only [Act.put, List.setIfInBounds_toArray, List.set_cons_zero, List.set_cons_succ]
  refine wpAnyH_take (i := 3) (v := ?_) (by simp only [List.getElem?_toArray, List.getElem?_cons_succ, List.getElem?_cons_zero]; exact rfl) (by kernel_rfl) (by kernel_rfl) (by kernel_rfl) (by exact fun _ _ _ h => h) (Or.inl ⟨by rfl, ?_⟩) hHeld ?_
  rotate_left
  · intro wq hSw; have k0 := (hSw.cell (p := ⟨w.heap.size, 0, none⟩) hlt1).trans (HBLK.out.cell 0); have k1 := (hSw.cell (p := ⟨w.heap.size, 1, none⟩) hlt1).trans (HBLK.out.cell 1); simp at k0 k1; go_simp; all_goals (with_reducible rfl)
  try simp only [Act.put, List.setIfInBounds_toArray, List.set_cons_zero, List.set_cons_succ]
  refine wpAnyH_take (i := 4) (v := ?_) (by simp only [List.getElem?_toArray, List.getElem?_cons_succ, List.getElem?_cons_zero]; exact rfl) (by kernel_rfl) (by kernel_rfl) (by kernel_rfl) (by exact fun _ _ _ h => h) (Or.inl ⟨by rfl, ?_⟩) hHeld ?_
  rotate_left
  · intro wq hSw; go_simp; all_goals (with_reducible rfl)
  try simp only [Act.put, List.setIfInBounds_toArray, List.set_cons_zero, List.set_cons_succ]
  refine wpAnyH_take (i := 5) (v := ?_) (by simp only [List.getElem?_toArray, List.getElem?_cons_succ, List.getElem?_cons_zero]; exact rfl) (by kernel_rfl) (by kernel_rfl) (by kernel_rfl) (by exact fun _ _ _ h => h) (Or.inl ⟨by rfl, ?_⟩) hHeld ?_
  rotate_left
  · intro wq hSw; go_simp; all_goals (with_reducible rfl)
  try simp only [Act.put, List.setIfInBounds_toArray, List.set_cons_zero, List.set_cons_succ]
  refine wpAnyH_take (i := 6) (v := ?_) (by simp only [List.getElem?_toArray, List.getElem?_cons_succ, List.getElem?_cons_zero]; exact rfl) (by kernel_rfl) (by kernel_rfl) (by kernel_rfl) (by exact fun _ _ _ h => h) (Or.inl ⟨by rfl, ?_⟩) hHeld ?_
  rotate_left
  · intro wq hSw; go_simp; all_goals (with_reducible rfl)
  try simp only [Act.put, List.setIfInBounds_toArray, List.set_cons_zero, List.set_cons_succ]
  refine wpAnyH_take (i := 7) (v := ?_) (by simp only [List.getElem?_toArray, List.getElem?_cons_succ, List.getElem?_cons_zero]; exact rfl) (by kernel_rfl) (by kernel_rfl) (by kernel_rfl) (by exact fun _ _ _ h => h) (Or.inl ⟨by rfl, ?_⟩) hHeld ?_
  rotate_left
  · intro wq hSw; have y0 := (hSw.cell (p := ⟨bb, off + i * 2, none⟩) hbB1).trans ((hB1.cell (p := ⟨bb, off + i * 2, none⟩) hbB).trans C0.out); go_simp; all_goals (with_reducible rfl)
  try simp only [Act.put, List.setIfInBounds_toArray, List.set_cons_zero, List.set_cons_succ]
  refine wpAnyH_ready (rs := [8]) (by kernel_rfl) (by simp) ?_
  refine AllReadyH.cons (by simp only [List.getElem?_toArray, List.getElem?_cons_succ, List.getElem?_cons_zero]; exact rfl) (fun K hK => ?_) ?_
  · go_simp
    refine (lcmp_is B m d ls s.LA s.Ln s.Lc s.ls r HR.out _ ((HG.out.later hB1).later hHeld) ((HIN.out.1.later hB1).later hHeld)).mono ?_
    rintro e w8 ⟨rfl, hb8⟩
    show K _ _
    refine hK.out _ _ (hHeld.trans (hb8.mono hHeld.size)) (fun hHeld => ?_)
    clear hK K
    try simp only [Act.put, List.setIfInBounds_toArray, List.set_cons_zero, List.set_cons_succ]
    refine wpAnyH_take (i := 9) (v := ?_) (by simp only [List.getElem?_toArray, List.getElem?_cons_succ, List.getElem?_cons_zero]; exact rfl) (by kernel_rfl) (by kernel_rfl) (by kernel_rfl) (by exact fun _ _ _ h => h) (Or.inl ⟨by rfl, ?_⟩) hHeld ?_
    rotate_left
    · intro wq hSw; go_simp; all_goals (with_reducible rfl)
    try simp only [Act.put, List.setIfInBounds_toArray, List.set_cons_zero, List.set_cons_succ]
    refine wpAnyH_done (by kernel_rfl) ?_ _
    go_wp2
    go_ret
    exact ⟨rfl, hB1.trans (hHeld.mono hB1.size)⟩
  · exact AllReadyH.nil

set_option maxRecDepth 100000 in
set_option maxHeartbeats 8000000 in
theorem sfind_is (A : Option Addr) (n c : Nat) (ses : List Sto.Se) (B : Option Addr) (m d : Nat) (ls : List Lab.Pr) (hmono : Sto.Mono (ses.map Sto.Se.val) (Lab.counted ls)) (hn32 : n ≤ 32) (w : World) (h : Stt w w.heap.size A n c ses) (g : Prs w w.heap.size B m d ls) :
    Calls Try.prog 42 #[.int .i64 (n : Nat), .func (.func 43) #[.agg #[.slice A n c, .slice B m d]] #[]] w fun e w' => ∃ p, e = .returned (.tuple #[.int .i64 (p : Nat), .bool (Sto.there (ses.map Sto.Se.val) (Lab.counted ls) p)]) ∧ Sto.Cut (ses.map Sto.Se.val) (Lab.counted ls) p ∧ Below w.heap.size w w' := by
  have HH := Lib.hid h
  have HG := Lib.hid g
  have HM := Lib.hid hmono
  have hes : (ses.map Sto.Se.val).length = n := by rw [List.length_map]; exact h.len
  have hcap := h.cap
  have HN := Lib.hid hes
  clear h g hmono hes
  go_enter Try.func42, Try.ntmps42
  go_wp2
  go_loopw [4, 6] (fun s4 s6 wr => ∃ i j : Nat, i ≤ j ∧ j ≤ n ∧ s4 = .int .i64 (i : Nat) ∧ s6 = .int .i64 (j : Nat) ∧ (∀ k, k < i → 0 < Sto.cmpAt (ses.map Sto.Se.val) (Lab.counted ls) k) ∧ (∀ k, j ≤ k → k < n → ¬ 0 < Sto.cmpAt (ses.map Sto.Se.val) (Lab.counted ls) k) ∧ Below w.heap.size w wr) (fun s4 s6 _ => (intOf s6).toNat - (intOf s4).toNat)
  case atStart => exact ⟨0, n, by omega, by omega, rfl, rfl, fun k hk => absurd hk (by omega), fun k h1 h2 => absurd h1 (by omega), Below.refl _ _⟩
  case round =>
    obtain ⟨i, j, hij, hjn, rfl, rfl, hlo, hhi, hb⟩ := hrel
    have HLO := Lib.hid hlo
    have HHI := Lib.hid hhi
    clear hlo hhi
    by_cases hlt : i < j
    · have hd : decide (i < j) = true := decide_eq_true hlt
      obtain ⟨q, hq⟩ : ∃ y, y = i + j := ⟨_, rfl⟩
      obtain ⟨h, hh⟩ : ∃ y, y = q / 2 := ⟨_, rfl⟩
      obtain ⟨h2, hh2⟩ : ∃ y, y = h + 1 := ⟨_, rfl⟩
      have hhn : h < n := by omega
      have hih : i ≤ h ∧ h < j := by omega
      have w5 : IntKind.i64.wrap ((h : Int) + 1) = ((h2 : Nat) : Int) := by rw [hh2, show (h : Int) + 1 = ((h + 1 : Nat) : Int) by omega]; exact IntWalk.i64_in _ (by omega)
      obtain ⟨r, hr⟩ : ∃ r, Sto.cmpAt (ses.map Sto.Se.val) (Lab.counted ls) h = r := ⟨_, rfl⟩
      have HR := Lib.hid hr
      have HH2 := Lib.hid hh2
      have WW := Lib.hid (show ((i : Int) + (j : Int)) / 2 = ((h : Nat) : Int) by omega)
      clear hq hh hh2 hr
      go_wp2_with fail
      rw [WW.out]
      refine (skcmp_is A n c ses B m d ls h hhn r HR.out wr (HH.out.later hb) (HG.out.later hb)).mono ?_
      rintro e w6 ⟨rfl, hb6⟩
      have hB6 := hb.trans (hb6.mono hb.size)
      by_cases hr0 : 0 < r
      · have hd0 : decide (0 < r) = true := decide_eq_true hr0
        go_wp2
        go_roundw
        case rel => exact ⟨h2, j, by have := HH2.out; omega, hjn, rfl, rfl, fun k hk => HM.out k h (by have := HH2.out; omega) (by rw [HN.out]; exact hhn) (by rw [HR.out]; exact hr0), fun k h1 h2 => by have := HHI.out k h1 h2; omega, hB6⟩
        case measure => have := HH2.out; simp [intOf]; omega
      · have hd0 : decide (0 < r) = false := decide_eq_false hr0
        go_wp2
        go_roundw
        case rel => exact ⟨i, h, hih.1, by omega, rfl, rfl, HLO.out, fun k hk hkn hk0 => by
          have := HM.out h k hk (by rw [HN.out]; exact hkn) hk0
          rw [HR.out] at this
          omega, hB6⟩
        case measure => simp [intOf]; omega
    · obtain rfl : i = j := by omega
      have hd : decide (i < i) = false := decide_eq_false (by omega)
      have HCUT := Lib.hid (show Sto.Cut (ses.map Sto.Se.val) (Lab.counted ls) i from ⟨by rw [HN.out]; exact hjn, HLO.out, fun k h1 h2 => by have := HHI.out k h1 (by rw [← HN.out]; exact h2); omega⟩)
      by_cases hin : i < n
      · have hd2 : decide (i < n) = true := decide_eq_true hin
        obtain ⟨r, hr⟩ : ∃ r, Sto.cmpAt (ses.map Sto.Se.val) (Lab.counted ls) i = r := ⟨_, rfl⟩
        have HT := Lib.hid (Sto.there_is (es := ses.map Sto.Se.val) (l := Lab.counted ls) (by rw [HN.out]; exact hin))
        have HR := Lib.hid hr
        clear hr
        go_wp2_with fail
        refine (skcmp_is A n c ses B m d ls i hin r HR.out wr (HH.out.later hb) (HG.out.later hb)).mono ?_
        rintro e w6 ⟨rfl, hb6⟩
        go_wp2
        go_ret2
        exact ⟨i, by rw [HT.out, HR.out]; rfl, HCUT.out, hb.trans (hb6.mono hb.size)⟩
      · have hd2 : decide (i < n) = false := decide_eq_false hin
        have HT := Lib.hid (Sto.there_none (es := ses.map Sto.Se.val) (l := Lab.counted ls) (p := i) (by rw [HN.out]; exact hin))
        go_wp2
        go_ret2
        exact ⟨i, by rw [HT.out]; rfl, HCUT.out, hb⟩
set_option maxRecDepth 100000 in
set_option maxHeartbeats 8000000 in
theorem find_is (A : Option Addr) (n c : Nat) (ses : List Sto.Se) (B : Option Addr) (m d : Nat) (ls : List Lab.Pr) (hmono : Sto.Mono (ses.map Sto.Se.val) (Lab.counted ls)) (hn32 : n ≤ 32) (w : World) (h : Stt w w.heap.size A n c ses) (g : Prs w w.heap.size B m d ls) :
    Calls Try.prog 26 #[.slice A n c, .slice B m d] w fun e w' => ∃ p, e = .returned (.tuple #[.int .i64 (p : Nat), .bool (Sto.there (ses.map Sto.Se.val) (Lab.counted ls) p)]) ∧ Sto.Cut (ses.map Sto.Se.val) (Lab.counted ls) p ∧ Below w.heap.size w w' := by
  have HH := Lib.hid h
  have HG := Lib.hid g
  have HM := Lib.hid hmono
  have hmf : ∀ (fn : Fn) (first cap : Array Value) (w : World), (Instr.makeFunc fn first cap).run Try.prog w = .ok (.func fn first cap) w := fun _ _ _ _ => rfl
  clear h g hmono
  go_enter Try.func26, Try.ntmps26
  go_wp2_with fail
  have hB1 := (Below.refl w.heap.size w).alloc (Nat.le_refl _) (.cells #[.slice A n c, .slice B m d] 80)
  have hblk := (Mem.Blk.new w 80 #[.slice A n c, .slice B m d])
  have hlt1 : w.heap.size < (w.alloc (.cells #[.slice A n c, .slice B m d] 80)).heap.size := by simp
  have hsz1 : w.heap.size ≤ (w.alloc (.cells #[.slice A n c, .slice B m d] 80)).heap.size := by simp
  obtain ⟨W1, hW1⟩ : ∃ W1, W1 = w.alloc (.cells #[.slice A n c, .slice B m d] 80) := ⟨_, rfl⟩
  rw [← hW1] at hB1 hblk hlt1 hsz1 ⊢
  clear hW1
  have HBLK := Lib.hid hblk
  clear hblk
  refine (sfind_is A n c ses B m d ls HM.out hn32 W1 (HH.out.later hB1) (HG.out.later hB1)).mono ?_
  rintro e w3 ⟨p, rfl, hcut, hb3⟩
  have HC := Lib.hid hcut
  clear hcut
  go_wp2
  go_ret2
  exact ⟨p, rfl, HC.out, hB1.trans (hb3.mono hB1.size)⟩
end Go.Proofs.Ytidfiiogjfpfmaa
