/- The walk of cond's Parse. -/
import Derived.Test.YtbdochcajpempaaDoorCondD
import Derived.RegionTactic
import Derived.BigRegion
import Derived.Laws.Rows
namespace Go.Proofs.YtbdochcajpempaaDoor
open Go.RowKit
set_option linter.unusedSimpArgs false
set_option linter.unusedVariables false

def signCells : Array Value := #[.string ⟨#[]⟩, .string ⟨#[62]⟩, .string ⟨#[62, 61]⟩, .string ⟨#[60]⟩, .string ⟨#[60, 61]⟩, .string ⟨#[61, 61]⟩, .string ⟨#[33, 61]⟩]
/-- what the package's variable holds -/
def SGlob (w : World) : Prop := ∃ t fr, w.heap[0]? = some (.cells signCells t fr)
theorem SGlob.below {w w' : World} (h : SGlob w) (hb : Below w.heap.size w w') : SGlob w' := by
  obtain ⟨t, fr, h0⟩ := h
  have hl := (Array.getElem?_eq_some_iff.1 h0).1
  exact ⟨t, fr, (hb.block 0 hl).trans h0⟩
theorem signs_at (j : Nat) (hj : j < 7) (w : World) : (Instr.index 51 (.agg signCells) (.int .i64 (j : Int))).run Tryd.prog w = .ok (.string (Cond.signB j)) w := by
  rcases j with _ | _ | _ | _ | _ | _ | _ | j
  · kernel_rfl
  · kernel_rfl
  · kernel_rfl
  · kernel_rfl
  · kernel_rfl
  · kernel_rfl
  · kernel_rfl
  · omega
abbrev exZ : Array Value := #[.string ⟨#[]⟩, .slice none 0 0, .int .i64 0, .int .i64 0]
/-- what is written into a block that holds no two strings side by side leaves matches as they are -/
theorem mts_far {W W' : World} {B g n c : Nat} {A s : Option Addr} {sn sc : Nat} {ms : List Lab.Mt} {ty : TypeId} {a : ByteArray} {x y : Int} (h : Mts W B A n c ms) (hb : Mem.Blk W g ty #[.string a, .slice s sn sc, .int .i64 x, .int .i64 y])
    (hw : ∀ b o, b ≠ g → W'.cell? ⟨b, o, none⟩ = W.cell? ⟨b, o, none⟩) : Mts W' B A n c ms := by
  refine ⟨⟨h.1.1, h.1.2.1, h.1.2.2.1, fun hn => ?_⟩, h.2⟩
  obtain ⟨b, off, e, hbB, hc⟩ := h.1.2.2.2 hn
  have hne : b ≠ g := by
    rintro rfl
    have hm : ms[0]? = some (ms[0]'(by rw [h.1.1]; exact hn)) := List.getElem?_eq_getElem _
    have h0 := hc 0 _ hm 0 _ rfl
    have h1 := hc 0 _ hm 1 _ rfl
    rw [hb.cell] at h0 h1
    rcases off with _ | _ | _ | _ | off
    · simp at h1
    · simp at h0
    · simp at h0
    · simp at h0
    · simp at h0
  exact ⟨b, off, e, hbB, fun j p hj i u hu => (hw _ _ hne).trans (hc j p hj i u hu)⟩
/-- the op that has been seen among the first k -/
def Cond.seen (o k : Nat) : Nat := if o < k then o else 0

set_option maxRecDepth 100000 in
set_option maxHeartbeats 8000000 in
theorem parse_place {ts : List Sel.Tk} {p : Nat} {nm : ByteArray} {ms : List Sel.Mt} {j : Nat} (h : Sel.parse ts (p : Int) = (nm, ms, j, 0)) : j ≤ ts.length := by
  unfold Sel.parse at h
  rw [if_neg (by omega), show ((p : Int)).toNat = p from rfl] at h
  exact ((Sel.selAt_range (Nat.min_le_right _ _) h).1 rfl).2.2.2

set_option maxRecDepth 100000 in
set_option maxHeartbeats 8000000 in
theorem cparse_is (A : Option Addr) (n c : Nat) (x : Int) (ts : List Sel.Tk) (nm : ByteArray) (ms : List Sel.Mt) (op v : Int) (j : Nat) (e0 : Int) (hs : Cond.parse ts x = ((nm, ms, op, v), j, e0)) (hsz : ∀ t ∈ ts, t.2.2.size ≤ 4611686018427387904) (w : World) (hG : SGlob w) (hT : Tks w w.heap.size A n c ts) :
    Calls Tryd.prog 11 #[.slice A n c, .int .i64 x] w fun e w' => ∃ A' n' c', e = .returned (.tuple #[.agg #[.string nm, .slice A' n' c', .int .i64 op, .int .i64 v], .int .i64 (j : Nat), .int .i64 e0]) ∧ Mts w' w'.heap.size A' n' c' ms ∧ Below w.heap.size w w' := by
  have hl := hT.len
  have hcap := hT.cap
  have HT := Lib.hid hT
  have HL := Lib.hid hl
  clear hT hl
  unfold Cond.parse at hs
  by_cases hx : x < 0
  · rw [if_pos hx] at hs
    injection hs with hs0 hs
    injection hs with hs5 hs6
    injection hs0 with hs1 hs0
    injection hs0 with hs2 hs0
    injection hs0 with hs3 hs4
    subst hs1 hs2 hs3 hs4 hs5 hs6
    have hd : decide (x < 0) = true := decide_eq_true hx
    clear hx
    go_enter Tryd.func11, Tryd.ntmps11
    go_wp2
    refine bodyPost_ret (v := .tuple #[.agg #[.string ⟨#[]⟩, .slice none 0 0, .int .i64 0, .int .i64 0], .int .i64 0, .int .i64 3]) (by simp [results, Tryd.results11, go_sem]) rfl ⟨none, 0, 0, rfl, mts_none _, (by repeat (first | assumption | exact Below.refl _ _ | apply Mem.below_drewN | apply Below.drew | refine Below.alloc ?_ (by first | assumption | omega | (simp; done) | (simp; omega)) _ | refine Below.setCell ?_ (by first | assumption | omega | (simp; done) | (simp; omega)) _))⟩
  · rw [if_neg hx] at hs
    obtain ⟨X, hX⟩ : ∃ X : Nat, x = X := ⟨x.toNat, by omega⟩
    subst hX
    rw [show (X : Int).toNat = X from rfl] at hs
    have hd : decide ((X : Int) < 0) = false := decide_eq_false hx
    have HS0 := Lib.hid hs
    clear hx hs
    obtain ⟨ty, fr, hg0⟩ := hG
    have hg0l := (Array.getElem?_eq_some_iff.1 hg0).1
    have HG0 := Lib.hid hg0
    clear hg0
    go_enter Tryd.func11, Tryd.ntmps11
    go_wp2
    have hB1 := (Below.refl w.heap.size w).alloc (Nat.le_refl _) (.cells exZ 26)
    have hblk := (Mem.Blk.new w 26 exZ)
    have hlt1 : w.heap.size < (w.alloc (.cells exZ 26)).heap.size := by simp
    have hsz1 : w.heap.size ≤ (w.alloc (.cells exZ 26)).heap.size := by simp
    obtain ⟨W1, hW1⟩ : ∃ W1, W1 = w.alloc (.cells exZ 26) := ⟨_, rfl⟩
    rw [← hW1] at hB1 hblk hlt1 hsz1 ⊢
    clear hW1
    have HBLK := Lib.hid hblk
    clear hblk
    have HT1 := Lib.hid ((HT.out.below hB1).more hsz1)
    go_loopw [1, 7] (fun s1 s7 wr => ∃ o p : Nat, p = X + o ∧ o ≤ 32 ∧ s1 = .int .i64 (p : Nat) ∧ s7 = .int .i64 (o : Nat) ∧ W1 = wr ∧ Cond.finish ts o (Cond.within ts (32 - o) p) = ((nm, ms, op, v), j, e0)) (fun _ s7 _ => 33 - (intOf s7).toNat)
    case atStart => exact ⟨0, X, rfl, by omega, rfl, rfl, rfl, HS0.out⟩
    case round =>
      obtain ⟨o, p, hp, ho, rfl, rfl, rfl, hq⟩ := hrel
      have HP := Lib.hid hp
      clear hp
      rcases hb : Sel.isS ts p Cond.opB with _ | _
      · rw [Cond.within_plain hb] at hq
        have HB := Lib.hid hb
        clear hb
        rcases hps : Sel.parse ts (p : Int) with ⟨nm1, ms1, j1, e1⟩
        have HPS := Lib.hid hps
        go_wp2_with fail
        refine (cis_any A n c p ts Cond.opB false HB.out _ HT1.out).mono ?_
        rintro e w' ⟨rfl, rfl⟩
        by_cases he1 : e1 = 0
        · subst he1
          rw [Cond.plain_good hps] at hq
          have HQ := Lib.hid hq
          clear hps hq
          go_wp2_with fail
          refine (parse_is A n c p ts nm1 ms1 j1 0 HPS.out _ HT1.out).mono ?_
          rintro e w2 ⟨A2, n2, c2, rfl, hM2, hb2⟩
          have hj1 : j1 ≤ n := by
            have := parse_place HPS.out
            rw [HL.out] at this
            exact this
          have hB2 := hB1.trans (hb2.mono hB1.size)
          have hz4 : Mem.Blk ((w2.alloc (.cells #[.string nm1, .slice A2 n2 c2] 24)).alloc (.cells #[.string nm1, .slice A2 n2 c2, .int .i64 0, .int .i64 0] 26)) w.heap.size 26 exZ := ((HBLK.out.below hb2 hlt1).alloc _).alloc _
          have hx4 : Mem.Blk ((w2.alloc (.cells #[.string nm1, .slice A2 n2 c2] 24)).alloc (.cells #[.string nm1, .slice A2 n2 c2, .int .i64 0, .int .i64 0] 26)) (w2.heap.size + 1) 26 #[.string nm1, .slice A2 n2 c2, .int .i64 0, .int .i64 0] := by
            simpa using Mem.Blk.new (w2.alloc (.cells #[.string nm1, .slice A2 n2 c2] 24)) 26 #[.string nm1, .slice A2 n2 c2, .int .i64 0, .int .i64 0]
          have hb4 : Below w.heap.size w ((w2.alloc (.cells #[.string nm1, .slice A2 n2 c2] 24)).alloc (.cells #[.string nm1, .slice A2 n2 c2, .int .i64 0, .int .i64 0] 26)) := (hB2.alloc hB2.size _).alloc (by have := hB2.size; simp; omega) _
          have hm4 : Mts ((w2.alloc (.cells #[.string nm1, .slice A2 n2 c2] 24)).alloc (.cells #[.string nm1, .slice A2 n2 c2, .int .i64 0, .int .i64 0] 26)) w2.heap.size A2 n2 c2 ms1 := hM2.below (((Below.refl _ w2).alloc (Nat.le_refl _) _).alloc (by simp) _)
          have hsz4 : ((w2.alloc (.cells #[.string nm1, .slice A2 n2 c2] 24)).alloc (.cells #[.string nm1, .slice A2 n2 c2, .int .i64 0, .int .i64 0] 26)).heap.size = w2.heap.size + 2 := by simp
          have hg4 := (hb4.block 0 hg0l).trans HG0.out
          have y0 := (Mem.Blk.new w2 24 #[.string nm1, .slice A2 n2 c2]).cell 0
          have y1 := (Mem.Blk.new w2 24 #[.string nm1, .slice A2 n2 c2]).cell 1
          simp at y0 y1
          have hws := hB2.size
          have hlg : w.heap.size < w2.heap.size := Nat.lt_of_lt_of_le hlt1 hb2.size
          go_wp2_with (refine wpList_load_row rfl 51 _ rfl 0 rfl ty signCells fr _ hg4 Tryd.underlying51 rfl (by kernel_rfl) ?_)
          clear y0 y1
          generalize (w2.alloc (.cells #[.string nm1, .slice A2 n2 c2] 24)).alloc (.cells #[.string nm1, .slice A2 n2 c2, .int .i64 0, .int .i64 0] 26) = w4 at hz4 hx4 hb4 hm4 hsz4 hg4 ⊢
          obtain ⟨g, hge⟩ : ∃ g, w2.heap.size + 1 = g := ⟨_, rfl⟩
          rw [hge] at hx4 ⊢
          have HGE := Lib.hid hge
          have hlg2 : w2.heap.size < g := by omega
          have hgl : g < w4.heap.size := by omega
          clear hge hsz4 hg4
          obtain ⟨ok, hok⟩ : ∃ ok, Cond.opAt ts j1 = ok := ⟨_, rfl⟩
          have hok6 : ok ≤ 6 := by rw [← hok]; exact Cond.opAt_le _ _
          have HOK := Lib.hid hok
          have HM4 := Lib.hid hm4
          have HZ4 := Lib.hid hz4
          have HB4 := Lib.hid hb4
          clear hok hm4 hz4 hb4 hB2
          go_loopw [42] (fun s42 wr => ∃ k : Nat, k ≤ 7 ∧ s42 = .int .i64 (k : Nat) ∧ Mem.Blk wr g 26 #[.string nm1, .slice A2 n2 c2, .int .i64 (Cond.seen ok k : Nat), .int .i64 0] ∧ Below g w4 wr) (fun s42 _ => 7 - (intOf s42).toNat)
          case atStart => exact ⟨0, by omega, rfl, by unfold Cond.seen; rw [if_neg (by omega)]; exact hx4, Below.refl _ _⟩
          case round =>
            obtain ⟨k, hk, rfl, hxr, hbr⟩ := hrel
            have HXR := Lib.hid hxr
            have hBr : Below w.heap.size w wr := HB4.out.trans (hbr.mono (by omega))
            have HTR := Lib.hid (show Tks wr wr.heap.size A n c ts from HT.out.later hBr)
            clear hxr
            by_cases hk7 : k < 7
            · have hdk : decide (k < 7) = true := decide_eq_true hk7
              have hidx := signs_at k hk7
              obtain ⟨k2, hk2⟩ : ∃ q, q = k + 1 := ⟨_, rfl⟩
              have hwk : IntKind.i64.wrap ((k : Int) + 1) = ((k2 : Nat) : Int) := by rw [hk2, show (k : Int) + 1 = ((k + 1 : Nat) : Int) by omega]; exact IntWalk.i64_in _ (by omega)
              have HK2 := Lib.hid hk2
              clear hk2
              by_cases hk0 : k = 0
              · have HIO := Lib.hid (show Cond.isOp (k : Int) = false by rw [hk0]; rfl)
                have HSE := Lib.hid (show Cond.seen ok k = Cond.seen ok k2 by rw [HK2.out, hk0]; unfold Cond.seen; split <;> (try split) <;> omega)
                clear hk0
                go_wp2_with fail
                refine (isOp_is (k : Int) false HIO.out _).mono ?_
                rintro e w' ⟨rfl, rfl⟩
                go_wp2
                go_roundw
                case rel => exact ⟨k2, by have := HK2.out; omega, rfl, by rw [← HSE.out]; exact HXR.out, hbr⟩
                case measure => have := HK2.out; simp [intOf]; omega
              · have HIO := Lib.hid (show Cond.isOp (k : Int) = true by unfold Cond.isOp; rw [decide_eq_true (by omega : (1 : Int) ≤ (k : Int)), decide_eq_true (by omega : (k : Int) ≤ 6)]; rfl)
                by_cases hkk : ok = k
                · have HIS := Lib.hid (show Sel.isS ts j1 (Cond.signB k) = true by rw [Cond.isS_op (by omega) (by omega), HOK.out]; exact decide_eq_true hkk)
                  have HSE := Lib.hid (show Cond.seen ok k2 = k by rw [HK2.out, hkk]; unfold Cond.seen; rw [if_pos (by omega)])
                  clear hk0 hkk
                  go_wp2_with fail
                  refine (isOp_is (k : Int) true HIO.out _).mono ?_
                  rintro e w' ⟨rfl, rfl⟩
                  go_wp2_with fail
                  refine (cis_any A n c j1 ts (Cond.signB k) true HIS.out _ HTR.out).mono ?_
                  rintro e w' ⟨rfl, rfl⟩
                  have f2 := HXR.out.frozen 2
                  have c2' := HXR.out.cell 2
                  simp at c2'
                  go_wp2
                  go_roundw
                  case rel => exact ⟨k2, by have := HK2.out; omega, rfl, by rw [HSE.out]; simpa using HXR.out.set_ 2 (.int .i64 (k : Nat)), hbr.setCell (Nat.le_refl _) _⟩
                  case measure => have := HK2.out; simp [intOf]; omega
                · have HIS := Lib.hid (show Sel.isS ts j1 (Cond.signB k) = false by rw [Cond.isS_op (by omega) (by omega), HOK.out]; exact decide_eq_false hkk)
                  have HSE := Lib.hid (show Cond.seen ok k = Cond.seen ok k2 by rw [HK2.out]; unfold Cond.seen; split <;> split <;> omega)
                  clear hk0 hkk
                  go_wp2_with fail
                  refine (isOp_is (k : Int) true HIO.out _).mono ?_
                  rintro e w' ⟨rfl, rfl⟩
                  go_wp2_with fail
                  refine (cis_any A n c j1 ts (Cond.signB k) false HIS.out _ HTR.out).mono ?_
                  rintro e w' ⟨rfl, rfl⟩
                  go_wp2
                  go_roundw
                  case rel => exact ⟨k2, by have := HK2.out; omega, rfl, by rw [← HSE.out]; exact HXR.out, hbr⟩
                  case measure => have := HK2.out; simp [intOf]; omega
            · obtain rfl : k = 7 := by omega
              have hdk : decide (7 < 7) = false := by decide
              rw [show Cond.seen ok 7 = ok by unfold Cond.seen; split <;> omega] at HXR
              have HZR := Lib.hid (HZ4.out.below hbr (Nat.lt_trans hlg hlg2))
              have hgr : g < wr.heap.size := Nat.lt_of_lt_of_le hgl hbr.size
              have HMR := Lib.hid ((HM4.out.below (hbr.mono (by omega))).more (by omega : w2.heap.size ≤ wr.heap.size))
              have HBR := Lib.hid hBr
              have c2' := HXR.out.cell 2
              simp at c2'
              clear hBr
              by_cases ho0 : ok = 0
              · have hq := HQ.out
                unfold Cond.rest at hq
                rw [HOK.out, if_pos ho0, Cond.finish_err o (Sel.wrong_ne _ _)] at hq
                injection hq with hs0 hs
                injection hs with hs5 hs6
                injection hs0 with hs1 hs0
                injection hs0 with hs2 hs0
                injection hs0 with hs3 hs4
                subst hs1 hs2 hs3 hs4 hs5 hs6
                subst ho0
                go_wp2_with fail
                refine (cwrong_any A n c j1 ts HL.out _ rfl _).mono ?_
                rintro e w' ⟨rfl, rfl⟩
                have f0 := HZR.out.frozen 0
                have f1 := HZR.out.frozen 1
                have f2 := HZR.out.frozen 2
                have f3 := HZR.out.frozen 3
                have g0 := HZR.out.cell 0
                have g1 := HZR.out.cell 1
                have g2 := HZR.out.cell 2
                have g3 := HZR.out.cell 3
                simp at g0 g1 g2 g3
                go_wp2
                have hBr := HBR.out
                have hz := (((HZR.out.set_ 0 (.string ⟨#[]⟩)).set_ 1 (.slice none 0 0)).set_ 2 (.int .i64 0)).set_ 3 (.int .i64 0)
                have z0 := hz.cell 0
                have z1 := hz.cell 1
                have z2 := hz.cell 2
                have z3 := hz.cell 3
                simp at z0 z1 z2 z3
                refine bodyPost_ret (v := .tuple #[.agg #[.string ⟨#[]⟩, .slice none 0 0, .int .i64 0, .int .i64 0], .int .i64 ((j1 : Nat)), .int .i64 (Sel.wrong ts j1)]) (by simp [results, Tryd.results11, go_sem, z0, z1, z2, z3]) rfl ⟨none, 0, 0, rfl, mts_none _, (by repeat (first | assumption | exact Below.refl _ _ | apply Mem.below_drewN | apply Below.drew | refine Below.alloc ?_ (by first | assumption | omega | (simp; done) | (simp; omega)) _ | refine Below.setCell ?_ (by first | assumption | omega | (simp; done) | (simp; omega)) _))⟩
              · have hjn : j1 < n := by
                  have := Sel.isS_lt (Cond.opAt_is ts j1 (by rw [HOK.out]; exact ho0))
                  rw [HL.out] at this
                  exact this
                have hokb : ((ok : Int) == 0) = false := by rw [beq_eq_false_iff_ne]; omega
                obtain ⟨p1, hp1⟩ : ∃ q, q = j1 + 1 := ⟨_, rfl⟩
                obtain ⟨p2, hp2⟩ : ∃ q, q = j1 + 2 := ⟨_, rfl⟩
                have hw1 : IntKind.i64.wrap ((j1 : Int) + 1) = ((p1 : Nat) : Int) := by rw [hp1, show (j1 : Int) + 1 = ((j1 + 1 : Nat) : Int) by omega]; exact IntWalk.i64_in _ (by omega)
                have hp1n : p1 ≤ n := by omega
                have hq := HQ.out
                unfold Cond.rest at hq
                rw [HOK.out, if_neg ho0, ← hp1, ← hp2] at hq
                have HP1 := Lib.hid hp1
                have HP2 := Lib.hid hp2
                clear hp1 hp2 HQ
                rcases hk : Sel.isK ts p1 2 with _ | _
                · rw [hk, if_pos rfl, Cond.finish_err o (Sel.wrong_ne _ _)] at hq
                  injection hq with hs0 hs
                  injection hs with hs5 hs6
                  injection hs0 with hs1 hs0
                  injection hs0 with hs2 hs0
                  injection hs0 with hs3 hs4
                  subst hs1 hs2 hs3 hs4 hs5 hs6
                  by_cases hpl : p1 < n
                  · obtain ⟨b, off, t, rfl, hbB, ht, -, h0, -, h2⟩ := HTR.out.at_ hpl
                    rw [Sel.isK_some ht] at hk
                    have hd1 : decide (n ≤ p1) = false := decide_eq_false (by omega)
                    obtain ⟨tk, hto⟩ : ∃ q, t.1 = q := ⟨_, rfl⟩
                    rw [hto] at hk h0
                    have hkn : ¬ tk = 2 := by simpa using hk
                    clear ht hto h2 hk
                    go_wp2_with fail
                    refine (cwrong_any _ n c p1 ts HL.out _ rfl _).mono ?_
                    rintro e w' ⟨rfl, rfl⟩
                    have f0 := HZR.out.frozen 0
                    have f1 := HZR.out.frozen 1
                    have f2 := HZR.out.frozen 2
                    have f3 := HZR.out.frozen 3
                    have g0 := HZR.out.cell 0
                    have g1 := HZR.out.cell 1
                    have g2 := HZR.out.cell 2
                    have g3 := HZR.out.cell 3
                    simp at g0 g1 g2 g3
                    go_wp2
                    have hBr := HBR.out
                    have hz := (((HZR.out.set_ 0 (.string ⟨#[]⟩)).set_ 1 (.slice none 0 0)).set_ 2 (.int .i64 0)).set_ 3 (.int .i64 0)
                    have z0 := hz.cell 0
                    have z1 := hz.cell 1
                    have z2 := hz.cell 2
                    have z3 := hz.cell 3
                    simp at z0 z1 z2 z3
                    refine bodyPost_ret (v := .tuple #[.agg #[.string ⟨#[]⟩, .slice none 0 0, .int .i64 0, .int .i64 0], .int .i64 ((p1 : Nat)), .int .i64 (Sel.wrong ts p1)]) (by simp [results, Tryd.results11, go_sem, z0, z1, z2, z3]) rfl ⟨none, 0, 0, rfl, mts_none _, (by repeat (first | assumption | exact Below.refl _ _ | apply Mem.below_drewN | apply Below.drew | refine Below.alloc ?_ (by first | assumption | omega | (simp; done) | (simp; omega)) _ | refine Below.setCell ?_ (by first | assumption | omega | (simp; done) | (simp; omega)) _))⟩
                  · have hd1 : decide (n ≤ p1) = true := decide_eq_true (by omega)
                    clear hk
                    go_wp2_with fail
                    refine (cwrong_any A n c p1 ts HL.out _ rfl _).mono ?_
                    rintro e w' ⟨rfl, rfl⟩
                    have f0 := HZR.out.frozen 0
                    have f1 := HZR.out.frozen 1
                    have f2 := HZR.out.frozen 2
                    have f3 := HZR.out.frozen 3
                    have g0 := HZR.out.cell 0
                    have g1 := HZR.out.cell 1
                    have g2 := HZR.out.cell 2
                    have g3 := HZR.out.cell 3
                    simp at g0 g1 g2 g3
                    go_wp2
                    have hBr := HBR.out
                    have hz := (((HZR.out.set_ 0 (.string ⟨#[]⟩)).set_ 1 (.slice none 0 0)).set_ 2 (.int .i64 0)).set_ 3 (.int .i64 0)
                    have z0 := hz.cell 0
                    have z1 := hz.cell 1
                    have z2 := hz.cell 2
                    have z3 := hz.cell 3
                    simp at z0 z1 z2 z3
                    refine bodyPost_ret (v := .tuple #[.agg #[.string ⟨#[]⟩, .slice none 0 0, .int .i64 0, .int .i64 0], .int .i64 ((p1 : Nat)), .int .i64 (Sel.wrong ts p1)]) (by simp [results, Tryd.results11, go_sem, z0, z1, z2, z3]) rfl ⟨none, 0, 0, rfl, mts_none _, (by repeat (first | assumption | exact Below.refl _ _ | apply Mem.below_drewN | apply Below.drew | refine Below.alloc ?_ (by first | assumption | omega | (simp; done) | (simp; omega)) _ | refine Below.setCell ?_ (by first | assumption | omega | (simp; done) | (simp; omega)) _))⟩
                · have hpl := Sel.isK_lt hk
                  rw [HL.out] at hpl
                  rw [hk, if_neg (by decide)] at hq
                  obtain ⟨b, off, t, rfl, hbB, ht, -, h0, -, h2⟩ := HTR.out.at_ hpl
                  rw [Sel.isK_some ht] at hk
                  have hd1 : decide (n ≤ p1) = false := decide_eq_false (by omega)
                  have hk2 : t.1 = 2 := by simpa using hk
                  rw [hk2] at h0
                  rw [Sel.sOf_some ht] at hq
                  have hszt := hsz t (List.mem_of_getElem? ht)
                  obtain ⟨tx, htx⟩ : ∃ q, t.2.2 = q := ⟨_, rfl⟩
                  rw [htx] at hq h2 hszt
                  rcases hnp : Num.parse (Num.bl tx) with ⟨vv, ff⟩
                  rw [hnp] at hq
                  simp only at hq
                  have HNP := Lib.hid hnp
                  clear ht htx hk2 hk hnp
                  have c3' := HXR.out.frozen 3
                  by_cases hff : ff = 0
                  · subst hff
                    rw [if_neg (fun h => h rfl)] at hq
                    have HQ := Lib.hid hq
                    clear hq
                    go_wp2_with fail
                    refine (numParse_is tx hszt _ vv 0 HNP.out).mono ?_
                    rintro e w5 ⟨rfl, hb5⟩
                    have hm6 : Mts (w5.setCell ⟨g, 3, none⟩ (.int .i64 vv)) g A2 n2 c2 ms1 := (((HM4.out.below (hbr.mono (by omega))).more (by omega : w2.heap.size ≤ g)).below (hb5.mono (Nat.le_of_lt hgr))).below ((Below.refl g w5).setCell (Nat.le_refl _) _)
                    have hx5 := HXR.out.below hb5 hgr
                    have hB5 := HBR.out.trans (hb5.mono HBR.out.size)
                    have hz6 := (HZR.out.below hb5 (Nat.lt_trans (Nat.lt_trans hlg hlg2) hgr)).far (p := ⟨g, 3, none⟩) (Nat.ne_of_lt (Nat.lt_trans hlg hlg2)) (.int .i64 vv)
                    have hx6 := hx5.set_ 3 (.int .i64 vv)
                    have hB6 := hB5.setCell (p := ⟨g, 3, none⟩) (Nat.le_of_lt (Nat.lt_trans hlg hlg2)) (.int .i64 vv)
                    have hfx := hx5.frozen 3
                    have hcx := hx5.cell 3
                    simp at hcx
                    have hgl6 : g < (w5.setCell ⟨g, 3, none⟩ (.int .i64 vv)).heap.size := by have := hb5.size; simp; omega
                    have hw2 : IntKind.i64.wrap ((p1 : Int) + 1) = ((p2 : Nat) : Int) := by rw [HP2.out, show (p1 : Int) + 1 = ((j1 + 2 : Nat) : Int) by have := HP1.out; omega]; exact IntWalk.i64_in _ (by have := HP1.out; omega)
                    go_wp2_with fail
                    simp only [Array.setIfInBounds, List.setIfInBounds_toArray, List.set_cons_succ, List.set_cons_zero] at hx6
                    generalize w5.setCell ⟨g, 3, none⟩ (.int .i64 vv) = w6 at hz6 hx6 hB6 hm6 hgl6 ⊢
                    have HX6 := Lib.hid hx6
                    have HZ6 := Lib.hid hz6
                    have HM6 := Lib.hid hm6
                    have HB6 := Lib.hid hB6
                    have HT6 := Lib.hid (HT.out.later hB6)
                    have hp2n : p2 ≤ n := by have := HP1.out; have := HP2.out; omega
                    clear hfx hcx hx5 hB5 hb5 hx6 hz6 hm6 hB6 c2' c3' h0 h2 hx4
                    go_loopw [1, 102] (fun s1 s102 wq => ∃ d q : Nat, d ≤ o ∧ q = p2 + d ∧ q ≤ n ∧ s1 = .int .i64 (q : Nat) ∧ s102 = .int .i64 (d : Nat) ∧ w6 = wq ∧ Cond.finish ts (o - d) ((nm1, ms1, (ok : Int), vv), q, 0) = ((nm, ms, op, v), j, e0)) (fun _ s102 _ => o - (intOf s102).toNat)
                    case atStart => exact ⟨0, p2, by omega, rfl, hp2n, rfl, rfl, rfl, HQ.out⟩
                    case round =>
                      obtain ⟨d, q, hdo, hqe, hqn, rfl, rfl, rfl, hq⟩ := hrel
                      have HQE := Lib.hid hqe
                      clear hqe
                      by_cases hlt : d < o
                      · have hdl : decide (d < o) = true := decide_eq_true hlt
                        obtain ⟨d2, hd2⟩ : ∃ y, y = d + 1 := ⟨_, rfl⟩
                        obtain ⟨q2, hq2⟩ : ∃ y, y = q + 1 := ⟨_, rfl⟩
                        rw [show o - d = (o - d2) + 1 by omega] at hq
                        unfold Cond.finish at hq
                        rcases hc : Sel.isS ts q Cond.clB with _ | _
                        · rw [Cond.close_no hc, Cond.finish_err _ (Sel.wrong_ne _ _)] at hq
                          injection hq with hs0 hs
                          injection hs with hs5 hs6
                          injection hs0 with hs1 hs0
                          injection hs0 with hs2 hs0
                          injection hs0 with hs3 hs4
                          subst hs1 hs2 hs3 hs4 hs5 hs6
                          have HC := Lib.hid hc
                          clear hc hd2 hq2
                          go_wp2_with fail
                          refine (cis_any _ n c q ts Cond.clB false HC.out _ HT6.out).mono ?_
                          rintro e w' ⟨rfl, rfl⟩
                          go_wp2_with fail
                          refine (cwrong_any _ n c q ts HL.out _ rfl _).mono ?_
                          rintro e w' ⟨rfl, rfl⟩
                          have f0 := HZ6.out.frozen 0
                          have f1 := HZ6.out.frozen 1
                          have f2 := HZ6.out.frozen 2
                          have f3 := HZ6.out.frozen 3
                          have g0 := HZ6.out.cell 0
                          have g1 := HZ6.out.cell 1
                          have g2 := HZ6.out.cell 2
                          have g3 := HZ6.out.cell 3
                          simp at g0 g1 g2 g3
                          go_wp2
                          have hBr := HB6.out
                          have hz := (((HZ6.out.set_ 0 (.string ⟨#[]⟩)).set_ 1 (.slice none 0 0)).set_ 2 (.int .i64 0)).set_ 3 (.int .i64 0)
                          have z0 := hz.cell 0
                          have z1 := hz.cell 1
                          have z2 := hz.cell 2
                          have z3 := hz.cell 3
                          simp at z0 z1 z2 z3
                          refine bodyPost_ret (v := .tuple #[.agg #[.string ⟨#[]⟩, .slice none 0 0, .int .i64 0, .int .i64 0], .int .i64 ((q : Nat)), .int .i64 (Sel.wrong ts q)]) (by simp [results, Tryd.results11, go_sem, z0, z1, z2, z3]) rfl ⟨none, 0, 0, rfl, mts_none _, (by repeat (first | assumption | exact Below.refl _ _ | apply Mem.below_drewN | apply Below.drew | refine Below.alloc ?_ (by first | assumption | omega | (simp; done) | (simp; omega)) _ | refine Below.setCell ?_ (by first | assumption | omega | (simp; done) | (simp; omega)) _))⟩
                        · rw [Cond.close_ok hc, ← hq2] at hq
                          have hqn2 := Sel.isS_lt hc
                          rw [HL.out] at hqn2
                          have hwq : IntKind.i64.wrap ((q : Int) + 1) = ((q2 : Nat) : Int) := by rw [hq2, show (q : Int) + 1 = ((q + 1 : Nat) : Int) by omega]; exact IntWalk.i64_in _ (by omega)
                          have hwd : IntKind.i64.wrap ((d : Int) + 1) = ((d2 : Nat) : Int) := by rw [hd2, show (d : Int) + 1 = ((d + 1 : Nat) : Int) by omega]; exact IntWalk.i64_in _ (by omega)
                          have HC := Lib.hid hc
                          have HD2 := Lib.hid hd2
                          have HQ2 := Lib.hid hq2
                          have HQQ := Lib.hid hq
                          clear hc hd2 hq2 hq
                          go_wp2_with fail
                          refine (cis_any _ n c q ts Cond.clB true HC.out _ HT6.out).mono ?_
                          rintro e w' ⟨rfl, rfl⟩
                          go_wp2
                          go_roundw
                          case rel => exact ⟨d2, q2, by have := HD2.out; omega, by have := HD2.out; have := HQ2.out; have := HQE.out; omega, by have := HQ2.out; omega, rfl, rfl, by first | rfl | trivial, HQQ.out⟩
                          case measure => have := HD2.out; simp [intOf]; omega
                      · obtain rfl : d = o := by omega
                        have hdl : decide (d < d) = false := decide_eq_false (by omega)
                        rw [Nat.sub_self] at hq
                        unfold Cond.finish at hq
                        injection hq with hs0 hs
                        injection hs with hs5 hs6
                        injection hs0 with hs1 hs0
                        injection hs0 with hs2 hs0
                        injection hs0 with hs3 hs4
                        subst hs1 hs2 hs3 hs4 hs5 hs6
                        have x0 := HX6.out.cell 0
                        have x1 := HX6.out.cell 1
                        have x2 := HX6.out.cell 2
                        have x3 := HX6.out.cell 3
                        simp at x0 x1 x2 x3
                        have f0 := HZ6.out.frozen 0
                        have f1 := HZ6.out.frozen 1
                        have f2 := HZ6.out.frozen 2
                        have f3 := HZ6.out.frozen 3
                        have g0 := HZ6.out.cell 0
                        have g1 := HZ6.out.cell 1
                        have g2 := HZ6.out.cell 2
                        have g3 := HZ6.out.cell 3
                        simp at g0 g1 g2 g3
                        go_wp2
                        have hz := (((HZ6.out.set_ 0 (.string nm1)).set_ 1 (.slice A2 n2 c2)).set_ 2 (.int .i64 (ok : Int))).set_ 3 (.int .i64 vv)
                        have z0 := hz.cell 0
                        have z1 := hz.cell 1
                        have z2 := hz.cell 2
                        have z3 := hz.cell 3
                        simp at z0 z1 z2 z3
                        have hmz := mts_far (W' := (((w6.setCell ⟨w.heap.size, 0, none⟩ (.string nm1)).setCell ⟨w.heap.size, 1, none⟩ (.slice A2 n2 c2)).setCell ⟨w.heap.size, 2, none⟩ (.int .i64 (ok : Int))).setCell ⟨w.heap.size, 3, none⟩ (.int .i64 vv)) HM6.out HZ6.out (fun b o hb => by rw [World.cell?_setCell_other _ _ _ _ (by intro e; cases e; exact hb rfl), World.cell?_setCell_other _ _ _ _ (by intro e; cases e; exact hb rfl), World.cell?_setCell_other _ _ _ _ (by intro e; cases e; exact hb rfl), World.cell?_setCell_other _ _ _ _ (by intro e; cases e; exact hb rfl)])
                        have hBz := HB6.out
                        refine bodyPost_ret (v := .tuple #[.agg #[.string nm1, .slice A2 n2 c2, .int .i64 (ok : Int), .int .i64 vv], .int .i64 (q : Nat), .int .i64 0]) (by simp [results, Tryd.results11, go_sem, z0, z1, z2, z3]) rfl ⟨A2, n2, c2, rfl, hmz.more (by simp; omega), (by repeat (first | assumption | exact Below.refl _ _ | apply Mem.below_drewN | apply Below.drew | refine Below.alloc ?_ (by first | assumption | omega | (simp; done) | (simp; omega)) _ | refine Below.setCell ?_ (by first | assumption | omega | (simp; done) | (simp; omega)) _))⟩
                  · rw [if_pos hff, Cond.finish_err o hff] at hq
                    injection hq with hs0 hs
                    injection hs with hs5 hs6
                    injection hs0 with hs1 hs0
                    injection hs0 with hs2 hs0
                    injection hs0 with hs3 hs4
                    subst hs1 hs2 hs3 hs4 hs5 hs6
                    go_wp2_with fail
                    refine (numParse_is tx hszt _ vv ff HNP.out).mono ?_
                    rintro e w5 ⟨rfl, hb5⟩
                    have hx5 := HXR.out.below hb5 hgr
                    have hB5 := HBR.out.trans (hb5.mono HBR.out.size)
                    have hz6 := (HZR.out.below hb5 (Nat.lt_trans (Nat.lt_trans hlg hlg2) hgr)).far (p := ⟨g, 3, none⟩) (Nat.ne_of_lt (Nat.lt_trans hlg hlg2)) (.int .i64 vv)
                    have hx6 := hx5.set_ 3 (.int .i64 vv)
                    have hB6 := hB5.setCell (p := ⟨g, 3, none⟩) (Nat.le_of_lt (Nat.lt_trans hlg hlg2)) (.int .i64 vv)
                    have hfx := hx5.frozen 3
                    have hcx := hx5.cell 3
                    simp at hcx
                    have f0 := hz6.frozen 0
                    have f1 := hz6.frozen 1
                    have f2 := hz6.frozen 2
                    have f3 := hz6.frozen 3
                    have g0 := hz6.cell 0
                    have g1 := hz6.cell 1
                    have g2 := hz6.cell 2
                    have g3 := hz6.cell 3
                    simp at g0 g1 g2 g3
                    go_wp2
                    have hz := (((hz6.set_ 0 (.string ⟨#[]⟩)).set_ 1 (.slice none 0 0)).set_ 2 (.int .i64 0)).set_ 3 (.int .i64 0)
                    have z0 := hz.cell 0
                    have z1 := hz.cell 1
                    have z2 := hz.cell 2
                    have z3 := hz.cell 3
                    simp at z0 z1 z2 z3
                    refine bodyPost_ret (v := .tuple #[.agg #[.string ⟨#[]⟩, .slice none 0 0, .int .i64 0, .int .i64 0], .int .i64 ((p1 : Nat)), .int .i64 (ff)]) (by simp [results, Tryd.results11, go_sem, z0, z1, z2, z3]) rfl ⟨none, 0, 0, rfl, mts_none _, (by repeat (first | assumption | exact Below.refl _ _ | apply Mem.below_drewN | apply Below.drew | refine Below.alloc ?_ (by first | assumption | omega | (simp; done) | (simp; omega)) _ | refine Below.setCell ?_ (by first | assumption | omega | (simp; done) | (simp; omega)) _))⟩
        · rw [Cond.plain_bad hps he1, Cond.finish_err o he1] at hq
          injection hq with hs0 hs
          injection hs with hs5 hs6
          injection hs0 with hs1 hs0
          injection hs0 with hs2 hs0
          injection hs0 with hs3 hs4
          subst hs1 hs2 hs3 hs4 hs5 hs6
          clear hps
          go_wp2_with fail
          refine (parse_is A n c p ts nm1 ms1 j1 e1 HPS.out _ HT1.out).mono ?_
          rintro e w2 ⟨A2, n2, c2, rfl, hM2, hb2⟩
          have hz2 : Mem.Blk (w2.alloc (.cells #[.string nm1, .slice A2 n2 c2] 24)) w.heap.size 26 exZ := (HBLK.out.below hb2 hlt1).alloc _
          have hb3 : Below w.heap.size w (w2.alloc (.cells #[.string nm1, .slice A2 n2 c2] 24)) := (hB1.trans (hb2.mono hB1.size)).alloc ((hB1.trans (hb2.mono hB1.size)).size) _
          have f0 := hz2.frozen 0
          have f1 := hz2.frozen 1
          have f2 := hz2.frozen 2
          have f3 := hz2.frozen 3
          have g0 := hz2.cell 0
          have g1 := hz2.cell 1
          have g2 := hz2.cell 2
          have g3 := hz2.cell 3
          simp at g0 g1 g2 g3
          go_wp2
          have hz := (((hz2.set_ 0 (.string ⟨#[]⟩)).set_ 1 (.slice none 0 0)).set_ 2 (.int .i64 0)).set_ 3 (.int .i64 0)
          have z0 := hz.cell 0
          have z1 := hz.cell 1
          have z2 := hz.cell 2
          have z3 := hz.cell 3
          simp at z0 z1 z2 z3
          refine bodyPost_ret (v := .tuple #[.agg #[.string ⟨#[]⟩, .slice none 0 0, .int .i64 0, .int .i64 0], .int .i64 ((j1 : Nat)), .int .i64 (e1)]) (by simp [results, Tryd.results11, go_sem, z0, z1, z2, z3]) rfl ⟨none, 0, 0, rfl, mts_none _, (by repeat (first | assumption | exact Below.refl _ _ | apply Mem.below_drewN | apply Below.drew | refine Below.alloc ?_ (by first | assumption | omega | (simp; done) | (simp; omega)) _ | refine Below.setCell ?_ (by first | assumption | omega | (simp; done) | (simp; omega)) _))⟩
      · have hpn := Sel.isS_lt hb
        rw [HL.out] at hpn
        have HB := Lib.hid hb
        by_cases h32 : o = 32
        · subst h32
          rw [Cond.within_deep hb, Cond.finish_err 32 (by decide)] at hq
          injection hq with hs0 hs
          injection hs with hs5 hs6
          injection hs0 with hs1 hs0
          injection hs0 with hs2 hs0
          injection hs0 with hs3 hs4
          subst hs1 hs2 hs3 hs4 hs5 hs6
          clear hb
          go_wp2_with fail
          refine (cis_any A n c p ts Cond.opB true HB.out _ HT1.out).mono ?_
          rintro e w' ⟨rfl, rfl⟩
          have f0 := HBLK.out.frozen 0
          have f1 := HBLK.out.frozen 1
          have f2 := HBLK.out.frozen 2
          have f3 := HBLK.out.frozen 3
          have g0 := HBLK.out.cell 0
          have g1 := HBLK.out.cell 1
          have g2 := HBLK.out.cell 2
          have g3 := HBLK.out.cell 3
          simp at g0 g1 g2 g3
          go_wp2
          have hz := (((HBLK.out.set_ 0 (.string ⟨#[]⟩)).set_ 1 (.slice none 0 0)).set_ 2 (.int .i64 0)).set_ 3 (.int .i64 0)
          have z0 := hz.cell 0
          have z1 := hz.cell 1
          have z2 := hz.cell 2
          have z3 := hz.cell 3
          simp at z0 z1 z2 z3
          refine bodyPost_ret (v := .tuple #[.agg #[.string ⟨#[]⟩, .slice none 0 0, .int .i64 0, .int .i64 0], .int .i64 ((p : Nat)), .int .i64 (8)]) (by simp [results, Tryd.results11, go_sem, z0, z1, z2, z3]) rfl ⟨none, 0, 0, rfl, mts_none _, (by repeat (first | assumption | exact Below.refl _ _ | apply Mem.below_drewN | apply Below.drew | refine Below.alloc ?_ (by first | assumption | omega | (simp; done) | (simp; omega)) _ | refine Below.setCell ?_ (by first | assumption | omega | (simp; done) | (simp; omega)) _))⟩
        · have hp2 : (p : Nat) + 1 ≤ n := hpn
          obtain ⟨p2, hp2e⟩ : ∃ q, q = p + 1 := ⟨_, rfl⟩
          obtain ⟨o2, ho2e⟩ : ∃ q, q = o + 1 := ⟨_, rfl⟩
          have hw1 : IntKind.i64.wrap ((p : Int) + 1) = ((p2 : Nat) : Int) := by rw [hp2e, show (p : Int) + 1 = ((p + 1 : Nat) : Int) by omega]; exact IntWalk.i64_in _ (by omega)
          have hw2 : IntKind.i64.wrap ((o : Int) + 1) = ((o2 : Nat) : Int) := by rw [ho2e, show (o : Int) + 1 = ((o + 1 : Nat) : Int) by omega]; exact IntWalk.i64_in _ (by omega)
          have hno : ((o : Int) == 32) = false := by rw [beq_eq_false_iff_ne]; omega
          rw [show 32 - o = (32 - o2) + 1 by omega, Cond.within_open hb, ← hp2e] at hq
          have HQ := Lib.hid (show Cond.finish ts o2 (Cond.within ts (32 - o2) p2) = ((nm, ms, op, v), j, e0) by rw [ho2e] at hq ⊢; exact hq)
          have HPE := Lib.hid hp2e
          have HOE := Lib.hid ho2e
          clear hb hq hp2e ho2e
          go_wp2_with fail
          refine (cis_any A n c p ts Cond.opB true HB.out _ HT1.out).mono ?_
          rintro e w' ⟨rfl, rfl⟩
          go_wp2
          go_roundw
          case rel => exact ⟨o2, p2, by have := HPE.out; have := HOE.out; have := HP.out; omega, by have := HOE.out; omega, rfl, rfl, by first | rfl | trivial, HQ.out⟩
          case measure => have := HOE.out; simp [intOf]; omega
end Go.Proofs.YtbdochcajpempaaDoor
