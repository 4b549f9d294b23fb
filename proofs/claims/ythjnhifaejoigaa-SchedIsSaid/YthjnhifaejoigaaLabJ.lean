/- The walks of the references' Few: each says something, true or false. -/
import Derived.Test.YthjnhifaejoigaaLabI
import Derived.Deep.LoopGhost
namespace Go.Proofs.Ythjnhifaejoigaa
open Go.RowKit
set_option linter.unusedSimpArgs false
set_option linter.unusedVariables false

/-- it says true or false, and nothing that lay has turned -/
def SomeB (w : World) (e : Ending) (w' : World) : Prop := ∃ b : Bool, e = .returned (.bool b) ∧ Below w.heap.size w w'
def Cnt (x : Value) : Prop := ∃ i : Int, x = .int .i64 i

set_option maxRecDepth 100000 in
set_option maxHeartbeats 4000000 in
theorem few03_any (A : Option Addr) (n c : Nat) (xs : List Lab.Pr) (w : World) (h : Prs w w.heap.size A n c xs) :
    Calls Try.prog 29 #[.slice A n c] w (SomeB w) := by
  have hl := h.len
  have hcap := Nat.le_trans h.1.2.1 h.1.2.2.1
  have HL := Lib.hid hl
  have HH := Lib.hid h
  clear h hl
  go_enter Try.func29, Try.ntmps29
  go_wp2
  go_loopw [3, 4] (fun s3 s4 wr => ∃ k : Nat, k ≤ n ∧ s4 = .int .i64 (k : Nat) ∧ Cnt s3 ∧ Below w.heap.size w wr) (fun _ s4 _ => n - (intOf s4).toNat)
  case atStart => exact ⟨0, Nat.zero_le _, rfl, ⟨_, rfl⟩, Below.refl _ _⟩
  case round =>
    obtain ⟨k, hk, rfl, ⟨x, rfl⟩, hb⟩ := hrel
    by_cases hlt : k < n
    · have hdk : decide (k < n) = true := decide_eq_true hlt
      obtain ⟨b, off, rfl, hbB, hcell⟩ := HH.out.at_ hlt
      obtain ⟨p, hp⟩ : ∃ p, xs[k]? = some p := ⟨_, List.getElem?_eq_getElem (by rw [HL.out]; exact hlt)⟩
      have h1 := (hb.cell (p := ⟨b, off + k * 2, none⟩) hbB).trans (hcell k p hp).1
      have h2 := (hb.cell (p := ⟨b, off + k * 2 + 1, none⟩) hbB).trans (hcell k p hp).2
      clear hcell hp
      go_wp2
      go_quiet (fail)
      go_wp2
      go_roundw
      case rel => exact ⟨k + 1, by omega, by go_num, ⟨_, rfl⟩, (by repeat (first | assumption | exact Below.refl _ _ | apply Mem.below_drewN | apply Below.drew | refine Below.alloc ?_ (by first | assumption | omega | (simp; done) | (simp; omega)) _ | refine Below.setCell ?_ (by first | assumption | omega | (simp; done) | (simp; omega)) _))⟩
      case measure => simp [intOf]; omega
    · obtain rfl : k = n := by omega
      have hdk : decide (k < k) = false := decide_eq_false (by omega)
      rcases hd1 : decide ((k : Int) ≤ 40) with _ | _
      · go_wp2
        go_ret
        exact ⟨_, rfl, hb⟩
      · rcases hd2 : decide (x ≤ 3000) with _ | _
        all_goals
          go_wp2
          go_ret
          exact ⟨_, rfl, hb⟩

set_option maxRecDepth 100000 in
set_option maxHeartbeats 4000000 in
theorem few08_any (nm : ByteArray) (A : Option Addr) (n c : Nat) (xs : List Lab.Mt) (w : World) (h : Mts w w.heap.size A n c xs) :
    Calls Try.prog 28 #[.agg #[.string nm, .slice A n c]] w (SomeB w) := by
  have hl := h.len
  have hcap := Nat.le_trans h.1.2.1 h.1.2.2.1
  have HL := Lib.hid hl
  have HH := Lib.hid h
  clear h hl
  go_enter Try.func28, Try.ntmps28
  go_wp2
  have hB1 := (Below.refl w.heap.size w).alloc (Nat.le_refl _) (.cells #[.string nm, .slice A n c] 43)
  have hblk := (Mem.Blk.new w 43 #[.string nm, .slice A n c])
  have hlt1 : w.heap.size < (w.alloc (.cells #[.string nm, .slice A n c] 43)).heap.size := by simp
  have hsz1 : w.heap.size ≤ (w.alloc (.cells #[.string nm, .slice A n c] 43)).heap.size := by simp
  obtain ⟨W1, hW1⟩ : ∃ W1, W1 = w.alloc (.cells #[.string nm, .slice A n c] 43) := ⟨_, rfl⟩
  rw [← hW1] at hB1 hblk hlt1 hsz1 ⊢
  clear hW1
  have HBLK := Lib.hid hblk
  clear hblk
  go_loopw [3, 4] (fun s3 s4 wr => ∃ k : Nat, k ≤ n ∧ s4 = .int .i64 (k : Nat) ∧ Cnt s3 ∧ Below W1.heap.size W1 wr) (fun _ s4 _ => n - (intOf s4).toNat)
  case atStart => exact ⟨0, Nat.zero_le _, rfl, ⟨_, rfl⟩, Below.refl _ _⟩
  case round =>
    obtain ⟨k, hk, rfl, ⟨x, rfl⟩, hb1⟩ := hrel
    have hb := hB1.trans (hb1.mono hB1.size)
    have x1 : wr.cell? ⟨w.heap.size, 1, none⟩ = some (.slice A n c) := (hb1.cell (p := ⟨w.heap.size, 1, none⟩) hlt1).trans (HBLK.out.cell 1)
    by_cases hlt : k < n
    · have hdk : decide (k < n) = true := decide_eq_true hlt
      obtain ⟨b, off, rfl, hbB, hcell⟩ := HH.out.at_ hlt
      obtain ⟨p, hp⟩ : ∃ p, xs[k]? = some p := ⟨_, List.getElem?_eq_getElem (by rw [HL.out]; exact hlt)⟩
      have h1 := (hb.cell (p := ⟨b, off + k * 3, none⟩) hbB).trans (hcell k p hp).1
      have h2 := (hb.cell (p := ⟨b, off + k * 3 + 1, none⟩) hbB).trans (hcell k p hp).2.1
      clear hcell hp
      go_wp2
      go_quiet (fail)
      go_wp2
      go_roundw
      case rel => exact ⟨k + 1, by omega, by go_num, ⟨_, rfl⟩, Mem.below_drewN hb1 _⟩
      case measure => simp [intOf]; omega
    · obtain rfl : k = n := by omega
      have hdk : decide (k < k) = false := decide_eq_false (by omega)
      rcases hd1 : decide ((k : Int) ≤ 40) with _ | _
      · go_wp2
        go_ret
        exact ⟨_, rfl, hb⟩
      · rcases hd2 : decide (x ≤ 3000) with _ | _
        all_goals
          go_wp2
          go_ret
          exact ⟨_, rfl, hb⟩

set_option maxRecDepth 100000 in
set_option maxHeartbeats 4000000 in
theorem few10_any (r : Lab.Ru) (w : World) (h : RuIn w w.heap.size r) :
    Calls Try.prog 21 #[.agg #[.string r.nm, .string r.sn, .slice r.MA r.Mn r.Mc, .int .i64 r.op, .int .i64 r.v, .int .i64 r.fo, .int .i64 r.ke, .slice r.LA r.Ln r.Lc]] w (SomeB w) := by
  have HH := Lib.hid h
  clear h
  rcases hd1 : decide ((r.nm.size : Int) ≤ 200) with _ | _
  · go_enter Try.func21, Try.ntmps21
    go_wp2
    go_ret
    exact ⟨_, rfl, (by repeat (first | assumption | exact Below.refl _ _ | apply Mem.below_drewN | apply Below.drew | refine Below.alloc ?_ (by first | assumption | omega | (simp; done) | (simp; omega)) _ | refine Below.setCell ?_ (by first | assumption | omega | (simp; done) | (simp; omega)) _))⟩
  · go_enter Try.func21, Try.ntmps21
    go_wp2_with fail
    have hB1 := (Below.refl w.heap.size w).alloc (Nat.le_refl _) (.cells #[.string r.nm, .string r.sn, .slice r.MA r.Mn r.Mc, .int .i64 r.op, .int .i64 r.v, .int .i64 r.fo, .int .i64 r.ke, .slice r.LA r.Ln r.Lc] 48)
    have hblk := (Mem.Blk.new w 48 #[.string r.nm, .string r.sn, .slice r.MA r.Mn r.Mc, .int .i64 r.op, .int .i64 r.v, .int .i64 r.fo, .int .i64 r.ke, .slice r.LA r.Ln r.Lc])
    have hlt1 : w.heap.size < (w.alloc (.cells #[.string r.nm, .string r.sn, .slice r.MA r.Mn r.Mc, .int .i64 r.op, .int .i64 r.v, .int .i64 r.fo, .int .i64 r.ke, .slice r.LA r.Ln r.Lc] 48)).heap.size := by simp
    have hsz1 : w.heap.size ≤ (w.alloc (.cells #[.string r.nm, .string r.sn, .slice r.MA r.Mn r.Mc, .int .i64 r.op, .int .i64 r.v, .int .i64 r.fo, .int .i64 r.ke, .slice r.LA r.Ln r.Lc] 48)).heap.size := by simp
    obtain ⟨W1, hW1⟩ : ∃ W1, W1 = w.alloc (.cells #[.string r.nm, .string r.sn, .slice r.MA r.Mn r.Mc, .int .i64 r.op, .int .i64 r.v, .int .i64 r.fo, .int .i64 r.ke, .slice r.LA r.Ln r.Lc] 48) := ⟨_, rfl⟩
    rw [← hW1] at hB1 hblk hlt1 hsz1 ⊢
    clear hW1
    have HBLK := Lib.hid hblk
    clear hblk
    refine (few08_any r.sn r.MA r.Mn r.Mc r.ms W1 ((HH.out.1.below hB1).more hsz1)).mono ?_
    rintro e w2 ⟨b, rfl, hb2⟩
    have hB2 := hB1.trans (hb2.mono hB1.size)
    rcases b with _ | _
    · go_wp2
      go_ret
      exact ⟨_, rfl, hB2⟩
    · have x7 : w2.cell? ⟨w.heap.size, 7, none⟩ = some (.slice r.LA r.Ln r.Lc) := (hb2.cell (p := ⟨w.heap.size, 7, none⟩) hlt1).trans (HBLK.out.cell 7)
      go_wp2_with fail
      refine (few03_any r.LA r.Ln r.Lc r.ls w2 ((HH.out.2.1.below hB2).more hB2.size)).mono ?_
      rintro e w3 ⟨b, rfl, hb3⟩
      rcases b with _ | _
      all_goals
        go_wp2
        go_ret
        exact ⟨_, rfl, hB2.trans (hb3.mono hB2.size)⟩

set_option maxRecDepth 100000 in
set_option maxHeartbeats 8000000 in
theorem few11_any (A : Option Addr) (n c : Nat) (gs : List Lab.Gr) (w : World) (h : FiIn w w.heap.size A n c gs) :
    Calls Try.prog 10 #[.slice A n c] w (SomeB w) := by
  have hl := h.1.1
  have hcap := Nat.le_trans h.1.2.1 h.1.2.2.1
  have HH := Lib.hid h
  have HL := Lib.hid hl
  clear h hl
  go_enter Try.func10, Try.ntmps10
  go_wp2
  go_loopg [3] n (fun g s3 wr => ∃ k : Nat, g + k = n ∧ s3 = .int .i64 (k : Nat) ∧ Below w.heap.size w wr)
  case atStart => exact ⟨0, by omega, rfl, Below.refl _ _⟩
  case round =>
    obtain ⟨k, hgk, rfl, hb⟩ := hrel
    by_cases hlt : k < n
    · have hdk : decide (k < n) = true := decide_eq_true hlt
      obtain ⟨b, off, rfl, hbB, hcell⟩ := HH.out.1.at_ (show 0 < n by omega)
      obtain ⟨g, hp⟩ : ∃ r, gs[k]? = some r := ⟨_, List.getElem?_eq_getElem (by rw [HL.out]; exact hlt)⟩
      have C0 := Lib.hid (hcell k g hp 0 _ rfl)
      have C3 := Lib.hid (hcell k g hp 3 _ rfl)
      have HG := Lib.hid (HH.out.2 g (List.mem_of_getElem? hp))
      clear hcell hp
      obtain ⟨G, hG⟩ : ∃ G, G = gk := ⟨_, rfl⟩
      have HGK := Lib.hid hG
      rw [← hG] at hgk
      clear hG
      have hgcap : g.Rn ≤ 9223372036854775807 := Nat.le_trans HG.out.1.2.1 HG.out.1.2.2.1
      go_wp2
      go_loopg [4] g.Rn (fun q s4 wi => ∃ m : Nat, q + m = g.Rn ∧ s4 = .int .i64 (m : Nat) ∧ Below w.heap.size w wi)
      case atStart => exact ⟨0, by omega, rfl, hb⟩
      case round =>
        obtain ⟨m, hqm, rfl, hbi⟩ := hrel
        have y3 := (hbi.cell (p := ⟨b, off + k * 4 + 3, none⟩) hbB).trans C3.out
        by_cases hm : m < g.Rn
        · have hdm : decide (m < g.Rn) = true := decide_eq_true hm
          obtain ⟨b2, off2, hA2, hbB2, hcell2⟩ := HG.out.1.at_ (show 0 < g.Rn by omega)
          obtain ⟨r, hp2⟩ : ∃ r, g.rs[m]? = some r := ⟨_, List.getElem?_eq_getElem (by rw [HG.out.1.1]; exact hm)⟩
          rw [hA2] at y3
          have c0 := (hbi.cell (p := ⟨b2, off2 + m * 8, none⟩) hbB2).trans (hcell2 m r hp2 0 _ rfl)
          have c1 := (hbi.cell (p := ⟨b2, off2 + m * 8 + 1, none⟩) hbB2).trans (hcell2 m r hp2 1 _ rfl)
          have c2 := (hbi.cell (p := ⟨b2, off2 + m * 8 + 2, none⟩) hbB2).trans (hcell2 m r hp2 2 _ rfl)
          have c3 := (hbi.cell (p := ⟨b2, off2 + m * 8 + 3, none⟩) hbB2).trans (hcell2 m r hp2 3 _ rfl)
          have c4 := (hbi.cell (p := ⟨b2, off2 + m * 8 + 4, none⟩) hbB2).trans (hcell2 m r hp2 4 _ rfl)
          have c5 := (hbi.cell (p := ⟨b2, off2 + m * 8 + 5, none⟩) hbB2).trans (hcell2 m r hp2 5 _ rfl)
          have c6 := (hbi.cell (p := ⟨b2, off2 + m * 8 + 6, none⟩) hbB2).trans (hcell2 m r hp2 6 _ rfl)
          have c7 := (hbi.cell (p := ⟨b2, off2 + m * 8 + 7, none⟩) hbB2).trans (hcell2 m r hp2 7 _ rfl)
          have HR := Lib.hid (HG.out.2.1 r (List.mem_of_getElem? hp2))
          have HA2 := Lib.hid hA2
          clear hcell2 hp2 hA2
          go_wp2_with fail
          refine (few10_any r _ ((HR.out.below hbi).more hbi.size)).mono ?_
          rintro e w5 ⟨bb, rfl, hb5⟩
          have hb5' := hbi.trans (hb5.mono hbi.size)
          clear c0 c1 c2 c3 c4 c5 c6 c7
          rcases bb with _ | _
          · go_wp2
            go_ret
            exact ⟨_, rfl, hb5'⟩
          · go_wp2
            go_roundg (gk - 1)
            case rel => exact ⟨m + 1, by omega, by go_num, hb5'⟩
            case measure => omega
        · have hdm : decide (m < g.Rn) = false := decide_eq_false hm
          have y0 := (hbi.cell (p := ⟨b, off + k * 4, none⟩) hbB).trans C0.out
          rcases hd1 : decide ((20 : Int) < (g.Rn : Int)) with _ | _
          · rcases hd2 : decide ((200 : Int) < (g.nm.size : Int)) with _ | _
            · go_wp2
              go_roundg (G - 1)
              case rel => exact ⟨k + 1, by omega, by go_num, hbi⟩
              case measure => have := HGK.out; omega
            · go_wp2
              go_ret
              exact ⟨_, rfl, hbi⟩
          · go_wp2
            go_ret
            exact ⟨_, rfl, hbi⟩
    · have hdk : decide (k < n) = false := decide_eq_false hlt
      rcases hd1 : decide ((n : Int) ≤ 20) with _ | _
      all_goals
        go_wp2
        go_ret
        exact ⟨_, rfl, hb⟩
end Go.Proofs.Ythjnhifaejoigaa
