/- The walk of store's Select. -/
import Derived.Test.YtidfiiogjfpfmaaStoL
namespace Go.Proofs.Ytidfiiogjfpfmaa
open Go.RowKit
set_option linter.unusedSimpArgs false
set_option linter.unusedVariables false

namespace Sto
/-- what is found: labels, and a sample -/
abbrev F := List Lab.Pr × (Int × Int)
structure Fo where
  LA : Option Addr
  Ln : Nat
  Lc : Nat
  ls : List Lab.Pr
  x : Int × Int
def Fo.val (f : Fo) : F := (f.ls, f.x)
def hit (nm : ByteArray) (ms : List Lab.Mt) (t window : Int) (e : E) : Option F :=
  if Sel.fits nm ms e.1 = true then (if (Ser.atP e.2 t window).2 = true then some (e.1, (Ser.atP e.2 t window).1) else none) else none
def selE (es : List E) (nm : ByteArray) (ms : List Lab.Mt) (t window : Int) : List F := es.filterMap (hit nm ms t window)
theorem selE_take {es : List E} {k : Nat} {e : E} (h : es[k]? = some e) (nm : ByteArray) (ms : List Lab.Mt) (t window : Int) : selE (es.take (k + 1)) nm ms t window = selE (es.take k) nm ms t window ++ (hit nm ms t window e).toList := by
  unfold selE
  rw [List.take_add_one, h, List.filterMap_append]
  cases hh : hit nm ms t window e <;> simp [List.filterMap_cons, hh]
end Sto
def foCells (f : Sto.Fo) : List Value := [.slice f.LA f.Ln f.Lc, .int .i64 f.x.1, .int .i64 f.x.2]
theorem foCells_len (f : Sto.Fo) : (foCells f).length = 3 := rfl
def FoIn (W : World) (b : Nat) (f : Sto.Fo) : Prop := Prs W b f.LA f.Ln f.Lc f.ls
def Fos (W : World) (b : Nat) (A : Option Addr) (n c : Nat) (fs : List Sto.Fo) : Prop := Recs foCells 3 W b A n c fs ∧ ∀ f ∈ fs, FoIn W b f
theorem foInfo : (Try.prog.info? 54).map (fun i => (i.zero, i.size, i.bytes)) = some (some (.agg #[.slice none 0 0, .int .i64 0, .int .i64 0]), 3, 40) := by kernel_rfl
theorem ownB {W W' : World} {base e size n : Nat} {v : Value} {xs : List Value} (h : W.ownsRow base e size v n xs) (hb : Below W.heap.size W W') : W'.ownsRow base e size v n xs := by
  refine ⟨h.1, ?_⟩
  rcases h.2 with h0 | ⟨g, cap, cur, e1, e2, hh, h3⟩
  · exact .inl h0
  · exact .inr ⟨g, cap, cur, e1, e2, (hb.block g (Array.getElem?_eq_some_iff.1 hh).1).trans hh, h3⟩
theorem fits_is (nm : ByteArray) (hnms : nm.size ≤ 9223372036854775807) (A : Option Addr) (n c : Nat) (ms : List Lab.Mt) (D : Option Addr) (n3 c3 : Nat) (l : List Lab.Pr) (b : Bool) (hb : Sel.fits nm ms l = b) (w : World) (hM : Mts w w.heap.size A n c ms) (hP : Prs w w.heap.size D n3 c3 l) :
    Calls Try.prog 20 #[.agg #[.string nm, .slice A n c], .slice D n3 c3] w fun e w' => e = .returned (.bool b) ∧ Below w.heap.size w w' := by
  subst hb
  exact fits_any nm hnms A n c ms D n3 c3 l w hM hP

set_option maxRecDepth 100000 in
set_option maxHeartbeats 16000000 in
theorem select_any (A : Option Addr) (n c : Nat) (ses : List Sto.Se) (nm : ByteArray) (hnms : nm.size ≤ 9223372036854775807) (MA : Option Addr) (Mn Mc : Nat) (ms : List Lab.Mt) (t window : Int) (ht : t ≤ 9223372036854775807) (w : World) (h : Stt w w.heap.size A n c ses) (g : Mts w w.heap.size MA Mn Mc ms) :
    Calls Try.prog 18 #[.slice A n c, .agg #[.string nm, .slice MA Mn Mc], .int .i64 t, .int .i64 window] w fun e w' => ∃ A' n' c' fs, e = .returned (.slice A' n' c') ∧ Fos w' w'.heap.size A' n' c' fs ∧ fs.map Sto.Fo.val = Sto.selE (Sto.counted (ses.map Sto.Se.val)) nm ms t window ∧ Below w.heap.size w w' := by
  have HH := Lib.hid h
  have HG := Lib.hid g
  clear h g
  obtain ⟨i0, hi, hz0, hz1, hz2⟩ := info_parts foInfo
  go_enter Try.func18, Try.ntmps18
  go_wp2_with fail
  have hB1 := (Below.refl w.heap.size w).alloc (Nat.le_refl _) (.cells #[.string nm, .slice MA Mn Mc] 43)
  have hblk := (Mem.Blk.new w 43 #[.string nm, .slice MA Mn Mc])
  have hlt1 : w.heap.size < (w.alloc (.cells #[.string nm, .slice MA Mn Mc] 43)).heap.size := by simp
  have hsz1 : w.heap.size ≤ (w.alloc (.cells #[.string nm, .slice MA Mn Mc] 43)).heap.size := by simp
  obtain ⟨W1, hW1⟩ : ∃ W1, W1 = w.alloc (.cells #[.string nm, .slice MA Mn Mc] 43) := ⟨_, rfl⟩
  rw [← hW1] at hB1 hblk hlt1 hsz1 ⊢
  clear hW1
  have HBLK := Lib.hid hblk
  clear hblk
  refine (stoCounted_is A n c ses W1 (HH.out.later hB1)).mono ?_
  rintro e w2 ⟨A1, n1, c1, ses1, rfl, h1, he1, -, hb2⟩
  have hC2 := hb2
  have hn32 := h1.counted_len he1
  have hcap := h1.cap
  have hlen1 := h1.len
  obtain ⟨cs, hcs⟩ : ∃ cs, Sto.counted (ses.map Sto.Se.val) = cs := ⟨_, rfl⟩
  rw [hcs] at he1
  have HCS := Lib.hid hcs
  have H1 := Lib.hid h1
  have HE1 := Lib.hid he1
  have HG2 := Lib.hid ((HG.out.later hB1).later hC2)
  have U0 := Lib.hid ((hC2.cell (p := ⟨w.heap.size, 0, none⟩) hlt1).trans (HBLK.out.cell 0))
  have U1 := Lib.hid ((hC2.cell (p := ⟨w.heap.size, 1, none⟩) hlt1).trans (HBLK.out.cell 1))
  have hl2 := Nat.lt_of_lt_of_le hlt1 hC2.size
  clear h1 he1 hcs hb2
  go_wp2
  go_loopw [9, 17] (fun v i wr => ∃ (k : Nat) (fs : List Sto.Fo), k ≤ n1 ∧ i = .int .i64 (k : Nat) ∧ wr.ownsRow w2.heap.size 54 3 v fs.length (fs.flatMap foCells) ∧ fs.length ≤ k ∧ fs.map Sto.Fo.val = Sto.selE (cs.take k) nm ms t window ∧ (∀ f ∈ fs, FoIn w2 w2.heap.size f) ∧ Below w2.heap.size w2 wr) (fun _ i _ => n1 - (intOf i).toNat)
  case atStart => exact ⟨0, [], by omega, rfl, World.ownsRow_nil _ _ _ _, by simp, rfl, fun f hf => absurd hf (by simp), Below.refl _ _⟩
  case round =>
    obtain ⟨k, fs, hk, rfl, hown, hfl, hfv, hfin, hb⟩ := hrel
    have HO := Lib.hid hown
    have HFV := Lib.hid hfv
    have HFI := Lib.hid hfin
    clear hown hfv hfin
    by_cases hlt : k < n1
    · have hdk : decide (k < n1) = true := decide_eq_true hlt
      obtain ⟨k2, hk2⟩ : ∃ y, y = k + 1 := ⟨_, rfl⟩
      have hwk : IntKind.i64.wrap ((k : Int) + 1) = ((k2 : Nat) : Int) := by rw [hk2, show (k : Int) + 1 = ((k + 1 : Nat) : Int) by omega]; exact IntWalk.i64_in _ (by omega)
      have HK2 := Lib.hid hk2
      obtain ⟨bb, off, s, hA, hbB, hs, hin, hc0, hc1⟩ := H1.out.at_ hlt
      have hcp : cs[k]? = some s.val := by rw [← HE1.out, List.getElem?_map, hs]; rfl
      have HCP := Lib.hid (Sto.selE_take hcp nm ms t window)
      have x0 := (hb.cell (p := ⟨bb, off + k * 2, none⟩) hbB).trans hc0
      have x1 := (hb.cell (p := ⟨bb, off + k * 2 + 1, none⟩) hbB).trans hc1
      have HIN := Lib.hid hin
      have u0 := (hb.cell (p := ⟨w.heap.size, 0, none⟩) hl2).trans U0.out
      have u1 := (hb.cell (p := ⟨w.heap.size, 1, none⟩) hl2).trans U1.out
      simp at u0 u1
      have hz5 := Mem.Blk.new wr 50 #[.slice s.LA s.Ln s.Lc, .slice s.SA s.Sn s.Sc]
      have hB5 := hb.alloc hb.size (.cells #[.slice s.LA s.Ln s.Lc, .slice s.SA s.Sn s.Sc] 50)
      have hl5 : wr.heap.size < (wr.alloc (.cells #[.slice s.LA s.Ln s.Lc, .slice s.SA s.Sn s.Sc] 50)).heap.size := by simp
      have hown5 := HO.out.alloc (.cells #[.slice s.LA s.Ln s.Lc, .slice s.SA s.Sn s.Sc] 50)
      have v0 := hz5.cell 0
      have v1 := hz5.cell 1
      simp only [List.getElem?_toArray, List.getElem?_cons_zero, List.getElem?_cons_succ] at v0 v1
      have y0 : (wr.alloc (.cells #[.slice s.LA s.Ln s.Lc, .slice s.SA s.Sn s.Sc] 50)).cell? ⟨w.heap.size, 0, none⟩ = some (.string nm) := (World.cell?_alloc_some wr _ _ (by rw [u0]; rfl)).trans u0
      have y1 : (wr.alloc (.cells #[.slice s.LA s.Ln s.Lc, .slice s.SA s.Sn s.Sc] 50)).cell? ⟨w.heap.size, 1, none⟩ = some (.slice MA Mn Mc) := (World.cell?_alloc_some wr _ _ (by rw [u1]; rfl)).trans u1
      obtain ⟨bf, hbf⟩ : ∃ b, Sel.fits nm ms s.ls = b := ⟨_, rfl⟩
      have HBF := Lib.hid hbf
      subst hA
      clear hk2 hs hin hc0 hc1 hcp hbf
      go_wp2_with fail
      refine (fits_is nm hnms MA Mn Mc ms s.LA s.Ln s.Lc s.ls bf HBF.out _ ((HG2.out.later hb).later ((Below.refl wr.heap.size wr).alloc (Nat.le_refl _) _)) ((HIN.out.1.later hb).later ((Below.refl wr.heap.size wr).alloc (Nat.le_refl _) _))).mono ?_
      rintro e w6 ⟨rfl, hb6⟩
      have hB6 := hB5.trans (hb6.mono hB5.size)
      have hown6 := ownB hown5 hb6
      have v0 := (hb6.cell (p := ⟨wr.heap.size, 0, none⟩) hl5).trans v0
      have v1 := (hb6.cell (p := ⟨wr.heap.size, 1, none⟩) hl5).trans v1
      have hl6 := Nat.lt_of_lt_of_le hl5 hb6.size
      rcases bf with _ | _
      · have HH0 := Lib.hid (show Sto.hit nm ms t window s.val = none by unfold Sto.hit; rw [if_neg (by unfold Sto.Se.val; rw [HBF.out]; decide)])
        have HO6 := Lib.hid hown6
        clear hown5 hown6 hb6 v0 v1 y0 y1 hz5 x0 x1 u0 u1
        go_wp2
        go_roundw
        case rel =>
          refine ⟨k2, fs, ?_, rfl, HO6.out, ?_, ?_, HFI.out, hB6⟩
          · rw [HK2.out]; omega
          · rw [HK2.out]; omega
          · rw [HK2.out, HCP.out, HH0.out, HFV.out]; exact (List.append_nil _).symm
        case measure => have := HK2.out; simp [intOf]; omega
      · have HO6 := Lib.hid hown6
        have HIN6 := Lib.hid (((HIN.out.2.later hb).later ((Below.refl wr.heap.size wr).alloc (Nat.le_refl _) _)).later hb6)
        clear hown5 hown6 y0 y1 hz5 x0 x1 u0 u1
        go_wp2_with fail
        have hat := SerW.at_any s.SA s.Sn s.Sc s.ss t window w6 ht HIN6.out
        refine hat.mono ?_
        rintro e w7 ⟨rfl, hb7⟩
        clear hat
        have hB7 := hB6.trans (hb7.mono hB6.size)
        obtain ⟨⟨x, bt⟩, hx⟩ : ∃ q, Ser.atP s.ss t window = q := ⟨_, rfl⟩
        rw [hx]
        have HX := Lib.hid hx
        have hbb := hb6.trans (hb7.mono hb6.size)
        have v0 := (hb7.cell (p := ⟨wr.heap.size, 0, none⟩) hl6).trans v0
        have hl7 := Nat.lt_of_lt_of_le hl6 hb7.size
        have HO7 := Lib.hid (ownB HO6.out hb7)
        have hin7 := HIN.out.1
        clear hx v1
        rcases bt with _ | _
        · have HH0 := Lib.hid (show Sto.hit nm ms t window s.val = none by unfold Sto.hit; rw [if_pos (by unfold Sto.Se.val; rw [HBF.out]), if_neg (by show ¬ (Ser.atP s.ss t window).2 = true; rw [HX.out]; exact Bool.false_ne_true)])
          go_wp2
          go_roundw
          case rel =>
            refine ⟨k2, fs, ?_, rfl, HO7.out.alloc _, ?_, ?_, HFI.out, hB7.alloc hB7.size _⟩
            · rw [HK2.out]; omega
            · rw [HK2.out]; omega
            · rw [HK2.out, HCP.out, HH0.out, HFV.out]; exact (List.append_nil _).symm
          case measure => have := HK2.out; simp [intOf]; omega
        · have HH0 := Lib.hid (show Sto.hit nm ms t window s.val = some (s.ls, x) by unfold Sto.hit; rw [if_pos (by unfold Sto.Se.val; rw [HBF.out]), if_pos (by show (Ser.atP s.ss t window).2 = true; rw [HX.out])]; show some (s.ls, (Ser.atP s.ss t window).1) = _; rw [HX.out])
          obtain ⟨W8, hW8⟩ : ∃ W, (w7.alloc (.cells #[.int .i64 x.1, .int .i64 x.2] 25)).alloc (.cells #[.slice s.LA s.Ln s.Lc, .int .i64 x.1, .int .i64 x.2] 54) = W := ⟨_, rfl⟩
          have hown8 : W8.ownsRow w2.heap.size 54 3 u9 fs.length (fs.flatMap foCells) := by rw [← hW8]; exact (HO7.out.alloc _).alloc _
          have hB8 : Below w2.heap.size w2 W8 := by rw [← hW8]; exact (hB7.alloc hB7.size _).alloc (Nat.le_trans hB7.size (by simp)) _
          have hc8 : ∀ (j : Nat) (u : Value), [Value.slice s.LA s.Ln s.Lc, .int .i64 x.1, .int .i64 x.2][j]? = some u → W8.cell? ((⟨w7.heap.size + 1, 0, none⟩ : Addr).add j) = some u := by
            intro j u hj
            rw [← hW8]
            match j, hj with
            | 0, hj => simp at hj; subst hj; simp [Addr.add]
            | 1, hj => simp at hj; subst hj; simp [Addr.add]
            | 2, hj => simp at hj; subst hj; simp [Addr.add]
          have HO8 := Lib.hid hown8
          have HC8 := Lib.hid hc8
          have HB8 := Lib.hid hB8
          have HW8 := Lib.hid hW8
          clear hown8 hc8 hB8 hW8
          go_wp2_with (first
            | (at_builtin; rw [HW8.out]; refine wpList_append_own _ rfl (.tmp 35) (.tmp 40) 45 rfl w2.heap.size 54 i0 _ 3 40 Try.underlying45 hi hz0 hz1 hz2 rfl (by decide) _ _ _ rfl HO8.out ⟨w7.heap.size + 1, 0, none⟩ 1 1 [.slice s.LA s.Ln s.Lc, .int .i64 x.1, .int .i64 x.2] rfl rfl HC8.out ?c2 ?c3 ?c4 HB8.out.size ?_))
          case c2 => intro u hu; simp at hu; rcases hu with rfl | rfl | rfl <;> rfl
          case c3 => unfold maxLen; omega
          case c4 => omega
          intro v10 w10 hown10 hg10 hat10
          have hB10 : Below w2.heap.size w2 w10 := HB8.out.grown hg10 HB8.out.size (fun k e => (HO8.out.lt k e).1)
          obtain ⟨fo, hfo⟩ : ∃ f : Sto.Fo, f = ⟨s.LA, s.Ln, s.Lc, s.ls, x⟩ := ⟨_, rfl⟩
          have hown11 : w10.ownsRow w2.heap.size 54 3 v10 (fs ++ [fo]).length ((fs ++ [fo]).flatMap foCells) := by
            rw [List.flatMap_append, List.length_append, hfo]
            exact hown10
          have HO11 := Lib.hid hown11
          have HFO := Lib.hid hfo
          clear hown10 hown11 hfo hg10 hat10
          go_wp2
          go_roundw
          case rel =>
            refine ⟨k2, fs ++ [fo], ?_, rfl, HO11.out, ?_, ?_, ?_, hB10⟩
            · rw [HK2.out]; omega
            · rw [HK2.out, List.length_append]; simp; omega
            · rw [HK2.out, HCP.out, HH0.out, ← HFV.out, List.map_append, HFO.out]; rfl
            · intro f hf
              rw [List.mem_append, List.mem_singleton] at hf
              rcases hf with hf | rfl
              · exact HFI.out f hf
              · rw [HFO.out]; exact HIN.out.1
          case measure => have := HK2.out; simp [intOf]; omega
    · have hdk : decide (k < n1) = false := decide_eq_false hlt
      have hkn : k = n1 := by omega
      have HKN := Lib.hid hkn
      clear hkn
      go_wp2
      go_ret
      obtain ⟨A', c', rfl, hrec⟩ := Recs.of_own foCells_len (by decide) HO.out
      refine ⟨A', fs.length, c', fs, rfl, ⟨hrec, fun f hf => (HFI.out f hf).later hb⟩, ?_, hB1.trans ((hC2.trans (hb.mono hC2.size)).mono hB1.size)⟩
      have := H1.out.len
      rw [HFV.out, HCS.out, HKN.out, List.take_of_length_le (by rw [← HE1.out, List.length_map]; omega)]
end Go.Proofs.Ytidfiiogjfpfmaa
