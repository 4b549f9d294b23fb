/- A store in memory; the walks of store's named, Sane, counted. -/
import Derived.Test.YtidfiiogjfpfmaaStoC
import Derived.Test.YtidfiiogjfpfmaaSerH
import Derived.RegionTactic
import Derived.BigRegion
namespace Go.Proofs.Ytidfiiogjfpfmaa
open Go.RowKit
set_option linter.unusedSimpArgs false
set_option linter.unusedVariables false

namespace Sto
/-- a series: its labels, its samples -/
abbrev E := List Lab.Pr × List (Int × Int)
/-- a series as it lies: both slices, and what they hold -/
structure Se where
  LA : Option Addr
  Ln : Nat
  Lc : Nat
  ls : List Lab.Pr
  SA : Option Addr
  Sn : Nat
  Sc : Nat
  ss : List (Int × Int)
def Se.val (s : Se) : E := (s.ls, s.ss)
def named (l : List Lab.Pr) : Bool := (Lab.get l Sel.nameL).isSome && Lab.sane l
def behind (es : List E) (i : Nat) (e : E) : Bool :=
  match i with
  | 0 => true
  | k + 1 => match es[k]? with
    | none => true
    | some f => decide (Lab.cmpL (Lab.counted f.1) (Lab.counted e.1) < 0)
def okE (e : E) : Bool := named e.1 && decide (e.2.length ≠ 0) && Ser.sane e.2
def okAt (es : List E) (i : Nat) : Bool :=
  match es[i]? with
  | none => true
  | some e => okE e && behind es i e
def sane (es : List E) : Bool := decide (es.length ≤ 32) && Lab.allTo (okAt es) es.length
def counted (es : List E) : List E := if sane es = true then es else []
theorem okAt_is {es : List E} {e : E} {k : Nat} (h : es[k]? = some e) : okAt es k = (okE e && behind es k e) := by unfold okAt; rw [h]
theorem behind_succ {es : List E} {e f : E} {k : Nat} (h : es[k]? = some f) : behind es (k + 1) e = decide (Lab.cmpL (Lab.counted f.1) (Lab.counted e.1) < 0) := by
  unfold behind
  simp only
  rw [h]
end Sto
def seCells (s : Sto.Se) : List Value := [.slice s.LA s.Ln s.Lc, .slice s.SA s.Sn s.Sc]
theorem seCells_len (s : Sto.Se) : (seCells s).length = 2 := rfl
def SeIn (W : World) (b : Nat) (s : Sto.Se) : Prop := Prs W b s.LA s.Ln s.Lc s.ls ∧ SerW.Smp W b s.SA s.Sn s.Sc s.ss
/-- a store in memory -/
def Stt (W : World) (b : Nat) (A : Option Addr) (n c : Nat) (ses : List Sto.Se) : Prop := Recs seCells 2 W b A n c ses ∧ ∀ s ∈ ses, SeIn W b s
section
variable {W W' : World} {B B' n c : Nat} {A : Option Addr} {ses : List Sto.Se} {s : Sto.Se}
theorem SeIn.below (h : SeIn W B s) (hb : Below B W W') : SeIn W' B s := ⟨h.1.below hb, h.2.below hb⟩
theorem SeIn.more (h : SeIn W B s) (hb : B ≤ B') : SeIn W B' s := ⟨h.1.more hb, h.2.more hb⟩
theorem SeIn.later (h : SeIn W W.heap.size s) (hb : Below W.heap.size W W') : SeIn W' W'.heap.size s := (h.below hb).more hb.size
theorem Stt.len (h : Stt W B A n c ses) : ses.length = n := h.1.1
theorem Stt.cap (h : Stt W B A n c ses) : n ≤ c ∧ c ≤ 9223372036854775807 := ⟨h.1.2.1, h.1.2.2.1⟩
theorem Stt.below (h : Stt W B A n c ses) (hb : Below B W W') : Stt W' B A n c ses := ⟨h.1.below hb, fun x hx => (h.2 x hx).below hb⟩
theorem Stt.more (h : Stt W B A n c ses) (hb : B ≤ B') : Stt W B' A n c ses := ⟨h.1.more hb, fun x hx => (h.2 x hx).more hb⟩
theorem Stt.later (h : Stt W W.heap.size A n c ses) (hb : Below W.heap.size W W') : Stt W' W'.heap.size A n c ses := (h.below hb).more hb.size
theorem Stt.none_ (W : World) (B : Nat) : Stt W B none 0 0 [] := ⟨Recs.none_ _ _, fun x hx => absurd hx (by simp)⟩
theorem Stt.at_ (h : Stt W B A n c ses) {k : Nat} (hk : k < n) : ∃ b off s, A = some ⟨b, off, none⟩ ∧ b < B ∧ ses[k]? = some s ∧ SeIn W B s ∧ W.cell? ⟨b, off + k * 2, none⟩ = some (.slice s.LA s.Ln s.Lc) ∧ W.cell? ⟨b, off + k * 2 + 1, none⟩ = some (.slice s.SA s.Sn s.Sc) := by
  obtain ⟨b, off, e, hb, hc⟩ := h.1.at_ (by omega)
  have hp : ses[k]? = some (ses[k]'(by rw [h.len]; exact hk)) := List.getElem?_eq_getElem _
  exact ⟨b, off, _, e, hb, hp, h.2 _ (List.mem_of_getElem? hp), hc k _ hp 0 _ rfl, hc k _ hp 1 _ rfl⟩
end

theorem labSane_is (A : Option Addr) (n c : Nat) (xs : List Lab.Pr) (b : Bool) (hb : Lab.sane xs = b) (w : World) (h : Prs w w.heap.size A n c xs) :
    Calls Try.prog 35 #[.slice A n c] w fun e w' => e = .returned (.bool b) ∧ Below w.heap.size w w' := by
  subst hb
  exact labSane_any A n c xs w h
theorem serSane_is (A : Option Addr) (n c : Nat) (xs : List (Int × Int)) (b : Bool) (hb : Ser.sane xs = b) (w : World) (h : SerW.Smp w w.heap.size A n c xs) :
    Calls Try.prog 24 #[.slice A n c] w fun e w' => e = .returned (.bool b) ∧ Below w.heap.size w w' := by
  subst hb
  exact SerW.sane_any A n c xs w h

set_option maxRecDepth 100000 in
set_option maxHeartbeats 4000000 in
theorem named_is (A : Option Addr) (n c : Nat) (xs : List Lab.Pr) (b : Bool) (hb : Sto.named xs = b) (w : World) (h : Prs w w.heap.size A n c xs) :
    Calls Try.prog 23 #[.slice A n c] w fun e w' => e = .returned (.bool b) ∧ Below w.heap.size w w' := by
  have HH := Lib.hid h
  subst hb
  unfold Sto.named
  obtain ⟨s, hs⟩ : ∃ b, Lab.sane xs = b := ⟨_, rfl⟩
  rcases hg : Lab.get xs Sel.nameL with _ | v
  · have HG := Lib.hid hg
    clear h hg hs
    go_enter Try.func23, Try.ntmps23
    go_wp2_with fail
    refine (get_is A n c xs Sel.nameL none HG.out w HH.out).mono ?_
    rintro e w1 ⟨rfl, hb1⟩
    unfold getV
    go_wp2
    go_ret
    exact ⟨rfl, hb1⟩
  · have HG := Lib.hid hg
    have HS := Lib.hid hs
    rw [hs]
    clear h hg hs
    go_enter Try.func23, Try.ntmps23
    go_wp2_with fail
    refine (get_is A n c xs Sel.nameL (some v) HG.out w HH.out).mono ?_
    rintro e w1 ⟨rfl, hb1⟩
    unfold getV
    go_wp2_with fail
    refine (labSane_is A n c xs s HS.out w1 (HH.out.later hb1)).mono ?_
    rintro e w2 ⟨rfl, hb2⟩
    go_wp2
    go_ret
    exact ⟨by simp, hb1.trans (hb2.mono hb1.size)⟩
end Go.Proofs.Ytidfiiogjfpfmaa
