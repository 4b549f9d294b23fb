/- The plain law of a store that is one: where labels belong; the walks of store's Get and Add. -/
import Derived.Test.YtidfiiogjfpfmaaStoI
namespace Go.Proofs.Ytidfiiogjfpfmaa
open Go.RowKit
set_option linter.unusedSimpArgs false
set_option linter.unusedVariables false

namespace Sto
theorem sane_at {es : List E} (h : sane es = true) {k : Nat} (hk : k < es.length) : okAt es k = true := by
  unfold sane at h
  rw [Bool.and_eq_true] at h
  exact Lab.allTo_iff.1 h.2 k hk
theorem sane_len {es : List E} (h : sane es = true) : es.length ≤ 32 := by
  unfold sane at h
  rw [Bool.and_eq_true] at h
  exact of_decide_eq_true h.1
theorem okE_at {es : List E} (h : sane es = true) {k : Nat} {e : E} (he : es[k]? = some e) : okE e = true := by
  have := sane_at h (List.getElem?_eq_some_iff.1 he).1
  rw [okAt_is he, Bool.and_eq_true] at this
  exact this.1
theorem next_at {es : List E} (h : sane es = true) {k : Nat} {e f : E} (hf : es[k]? = some f) (he : es[k + 1]? = some e) : Lab.cmpL (Lab.counted f.1) (Lab.counted e.1) < 0 := by
  have := sane_at h (List.getElem?_eq_some_iff.1 he).1
  rw [okAt_is he, Bool.and_eq_true, behind_succ hf] at this
  exact of_decide_eq_true this.2
theorem lt_at {es : List E} (h : sane es = true) (d : Nat) : ∀ {a : Nat} {e f : E}, es[a]? = some f → es[a + d + 1]? = some e → Lab.cmpL (Lab.counted f.1) (Lab.counted e.1) < 0 := by
  induction d with
  | zero => intro a e f hf he; exact next_at h hf he
  | succ d ih =>
    intro a e f hf he
    have hlt := (List.getElem?_eq_some_iff.1 he).1
    obtain ⟨m, hm⟩ : ∃ m, es[a + d + 1]? = some m := ⟨_, List.getElem?_eq_getElem (by omega)⟩
    exact Lab.cmpL_ord.trans _ _ _ (ih hf hm) (next_at h hm he)
theorem lt_of {es : List E} (h : sane es = true) {a b : Nat} (hab : a < b) {e f : E} (hf : es[a]? = some f) (he : es[b]? = some e) : Lab.cmpL (Lab.counted f.1) (Lab.counted e.1) < 0 :=
  lt_at h (b - a - 1) hf (by rw [show a + (b - a - 1) + 1 = b by omega]; exact he)
theorem mono {es : List E} (h : sane es = true) (l : List Lab.Pr) : Mono es l := by
  intro a b hab hb hc
  obtain ⟨e, he⟩ : ∃ e, es[b]? = some e := ⟨_, List.getElem?_eq_getElem hb⟩
  obtain ⟨f, hf⟩ : ∃ f, es[a]? = some f := ⟨_, List.getElem?_eq_getElem (by omega)⟩
  rw [cmpAt_is he] at hc
  rw [cmpAt_is hf]
  rcases Nat.lt_or_ge a b with hlt | hge
  · have h1 := lt_of h hlt hf he
    have h2 := Lab.cmpL_anti l (Lab.counted e.1)
    have h3 := Lab.cmpL_ord.trans _ _ _ h1 (by omega : Lab.cmpL (Lab.counted e.1) l < 0)
    have h4 := Lab.cmpL_anti l (Lab.counted f.1)
    omega
  · obtain rfl : a = b := by omega
    rw [hf] at he
    cases he
    exact hc
theorem counted_sane (es : List E) : sane (counted es) = true := by
  unfold counted
  split
  · assumption
  · rfl
theorem counted_id {es : List E} (h : sane es = true) : counted es = es := by unfold counted; rw [if_pos h]
/-- the samples that are there, at a place -/
def oldAt (es : List E) (l : List Lab.Pr) (p : Nat) : List (Int × Int) := if there es l p = true then ((es[p]?).map (·.2)).getD [] else []
def insE (es : List E) (p : Nat) (e : E) : List E := es.take p ++ [e] ++ es.drop p
def setE (es : List E) (p : Nat) (s : List (Int × Int)) : List E := es.set p ((((es[p]?).map (·.1)).getD []), s)
/-- a sample more, at a place -/
def addAt (es : List E) (l : List Lab.Pr) (x : Int × Int) (p : Nat) : List E × Int :=
  if (Ser.append (oldAt es (Lab.counted l) p) x).2 ≠ 0 then (es, (Ser.append (oldAt es (Lab.counted l) p) x).2)
  else if there es (Lab.counted l) p = true then (setE es p (Ser.append (oldAt es (Lab.counted l) p) x).1, 0)
  else if 32 ≤ es.length then (es, 10) else (insE es p (l, (Ser.append (oldAt es (Lab.counted l) p) x).1), 0)
def AddR (es : List E) (l : List Lab.Pr) (x : Int × Int) (r : List E × Int) : Prop :=
  if named l = true then ∃ p, Cut (counted es) (Lab.counted l) p ∧ r = addAt (counted es) l x p else r = (counted es, 7)
def GetR (es : List E) (l : List Lab.Pr) (s : List (Int × Int)) : Prop := ∃ p, Cut (counted es) (Lab.counted l) p ∧ s = oldAt (counted es) (Lab.counted l) p
end Sto
theorem Stt.counted_len {W : World} {B n c : Nat} {A : Option Addr} {ses : List Sto.Se} (h : Stt W B A n c ses) {es : List Sto.E} (he : ses.map Sto.Se.val = Sto.counted es) : n ≤ 32 := by
  have := Sto.sane_len (Sto.counted_sane es)
  rw [← he, List.length_map, h.len] at this
  exact this

set_option maxRecDepth 100000 in
set_option maxHeartbeats 8000000 in
theorem get_any (A : Option Addr) (n c : Nat) (ses : List Sto.Se) (B : Option Addr) (m d : Nat) (ls : List Lab.Pr) (w : World) (h : Stt w w.heap.size A n c ses) (g : Prs w w.heap.size B m d ls) :
    Calls Try.prog 13 #[.slice A n c, .slice B m d] w fun e w' => ∃ A' n' c' ss, e = .returned (.slice A' n' c') ∧ SerW.Smp w' w'.heap.size A' n' c' ss ∧ Sto.GetR (ses.map Sto.Se.val) ls ss ∧ Below w.heap.size w w' := by
  have HH := Lib.hid h
  have HG := Lib.hid g
  clear h g
  go_enter Try.func13, Try.ntmps13
  go_wp2_with fail
  refine (stoCounted_is A n c ses w HH.out).mono ?_
  rintro e w1 ⟨A1, n1, c1, ses1, rfl, h1, he1, -, hb1⟩
  have hn32 := h1.counted_len he1
  have hcap := h1.cap
  have H1 := Lib.hid h1
  have HE1 := Lib.hid he1
  have HM := Lib.hid (show Sto.Mono (ses1.map Sto.Se.val) (Lab.counted ls) from Sto.mono (by rw [he1]; exact Sto.counted_sane _) _)
  clear h1 he1
  go_wp2_with fail
  refine (find_is A1 n1 c1 ses1 B m d ls HM.out hn32 w1 H1.out (HG.out.later hb1)).mono ?_
  rintro e w2 ⟨p, rfl, hcut, hb2⟩
  have hB2 := hb1.trans (hb2.mono hb1.size)
  have hlen1 := H1.out.len
  rcases ht : Sto.there (ses1.map Sto.Se.val) (Lab.counted ls) p with _ | _
  · have HR := Lib.hid (show Sto.GetR (ses.map Sto.Se.val) ls [] from ⟨p, by rw [← HE1.out]; exact hcut, by unfold Sto.oldAt; rw [← HE1.out, ht]; rfl⟩)
    clear hcut ht
    go_wp2
    go_ret
    exact ⟨none, 0, 0, [], rfl, SerW.Smp.none_ _ _, HR.out, hB2⟩
  · have hpn : p < n1 := by
      rcases Nat.lt_or_ge p n1 with h | h
      · exact h
      · rw [Sto.there_none (by rw [List.length_map, hlen1]; omega)] at ht; cases ht
    obtain ⟨bb, off, s, hA, hbB, hs, hin, hc0, hc1⟩ := (H1.out.later hb2).at_ hpn
    have HR := Lib.hid (show Sto.GetR (ses.map Sto.Se.val) ls s.ss from ⟨p, by rw [← HE1.out]; exact hcut, by unfold Sto.oldAt; rw [← HE1.out, ht, if_pos rfl, List.getElem?_map, hs]; rfl⟩)
    have HIN := Lib.hid hin
    have i0 : (0 : Int) ≤ (p : Int) := by omega
    have i1 : (p : Int) < (n1 : Int) := by omega
    subst hA
    clear hcut ht hs hin hc0
    go_wp2
    go_ret
    exact ⟨s.SA, s.Sn, s.Sc, s.ss, rfl, HIN.out.2, HR.out, hB2⟩
end Go.Proofs.Ytidfiiogjfpfmaa
