/- The walk of store's Add. -/
import Derived.Test.YtidfiiogjfpfmaaStoJ
namespace Go.Proofs.Ytidfiiogjfpfmaa
open Go.RowKit
set_option linter.unusedSimpArgs false
set_option linter.unusedVariables false

namespace Sto
def seSet (ses : List Se) (p : Nat) (s : Se) : List Se := ses.set p s
def seIns (ses : List Se) (p : Nat) (s : Se) : List Se := ses.take p ++ [s] ++ ses.drop p
theorem seIns_val (ses : List Se) (p : Nat) (s : Se) : (seIns ses p s).map Se.val = insE (ses.map Se.val) p s.val := by
  unfold seIns insE
  simp [List.map_take, List.map_drop]
theorem seIns_cells (ses : List Se) (p : Nat) (s : Se) (hp : p ≤ ses.length) : (seIns ses p s).flatMap seCells = insC (ses.flatMap seCells) p (.slice s.LA s.Ln s.Lc) (.slice s.SA s.Sn s.Sc) := by
  have h : ∀ (l : List Se) (k : Nat), (l.flatMap seCells).take (k * 2) = (l.take k).flatMap seCells ∧ (l.flatMap seCells).drop (k * 2) = (l.drop k).flatMap seCells := by
    intro l
    induction l with
    | nil => intro k; simp
    | cons a l ih =>
      intro k
      cases k with
      | zero => simp
      | succ k =>
        have := ih k
        rw [show (k + 1) * 2 = k * 2 + 1 + 1 by omega]
        simp only [List.flatMap_cons, seCells, List.cons_append, List.nil_append, List.take_succ_cons, List.drop_succ_cons]
        exact ⟨by rw [this.1], this.2⟩
  unfold seIns insC
  rw [(h ses p).1, (h ses p).2]
  simp [seCells]
theorem seSet_cells (ses : List Se) (p : Nat) (s t : Se) (hp : ses[p]? = some s) (hl : t.LA = s.LA ∧ t.Ln = s.Ln ∧ t.Lc = s.Lc) : (ses.flatMap seCells).set (p * 2 + 1) (.slice t.SA t.Sn t.Sc) = (ses.set p t).flatMap seCells := by
  induction ses generalizing p with
  | nil => cases hp
  | cons a l ih =>
    cases p with
    | zero =>
      simp at hp
      subst hp
      simp [seCells, hl]
    | succ k =>
      have := ih k (by simpa using hp)
      rw [show (k + 1) * 2 + 1 = (k * 2 + 1) + 1 + 1 by omega]
      simp only [List.flatMap_cons, seCells, List.cons_append, List.nil_append, List.set_cons_succ]
      rw [this]
end Sto
theorem own_set {W : World} {base n g cap i : Nat} {e : TypeId} {xs : List Value} (h : W.ownsRow base e 2 (.slice (some ⟨g, 0, none⟩) n cap) n xs) (hi : i < n * 2) (u : Value) : (W.setCell ⟨g, i, none⟩ u).ownsRow base e 2 (.slice (some ⟨g, 0, none⟩) n cap) n (xs.set i u) := by
  obtain ⟨h0, h1⟩ := h
  refine ⟨by rw [List.length_set]; exact h0, ?_⟩
  rcases h1 with ⟨e1, _⟩ | ⟨g', cap', cur, e1, hb, hg, hn, hm, hs, ht⟩
  · cases e1
  · cases e1
    refine .inr ⟨g, cap, cur.setIfInBounds i u, rfl, hb, Mem.Blk.set_ (t := e) (cs := cur) hg i u, hn, hm, by rw [Array.size_setIfInBounds]; exact hs, ?_⟩
    rw [Array.toList_setIfInBounds, List.take_set, ht]
theorem stt_own {W : World} {base n : Nat} {v : Value} {ses : List Sto.Se} (h : W.ownsRow base 50 2 v n (ses.flatMap seCells)) (hl : ses.length = n) (hin : ∀ s ∈ ses, SeIn W W.heap.size s) : ∃ A c, v = .slice A n c ∧ Stt W W.heap.size A n c ses := by
  subst hl
  obtain ⟨A, c, rfl, hR⟩ := Recs.of_own seCells_len (by decide) h
  exact ⟨A, c, rfl, hR, hin⟩
end Go.Proofs.Ytidfiiogjfpfmaa
