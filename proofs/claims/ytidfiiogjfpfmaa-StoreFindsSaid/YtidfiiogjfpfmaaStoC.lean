/- The plain law of how labels compare: it is an order. -/
import Derived.Test.YtidfiiogjfpfmaaStoB
namespace Go.Proofs.Ytidfiiogjfpfmaa
set_option linter.unusedSimpArgs false
set_option linter.unusedVariables false

namespace Lab
/-- it tells an order -/
structure Ord {α : Type} (c : α → α → Int) : Prop where
  eq : ∀ a b, c a b = 0 ↔ a = b
  anti : ∀ a b, c b a = - c a b
  trans : ∀ a b d, c a b < 0 → c b d < 0 → c a d < 0
theorem less_irrefl : ∀ x : List UInt8, Op.bytesLess x x = false
  | [] => rfl
  | a :: x => by
    unfold Op.bytesLess
    rw [less_irrefl x, Bool.and_false, Bool.or_false]
    exact decide_eq_false (UInt8.lt_irrefl a)
theorem less_cons {a b : UInt8} {x y : List UInt8} : Op.bytesLess (a :: x) (b :: y) = true ↔ a < b ∨ (a = b ∧ Op.bytesLess x y = true) := by
  rw [show Op.bytesLess (a :: x) (b :: y) = (decide (a < b) || (a == b && Op.bytesLess x y)) from rfl]
  simp
theorem less_nil (x : List UInt8) : Op.bytesLess x [] = false := by cases x <;> rfl
theorem less_trans : ∀ x y z : List UInt8, Op.bytesLess x y = true → Op.bytesLess y z = true → Op.bytesLess x z = true
  | _, [], _, h, _ => by rw [less_nil] at h; cases h
  | _, _ :: _, [], _, h => by rw [less_nil] at h; cases h
  | [], _ :: _, _ :: _, _, _ => rfl
  | a :: x, b :: y, d :: z, h, k => by
    rw [less_cons] at h k ⊢
    rcases h with h | ⟨rfl, h⟩
    · rcases k with k | ⟨rfl, k⟩
      · exact .inl (UInt8.lt_trans h k)
      · exact .inl h
    · rcases k with k | ⟨rfl, k⟩
      · exact .inl k
      · exact .inr ⟨rfl, less_trans x y z h k⟩
theorem less_total : ∀ x y : List UInt8, Op.bytesLess x y = false → x ≠ y → Op.bytesLess y x = true
  | [], [], _, h => absurd rfl h
  | [], _ :: _, h, _ => by cases h
  | _ :: _, [], _, _ => rfl
  | a :: x, b :: y, h, hne => by
    have h1 : ¬ (a < b ∨ (a = b ∧ Op.bytesLess x y = true)) := by rw [← less_cons, h]; decide
    rw [less_cons]
    by_cases hab : a = b
    · subst hab
      refine .inr ⟨rfl, less_total x y ?_ (fun e => hne (by rw [e]))⟩
      rcases hx : Op.bytesLess x y with _ | _
      · rfl
      · exact absurd (.inr ⟨rfl, hx⟩) h1
    · refine .inl ?_
      rcases UInt8.lt_or_lt_of_ne hab with h2 | h2
      · exact absurd (.inl h2) h1
      · exact h2
theorem less_asymm {x y : List UInt8} (h : Op.bytesLess x y = true) : Op.bytesLess y x = false := by
  rcases k : Op.bytesLess y x with _ | _
  · rfl
  · have := less_trans _ _ _ h k
    rw [less_irrefl] at this
    cases this
theorem less_ne {x y : List UInt8} (h : Op.bytesLess x y = true) : x ≠ y := by
  rintro rfl
  rw [less_irrefl] at h
  cases h
theorem cmpB_lt {a b : ByteArray} : cmpB a b < 0 ↔ Op.bytesLess a.toList b.toList = true := by
  unfold cmpB
  split
  · simp_all
  · split <;> simp_all
theorem cmpB_eq (a b : ByteArray) : cmpB a b = 0 ↔ a = b := by
  unfold cmpB
  split
  · rename_i h
    have := less_ne h
    exact ⟨fun e => by omega, fun e => absurd (by rw [e]) this⟩
  · split
    · rename_i h
      exact ⟨fun _ => Sel.ba_eq (by simpa using h), fun _ => rfl⟩
    · rename_i h
      exact ⟨fun e => by omega, fun e => by rw [e] at h; simp at h⟩
theorem cmpB_anti (a b : ByteArray) : cmpB b a = - cmpB a b := by
  unfold cmpB
  rcases h1 : Op.bytesLess a.toList b.toList with _ | _
  · rcases h2 : (a.toList == b.toList) with _ | _
    · have hne : a.toList ≠ b.toList := by simpa using h2
      rw [less_total _ _ h1 hne, if_pos rfl]
      simp
    · have he : a.toList = b.toList := by simpa using h2
      rw [he, less_irrefl]
      simp
  · have hne : ¬ b.toList = a.toList := fun e => less_ne h1 e.symm
    rw [less_asymm h1]
    simp [hne]
theorem cmpB_ord : Ord cmpB := ⟨cmpB_eq, cmpB_anti, fun a b d h k => cmpB_lt.2 (less_trans _ _ _ (cmpB_lt.1 h) (cmpB_lt.1 k))⟩
theorem cmpP_ord : Ord cmpP := by
  refine ⟨fun p q => ?_, fun p q => ?_, fun p q r h k => ?_⟩
  · unfold cmpP
    obtain ⟨a, b⟩ := p
    obtain ⟨d, e⟩ := q
    simp only [Prod.mk.injEq]
    split
    · rename_i h
      exact ⟨fun e => absurd e h, fun e => absurd ((cmpB_eq _ _).2 e.1) h⟩
    · rename_i h
      have h0 : cmpB a d = 0 := by omega
      rw [cmpB_eq]
      exact ⟨fun e => ⟨(cmpB_eq _ _).1 h0, e⟩, fun e => e.2⟩
  · unfold cmpP
    rw [cmpB_anti p.1 q.1, cmpB_anti p.2 q.2]
    split <;> split <;> omega
  · unfold cmpP at h k ⊢
    by_cases h1 : cmpB p.1 q.1 = 0
    · have e1 := (cmpB_eq _ _).1 h1
      rw [if_neg (by omega)] at h
      rw [e1]
      by_cases h2 : cmpB q.1 r.1 = 0
      · rw [if_neg (by omega)] at k ⊢
        exact cmpB_ord.trans _ _ _ h k
      · rw [if_pos h2] at k ⊢
        exact k
    · rw [if_pos h1] at h
      by_cases h2 : cmpB q.1 r.1 = 0
      · have e2 := (cmpB_eq _ _).1 h2
        rw [← e2, if_pos h1]
        exact h
      · rw [if_pos h2] at k
        have := cmpB_ord.trans _ _ _ h k
        rw [if_pos (by omega)]
        exact this
theorem cmpL_cons (p q : Pr) (xs ys : List Pr) : cmpL (p :: xs) (q :: ys) = if cmpP p q ≠ 0 then cmpP p q else cmpL xs ys := rfl
theorem cmpL_eq : ∀ xs ys : List Pr, cmpL xs ys = 0 ↔ xs = ys
  | [], [] => ⟨fun _ => rfl, fun _ => rfl⟩
  | [], _ :: _ => ⟨fun h => absurd (show (-1 : Int) = 0 from h) (by decide), fun h => by cases h⟩
  | _ :: _, [] => ⟨fun h => absurd (show (1 : Int) = 0 from h) (by decide), fun h => by cases h⟩
  | p :: xs, q :: ys => by
    rw [cmpL_cons, List.cons.injEq]
    split
    · rename_i h
      exact ⟨fun e => absurd e h, fun e => absurd ((cmpP_ord.eq _ _).2 e.1) h⟩
    · rename_i h
      have h0 : cmpP p q = 0 := by omega
      rw [cmpL_eq xs ys]
      exact ⟨fun e => ⟨(cmpP_ord.eq _ _).1 h0, e⟩, fun e => e.2⟩
theorem cmpL_anti : ∀ xs ys : List Pr, cmpL ys xs = - cmpL xs ys
  | [], [] => rfl
  | [], _ :: _ => rfl
  | _ :: _, [] => rfl
  | p :: xs, q :: ys => by
    rw [cmpL_cons, cmpL_cons, cmpP_ord.anti p q, cmpL_anti xs ys]
    split <;> split <;> omega
theorem cmpL_trans : ∀ xs ys zs : List Pr, cmpL xs ys < 0 → cmpL ys zs < 0 → cmpL xs zs < 0
  | _, [], [], _, h => absurd h (by decide)
  | [], [], _ :: _, h, _ => absurd h (by decide)
  | _ :: _, [], _ :: _, h, _ => absurd h (by show ¬ (1 : Int) < 0; decide)
  | _, _ :: _, [], _, h => absurd h (by show ¬ (1 : Int) < 0; decide)
  | [], _ :: _, _ :: _, _, _ => by show (-1 : Int) < 0; decide
  | p :: xs, q :: ys, r :: zs, h, k => by
    rw [cmpL_cons] at h k ⊢
    by_cases h1 : cmpP p q = 0
    · have e1 := (cmpP_ord.eq _ _).1 h1
      rw [if_neg (by omega)] at h
      rw [e1]
      by_cases h2 : cmpP q r = 0
      · rw [if_neg (by omega)] at k ⊢
        exact cmpL_trans _ _ _ h k
      · rw [if_pos h2] at k ⊢
        exact k
    · rw [if_pos h1] at h
      by_cases h2 : cmpP q r = 0
      · have e2 := (cmpP_ord.eq _ _).1 h2
        rw [← e2, if_pos h1]
        exact h
      · rw [if_pos h2] at k
        have := cmpP_ord.trans _ _ _ h k
        rw [if_pos (by omega)]
        exact this
theorem cmpL_ord : Ord cmpL := ⟨cmpL_eq, cmpL_anti, cmpL_trans⟩
theorem Ord.self {α : Type} {c : α → α → Int} (h : Ord c) (a : α) : c a a = 0 := (h.eq a a).2 rfl
end Lab
end Go.Proofs.Ytidfiiogjfpfmaa
