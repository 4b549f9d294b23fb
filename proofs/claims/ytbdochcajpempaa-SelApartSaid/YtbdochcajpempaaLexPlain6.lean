/- The plain law of lex, continued: joined, with white between, quoted, cut short. -/
import Derived.Test.YtbdochcajpempaaLexPlain5
namespace Go.Proofs.Ytbdochcajpempaa.Lex

def joinR : List (Nat × Bs) → Bs
  | [] => []
  | (k, s) :: L => 32 :: (tokText k s ++ joinR L)
/-- tokens as a text -/
def join : List (Nat × Bs) → Bs
  | [] => []
  | (k, s) :: L => tokText k s ++ joinR L
theorem joinR_lay (L : List (Nat × Bs)) : joinR L = lay (L.map fun x => ([32], x.1, x.2)) [] := by
  induction L with
  | nil => rfl
  | cons x L ih =>
    show 32 :: (tokText x.1 x.2 ++ joinR L) = [32] ++ (tokText x.1 x.2 ++ lay _ [])
    rw [ih]
    rfl
theorem sep_blank : Sep [32] := fun _ => rfl
theorem ends_nil : ends [] := rfl
theorem joined (L : List (Nat × Bs)) (hg : ∀ x ∈ L, good x.1 x.2) (f N : Nat) (hf : L.length < f) : bare (all f (join L) N).1 = L ∧ (all f (join L) N).2 = (N, 0) := by
  cases L with
  | nil =>
    have := all_lay [] [] rfl rfl (by intro x h; cases h) (by intro x h; cases h) f N hf
    exact this
  | cons x L =>
    obtain ⟨k, s⟩ := x
    have e : join ((k, s) :: L) = lay (([], k, s) :: L.map fun x => ([32], x.1, x.2)) [] := by
      show tokText k s ++ joinR L = [] ++ (tokText k s ++ lay _ [])
      rw [joinR_lay]
      rfl
    have := all_lay (([], k, s) :: L.map fun x => ([32], x.1, x.2)) [] rfl rfl (by
      intro x hx
      rcases List.mem_cons.1 hx with h | h
      · subst h; exact ⟨hg _ List.mem_cons_self, fun _ => rfl⟩
      · obtain ⟨y, hy, rfl⟩ := List.mem_map.1 h
        exact ⟨hg _ (List.mem_cons_of_mem _ hy), sep_blank⟩) (by
      intro x hx
      obtain ⟨y, hy, rfl⟩ := List.mem_map.1 hx
      exact ⟨rfl, by simp⟩) f N (by simpa using hf)
    rw [e]
    refine ⟨this.1.trans ?_, this.2⟩
    simp [List.map_map, Function.comp_def]

/-- what is put between -/
def whites (i : Nat) : Bs :=
  match i % 5 with
  | 0 => [32]
  | 1 => [9]
  | 2 => [13, 10]
  | 3 => [35, 32, 120, 32, 34, 10]
  | _ => [10, 32, 35, 32, 59, 32, 10, 9]
theorem whites_sep (i : Nat) : Sep (whites i) := by
  unfold whites
  split <;> exact fun _ => rfl
theorem whites_ends (i : Nat) : ends (whites i) ∧ whites i ≠ [] := by
  unfold whites
  split <;> exact ⟨rfl, by simp⟩
/-- white and tokens -/
def whiteLay : Nat → List (Nat × Bs) → List (Bs × Nat × Bs)
  | _, [] => []
  | i, (k, s) :: L => (whites i, k, s) :: whiteLay (i + 1) L
theorem whiteLay_mem {i : Nat} {L : List (Nat × Bs)} {x : Bs × Nat × Bs} (h : x ∈ whiteLay i L) : x.2 ∈ L ∧ ∃ j, x.1 = whites j := by
  induction L generalizing i with
  | nil => cases h
  | cons y L ih =>
    rcases List.mem_cons.1 h with h | h
    · subst h; exact ⟨List.mem_cons_self, i, rfl⟩
    · exact ⟨List.mem_cons_of_mem _ (ih h).1, (ih h).2⟩
theorem whiteLay_map (i : Nat) (L : List (Nat × Bs)) : (whiteLay i L).map (·.2) = L := by
  induction L generalizing i with
  | nil => rfl
  | cons y L ih => show y :: _ = _; rw [ih]
theorem whited (L : List (Nat × Bs)) (hg : ∀ x ∈ L, good x.1 x.2) (i j f N : Nat) (hf : L.length < f) :
    bare (all f (lay (whiteLay i L) (whites j)) N).1 = L ∧ (all f (lay (whiteLay i L) (whites j)) N).2 = (N, 0) := by
  have hend : skip false (whites j) = [] := by
    have := whites_sep j []
    rw [List.append_nil] at this
    exact this
  have := all_lay (whiteLay i L) (whites j) hend (whites_ends j).1 (fun x hx => by
    obtain ⟨h1, m, h2⟩ := whiteLay_mem hx
    exact ⟨hg _ h1, h2 ▸ whites_sep m⟩) (fun x hx => by
    obtain ⟨_, m, h2⟩ := whiteLay_mem (List.mem_of_mem_tail hx)
    exact h2 ▸ whites_ends m) f N (by have := congrArg List.length (whiteLay_map i L); rw [List.length_map] at this; omega)
  rw [whiteLay_map] at this
  exact this
end Go.Proofs.Ytbdochcajpempaa.Lex
