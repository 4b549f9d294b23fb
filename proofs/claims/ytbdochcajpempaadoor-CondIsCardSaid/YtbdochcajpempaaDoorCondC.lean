/- The texts CondA, CondB, CondC in one. -/
import Derived.Test.YtbdochcajpempaaDoorProg
import Derived.WalkKit
import Derived.WalkSpells
import Derived.WalkLawsBesides
import Derived.Lib.Hide
import Derived.IntWalk
import Derived.Test.YtbdochcajpempaaDoorSelX
import Derived.Test.YtbdochcajpempaaDoorNumPlain3
import Derived.Test.YtbdochcajpempaaDoorNumB
import Derived.Test.YtbdochcajpempaaDoorNumD
/- The walks of cond's isOp, Holds and Not, and of the reference's Holds and Not. -/
namespace Go.Proofs.YtbdochcajpempaaDoor
open Go.RowKit
set_option linter.unusedSimpArgs false
set_option linter.unusedVariables false

namespace Cond
def isOp (op : Int) : Bool := decide (1 ≤ op) && decide (op ≤ 6)
def holds (op v t : Int) : Bool :=
  if op = 1 then decide (t < v) else if op = 2 then decide (t ≤ v) else if op = 3 then decide (v < t) else if op = 4 then decide (v ≤ t) else if op = 5 then (v == t) else if op = 6 then (v != t) else false
def not_ (op : Int) : Int := if op = 1 then 4 else if op = 2 then 3 else if op = 3 then 2 else if op = 4 then 1 else if op = 5 then 6 else if op = 6 then 5 else 0
end Cond

set_option maxHeartbeats 4000000 in
theorem not_any (op : Int) (w : World) : Calls Tryd.prog 17 #[.int .i64 op] w fun e w' => e = .returned (.int .i64 (Cond.not_ op)) ∧ w = w' := by
  unfold Cond.not_
  go_enter Tryd.func17, Tryd.ntmps17
  go_wp2
  all_goals go_ret
  all_goals first | exact ⟨rfl, rfl⟩ | (subst_vars; exact ⟨rfl, rfl⟩) | (refine ⟨?_, rfl⟩; simp_all; done) | (refine ⟨?_, rfl⟩; simp_all; omega)
set_option maxHeartbeats 4000000 in
theorem rNot_any (op : Int) (w : World) : Calls Tryd.prog 18 #[.int .i64 op] w fun e w' => e = .returned (.int .i64 (Cond.not_ op)) ∧ w = w' := by
  unfold Cond.not_
  go_enter Tryd.func18, Tryd.ntmps18
  go_wp2
  all_goals go_ret
  all_goals first | exact ⟨rfl, rfl⟩ | (subst_vars; exact ⟨rfl, rfl⟩) | (refine ⟨?_, rfl⟩; simp_all; done) | (refine ⟨?_, rfl⟩; simp_all; omega)
set_option maxHeartbeats 4000000 in
theorem holds_any (op v t : Int) (w : World) : Calls Tryd.prog 15 #[.int .i64 op, .int .i64 v, .int .i64 t] w fun e w' => e = .returned (.bool (Cond.holds op v t)) ∧ w = w' := by
  unfold Cond.holds
  go_enter Tryd.func15, Tryd.ntmps15
  go_wp2
  all_goals go_ret
  all_goals first | exact ⟨rfl, rfl⟩ | (subst_vars; exact ⟨rfl, rfl⟩) | (refine ⟨?_, rfl⟩; simp_all; done) | (refine ⟨?_, rfl⟩; simp_all; omega)
set_option maxHeartbeats 4000000 in
theorem rHolds_any (op v t : Int) (w : World) : Calls Tryd.prog 16 #[.int .i64 op, .int .i64 v, .int .i64 t] w fun e w' => e = .returned (.bool (Cond.holds op v t)) ∧ w = w' := by
  unfold Cond.holds
  go_enter Tryd.func16, Tryd.ntmps16
  go_wp2
  all_goals go_ret
  all_goals first | exact ⟨rfl, rfl⟩ | (subst_vars; exact ⟨rfl, rfl⟩) | (refine ⟨?_, rfl⟩; simp_all; done) | (refine ⟨?_, rfl⟩; simp_all; omega)
set_option maxHeartbeats 4000000 in
theorem isOp_any (op : Int) (w : World) : Calls Tryd.prog 25 #[.int .i64 op] w fun e w' => e = .returned (.bool (Cond.isOp op)) ∧ w = w' := by
  unfold Cond.isOp
  go_enter Tryd.func25, Tryd.ntmps25
  go_wp2
  all_goals go_ret
  all_goals first | exact ⟨rfl, rfl⟩ | (subst_vars; exact ⟨rfl, rfl⟩) | (refine ⟨?_, rfl⟩; simp_all; done) | (refine ⟨?_, rfl⟩; simp_all; omega)
end Go.Proofs.YtbdochcajpempaaDoor

/- The plain law of cond: what is asked, parsed out of tokens; what is printed is read and parsed to the same. -/
namespace Go.Proofs.YtbdochcajpempaaDoor
set_option linter.unusedSimpArgs false
set_option linter.unusedVariables false

namespace Cond
/-- what is asked: the selector's name and matches, the op, the threshold -/
abbrev Ex := ByteArray × List Sel.Mt × Int × Int
abbrev Res := Ex × Nat × Int
def none_ : Ex := (⟨#[]⟩, [], 0, 0)
def opB : ByteArray := ⟨#[40]⟩
def clB : ByteArray := ⟨#[41]⟩
/-- the ops' signs -/
def signL : Nat → Lex.Bs
  | 1 => [62]
  | 2 => [62, 61]
  | 3 => [60]
  | 4 => [60, 61]
  | 5 => [61, 61]
  | 6 => [33, 61]
  | _ => []
def signB (k : Nat) : ByteArray := ⟨(signL k).toArray⟩
def sane (nm : ByteArray) (ms : List Sel.Mt) (op v : Int) : Bool := Lab.selSane nm ms && isOp op && Num.sane v
def numB (v : Int) : ByteArray := ⟨(Num.print v).toArray⟩
def text (nm : ByteArray) (ms : List Sel.Mt) (k : Nat) (v : Int) : ByteArray := Sel.print nm ms ++ ⟨#[32]⟩ ++ signB k ++ ⟨#[32]⟩ ++ numB v
def print (nm : ByteArray) (ms : List Sel.Mt) (op v : Int) : ByteArray := if sane nm ms op v = true then text nm ms op.toNat v else ⟨#[]⟩
def opAt (ts : List Sel.Tk) (i : Nat) : Nat :=
  if Sel.isS ts i (signB 1) = true then 1 else if Sel.isS ts i (signB 2) = true then 2 else if Sel.isS ts i (signB 3) = true then 3
  else if Sel.isS ts i (signB 4) = true then 4 else if Sel.isS ts i (signB 5) = true then 5 else if Sel.isS ts i (signB 6) = true then 6 else 0
/-- behind the selector -/
def rest (ts : List Sel.Tk) (nm : ByteArray) (ms : List Sel.Mt) (j : Nat) : Res :=
  if opAt ts j = 0 then (none_, j, Sel.wrong ts j)
  else if Sel.isK ts (j + 1) 2 = false then (none_, j + 1, Sel.wrong ts (j + 1))
  else if (Num.parse (Num.bl (Sel.sOf ts (j + 1)))).2 ≠ 0 then (none_, j + 1, (Num.parse (Num.bl (Sel.sOf ts (j + 1)))).2)
  else ((nm, ms, (opAt ts j : Int), (Num.parse (Num.bl (Sel.sOf ts (j + 1)))).1), j + 2, 0)
def plain (ts : List Sel.Tk) (i : Nat) : Res :=
  match Sel.parse ts (i : Int) with
  | (nm, ms, j, e) => if e ≠ 0 then (none_, j, e) else rest ts nm ms j
def close (ts : List Sel.Tk) (r : Res) : Res :=
  if r.2.2 ≠ 0 then (none_, r.2.1, r.2.2) else if Sel.isS ts r.2.1 clB = true then (r.1, r.2.1 + 1, 0) else (none_, r.2.1, Sel.wrong ts r.2.1)
def within (ts : List Sel.Tk) : Nat → Nat → Res
  | 0, i => if Sel.isS ts i opB = true then (none_, i, 8) else plain ts i
  | f + 1, i => if Sel.isS ts i opB = true then close ts (within ts f (i + 1)) else plain ts i
def finish (ts : List Sel.Tk) : Nat → Res → Res
  | 0, r => r
  | d + 1, r => finish ts d (close ts r)
def parse (ts : List Sel.Tk) (i : Int) : Res := if i < 0 then (none_, 0, 3) else within ts 32 i.toNat

theorem plain_bad {ts : List Sel.Tk} {i : Nat} {nm : ByteArray} {ms : List Sel.Mt} {j : Nat} {e : Int} (h : Sel.parse ts (i : Int) = (nm, ms, j, e)) (he : e ≠ 0) : plain ts i = (none_, j, e) := by
  unfold plain; rw [h]; exact if_pos he
theorem plain_good {ts : List Sel.Tk} {i : Nat} {nm : ByteArray} {ms : List Sel.Mt} {j : Nat} (h : Sel.parse ts (i : Int) = (nm, ms, j, 0)) : plain ts i = rest ts nm ms j := by
  unfold plain; rw [h]; exact if_neg (by decide)
theorem close_err {ts : List Sel.Tk} {x : Ex} {j : Nat} {e : Int} (he : e ≠ 0) : close ts (x, j, e) = (none_, j, e) := by unfold close; exact if_pos he
theorem close_ok {ts : List Sel.Tk} {x : Ex} {j : Nat} (h : Sel.isS ts j clB = true) : close ts (x, j, 0) = (x, j + 1, 0) := by unfold close; rw [if_neg (fun h => h rfl)]; exact if_pos h
theorem close_no {ts : List Sel.Tk} {x : Ex} {j : Nat} (h : Sel.isS ts j clB = false) : close ts (x, j, 0) = (none_, j, Sel.wrong ts j) := by
  unfold close; rw [if_neg (fun h => h rfl)]; exact if_neg (by rw [h]; decide)
theorem finish_err {ts : List Sel.Tk} (d : Nat) {j : Nat} {e : Int} (he : e ≠ 0) : finish ts d (none_, j, e) = (none_, j, e) := by
  induction d with
  | zero => rfl
  | succ d ih => unfold finish; rw [close_err he, ih]
theorem within_open {ts : List Sel.Tk} {f i : Nat} (h : Sel.isS ts i opB = true) : within ts (f + 1) i = close ts (within ts f (i + 1)) := by
  conv => lhs; unfold within
  exact if_pos h
theorem within_deep {ts : List Sel.Tk} {i : Nat} (h : Sel.isS ts i opB = true) : within ts 0 i = (none_, i, 8) := by unfold within; exact if_pos h
theorem within_plain {ts : List Sel.Tk} {f i : Nat} (h : Sel.isS ts i opB = false) : within ts f i = plain ts i := by
  cases f with
  | zero => unfold within; exact if_neg (by rw [h]; decide)
  | succ f => unfold within; exact if_neg (by rw [h]; decide)
theorem signB_inj {a b : Nat} (ha : 1 ≤ a) (ha6 : a ≤ 6) (hb : 1 ≤ b) (hb6 : b ≤ 6) (h : signB a = signB b) : a = b := by
  have : ∀ x : Fin 6, ∀ y : Fin 6, signB (x.val + 1) = signB (y.val + 1) → x = y := by decide
  have h2 := this ⟨a - 1, by omega⟩ ⟨b - 1, by omega⟩ (by show signB (a - 1 + 1) = signB (b - 1 + 1); rw [Nat.sub_add_cancel ha, Nat.sub_add_cancel hb]; exact h)
  have h3 : a - 1 = b - 1 := congrArg Fin.val h2
  omega
theorem isS_one {ts : List Sel.Tk} {i : Nat} {s t : ByteArray} (h : Sel.isS ts i s = true) (g : Sel.isS ts i t = true) : s = t := by
  rcases hx : ts[i]? with _ | x
  · rw [Sel.isS_none hx] at h; cases h
  · rw [Sel.isS_some hx] at h g
    simp only [Bool.and_eq_true, decide_eq_true_eq] at h g
    rw [← h.2, g.2]
theorem opAt_le (ts : List Sel.Tk) (i : Nat) : opAt ts i ≤ 6 := by
  unfold opAt
  repeat' (split; decide)
  decide
theorem opAt_is (ts : List Sel.Tk) (i : Nat) (h : opAt ts i ≠ 0) : Sel.isS ts i (signB (opAt ts i)) = true := by
  unfold opAt at h ⊢
  split
  · assumption
  · split
    · assumption
    · split
      · assumption
      · split
        · assumption
        · split
          · assumption
          · split
            · assumption
            · simp_all
theorem isS_op {ts : List Sel.Tk} {i k : Nat} (h1 : 1 ≤ k) (h6 : k ≤ 6) : Sel.isS ts i (signB k) = decide (opAt ts i = k) := by
  rcases hs : Sel.isS ts i (signB k) with _ | _
  · symm
    rw [decide_eq_false_iff_not]
    intro e
    have := opAt_is ts i (by omega)
    rw [e, hs] at this
    cases this
  · symm
    rw [decide_eq_true_eq]
    have h0 : opAt ts i ≠ 0 := by
      intro h0
      unfold opAt at h0
      have hk : k = 1 ∨ k = 2 ∨ k = 3 ∨ k = 4 ∨ k = 5 ∨ k = 6 := by omega
      rcases hk with rfl | rfl | rfl | rfl | rfl | rfl <;> simp [hs] at h0 <;> (repeat' split at h0) <;> omega
    exact signB_inj (by omega) (opAt_le ts i) h1 h6 (isS_one (opAt_is ts i h0) hs)

/-- where what is parsed ends -/
theorem rest_range {ts : List Sel.Tk} {nm : ByteArray} {ms : List Sel.Mt} {j k : Nat} {x : Ex} {e : Int} (hn : Lab.selSane nm ms = true) (hj : j ≤ ts.length) (h : rest ts nm ms j = (x, k, e)) :
    (e = 0 → sane x.1 x.2.1 x.2.2.1 x.2.2.2 = true ∧ k = j + 2 ∧ k ≤ ts.length) ∧ (e ≠ 0 → x = none_ ∧ j ≤ k ∧ k ≤ ts.length ∧ (e = 3 ↔ k = ts.length)) := by
  unfold rest at h
  split at h
  · injection h with h0 h; injection h with h1 h2
    subst h0 h1 h2
    exact ⟨fun h => absurd h (Sel.wrong_ne _ _), fun _ => ⟨rfl, Nat.le_refl _, hj, Sel.wrong_range hj⟩⟩
  · rename_i ho
    have hlt := Sel.isS_lt (opAt_is ts j ho)
    split at h
    · injection h with h0 h; injection h with h1 h2
      subst h0 h1 h2
      exact ⟨fun h => absurd h (Sel.wrong_ne _ _), fun _ => ⟨rfl, by omega, by omega, Sel.wrong_range (by omega)⟩⟩
    · rename_i hk
      have hlt2 := Sel.isK_lt (show Sel.isK ts (j + 1) 2 = true by simpa using hk)
      split at h
      · rename_i he
        injection h with h0 h; injection h with h1 h2
        subst h0 h1 h2
        refine ⟨fun h => absurd h he, fun _ => ⟨rfl, by omega, by omega, ?_⟩⟩
        have h3 : (Num.parse (Num.bl (Sel.sOf ts (j + 1)))).2 ≠ 3 := by
          unfold Num.parse Num.done
          split
          · decide
          · split <;> (simp only; decide)
        exact ⟨fun h => absurd h h3, fun h => by omega⟩
      · rename_i he
        injection h with h0 h; injection h with h1 h2
        subst h0 h1 h2
        refine ⟨fun _ => ⟨?_, rfl, by omega⟩, fun h => absurd rfl h⟩
        have hp : Num.parse (Num.bl (Sel.sOf ts (j + 1))) = ((Num.parse (Num.bl (Sel.sOf ts (j + 1)))).1, 0) := Prod.ext rfl (by simpa using he)
        unfold sane isOp
        rw [hn, (Num.once hp).2.2.1]
        have := opAt_le ts j
        simp
        omega
theorem plain_range {ts : List Sel.Tk} {i k : Nat} {x : Ex} {e : Int} (h : plain ts i = (x, k, e)) :
    (e = 0 → sane x.1 x.2.1 x.2.2.1 x.2.2.2 = true ∧ i + 2 < k ∧ k ≤ ts.length) ∧ (e ≠ 0 → x = none_ ∧ min i ts.length ≤ k ∧ k ≤ ts.length ∧ (e = 3 ↔ k = ts.length)) := by
  rcases hp : Sel.parse ts (i : Int) with ⟨nm, ms, j, e2⟩
  have hp2 := hp
  unfold Sel.parse at hp2
  rw [if_neg (by omega), show ((i : Int)).toNat = i from rfl] at hp2
  have hr := Sel.selAt_range (Nat.min_le_right _ _) hp2
  by_cases he2 : e2 = 0
  · subst he2
    obtain ⟨r1, r2, r3, r4⟩ := hr.1 rfl
    rw [plain_good hp] at h
    have hr2 := rest_range r1 r4 h
    exact ⟨fun h0 => by have := hr2.1 h0; exact ⟨this.1, by omega, by omega⟩, fun h0 => by have := hr2.2 h0; exact ⟨this.1, by omega, this.2.2.1, this.2.2.2⟩⟩
  · rw [plain_bad hp he2] at h
    injection h with h0 h; injection h with h1 h2
    subst h0 h1 h2
    have := hr.2 he2
    exact ⟨fun h => absurd h he2, fun _ => ⟨rfl, this.2.2.1, this.2.2.2.1, this.2.2.2.2⟩⟩
theorem within_range {ts : List Sel.Tk} (f : Nat) : ∀ {i k : Nat} {x : Ex} {e : Int}, within ts f i = (x, k, e) →
    (e = 0 → sane x.1 x.2.1 x.2.2.1 x.2.2.2 = true ∧ i + 2 < k ∧ k ≤ ts.length) ∧ (e ≠ 0 → x = none_ ∧ min i ts.length ≤ k ∧ k ≤ ts.length ∧ (e = 3 ↔ k = ts.length)) := by
  induction f with
  | zero =>
    intro i k x e h
    rcases hs : Sel.isS ts i opB with _ | _
    · rw [within_plain hs] at h
      exact plain_range h
    · rw [within_deep hs] at h
      injection h with h0 h; injection h with h1 h2
      subst h0 h1 h2
      have := Sel.isS_lt hs
      exact ⟨fun h => absurd h (by decide), fun _ => ⟨rfl, by omega, by omega, fun h => absurd h (by decide), fun h => by omega⟩⟩
  | succ f ih =>
    intro i k x e h
    rcases hs : Sel.isS ts i opB with _ | _
    · rw [within_plain hs] at h
      exact plain_range h
    · rw [within_open hs] at h
      have hlt := Sel.isS_lt hs
      rcases hw : within ts f (i + 1) with ⟨y, j, e2⟩
      have hr := ih hw
      rw [hw] at h
      by_cases he2 : e2 = 0
      · subst he2
        obtain ⟨r1, r2, r3⟩ := hr.1 rfl
        rcases hc : Sel.isS ts j clB with _ | _
        · rw [close_no hc] at h
          injection h with h0 h; injection h with h1 h2
          subst h0 h1 h2
          exact ⟨fun h => absurd h (Sel.wrong_ne _ _), fun _ => ⟨rfl, by omega, r3, Sel.wrong_range r3⟩⟩
        · rw [close_ok hc] at h
          have := Sel.isS_lt hc
          injection h with h0 h; injection h with h1 h2
          subst h0 h1 h2
          exact ⟨fun _ => ⟨r1, by omega, by omega⟩, fun h => absurd rfl h⟩
      · rw [close_err he2] at h
        have := hr.2 he2
        injection h with h0 h; injection h with h1 h2
        subst h0 h1 h2
        exact ⟨fun h => absurd h he2, fun _ => ⟨rfl, by omega, this.2.2.1, this.2.2.2⟩⟩
end Cond
end Go.Proofs.YtbdochcajpempaaDoor

/- The plain law of cond, continued: what is printed, with brackets around it, is read to its tokens, and these are parsed to the same. -/
namespace Go.Proofs.YtbdochcajpempaaDoor
set_option linter.unusedSimpArgs false
set_option linter.unusedVariables false

namespace Lex
theorem Lexes.blank {r : Bs} {N : Nat} {L : List (Nat × Bs)} (hL : Lexes r N L) : Lexes (32 :: r) N L := by
  intro f hf
  obtain ⟨f, rfl⟩ : ∃ g, f = g + 1 := ⟨f - 1, by simp at hf; omega⟩
  rw [← all_skip, show skip false (32 :: r) = skip false r from rfl, all_skip]
  exact hL (f + 1) (by simp at hf; omega)
theorem Lexes.paren {c : UInt8} {r : Bs} {N : Nat} {L : List (Nat × Bs)} (hc : c = 40 ∨ c = 41) (hL : Lexes r N L) : Lexes (c :: r) N ((4, [c]) :: L) := by
  rcases hc with rfl | rfl
  · exact Lexes.step (by unfold one begins; simp [letter, digit, twos, ones]) (by decide) (by decide) hL
  · exact Lexes.step (by unfold one begins; simp [letter, digit, twos, ones]) (by decide) (by decide) hL
theorem Lexes.oper {k : Nat} (h1 : 1 ≤ k) (h6 : k ≤ 6) {r : Bs} {N : Nat} {L : List (Nat × Bs)} (hL : Lexes (32 :: r) N L) : Lexes (Cond.signL k ++ 32 :: r) N ((4, Cond.signL k) :: L) := by
  have hk : k = 1 ∨ k = 2 ∨ k = 3 ∨ k = 4 ∨ k = 5 ∨ k = 6 := by omega
  rcases hk with rfl | rfl | rfl | rfl | rfl | rfl
  · exact Lexes.step (by unfold one begins; simp [firstIs_cons, letter, digit, twos, ones]; rfl) (by decide) (by decide) hL
  · exact Lexes.step (by unfold one begins; simp [firstIs_cons, letter, digit, twos, ones]; rfl) (by decide) (by decide) hL
  · exact Lexes.step (by unfold one begins; simp [firstIs_cons, letter, digit, twos, ones]; rfl) (by decide) (by decide) hL
  · exact Lexes.step (by unfold one begins; simp [firstIs_cons, letter, digit, twos, ones]; rfl) (by decide) (by decide) hL
  · exact Lexes.step (by unfold one begins; simp [firstIs_cons, letter, digit, twos, ones]; rfl) (by decide) (by decide) hL
  · exact Lexes.step (by unfold one begins; simp [firstIs_cons, letter, digit, twos, ones]; rfl) (by decide) (by decide) hL
set_option maxRecDepth 100000 in
theorem digit_letter {c : UInt8} (h : digit c = true) : letter c = false := by
  have hall : ∀ n : Fin 256, digit (UInt8.ofNat n.val) = true → letter (UInt8.ofNat n.val) = false := by decide
  have := hall ⟨c.toNat, c.toNat_lt⟩
  rw [show UInt8.ofNat c.toNat = c from UInt8.ofNat_toNat] at this
  exact this h
theorem Lexes.digits {c : UInt8} {l r : Bs} {N : Nat} {L : List (Nat × Bs)} (hc : digit c = true) (hl : l.all (goes true) = true) (hr : firstIs (goes true) r = false) (hL : Lexes r N L) : Lexes (c :: (l ++ r)) N ((2, c :: l) :: L) := by
  have ht := take_stop hl hr
  have hf := num_facts (c := c) (b := false) (by rw [hc]; rfl)
  refine Lexes.step ?_ hf.1 hf.2 hL
  unfold one
  rw [show begins c (l ++ r) = (2, 0) by unfold begins; rw [if_neg (by rw [digit_letter hc]; decide), if_pos (by rw [hc]; rfl)]]
  simp only [ht.1, ht.2]
theorem Lexes.minus {c : UInt8} {l r : Bs} {N : Nat} {L : List (Nat × Bs)} (hc : digit c = true) (hl : l.all (goes true) = true) (hr : firstIs (goes true) r = false) (hL : Lexes r N L) : Lexes (45 :: c :: (l ++ r)) N ((2, 45 :: c :: l) :: L) := by
  have ht := take_stop (l := c :: l) (by rw [List.all_cons, digit_goes hc, hl]; rfl) hr
  refine Lexes.step ?_ (by decide) (by decide) hL
  unfold one
  rw [show begins 45 (c :: (l ++ r)) = (2, 0) by unfold begins; rw [if_neg (by decide), if_pos (by rw [firstIs_cons, hc]; decide)]]
  rw [List.cons_append] at ht
  simp only [ht.1, ht.2]
end Lex

namespace Num
theorem all_goes {l : Bs} (h : l.all digit = true) : l.all (Lex.goes true) = true := by
  rw [List.all_eq_true] at h ⊢
  intro c hc
  exact Lex.digit_goes (h c hc)
theorem pos_shape (n : Nat) : ∃ c l, pos n = c :: l ∧ Lex.digit c = true ∧ l.all (Lex.goes true) = true := by
  have hd := val_digs (n / 1000)
  have ht := tail_facts (n % 1000) (Nat.mod_lt _ (by decide))
  unfold pos
  rw [places_tail]
  rcases hD : Lib.decDigits (n / 1000) with _ | ⟨c, l⟩
  · rw [hD] at hd; exact absurd rfl hd.2.2
  · rw [hD] at hd
    simp only [List.all_cons, Bool.and_eq_true] at hd
    refine ⟨c, _, rfl, hd.1.1, ?_⟩
    show (l ++ _).all _ = true
    rw [List.all_append, all_goes hd.1.2, Bool.true_and]
    split
    · rfl
    · rw [List.all_cons, all_goes ht.1]; rfl
/-- a number's text is one token -/
theorem lex_num {v : Int} (h : sane v = true) {r : Lex.Bs} {N : Nat} {L : List (Nat × Lex.Bs)} (hr : Lex.firstIs (Lex.goes true) r = false) (hL : Lex.Lexes r N L) : Lex.Lexes (print v ++ r) N ((2, print v) :: L) := by
  obtain ⟨c, l, e, hc, hl⟩ := pos_shape v.natAbs
  unfold print
  rw [if_pos h, e]
  split
  · exact Lex.Lexes.minus hc hl hr hL
  · exact Lex.Lexes.digits hc hl hr hL
theorem pos_len (n : Nat) (hn : n ≤ 9007199254740992) : (pos n).length ≤ 25 := by
  unfold pos
  rw [List.length_append, places_tail]
  have h1 := digs_len (n / 1000) (by omega)
  have h2 := tail_len (n % 1000)
  split
  · simp only [List.length_nil]; omega
  · rw [List.length_cons]; omega
theorem print_len (d : Int) : (print d).length ≤ 26 := by
  unfold print
  split
  · rename_i h
    have hb := (sane_iff d).1 h
    have := pos_len d.natAbs (by omega)
    split
    · rw [List.length_cons]; omega
    · omega
  · simp
end Num

namespace Sel
theorem ptext_head {m : Mt} {ms : List Mt} (r : Lex.Bs) (h : Lab.name m.1 = true) : Lex.firstIs (· == 61) (ptext (m :: ms) ++ r) = false := by
  unfold ptext
  rw [List.append_assoc]
  exact head61 h _
/-- the text behind the first bracket, and what is behind it -/
theorem lex_ptextR {N : Nat} {r : Lex.Bs} {L : List (Nat × Lex.Bs)} (hr : Lex.firstIs (· == 61) r = false) (hL : Lex.Lexes r N L) : ∀ (ms : List Mt), ms ≠ [] → (∀ m ∈ ms, okM m) → Lex.Lexes (ptext ms ++ r) N (ptoks ms ++ L)
  | [], h, _ => absurd rfl h
  | [m], _, h => by
    have := lex_match (h m (by simp)) (Lex.Lexes.sign (c := 125) (.inr (.inl rfl)) hr hL)
    simpa [ptext, ptoks, List.append_assoc] using this
  | m :: m2 :: ms, _, h => by
    have ih := lex_ptextR hr hL (m2 :: ms) (by simp) (fun x hx => h x (by simp at hx ⊢; right; exact hx))
    have h61 : Lex.firstIs (· == 61) (ptext (m2 :: ms) ++ r) = false := ptext_head r (h m2 (by simp)).1
    have := lex_match (h m (by simp)) (Lex.Lexes.sign (c := 44) (.inr (.inr (.inl rfl))) h61 ih)
    rw [show ptext (m :: m2 :: ms) = Lex.bl m.1 ++ (Lex.bl (how m.2.2) ++ (Lex.quote (Lex.bl m.2.1) ++ (44 :: ptext (m2 :: ms)))) from rfl, show ptoks (m :: m2 :: ms) = mtoks m ++ ((4, [44]) :: ptoks (m2 :: ms)) from rfl]
    simpa [List.append_assoc] using this
/-- a selector's text with a blank behind it -/
theorem lex_printR {nm : ByteArray} {ms : List Mt} (h : Lab.selSane nm ms = true) {N : Nat} {r : Lex.Bs} {L : List (Nat × Lex.Bs)} (hL : Lex.Lexes (32 :: r) N L) : Lex.Lexes (Lex.bl (print nm ms) ++ 32 :: r) N (stoks nm ms ++ L) := by
  obtain ⟨c, l, e, hc, hl⟩ := name_list (sane_nm h).2.2.2
  unfold print
  rw [if_pos h]
  cases ms with
  | nil =>
    rw [if_pos (show ([] : List Mt).length = 0 from rfl)]
    unfold stoks
    rw [e]
    exact Lex.Lexes.word hc hl (r := 32 :: r) rfl hL
  | cons m ms =>
    rw [if_neg (by simp), Lex.bl_append, textTo_tail 0 (by simp), List.append_assoc, List.append_assoc, List.drop_zero]
    rw [show Lex.bl clS = [125] from rfl]
    rw [← List.append_assoc (tailText 0 (m :: ms)), tail_ptext _ 0 (by simp)]
    unfold stoks
    rw [show Lex.bl (textTo nm (m :: ms) 0) = Lex.bl nm from rfl, e, show Lex.bl (btw 0) = [123] from rfl]
    have h61 : Lex.firstIs (· == 61) (ptext (m :: ms) ++ 32 :: r) = false := ptext_head _ (sane_ok h m (by simp)).1
    have h2 := lex_ptextR (r := 32 :: r) rfl hL (m :: ms) (by simp) (sane_ok h)
    have h3 := Lex.Lexes.word hc hl (r := 123 :: (ptext (m :: ms) ++ 32 :: r)) rfl (Lex.Lexes.sign (.inl rfl) h61 h2)
    simpa [List.append_assoc] using h3
end Sel

namespace Cond
/-- the tokens of what is asked -/
def toks (nm : ByteArray) (ms : List Sel.Mt) (k : Nat) (v : Int) : List (Nat × Lex.Bs) := Sel.stoks nm ms ++ [(4, signL k), (2, Num.print v)]
def around (d : Nat) (L : List (Nat × Lex.Bs)) : List (Nat × Lex.Bs) := List.replicate d (4, [40]) ++ (L ++ List.replicate d (4, [41]))
def aroundT (d : Nat) (l : Lex.Bs) : Lex.Bs := List.replicate d 40 ++ (l ++ List.replicate d 41)
theorem text_bl (nm : ByteArray) (ms : List Sel.Mt) (k : Nat) (v : Int) : Lex.bl (text nm ms k v) = Lex.bl (Sel.print nm ms) ++ 32 :: (signL k ++ 32 :: Num.print v) := by
  unfold text numB signB
  rw [Lex.bl_append, Lex.bl_append, Lex.bl_append, Lex.bl_append, show Lex.bl ⟨#[32]⟩ = [32] from rfl, Lex.bl_mk (signL k), Lex.bl_mk (Num.print v)]
  simp [List.append_assoc]
theorem sane_parts {nm : ByteArray} {ms : List Sel.Mt} {op v : Int} (h : sane nm ms op v = true) : Lab.selSane nm ms = true ∧ 1 ≤ op ∧ op ≤ 6 ∧ Num.sane v = true := by
  unfold sane isOp at h
  simp only [Bool.and_eq_true, decide_eq_true_eq] at h
  exact ⟨h.1.1, h.1.2.1, h.1.2.2, h.2⟩
theorem lex_shut (N : Nat) (d : Nat) : Lex.Lexes (List.replicate d 41) N (List.replicate d (4, [41])) := by
  induction d with
  | zero => exact Lex.Lexes.nil_ N
  | succ d ih => rw [List.replicate_succ, List.replicate_succ]; exact Lex.Lexes.paren (.inr rfl) ih
theorem shut_stop (d : Nat) : Lex.firstIs (Lex.goes true) (List.replicate d 41) = false := by cases d <;> rfl
theorem lex_open {r : Lex.Bs} {N : Nat} {L : List (Nat × Lex.Bs)} (hL : Lex.Lexes r N L) (d : Nat) : Lex.Lexes (List.replicate d 40 ++ r) N (List.replicate d (4, [40]) ++ L) := by
  induction d with
  | zero => exact hL
  | succ d ih => rw [List.replicate_succ, List.replicate_succ]; exact Lex.Lexes.paren (.inl rfl) ih
theorem lex_around {nm : ByteArray} {ms : List Sel.Mt} {k : Nat} {v : Int} (h : Lab.selSane nm ms = true) (h1 : 1 ≤ k) (h6 : k ≤ 6) (hv : Num.sane v = true) (d N : Nat) : Lex.Lexes (aroundT d (Lex.bl (text nm ms k v))) N (around d (toks nm ms k v)) := by
  unfold aroundT around toks
  refine lex_open ?_ d
  rw [text_bl]
  have h1 := Sel.lex_printR h (Lex.Lexes.blank (Lex.Lexes.oper h1 h6 (Lex.Lexes.blank (Num.lex_num hv (shut_stop d) (lex_shut N d)))))
  simpa [List.append_assoc] using h1

/-- the tokens are parsed to what they are of -/
theorem rest_stands {ts : List Sel.Tk} {nm : ByteArray} {ms : List Sel.Mt} {k : Nat} {v : Int} {j : Nat} (h1 : 1 ≤ k) (h6 : k ≤ 6) (hv : Num.sane v = true) (hst : Sel.Stands ts j [(4, signL k), (2, Num.print v)]) : rest ts nm ms j = ((nm, ms, (k : Int), v), j + 2, 0) := by
  obtain ⟨t0, h0, k0, s0⟩ := hst.head
  obtain ⟨t1, ht1, k1, s1⟩ := hst.tail.head
  have ho : opAt ts j = k := by
    have := isS_op (ts := ts) (i := j) h1 h6
    rw [Sel.isS_some h0, show t0.1 = 4 from k0, s0] at this
    have h2 : decide (opAt ts j = k) = true := by rw [← this]; simp [signB]
    simpa using h2
  have hk : Sel.isK ts (j + 1) 2 = true := by rw [Sel.isK_some ht1, show t1.1 = 2 from k1]; rfl
  have hp : Num.parse (Num.bl (Sel.sOf ts (j + 1))) = (v, 0) := by
    rw [Sel.sOf_some ht1, s1, Num.bl_mk]
    exact (Num.back v hv).1
  unfold rest
  rw [ho, hp, if_neg (by omega), if_neg (by rw [hk]; decide), if_neg (fun h => h rfl)]
theorem plain_stands {ts : List Sel.Tk} {i : Nat} {nm : ByteArray} {ms : List Sel.Mt} {k : Nat} {v : Int} (h : Lab.selSane nm ms = true) (h1 : 1 ≤ k) (h6 : k ≤ 6) (hv : Num.sane v = true) (hst : Sel.Stands ts i (toks nm ms k v)) : plain ts i = ((nm, ms, (k : Int), v), i + (toks nm ms k v).length, 0) := by
  unfold toks at hst
  have hl := hst.left
  have hr := hst.right
  obtain ⟨t0, h0, k0, s0⟩ := hl.head
  have hlt := (List.getElem?_eq_some_iff.1 h0).1
  obtain ⟨t1, ht1, k1, s1⟩ := hr.head
  have hp : Sel.parse ts (i : Int) = (nm, ms, i + (Sel.stoks nm ms).length, 0) := by
    unfold Sel.parse
    rw [if_neg (by omega), show ((i : Int)).toNat = i from rfl, Nat.min_eq_left (by omega)]
    refine Sel.sel_stands h hl fun hm => ?_
    subst hm
    have ht1 : ts[i + 1]? = some t1 := ht1
    rw [Sel.isS_some ht1, s1]
    have hne : ¬ ((⟨(signL k).toArray⟩ : ByteArray) = Sel.opS) := by
      have hk : k = 1 ∨ k = 2 ∨ k = 3 ∨ k = 4 ∨ k = 5 ∨ k = 6 := by omega
      rcases hk with rfl | rfl | rfl | rfl | rfl | rfl <;> decide
    rw [decide_eq_false hne, Bool.and_false]
  rw [plain_good hp, rest_stands h1 h6 hv hr]
  unfold toks
  rw [List.length_append]
  rfl
theorem isS_stand {ts : List Sel.Tk} {i : Nat} {x : Lex.Bs} {L : List (Nat × Lex.Bs)} (h : Sel.Stands ts i ((4, x) :: L)) (s : ByteArray) : Sel.isS ts i s = decide ((⟨x.toArray⟩ : ByteArray) = s) := by
  obtain ⟨t, ht, h1, h2⟩ := h.head
  exact Sel.isS_at ht h1 h2
theorem within_around {ts : List Sel.Tk} {L : List (Nat × Lex.Bs)} {x : Ex} (hno : ∀ i, Sel.Stands ts i L → Sel.isS ts i opB = false ∧ plain ts i = (x, i + L.length, 0)) (d : Nat) : ∀ (f i : Nat), d ≤ f → Sel.Stands ts i (around d L) → within ts f i = (x, i + (around d L).length, 0) := by
  induction d with
  | zero =>
    intro f i _ hst
    have hst : Sel.Stands ts i L := by simpa [around] using hst
    rw [within_plain (hno i hst).1, (hno i hst).2]
    simp [around]
  | succ d ih =>
    intro f i hf hst
    obtain ⟨f, rfl⟩ : ∃ g, f = g + 1 := ⟨f - 1, by omega⟩
    have he : around (d + 1) L = (4, [40]) :: (around d L ++ [(4, [41])]) := by
      unfold around
      rw [List.replicate_succ, List.replicate_succ' (n := d) (a := (4, ([41] : Lex.Bs)))]
      simp [List.append_assoc]
    rw [he] at hst ⊢
    have hin := ih f (i + 1) (by omega) hst.tail.left
    have hcl := isS_stand hst.tail.right clB
    rw [within_open (by rw [isS_stand hst]; decide), hin, close_ok (by rw [hcl]; decide), List.length_cons, List.length_append, List.length_singleton]
    rw [show i + 1 + (around d L).length + 1 = i + ((around d L).length + 1 + 1) by omega]
theorem within_many {ts : List Sel.Tk} (f : Nat) : ∀ i, (∀ j, j ≤ f → Sel.isS ts (i + j) opB = true) → within ts f i = (none_, i + f, 8) := by
  induction f with
  | zero => intro i h; exact within_deep (h 0 (Nat.le_refl _))
  | succ f ih =>
    intro i h
    have h0 : Sel.isS ts i opB = true := h 0 (by omega)
    rw [within_open h0, ih (i + 1) (fun j hj => by have := h (j + 1) (by omega); rwa [show i + (j + 1) = i + 1 + j by omega] at this), close_err (by decide)]
    rw [show i + 1 + f = i + (f + 1) by omega]
theorem toks_no {ts : List Sel.Tk} {i : Nat} {nm : ByteArray} {ms : List Sel.Mt} {k : Nat} {v : Int} (hst : Sel.Stands ts i (toks nm ms k v)) : Sel.isS ts i opB = false := by
  unfold toks Sel.stoks at hst
  obtain ⟨t, ht, h1, h2⟩ := hst.left.head
  rw [Sel.isS_some ht, show t.1 = 1 from h1]
  rfl
/-- PRINTED, WITHIN d SIGNS, READ AND PARSED it is itself; or too deep -/
theorem round {nm : ByteArray} {ms : List Sel.Mt} {op v : Int} (h : sane nm ms op v = true) (d : Nat) (q : ByteArray) (hq : Lex.bl q = aroundT d (Lex.bl (print nm ms op v))) :
    ∃ l : List Lex.Tok, Lex.all (q.size + 1) (Lex.bl q) q.size = (l, q.size, 0) ∧ parse (l.map Lex.toTk) 0 = (if d ≤ 32 then ((nm, ms, op, v), l.length, 0) else (none_, 32, 8)) := by
  obtain ⟨hs, ho1, ho6, hv⟩ := sane_parts h
  obtain ⟨k, rfl⟩ : ∃ k : Nat, op = k := ⟨op.toNat, by omega⟩
  have hp : print nm ms (k : Int) v = text nm ms k v := by unfold print; rw [if_pos h]; rfl
  rw [hp] at hq
  obtain ⟨h1, h2⟩ := lex_around hs (by omega : 1 ≤ k) (by omega) hv d q.size (q.size + 1) (by rw [← hq, Lex.bl_len]; omega)
  rw [← hq] at h1 h2
  obtain ⟨l, hl⟩ : ∃ l, (Lex.all (q.size + 1) (Lex.bl q) q.size).1 = l := ⟨_, rfl⟩
  rw [hl] at h1
  refine ⟨l, Prod.ext hl h2, ?_⟩
  have hst := Sel.stands_bare h1
  unfold parse
  rw [if_neg (by decide), show (0 : Int).toNat = 0 from rfl]
  by_cases hd : d ≤ 32
  · rw [if_pos hd, within_around (fun i hi => ⟨toks_no hi, plain_stands hs (by omega) (by omega) hv hi⟩) d 32 0 hd hst, Nat.zero_add, ← h1, Sel.bare_length]
  · rw [if_neg hd, within_many 32 0 fun j hj => ?_, Nat.zero_add]
    have hst2 : Sel.Stands (l.map Lex.toTk) 0 (List.replicate j (4, [40]) ++ ((4, [40]) :: (List.replicate (d - (j + 1)) (4, [40]) ++ (toks nm ms k v ++ List.replicate d (4, [41]))))) := by
      have he : List.replicate d ((4 : Nat), ([40] : Lex.Bs)) = List.replicate j (4, [40]) ++ ((4, [40]) :: List.replicate (d - (j + 1)) (4, [40])) := by
        rw [← List.replicate_succ, List.replicate_append_replicate]
        congr 1
        omega
      unfold around at hst
      rw [he] at hst
      simpa [List.append_assoc] using hst
    have := isS_stand hst2.right opB
    rw [List.length_replicate] at this
    rw [this]
    decide
theorem numB_size (v : Int) : (numB v).size ≤ 26 := by
  unfold numB
  rw [show (⟨(Num.print v).toArray⟩ : ByteArray).size = (Num.print v).length by simp [ByteArray.size]]
  exact Num.print_len v
theorem signB_size (k : Nat) : (signB k).size ≤ 2 := by
  unfold signB signL
  split <;> decide
theorem selPrint_size {nm : ByteArray} {ms : List Sel.Mt} (h : Lab.selSane nm ms = true) : (Sel.print nm ms).size ≤ 1700 := by
  unfold Sel.print
  rw [if_pos h]
  have h1 := Sel.textTo_size h ms.length
  have h2 := (Sel.sane_nm h).2.2.1
  have h3 := (Sel.sane_nm h).2.1
  split
  · omega
  · rw [ByteArray.size_append, show Sel.clS.size = 1 from rfl]
    omega
theorem print_size (nm : ByteArray) (ms : List Sel.Mt) (op v : Int) : (print nm ms op v).size ≤ 1800 := by
  unfold print
  split
  · rename_i h
    have h1 := selPrint_size (sane_parts h).1
    have h2 := numB_size v
    have h3 := signB_size op.toNat
    unfold text
    simp only [ByteArray.size_append, show (⟨#[32]⟩ : ByteArray).size = 1 from rfl]
    omega
  · decide
end Cond
end Go.Proofs.YtbdochcajpempaaDoor
