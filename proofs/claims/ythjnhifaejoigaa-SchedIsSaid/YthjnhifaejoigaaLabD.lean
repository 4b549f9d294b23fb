/- The walks of what a rule's Sane asks, of the program and of the reference: ops, durations, numbers, reserved names; cond's Sane, rule's Sane. -/
import Derived.Test.YthjnhifaejoigaaLabC
namespace Go.Proofs.Ythjnhifaejoigaa
open Go.RowKit
set_option linter.unusedSimpArgs false
set_option linter.unusedVariables false

namespace Lab
def durSane (d : Int) : Bool := decide (0 ≤ d) && decide (d ≤ 9007199254740992)
def numSane (d : Int) : Bool := decide (-9007199254740992 ≤ d) && decide (d ≤ 9007199254740992)
def isOp (op : Int) : Bool := decide (1 ≤ op) && decide (op ≤ 6)
def resv (s : ByteArray) : Bool := s.toList == [95, 95, 110, 97, 109, 101, 95, 95] || s.toList == [97, 108, 101, 114, 116, 110, 97, 109, 101] || s.toList == [97, 108, 101, 114, 116, 115, 116, 97, 116, 101]
def freeAt (ls : List Pr) (i : Nat) : Bool :=
  match ls[i]? with
  | none => true
  | some p => !resv p.1
def free (ls : List Pr) : Bool := allTo (freeAt ls) ls.length
theorem freeAt_is {ls : List Pr} {p : Pr} {k : Nat} (h : ls[k]? = some p) : freeAt ls k = !resv p.1 := by
  unfold freeAt
  rw [h]
def condSane (sn : ByteArray) (ms : List Mt) (op v : Int) : Bool := selSane sn ms && isOp op && numSane v
/-- a rule, with the places of its two lists -/
structure Ru where
  nm : ByteArray
  sn : ByteArray
  MA : Option Addr
  Mn : Nat
  Mc : Nat
  ms : List Mt
  op : Int
  v : Int
  fo : Int
  ke : Int
  LA : Option Addr
  Ln : Nat
  Lc : Nat
  ls : List Pr
def ruSane (r : Ru) : Bool := name r.nm && condSane r.sn r.ms r.op r.v && durSane r.fo && durSane r.ke && sane r.ls && free r.ls
end Lab
def ruCells (r : Lab.Ru) : List Value := [.string r.nm, .string r.sn, .slice r.MA r.Mn r.Mc, .int .i64 r.op, .int .i64 r.v, .int .i64 r.fo, .int .i64 r.ke, .slice r.LA r.Ln r.Lc]
theorem ruCells_len (r : Lab.Ru) : (ruCells r).length = 8 := rfl
/-- a rule's lists in memory -/
def RuIn (W : World) (B : Nat) (r : Lab.Ru) : Prop :=
  Mts W B r.MA r.Mn r.Mc r.ms ∧ Prs W B r.LA r.Ln r.Lc r.ls ∧ r.nm.size ≤ 9223372036854775807 ∧ r.sn.size ≤ 9223372036854775807
theorem RuIn.later {W W' : World} {r : Lab.Ru} (h : RuIn W W.heap.size r) (hb : Below W.heap.size W W') : RuIn W' W'.heap.size r := ⟨h.1.later hb, h.2.1.later hb, h.2.2⟩
theorem RuIn.below {W W' : World} {B : Nat} {r : Lab.Ru} (h : RuIn W B r) (hb : Below B W W') : RuIn W' B r := ⟨h.1.below hb, h.2.1.below hb, h.2.2⟩
theorem RuIn.more {W : World} {B B' : Nat} {r : Lab.Ru} (h : RuIn W B r) (hb : B ≤ B') : RuIn W B' r := ⟨h.1.more hb, h.2.1.more hb, h.2.2⟩

set_option maxHeartbeats 400000 in
theorem isOp_any (d : Int) (w : World) : Calls Try.prog 48 #[.int .i64 d] w fun e w' => e = .returned (.bool (Lab.isOp d)) ∧ w = w' := by
  go_enter Try.func48, Try.ntmps48
  go_wp2
  all_goals go_ret
  all_goals exact ⟨Lab.retb (by simp [Lab.isOp]; try omega), rfl⟩
set_option maxHeartbeats 400000 in
theorem durSane_any (d : Int) (w : World) : Calls Try.prog 33 #[.int .i64 d] w fun e w' => e = .returned (.bool (Lab.durSane d)) ∧ w = w' := by
  go_enter Try.func33, Try.ntmps33
  go_wp2
  all_goals go_ret
  all_goals exact ⟨Lab.retb (by simp [Lab.durSane]; try omega), rfl⟩
set_option maxHeartbeats 400000 in
theorem rDurSane_any (d : Int) (w : World) : Calls Try.prog 39 #[.int .i64 d] w fun e w' => e = .returned (.bool (Lab.durSane d)) ∧ w = w' := by
  go_enter Try.func39, Try.ntmps39
  go_wp2
  all_goals go_ret
  all_goals exact ⟨Lab.retb (by simp [Lab.durSane]; try omega), rfl⟩
set_option maxHeartbeats 400000 in
theorem numSane_any (d : Int) (w : World) : Calls Try.prog 49 #[.int .i64 d] w fun e w' => e = .returned (.bool (Lab.numSane d)) ∧ w = w' := by
  go_enter Try.func49, Try.ntmps49
  go_wp2
  all_goals go_ret
  all_goals exact ⟨Lab.retb (by simp [Lab.numSane]; try omega), rfl⟩
set_option maxHeartbeats 400000 in
theorem rNumSane_any (d : Int) (w : World) : Calls Try.prog 52 #[.int .i64 d] w fun e w' => e = .returned (.bool (Lab.numSane d)) ∧ w = w' := by
  go_enter Try.func52, Try.ntmps52
  go_wp2
  all_goals go_ret
  all_goals exact ⟨Lab.retb (by simp [Lab.numSane]; try omega), rfl⟩
set_option maxHeartbeats 400000 in
theorem resv_any (s : ByteArray) (w : World) : Calls Try.prog 50 #[.string s] w fun e w' => e = .returned (.bool (Lab.resv s)) ∧ w = w' := by
  unfold Lab.resv
  rcases h1 : (s.toList == [95, 95, 110, 97, 109, 101, 95, 95]) with _ | _
  · rcases h2 : (s.toList == [97, 108, 101, 114, 116, 110, 97, 109, 101]) with _ | _
    · rcases h3 : (s.toList == [97, 108, 101, 114, 116, 115, 116, 97, 116, 101]) with _ | _
      all_goals
        go_enter Try.func50, Try.ntmps50
        go_wp2
        go_ret
        exact ⟨rfl, rfl⟩
    · go_enter Try.func50, Try.ntmps50
      go_wp2
      go_ret
      exact ⟨rfl, rfl⟩
  · go_enter Try.func50, Try.ntmps50
    go_wp2
    go_ret
    exact ⟨rfl, rfl⟩
set_option maxHeartbeats 400000 in
theorem rResv_any (s : ByteArray) (w : World) : Calls Try.prog 53 #[.string s] w fun e w' => e = .returned (.bool (Lab.resv s)) ∧ w = w' := by
  unfold Lab.resv
  rcases h1 : (s.toList == [95, 95, 110, 97, 109, 101, 95, 95]) with _ | _
  · rcases h2 : (s.toList == [97, 108, 101, 114, 116, 110, 97, 109, 101]) with _ | _
    · rcases h3 : (s.toList == [97, 108, 101, 114, 116, 115, 116, 97, 116, 101]) with _ | _
      all_goals
        go_enter Try.func53, Try.ntmps53
        go_wp2
        go_ret
        exact ⟨rfl, rfl⟩
    · go_enter Try.func53, Try.ntmps53
      go_wp2
      go_ret
      exact ⟨rfl, rfl⟩
  · go_enter Try.func53, Try.ntmps53
    go_wp2
    go_ret
    exact ⟨rfl, rfl⟩
theorem resv_is (s : ByteArray) (b : Bool) (h : Lab.resv s = b) (w : World) : Calls Try.prog 50 #[.string s] w fun e w' => e = .returned (.bool b) ∧ w = w' := by
  subst h
  exact resv_any s w
theorem rResv_is (s : ByteArray) (b : Bool) (h : Lab.resv s = b) (w : World) : Calls Try.prog 53 #[.string s] w fun e w' => e = .returned (.bool b) ∧ w = w' := by
  subst h
  exact rResv_any s w

set_option maxRecDepth 100000 in
set_option maxHeartbeats 4000000 in
theorem reserved_any (A : Option Addr) (n c : Nat) (xs : List Lab.Pr) (w : World) (h : Prs w w.heap.size A n c xs) :
    Calls Try.prog 42 #[.slice A n c] w fun e w' => e = .returned (.bool (!Lab.free xs)) ∧ Below w.heap.size w w' := by
  have hl := h.len
  have hcap := Nat.le_trans h.1.2.1 h.1.2.2.1
  have HL := Lib.hid hl
  have HH := Lib.hid h
  clear h hl
  go_enter Try.func42, Try.ntmps42
  go_wp2
  go_loopw [7] (fun i wr => ∃ k : Nat, k ≤ n ∧ i = .int .i64 (k : Nat) ∧ Lab.allTo (Lab.freeAt xs) k = true ∧ Below w.heap.size w wr) (fun i _ => n - (intOf i).toNat)
  case atStart => exact ⟨0, Nat.zero_le _, rfl, rfl, Below.refl _ _⟩
  case round =>
    obtain ⟨k, hk, rfl, hall, hb⟩ := hrel
    have HALL := Lib.hid hall
    clear hall
    by_cases hlt : k < n
    · have hdk : decide (k < n) = true := decide_eq_true hlt
      obtain ⟨b, off, rfl, hbB, hcell⟩ := HH.out.at_ hlt
      obtain ⟨p, hp⟩ : ∃ p, xs[k]? = some p := ⟨_, List.getElem?_eq_getElem (by rw [HL.out]; exact hlt)⟩
      have h1 := (hb.cell (p := ⟨b, off + k * 2, none⟩) hbB).trans (hcell k p hp).1
      have h2 := (hb.cell (p := ⟨b, off + k * 2 + 1, none⟩) hbB).trans (hcell k p hp).2
      have hbs := hb.size
      have hat := Lab.freeAt_is hp
      clear hcell hp
      rcases hr : Lab.resv p.1 with _ | _
      · have HR := Lib.hid hr
        have HOK := Lib.hid (Lab.allTo_step HALL.out (show Lab.freeAt xs k = true by rw [hat, hr]; rfl))
        clear hr hat
        go_wp2_with fail
        refine (resv_is _ _ HR.out _).mono ?_
        rintro e w9 ⟨rfl, rfl⟩
        go_wp2
        go_roundw
        case rel => exact ⟨k + 1, by omega, by go_num, HOK.out, (by repeat (first | assumption | exact Below.refl _ _ | apply Mem.below_drewN | apply Below.drew | refine Below.alloc ?_ (by first | assumption | omega | (simp; done) | (simp; omega)) _ | refine Below.setCell ?_ (by first | assumption | omega | (simp; done) | (simp; omega)) _))⟩
        case measure => simp [intOf]; omega
      · have HR := Lib.hid hr
        have HB := Lib.hid (show Lab.free xs = false from Lab.allTo_bad (by rw [HL.out]; exact hlt) (by rw [hat, hr]; rfl))
        clear hr hat
        go_wp2_with fail
        refine (resv_is _ _ HR.out _).mono ?_
        rintro e w9 ⟨rfl, rfl⟩
        go_wp2
        go_ret
        exact ⟨by rw [HB.out]; rfl, (by repeat (first | assumption | exact Below.refl _ _ | apply Mem.below_drewN | apply Below.drew | refine Below.alloc ?_ (by first | assumption | omega | (simp; done) | (simp; omega)) _ | refine Below.setCell ?_ (by first | assumption | omega | (simp; done) | (simp; omega)) _))⟩
    · obtain rfl : k = n := by omega
      have hdk : decide (k < k) = false := decide_eq_false (by omega)
      have HS := Lib.hid (show Lab.free xs = true by unfold Lab.free; rw [HL.out, HALL.out])
      go_wp2
      go_ret
      exact ⟨by rw [HS.out]; rfl, hb⟩
set_option maxRecDepth 100000 in
set_option maxHeartbeats 4000000 in
theorem rFree_any (A : Option Addr) (n c : Nat) (xs : List Lab.Pr) (w : World) (h : Prs w w.heap.size A n c xs) :
    Calls Try.prog 45 #[.slice A n c] w fun e w' => e = .returned (.bool (Lab.free xs)) ∧ Below w.heap.size w w' := by
  have hl := h.len
  have hcap := Nat.le_trans h.1.2.1 h.1.2.2.1
  have HL := Lib.hid hl
  have HH := Lib.hid h
  clear h hl
  go_enter Try.func45, Try.ntmps45
  go_wp2
  go_loopw [3] (fun i wr => ∃ k : Nat, k ≤ n ∧ i = .int .i64 (k : Nat) ∧ Lab.allTo (Lab.freeAt xs) k = true ∧ Below w.heap.size w wr) (fun i _ => n - (intOf i).toNat)
  case atStart => exact ⟨0, Nat.zero_le _, rfl, rfl, Below.refl _ _⟩
  case round =>
    obtain ⟨k, hk, rfl, hall, hb⟩ := hrel
    have HALL := Lib.hid hall
    clear hall
    by_cases hlt : k < n
    · have hdk : decide (k < n) = true := decide_eq_true hlt
      obtain ⟨b, off, rfl, hbB, hcell⟩ := HH.out.at_ hlt
      obtain ⟨p, hp⟩ : ∃ p, xs[k]? = some p := ⟨_, List.getElem?_eq_getElem (by rw [HL.out]; exact hlt)⟩
      have h1 := (hb.cell (p := ⟨b, off + k * 2, none⟩) hbB).trans (hcell k p hp).1
      have hbs := hb.size
      have hat := Lab.freeAt_is hp
      clear hcell hp
      rcases hr : Lab.resv p.1 with _ | _
      · have HR := Lib.hid hr
        have HOK := Lib.hid (Lab.allTo_step HALL.out (show Lab.freeAt xs k = true by rw [hat, hr]; rfl))
        clear hr hat
        go_wp2_with fail
        refine (rResv_is _ _ HR.out _).mono ?_
        rintro e w9 ⟨rfl, rfl⟩
        go_wp2
        go_roundw
        case rel => exact ⟨k + 1, by omega, by go_num, HOK.out, (by repeat (first | assumption | exact Below.refl _ _ | apply Mem.below_drewN | apply Below.drew | refine Below.alloc ?_ (by first | assumption | omega | (simp; done) | (simp; omega)) _ | refine Below.setCell ?_ (by first | assumption | omega | (simp; done) | (simp; omega)) _))⟩
        case measure => simp [intOf]; omega
      · have HR := Lib.hid hr
        have HB := Lib.hid (show Lab.free xs = false from Lab.allTo_bad (by rw [HL.out]; exact hlt) (by rw [hat, hr]; rfl))
        clear hr hat
        go_wp2_with fail
        refine (rResv_is _ _ HR.out _).mono ?_
        rintro e w9 ⟨rfl, rfl⟩
        go_wp2
        go_ret
        exact ⟨by rw [HB.out]; rfl, (by repeat (first | assumption | exact Below.refl _ _ | apply Mem.below_drewN | apply Below.drew | refine Below.alloc ?_ (by first | assumption | omega | (simp; done) | (simp; omega)) _ | refine Below.setCell ?_ (by first | assumption | omega | (simp; done) | (simp; omega)) _))⟩
    · obtain rfl : k = n := by omega
      have hdk : decide (k < k) = false := decide_eq_false (by omega)
      have HS := Lib.hid (show Lab.free xs = true by unfold Lab.free; rw [HL.out, HALL.out])
      go_wp2
      go_ret
      exact ⟨by rw [HS.out]; rfl, hb⟩
theorem free_is (A : Option Addr) (n c : Nat) (xs : List Lab.Pr) (b : Bool) (hb : Lab.free xs = b) (w : World) (h : Prs w w.heap.size A n c xs) :
    Calls Try.prog 42 #[.slice A n c] w fun e w' => e = .returned (.bool (!b)) ∧ Below w.heap.size w w' := by
  subst hb
  exact reserved_any A n c xs w h
theorem rFree_is (A : Option Addr) (n c : Nat) (xs : List Lab.Pr) (b : Bool) (hb : Lab.free xs = b) (w : World) (h : Prs w w.heap.size A n c xs) :
    Calls Try.prog 45 #[.slice A n c] w fun e w' => e = .returned (.bool b) ∧ Below w.heap.size w w' := by
  subst hb
  exact rFree_any A n c xs w h
theorem labSane_is (A : Option Addr) (n c : Nat) (xs : List Lab.Pr) (b : Bool) (hb : Lab.sane xs = b) (w : World) (h : Prs w w.heap.size A n c xs) :
    Calls Try.prog 41 #[.slice A n c] w fun e w' => e = .returned (.bool b) ∧ Below w.heap.size w w' := by
  subst hb
  exact labSane_any A n c xs w h
theorem rLabSane_is (A : Option Addr) (n c : Nat) (xs : List Lab.Pr) (b : Bool) (hb : Lab.sane xs = b) (w : World) (h : Prs w w.heap.size A n c xs) :
    Calls Try.prog 44 #[.slice A n c] w fun e w' => e = .returned (.bool b) ∧ Below w.heap.size w w' := by
  subst hb
  exact rLabSane_any A n c xs w h
theorem selSane_is (nm : ByteArray) (A : Option Addr) (n c : Nat) (xs : List Lab.Mt) (b : Bool) (hb : Lab.selSane nm xs = b) (w : World) (h : Mts w w.heap.size A n c xs) :
    Calls Try.prog 47 #[.agg #[.string nm, .slice A n c]] w fun e w' => e = .returned (.bool b) ∧ Below w.heap.size w w' := by
  subst hb
  exact selSane_any nm A n c xs w h
theorem rSelSane_is (nm : ByteArray) (hnms : nm.size ≤ 9223372036854775807) (A : Option Addr) (n c : Nat) (xs : List Lab.Mt) (b : Bool) (hb : Lab.selSane nm xs = b) (w : World) (h : Mts w w.heap.size A n c xs) :
    Calls Try.prog 51 #[.agg #[.string nm, .slice A n c]] w fun e w' => e = .returned (.bool b) ∧ Below w.heap.size w w' := by
  subst hb
  exact rSelSane_any nm hnms A n c xs w h
theorem durSane_is (d : Int) (b : Bool) (hb : Lab.durSane d = b) (w : World) : Calls Try.prog 33 #[.int .i64 d] w fun e w' => e = .returned (.bool b) ∧ w = w' := by
  subst hb
  exact durSane_any d w
theorem rDurSane_is (d : Int) (b : Bool) (hb : Lab.durSane d = b) (w : World) : Calls Try.prog 39 #[.int .i64 d] w fun e w' => e = .returned (.bool b) ∧ w = w' := by
  subst hb
  exact rDurSane_any d w
theorem numSane_is (d : Int) (b : Bool) (hb : Lab.numSane d = b) (w : World) : Calls Try.prog 49 #[.int .i64 d] w fun e w' => e = .returned (.bool b) ∧ w = w' := by
  subst hb
  exact numSane_any d w
theorem rNumSane_is (d : Int) (b : Bool) (hb : Lab.numSane d = b) (w : World) : Calls Try.prog 52 #[.int .i64 d] w fun e w' => e = .returned (.bool b) ∧ w = w' := by
  subst hb
  exact rNumSane_any d w
theorem isOp_is (d : Int) (b : Bool) (hb : Lab.isOp d = b) (w : World) : Calls Try.prog 48 #[.int .i64 d] w fun e w' => e = .returned (.bool b) ∧ w = w' := by
  subst hb
  exact isOp_any d w
end Go.Proofs.Ythjnhifaejoigaa
