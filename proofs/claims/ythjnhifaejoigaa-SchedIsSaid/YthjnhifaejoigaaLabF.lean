/- The walks of file's hasRule and hasGroup, and of the reference's named and has. -/
import Derived.Test.YthjnhifaejoigaaLabE
namespace Go.Proofs.Ythjnhifaejoigaa
open Go.RowKit
set_option linter.unusedSimpArgs false
set_option linter.unusedVariables false

namespace Lab
def nameNe (ns : List ByteArray) (s : ByteArray) (i : Nat) : Bool :=
  match ns[i]? with
  | none => true
  | some x => !(x.toList == s.toList)
/-- is one of some names it? -/
def named (ns : List ByteArray) (s : ByteArray) : Bool := !allTo (nameNe ns s) ns.length
theorem nameNe_is {ns : List ByteArray} {s x : ByteArray} {k : Nat} (h : ns[k]? = some x) : nameNe ns s k = !(x.toList == s.toList) := by
  unfold nameNe
  rw [h]
def grAt (rs : List Ru) (i : Nat) : Bool :=
  match rs[i]? with
  | none => true
  | some r => ruSane r && !named ((rs.take i).map (·.nm)) r.nm
theorem grAt_is {rs : List Ru} {r : Ru} {k : Nat} (h : rs[k]? = some r) : grAt rs k = (ruSane r && !named ((rs.take k).map (·.nm)) r.nm) := by
  unfold grAt
  rw [h]
/-- a group, with the place of its rules -/
structure Gr where
  nm : ByteArray
  iv : Int
  off : Int
  RA : Option Addr
  Rn : Nat
  Rc : Nat
  rs : List Ru
def grHead (g : Gr) : Bool := name g.nm && durSane g.iv && decide (g.iv ≠ 0) && decide (0 ≤ g.off) && decide (g.off < g.iv) && decide (g.rs.length ≤ 16)
def grSane (g : Gr) : Bool := grHead g && allTo (grAt g.rs) g.rs.length
def fiAt (gs : List Gr) (i : Nat) : Bool :=
  match gs[i]? with
  | none => true
  | some g => grSane g && !named ((gs.take i).map (·.nm)) g.nm
theorem fiAt_is {gs : List Gr} {g : Gr} {k : Nat} (h : gs[k]? = some g) : fiAt gs k = (grSane g && !named ((gs.take k).map (·.nm)) g.nm) := by
  unfold fiAt
  rw [h]
def fiSane (gs : List Gr) : Bool := decide (gs.length ≤ 16) && allTo (fiAt gs) gs.length
end Lab
def grCells (g : Lab.Gr) : List Value := [.string g.nm, .int .i64 g.iv, .int .i64 g.off, .slice g.RA g.Rn g.Rc]
theorem grCells_len (g : Lab.Gr) : (grCells g).length = 4 := rfl
/-- a group's rules in memory -/
def GrIn (W : World) (B : Nat) (g : Lab.Gr) : Prop := Recs ruCells 8 W B g.RA g.Rn g.Rc g.rs ∧ (∀ r ∈ g.rs, RuIn W B r) ∧ g.nm.size ≤ 9223372036854775807
theorem GrIn.below {W W' : World} {B : Nat} {g : Lab.Gr} (h : GrIn W B g) (hb : Below B W W') : GrIn W' B g := ⟨h.1.below hb, fun r hr => (h.2.1 r hr).below hb, h.2.2⟩
theorem GrIn.more {W : World} {B B' : Nat} {g : Lab.Gr} (h : GrIn W B g) (hb : B ≤ B') : GrIn W B' g := ⟨h.1.more hb, fun r hr => (h.2.1 r hr).more hb, h.2.2⟩
theorem GrIn.later {W W' : World} {g : Lab.Gr} (h : GrIn W W.heap.size g) (hb : Below W.heap.size W W') : GrIn W' W'.heap.size g := (h.below hb).more hb.size
/-- a file in memory -/
def FiIn (W : World) (B : Nat) (A : Option Addr) (n c : Nat) (gs : List Lab.Gr) : Prop := Recs grCells 4 W B A n c gs ∧ ∀ g ∈ gs, GrIn W B g
theorem FiIn.below {W W' : World} {B n c : Nat} {A : Option Addr} {gs : List Lab.Gr} (h : FiIn W B A n c gs) (hb : Below B W W') : FiIn W' B A n c gs := ⟨h.1.below hb, fun r hr => (h.2 r hr).below hb⟩
theorem FiIn.more {W : World} {B B' n c : Nat} {A : Option Addr} {gs : List Lab.Gr} (h : FiIn W B A n c gs) (hb : B ≤ B') : FiIn W B' A n c gs := ⟨h.1.more hb, fun r hr => (h.2 r hr).more hb⟩
theorem FiIn.later {W W' : World} {n c : Nat} {A : Option Addr} {gs : List Lab.Gr} (h : FiIn W W.heap.size A n c gs) (hb : Below W.heap.size W W') : FiIn W' W'.heap.size A n c gs := (h.below hb).more hb.size
set_option maxRecDepth 100000 in
set_option maxHeartbeats 4000000 in
theorem hasRule_any (A : Option Addr) (n c : Nat) (xs : List Lab.Ru) (s : ByteArray) (w : World) (h : Recs ruCells 8 w w.heap.size A n c xs) :
    Calls Try.prog 35 #[.slice A n c, .string s] w fun e w' => e = .returned (.bool (Lab.named (xs.map (·.nm)) s)) ∧ Below w.heap.size w w' := by
  have hl := h.1
  have hcap := Nat.le_trans h.2.1 h.2.2.1
  have HL := Lib.hid hl
  have HH := Lib.hid h
  clear h hl
  go_enter Try.func35, Try.ntmps35
  go_wp2
  go_loopw [9] (fun i wr => ∃ k : Nat, k ≤ n ∧ i = .int .i64 (k : Nat) ∧ Lab.allTo (Lab.nameNe (xs.map (·.nm)) s) k = true ∧ Below w.heap.size w wr) (fun i _ => n - (intOf i).toNat)
  case atStart => exact ⟨0, Nat.zero_le _, rfl, rfl, Below.refl _ _⟩
  case round =>
    obtain ⟨k, hk, rfl, hall, hb⟩ := hrel
    have HALL := Lib.hid hall
    clear hall
    by_cases hlt : k < n
    · have hdk : decide (k < n) = true := decide_eq_true hlt
      obtain ⟨b, off, rfl, hbB, hcell⟩ := HH.out.at_ (by omega)
      obtain ⟨p, hp⟩ : ∃ p, xs[k]? = some p := ⟨_, List.getElem?_eq_getElem (by rw [HL.out]; exact hlt)⟩
      have c0 := (hb.cell (p := ⟨b, off + k * 8, none⟩) hbB).trans (hcell k p hp 0 _ rfl)
      have c1 := (hb.cell (p := ⟨b, off + k * 8 + 1, none⟩) hbB).trans (hcell k p hp 1 _ rfl)
      have c2 := (hb.cell (p := ⟨b, off + k * 8 + 2, none⟩) hbB).trans (hcell k p hp 2 _ rfl)
      have c3 := (hb.cell (p := ⟨b, off + k * 8 + 3, none⟩) hbB).trans (hcell k p hp 3 _ rfl)
      have c4 := (hb.cell (p := ⟨b, off + k * 8 + 4, none⟩) hbB).trans (hcell k p hp 4 _ rfl)
      have c5 := (hb.cell (p := ⟨b, off + k * 8 + 5, none⟩) hbB).trans (hcell k p hp 5 _ rfl)
      have c6 := (hb.cell (p := ⟨b, off + k * 8 + 6, none⟩) hbB).trans (hcell k p hp 6 _ rfl)
      have c7 := (hb.cell (p := ⟨b, off + k * 8 + 7, none⟩) hbB).trans (hcell k p hp 7 _ rfl)
      have hbs := hb.size
      have hat := Lab.nameNe_is (s := s) (show (xs.map (·.nm))[k]? = some p.nm by rw [List.getElem?_map, hp]; rfl)
      clear hcell hp
      rcases hr : (p.nm.toList == s.toList) with _ | _
      · have HOK := Lib.hid (Lab.allTo_step HALL.out (by rw [hat, hr]; rfl))
        clear hat
        go_wp2
        go_roundw
        case rel => exact ⟨k + 1, by omega, by go_num, HOK.out, (by repeat (first | assumption | exact Below.refl _ _ | apply Mem.below_drewN | apply Below.drew | refine Below.alloc ?_ (by first | assumption | omega | (simp; done) | (simp; omega)) _ | refine Below.setCell ?_ (by first | assumption | omega | (simp; done) | (simp; omega)) _))⟩
        case measure => simp [intOf]; omega
      · have HB := Lib.hid (show Lab.named (xs.map (·.nm)) s = true by unfold Lab.named; rw [Lab.allTo_bad (by rw [List.length_map, HL.out]; exact hlt) (by rw [hat, hr]; rfl)]; rfl)
        clear hat
        go_wp2
        go_ret
        exact ⟨by rw [HB.out]; rfl, (by repeat (first | assumption | exact Below.refl _ _ | apply Mem.below_drewN | apply Below.drew | refine Below.alloc ?_ (by first | assumption | omega | (simp; done) | (simp; omega)) _ | refine Below.setCell ?_ (by first | assumption | omega | (simp; done) | (simp; omega)) _))⟩
    · obtain rfl : k = n := by omega
      have hdk : decide (k < k) = false := decide_eq_false (by omega)
      have HS := Lib.hid (show Lab.named (xs.map (·.nm)) s = false by unfold Lab.named; rw [List.length_map, HL.out, HALL.out]; rfl)
      go_wp2
      go_ret
      exact ⟨by rw [HS.out]; rfl, hb⟩
theorem hasRule_is (A : Option Addr) (n c : Nat) (xs : List Lab.Ru) (s : ByteArray) (bb : Bool) (hb : Lab.named (xs.map (·.nm)) s = bb) (w : World) (h : Recs ruCells 8 w w.heap.size A n c xs) :
    Calls Try.prog 35 #[.slice A n c, .string s] w fun e w' => e = .returned (.bool bb) ∧ Below w.heap.size w w' := by
  subst hb
  exact hasRule_any A n c xs s w h
set_option maxRecDepth 100000 in
set_option maxHeartbeats 4000000 in
theorem rNamed_any (A : Option Addr) (n c : Nat) (xs : List Lab.Ru) (s : ByteArray) (w : World) (h : Recs ruCells 8 w w.heap.size A n c xs) :
    Calls Try.prog 37 #[.slice A n c, .string s] w fun e w' => e = .returned (.bool (Lab.named (xs.map (·.nm)) s)) ∧ Below w.heap.size w w' := by
  have hl := h.1
  have hcap := Nat.le_trans h.2.1 h.2.2.1
  have HL := Lib.hid hl
  have HH := Lib.hid h
  clear h hl
  go_enter Try.func37, Try.ntmps37
  go_wp2
  go_loopw [5] (fun i wr => ∃ k : Nat, k ≤ n ∧ i = .int .i64 (k : Nat) ∧ Lab.allTo (Lab.nameNe (xs.map (·.nm)) s) k = true ∧ Below w.heap.size w wr) (fun i _ => n - (intOf i).toNat)
  case atStart => exact ⟨0, Nat.zero_le _, rfl, rfl, Below.refl _ _⟩
  case round =>
    obtain ⟨k, hk, rfl, hall, hb⟩ := hrel
    have HALL := Lib.hid hall
    clear hall
    by_cases hlt : k < n
    · have hdk : decide (k < n) = true := decide_eq_true hlt
      obtain ⟨b, off, rfl, hbB, hcell⟩ := HH.out.at_ (by omega)
      obtain ⟨p, hp⟩ : ∃ p, xs[k]? = some p := ⟨_, List.getElem?_eq_getElem (by rw [HL.out]; exact hlt)⟩
      have c0 := (hb.cell (p := ⟨b, off + k * 8, none⟩) hbB).trans (hcell k p hp 0 _ rfl)
      have hbs := hb.size
      have hat := Lab.nameNe_is (s := s) (show (xs.map (·.nm))[k]? = some p.nm by rw [List.getElem?_map, hp]; rfl)
      clear hcell hp
      rcases hr : (p.nm.toList == s.toList) with _ | _
      · have HOK := Lib.hid (Lab.allTo_step HALL.out (by rw [hat, hr]; rfl))
        clear hat
        go_wp2
        go_roundw
        case rel => exact ⟨k + 1, by omega, by go_num, HOK.out, (by repeat (first | assumption | exact Below.refl _ _ | apply Mem.below_drewN | apply Below.drew | refine Below.alloc ?_ (by first | assumption | omega | (simp; done) | (simp; omega)) _ | refine Below.setCell ?_ (by first | assumption | omega | (simp; done) | (simp; omega)) _))⟩
        case measure => simp [intOf]; omega
      · have HB := Lib.hid (show Lab.named (xs.map (·.nm)) s = true by unfold Lab.named; rw [Lab.allTo_bad (by rw [List.length_map, HL.out]; exact hlt) (by rw [hat, hr]; rfl)]; rfl)
        clear hat
        go_wp2
        go_ret
        exact ⟨by rw [HB.out]; rfl, (by repeat (first | assumption | exact Below.refl _ _ | apply Mem.below_drewN | apply Below.drew | refine Below.alloc ?_ (by first | assumption | omega | (simp; done) | (simp; omega)) _ | refine Below.setCell ?_ (by first | assumption | omega | (simp; done) | (simp; omega)) _))⟩
    · obtain rfl : k = n := by omega
      have hdk : decide (k < k) = false := decide_eq_false (by omega)
      have HS := Lib.hid (show Lab.named (xs.map (·.nm)) s = false by unfold Lab.named; rw [List.length_map, HL.out, HALL.out]; rfl)
      go_wp2
      go_ret
      exact ⟨by rw [HS.out]; rfl, hb⟩
theorem rNamed_is (A : Option Addr) (n c : Nat) (xs : List Lab.Ru) (s : ByteArray) (bb : Bool) (hb : Lab.named (xs.map (·.nm)) s = bb) (w : World) (h : Recs ruCells 8 w w.heap.size A n c xs) :
    Calls Try.prog 37 #[.slice A n c, .string s] w fun e w' => e = .returned (.bool bb) ∧ Below w.heap.size w w' := by
  subst hb
  exact rNamed_any A n c xs s w h
set_option maxRecDepth 100000 in
set_option maxHeartbeats 4000000 in
theorem hasGroup_any (A : Option Addr) (n c : Nat) (xs : List Lab.Gr) (s : ByteArray) (w : World) (h : Recs grCells 4 w w.heap.size A n c xs) :
    Calls Try.prog 27 #[.slice A n c, .string s] w fun e w' => e = .returned (.bool (Lab.named (xs.map (·.nm)) s)) ∧ Below w.heap.size w w' := by
  have hl := h.1
  have hcap := Nat.le_trans h.2.1 h.2.2.1
  have HL := Lib.hid hl
  have HH := Lib.hid h
  clear h hl
  go_enter Try.func27, Try.ntmps27
  go_wp2
  go_loopw [9] (fun i wr => ∃ k : Nat, k ≤ n ∧ i = .int .i64 (k : Nat) ∧ Lab.allTo (Lab.nameNe (xs.map (·.nm)) s) k = true ∧ Below w.heap.size w wr) (fun i _ => n - (intOf i).toNat)
  case atStart => exact ⟨0, Nat.zero_le _, rfl, rfl, Below.refl _ _⟩
  case round =>
    obtain ⟨k, hk, rfl, hall, hb⟩ := hrel
    have HALL := Lib.hid hall
    clear hall
    by_cases hlt : k < n
    · have hdk : decide (k < n) = true := decide_eq_true hlt
      obtain ⟨b, off, rfl, hbB, hcell⟩ := HH.out.at_ (by omega)
      obtain ⟨p, hp⟩ : ∃ p, xs[k]? = some p := ⟨_, List.getElem?_eq_getElem (by rw [HL.out]; exact hlt)⟩
      have c0 := (hb.cell (p := ⟨b, off + k * 4, none⟩) hbB).trans (hcell k p hp 0 _ rfl)
      have c1 := (hb.cell (p := ⟨b, off + k * 4 + 1, none⟩) hbB).trans (hcell k p hp 1 _ rfl)
      have c2 := (hb.cell (p := ⟨b, off + k * 4 + 2, none⟩) hbB).trans (hcell k p hp 2 _ rfl)
      have c3 := (hb.cell (p := ⟨b, off + k * 4 + 3, none⟩) hbB).trans (hcell k p hp 3 _ rfl)
      have hbs := hb.size
      have hat := Lab.nameNe_is (s := s) (show (xs.map (·.nm))[k]? = some p.nm by rw [List.getElem?_map, hp]; rfl)
      clear hcell hp
      rcases hr : (p.nm.toList == s.toList) with _ | _
      · have HOK := Lib.hid (Lab.allTo_step HALL.out (by rw [hat, hr]; rfl))
        clear hat
        go_wp2
        go_roundw
        case rel => exact ⟨k + 1, by omega, by go_num, HOK.out, (by repeat (first | assumption | exact Below.refl _ _ | apply Mem.below_drewN | apply Below.drew | refine Below.alloc ?_ (by first | assumption | omega | (simp; done) | (simp; omega)) _ | refine Below.setCell ?_ (by first | assumption | omega | (simp; done) | (simp; omega)) _))⟩
        case measure => simp [intOf]; omega
      · have HB := Lib.hid (show Lab.named (xs.map (·.nm)) s = true by unfold Lab.named; rw [Lab.allTo_bad (by rw [List.length_map, HL.out]; exact hlt) (by rw [hat, hr]; rfl)]; rfl)
        clear hat
        go_wp2
        go_ret
        exact ⟨by rw [HB.out]; rfl, (by repeat (first | assumption | exact Below.refl _ _ | apply Mem.below_drewN | apply Below.drew | refine Below.alloc ?_ (by first | assumption | omega | (simp; done) | (simp; omega)) _ | refine Below.setCell ?_ (by first | assumption | omega | (simp; done) | (simp; omega)) _))⟩
    · obtain rfl : k = n := by omega
      have hdk : decide (k < k) = false := decide_eq_false (by omega)
      have HS := Lib.hid (show Lab.named (xs.map (·.nm)) s = false by unfold Lab.named; rw [List.length_map, HL.out, HALL.out]; rfl)
      go_wp2
      go_ret
      exact ⟨by rw [HS.out]; rfl, hb⟩
theorem hasGroup_is (A : Option Addr) (n c : Nat) (xs : List Lab.Gr) (s : ByteArray) (bb : Bool) (hb : Lab.named (xs.map (·.nm)) s = bb) (w : World) (h : Recs grCells 4 w w.heap.size A n c xs) :
    Calls Try.prog 27 #[.slice A n c, .string s] w fun e w' => e = .returned (.bool bb) ∧ Below w.heap.size w w' := by
  subst hb
  exact hasGroup_any A n c xs s w h
set_option maxRecDepth 100000 in
set_option maxHeartbeats 4000000 in
theorem rHas_any (A : Option Addr) (n c : Nat) (xs : List Lab.Gr) (s : ByteArray) (w : World) (h : Recs grCells 4 w w.heap.size A n c xs) :
    Calls Try.prog 31 #[.slice A n c, .string s] w fun e w' => e = .returned (.bool (Lab.named (xs.map (·.nm)) s)) ∧ Below w.heap.size w w' := by
  have hl := h.1
  have hcap := Nat.le_trans h.2.1 h.2.2.1
  have HL := Lib.hid hl
  have HH := Lib.hid h
  clear h hl
  go_enter Try.func31, Try.ntmps31
  go_wp2
  go_loopw [5] (fun i wr => ∃ k : Nat, k ≤ n ∧ i = .int .i64 (k : Nat) ∧ Lab.allTo (Lab.nameNe (xs.map (·.nm)) s) k = true ∧ Below w.heap.size w wr) (fun i _ => n - (intOf i).toNat)
  case atStart => exact ⟨0, Nat.zero_le _, rfl, rfl, Below.refl _ _⟩
  case round =>
    obtain ⟨k, hk, rfl, hall, hb⟩ := hrel
    have HALL := Lib.hid hall
    clear hall
    by_cases hlt : k < n
    · have hdk : decide (k < n) = true := decide_eq_true hlt
      obtain ⟨b, off, rfl, hbB, hcell⟩ := HH.out.at_ (by omega)
      obtain ⟨p, hp⟩ : ∃ p, xs[k]? = some p := ⟨_, List.getElem?_eq_getElem (by rw [HL.out]; exact hlt)⟩
      have c0 := (hb.cell (p := ⟨b, off + k * 4, none⟩) hbB).trans (hcell k p hp 0 _ rfl)
      have hbs := hb.size
      have hat := Lab.nameNe_is (s := s) (show (xs.map (·.nm))[k]? = some p.nm by rw [List.getElem?_map, hp]; rfl)
      clear hcell hp
      rcases hr : (p.nm.toList == s.toList) with _ | _
      · have HOK := Lib.hid (Lab.allTo_step HALL.out (by rw [hat, hr]; rfl))
        clear hat
        go_wp2
        go_roundw
        case rel => exact ⟨k + 1, by omega, by go_num, HOK.out, (by repeat (first | assumption | exact Below.refl _ _ | apply Mem.below_drewN | apply Below.drew | refine Below.alloc ?_ (by first | assumption | omega | (simp; done) | (simp; omega)) _ | refine Below.setCell ?_ (by first | assumption | omega | (simp; done) | (simp; omega)) _))⟩
        case measure => simp [intOf]; omega
      · have HB := Lib.hid (show Lab.named (xs.map (·.nm)) s = true by unfold Lab.named; rw [Lab.allTo_bad (by rw [List.length_map, HL.out]; exact hlt) (by rw [hat, hr]; rfl)]; rfl)
        clear hat
        go_wp2
        go_ret
        exact ⟨by rw [HB.out]; rfl, (by repeat (first | assumption | exact Below.refl _ _ | apply Mem.below_drewN | apply Below.drew | refine Below.alloc ?_ (by first | assumption | omega | (simp; done) | (simp; omega)) _ | refine Below.setCell ?_ (by first | assumption | omega | (simp; done) | (simp; omega)) _))⟩
    · obtain rfl : k = n := by omega
      have hdk : decide (k < k) = false := decide_eq_false (by omega)
      have HS := Lib.hid (show Lab.named (xs.map (·.nm)) s = false by unfold Lab.named; rw [List.length_map, HL.out, HALL.out]; rfl)
      go_wp2
      go_ret
      exact ⟨by rw [HS.out]; rfl, hb⟩
theorem rHas_is (A : Option Addr) (n c : Nat) (xs : List Lab.Gr) (s : ByteArray) (bb : Bool) (hb : Lab.named (xs.map (·.nm)) s = bb) (w : World) (h : Recs grCells 4 w w.heap.size A n c xs) :
    Calls Try.prog 31 #[.slice A n c, .string s] w fun e w' => e = .returned (.bool bb) ∧ Below w.heap.size w w' := by
  subst hb
  exact rHas_any A n c xs s w h
end Go.Proofs.Ythjnhifaejoigaa
