/- The walks of the reference's Want, Place and Name. -/
import Derived.Test.YtbdochcajpempaaDoorSelF
import Derived.Test.YtbdochcajpempaaDoorSelK
namespace Go.Proofs.YtbdochcajpempaaDoor
open Go.RowKit
set_option linter.unusedSimpArgs false
set_option linter.unusedVariables false

set_option maxRecDepth 100000 in
set_option maxHeartbeats 4000000 in
theorem want_neg (A : Option Addr) (n c : Nat) (x k : Int) (s : ByteArray) (hx : x < 0) (w : World) :
    Calls Tryd.prog 46 #[.slice A n c, .int .i64 x, .int .i64 k, .string s] w fun e w' => e = .returned (.int .i64 3) ∧ w = w' := by
  have hd : decide (x < 0) = true := decide_eq_true hx
  clear hx
  go_enter Tryd.func46, Tryd.ntmps46
  go_wp2
  go_ret
  exact ⟨rfl, rfl⟩
set_option maxRecDepth 100000 in
set_option maxHeartbeats 4000000 in
theorem want_sign (A : Option Addr) (n c i : Nat) (ts : List Sel.Tk) (s : ByteArray) (hs : ¬ s = ⟨#[]⟩) (e0 : Int) (he : e0 = if Sel.isS ts i s = true then 0 else Sel.wrong ts i) (w : World) (hT : Tks w w.heap.size A n c ts) :
    Calls Tryd.prog 46 #[.slice A n c, .int .i64 (i : Nat), .int .i64 4, .string s] w fun e w' => e = .returned (.int .i64 e0) ∧ w = w' := by
  have hd : decide ((i : Int) < 0) = false := decide_eq_false (by omega)
  have hl := hT.len
  by_cases hin : i < n
  · obtain ⟨b, off, t, rfl, hbB, ht, -, h0, -, h2⟩ := hT.at_ hin
    have hd1 : decide (n ≤ i) = false := decide_eq_false (by omega)
    have hsn : ¬ s.toList = [] := fun e => hs (Sel.ba_eq (e.trans (by rw [ByteArray.toList_eq])))
    have hse : s.toList.isEmpty = false := by rw [List.isEmpty_eq_false_iff]; exact hsn
    have hw : Sel.wrong ts i = 1 := by unfold Sel.wrong; rw [if_neg (by omega)]
    rw [hw, Sel.isS_some ht] at he
    obtain ⟨k, a, u⟩ := t
    simp only at he h0 h2
    rcases hk : (k == 4) with _ | _
    · rw [hk] at he
      have hE : e0 = 1 := he
      have hkn : ¬ k = 4 := by simpa using hk
      clear he hl ht hT hw hs hk
      subst hE
      go_enter Tryd.func46, Tryd.ntmps46
      go_wp2
      go_ret
      exact ⟨rfl, rfl⟩
    · rw [hk] at he
      obtain rfl : k = 4 := by simpa using hk
      clear hk
      by_cases hu : u = s
      · have hE : e0 = 0 := by rw [he, decide_eq_true hu]; rfl
        clear he hl ht hT hw hs
        subst hE hu
        go_enter Tryd.func46, Tryd.ntmps46
        go_wp2
        go_ret
        exact ⟨rfl, rfl⟩
      · have hE : e0 = 1 := by rw [he, decide_eq_false hu]; rfl
        have hun := Sel.ba_ne hu
        clear he hl ht hT hw hs
        subst hE
        go_enter Tryd.func46, Tryd.ntmps46
        go_wp2
        go_ret
        exact ⟨rfl, rfl⟩
  · have hd1 : decide (n ≤ i) = true := decide_eq_true (by omega)
    have hw : Sel.wrong ts i = 3 := by unfold Sel.wrong; rw [if_pos (by omega)]
    rw [hw, Sel.isS_none (List.getElem?_eq_none (by omega))] at he
    have hE : e0 = 3 := he
    clear he hl hT hw hs hin
    subst hE
    go_enter Tryd.func46, Tryd.ntmps46
    go_wp2
    go_ret
    exact ⟨rfl, rfl⟩
set_option maxRecDepth 100000 in
set_option maxHeartbeats 4000000 in
theorem want_kind (A : Option Addr) (n c i : Nat) (ts : List Sel.Tk) (k : Int) (e0 : Int) (he : e0 = if Sel.isK ts i k = true then 0 else Sel.wrong ts i) (w : World) (hT : Tks w w.heap.size A n c ts) :
    Calls Tryd.prog 46 #[.slice A n c, .int .i64 (i : Nat), .int .i64 k, .string ⟨#[]⟩] w fun e w' => e = .returned (.int .i64 e0) ∧ w = w' := by
  have hd : decide ((i : Int) < 0) = false := decide_eq_false (by omega)
  have hl := hT.len
  by_cases hin : i < n
  · obtain ⟨b, off, t, rfl, hbB, ht, -, h0, -, h2⟩ := hT.at_ hin
    have hd1 : decide (n ≤ i) = false := decide_eq_false (by omega)
    have hw : Sel.wrong ts i = 1 := by unfold Sel.wrong; rw [if_neg (by omega)]
    rw [hw, Sel.isK_some ht] at he
    obtain ⟨k', a, u⟩ := t
    simp only at he h0 h2
    rcases hk : (k' == k) with _ | _
    · rw [hk] at he
      have hE : e0 = 1 := he
      have hkn : ¬ k' = k := by simpa using hk
      clear he hl ht hT hw hk
      subst hE
      go_enter Tryd.func46, Tryd.ntmps46
      go_wp2
      go_ret
      exact ⟨rfl, rfl⟩
    · rw [hk] at he
      obtain rfl : k' = k := by simpa using hk
      clear hk
      have hE : e0 = 0 := he
      clear he hl ht hT hw
      subst hE
      go_enter Tryd.func46, Tryd.ntmps46
      go_wp2
      go_ret
      exact ⟨rfl, rfl⟩
  · have hd1 : decide (n ≤ i) = true := decide_eq_true (by omega)
    have hw : Sel.wrong ts i = 3 := by unfold Sel.wrong; rw [if_pos (by omega)]
    rw [hw, Sel.isK_none (List.getElem?_eq_none (by omega))] at he
    have hE : e0 = 3 := he
    clear he hl hT hw hin
    subst hE
    go_enter Tryd.func46, Tryd.ntmps46
    go_wp2
    go_ret
    exact ⟨rfl, rfl⟩
set_option maxRecDepth 100000 in
set_option maxHeartbeats 4000000 in
theorem place_neg (A : Option Addr) (n c : Nat) (x : Int) (hx : x < 0) (w : World) :
    Calls Tryd.prog 48 #[.slice A n c, .int .i64 x] w fun e w' => e = .returned (.int .i64 0) ∧ w = w' := by
  have hd : decide (x < 0) = true := decide_eq_true hx
  clear hx
  go_enter Tryd.func48, Tryd.ntmps48
  go_wp2
  go_ret
  exact ⟨rfl, rfl⟩
set_option maxRecDepth 100000 in
set_option maxHeartbeats 4000000 in
theorem place_is (A : Option Addr) (n c i : Nat) (j : Nat) (hj : j = min i n) (w : World) :
    Calls Tryd.prog 48 #[.slice A n c, .int .i64 (i : Nat)] w fun e w' => e = .returned (.int .i64 (j : Nat)) ∧ w = w' := by
  have hd : decide ((i : Int) < 0) = false := decide_eq_false (by omega)
  have HJ := Lib.hid (show min (i : Int) (n : Int) = ((j : Nat) : Int) by omega)
  clear hj
  go_enter Tryd.func48, Tryd.ntmps48
  go_wp2
  go_ret
  exact ⟨by rw [← HJ.out]; rfl, rfl⟩
set_option maxRecDepth 100000 in
set_option maxHeartbeats 4000000 in
theorem rNameAt_neg (A : Option Addr) (n c : Nat) (x : Int) (hx : x < 0) (w : World) :
    Calls Tryd.prog 77 #[.slice A n c, .int .i64 x] w fun e w' => e = .returned (.int .i64 3) ∧ w = w' := by
  go_enter Tryd.func77, Tryd.ntmps77
  go_wp2_with fail
  refine (want_neg A n c x 1 ⟨#[]⟩ hx w).mono ?_
  rintro e w' ⟨rfl, rfl⟩
  go_wp2
  go_ret
  exact ⟨rfl, rfl⟩
set_option maxRecDepth 100000 in
set_option maxHeartbeats 4000000 in
theorem rNameAt_is (A : Option Addr) (n c i : Nat) (ts : List Sel.Tk) (e0 : Int) (he : Sel.nameE ts i = e0) (w : World) (hT : Tks w w.heap.size A n c ts) :
    Calls Tryd.prog 77 #[.slice A n c, .int .i64 (i : Nat)] w fun e w' => e = .returned (.int .i64 e0) ∧ w = w' := by
  have hl := hT.len
  have HT := Lib.hid hT
  rcases hk : Sel.isK ts i 1 with _ | _
  · have HE : e0 = Sel.wrong ts i ∧ e0 ≠ 0 := by
      rcases hx : ts[i]? with _ | t
      · have h1 := List.getElem?_eq_none_iff.1 hx
        rw [Sel.nameE_none hx] at he
        unfold Sel.wrong
        rw [if_pos h1]
        omega
      · have h1 := (List.getElem?_eq_some_iff.1 hx).1
        rw [Sel.isK_some hx] at hk
        rw [Sel.nameE_some hx, if_neg (by simpa using hk)] at he
        unfold Sel.wrong
        rw [if_neg (by omega)]
        omega
    have HK := Lib.hid (show e0 = if Sel.isK ts i 1 = true then 0 else Sel.wrong ts i by rw [hk]; exact HE.1)
    have hn0 : (e0 == 0) = false := by rw [beq_eq_false_iff_ne]; exact HE.2
    clear HE hk he hT hl
    go_enter Tryd.func77, Tryd.ntmps77
    go_wp2_with fail
    refine (want_kind A n c i ts 1 e0 HK.out w HT.out).mono ?_
    rintro e w' ⟨rfl, rfl⟩
    go_wp2
    go_ret
    exact ⟨rfl, rfl⟩
  · have hin := Sel.isK_lt hk
    have hin2 : i < n := by omega
    obtain ⟨b, off, t, rfl, hbB, ht, hz, h0, -, h2⟩ := hT.at_ hin2
    have hd : decide (i < n) = true := decide_eq_true hin2
    have HK := Lib.hid (show (0 : Int) = if Sel.isK ts i 1 = true then 0 else Sel.wrong ts i by rw [hk]; rfl)
    have hnm : e0 = if Lab.name t.2.2 = true then 0 else 7 := by
      rw [← he, Sel.nameE_some ht]
      rw [Sel.isK_some ht] at hk
      rw [if_pos (by simpa using hk)]
    obtain ⟨k', a, u⟩ := t
    simp only at h0 h2 hz hnm
    clear hk he hT hl hin ht
    rcases hb : Lab.name u with _ | _
    · have HB := Lib.hid hb
      rw [hb] at hnm
      have hE : e0 = 7 := hnm
      clear hnm hb
      subst hE
      go_enter Tryd.func77, Tryd.ntmps77
      go_wp2_with fail
      refine (want_kind _ n c i ts 1 0 HK.out w HT.out).mono ?_
      rintro e w' ⟨rfl, rfl⟩
      go_wp2_with fail
      refine (rName_is u hz false HB.out _).mono ?_
      rintro e w' ⟨rfl, rfl⟩
      go_wp2
      go_ret
      exact ⟨rfl, rfl⟩
    · have HB := Lib.hid hb
      rw [hb] at hnm
      have hE : e0 = 0 := hnm
      clear hnm hb
      subst hE
      go_enter Tryd.func77, Tryd.ntmps77
      go_wp2_with fail
      refine (want_kind _ n c i ts 1 0 HK.out w HT.out).mono ?_
      rintro e w' ⟨rfl, rfl⟩
      go_wp2_with fail
      refine (rName_is u hz true HB.out _).mono ?_
      rintro e w' ⟨rfl, rfl⟩
      go_wp2
      go_ret
      exact ⟨rfl, rfl⟩
end Go.Proofs.YtbdochcajpempaaDoor
