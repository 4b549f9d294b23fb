/- The walk: tokens without their places. -/
import Derived.Test.YtnallbhckeoldaaLexK
import Derived.Deep.AppendLies
import Derived.Deep.RegionLaw
namespace Go.Proofs.Ytnallbhckeoldaa
open Go.RowKit

namespace Lex
/-- without its place -/
def bareTok (t : Tok) : Tok := ⟨t.k, 0, t.s⟩
theorem bareTok_eq {l m : List Tok} (h : bare l = bare m) : l.map bareTok = m.map bareTok := by
  induction l generalizing m with
  | nil =>
    cases m with
    | nil => rfl
    | cons t m => cases h
  | cons t l ih =>
    cases m with
    | nil => cases h
    | cons u m =>
      injection h with h1 h2
      injection h1 with h3 h4
      rw [List.map_cons, List.map_cons, ih h2]
      unfold bareTok
      rw [h3, h4]
theorem bare_snoc {xs : List Tok} {k : Nat} {x : Tok} (h : xs[k]? = some x) : ((xs.map bareTok).take k).flatMap tokCells ++ [.int .i64 (x.k : Int), .int .i64 0, .string ⟨x.s.toArray⟩] = ((xs.map bareTok).take (k + 1)).flatMap tokCells := by
  have : (xs.map bareTok)[k]? = some (bareTok x) := by rw [List.getElem?_map, h]; rfl
  rw [List.take_add_one, this, List.flatMap_append]
  rfl
end Lex

set_option maxRecDepth 100000 in
set_option maxHeartbeats 4000000 in
theorem plain_any (A : Option Addr) (n c : Nat) (xs : List Lex.Tok) (w : World) (h : Toks w w.heap.size A n c xs) (hn : n ≤ 100000) :
    Calls Try.prog 12 #[.slice A n c] w fun e w' => ∃ A' n' c', e = .returned (.slice A' n' c') ∧ Toks w' w'.heap.size A' n' c' (xs.map Lex.bareTok) ∧ Below w.heap.size w w' := by
  obtain ⟨i0, hi, hz0, hz1, hz2⟩ := info_parts infoTok
  have hlen := h.1
  have hc := h.2.1
  have hc2 := h.2.2.1
  go_enter Try.func12, Try.ntmps12
  go_wp2
  go_loopw [3, 4] (fun v i wr => ∃ k : Nat, k ≤ n ∧ i = .int .i64 k ∧ wr.ownsRow w.heap.size 32 3 v k (((xs.map Lex.bareTok).take k).flatMap Lex.tokCells) ∧ Below w.heap.size w wr) (fun _ i _ => n - (intOf i).toNat)
  case atStart => exact ⟨0, Nat.zero_le _, rfl, World.ownsRow_nil _ _ _ _, Below.refl _ _⟩
  case round =>
    obtain ⟨k, hk, rfl, hown, hb⟩ := hrel
    have HO := Lib.hid hown
    have hbs := hb.size
    by_cases hlt : k < n
    · obtain ⟨b, off, rfl, hbB, hcell⟩ := h.at_ (by omega)
      obtain ⟨x, hx⟩ := Lex.tok_at hlen hlt
      have h1 := (hb.cell (p := ⟨b, off + k * 3, none⟩) hbB).trans (hcell k x hx 0 _ rfl)
      have h2 := (hb.cell (p := ⟨b, off + k * 3 + 1, none⟩) hbB).trans (hcell k x hx 1 _ rfl)
      have h3 := (hb.cell (p := ⟨b, off + k * 3 + 2, none⟩) hbB).trans (hcell k x hx 2 _ rfl)
      have HX := Lib.hid hx
      clear hcell h hlen hx hown
      have j0 : (0 : Int) ≤ (k : Int) := by omega
      have j1 : (k : Int) < (n : Int) := by omega
      go_wp2
      go_region_law (refine step_append_lies _ (by rfl) _ _ _ (by rfl) _ 32 i0 _ 3 32 Try.underlying23 hi hz0 hz1 hz2 rfl (by omega) _ _ _ (by rfl) (HO.out.alloc _) ⟨wr.heap.size, 0, none⟩ 1 1 [.int .i64 (x.k : Int), .int .i64 0, .string ⟨x.s.toArray⟩] (by rfl) (by rfl) (World.news_of_block (cs := #[.int .i64 (x.k : Int), .int .i64 0, .string ⟨x.s.toArray⟩]) (t := 32) (fr := (0, 0)) (heap_alloc_new wr _)) (by simp [Value.oneCell']) (by omega) (by unfold maxLen; omega) (by omega) (by simp; omega) (wr.heap.size + 1) (by simp) ?_; intro gg cap w6 hown6 hgrow6 hat6 hlt6)
      all_goals
        have hb2 : Below w.heap.size w w6 := ((hb.alloc hbs _).drew).grown hgrow6 (by simp; omega) (fun g e => (HO.out.lt g e).1)
        rw [Lex.bare_snoc HX.out] at hown6
        have HN := Lib.hid hown6
        clear hown6 hgrow6 hat6
        go_wp2
        go_roundw
        case rel => exact ⟨k + 1, by omega, by go_num, HN.out, hb2⟩
        case measure => simp [intOf]; omega
    · obtain rfl : k = n := by omega
      go_wp2
      go_ret
      obtain ⟨A', c', rfl, hT⟩ := Recs.of_own Lex.tokCells_len (by decide) HO.out
      rw [List.take_of_length_le (by rw [List.length_map]; omega)] at hT
      exact ⟨A', k, c', rfl, hT, hb⟩
end Go.Proofs.Ytnallbhckeoldaa
