/- The walk of dur's Parse: the units as they lie; one part. -/
import Derived.Test.YtanacoollaajkaaDoorDurA
import Derived.Test.YtanacoollaajkaaDoorDurPlain2
import Derived.Laws.Rows
import Derived.Lib.LaidTab
import Derived.Lib.ItoaMem
namespace Go.Proofs.YtanacoollaajkaaDoor
open Go.RowKit

def unitCells : Array Value := #[.string ⟨#[100]⟩, .int .i64 86400000, .string ⟨#[104]⟩, .int .i64 3600000, .string ⟨#[109]⟩, .int .i64 60000, .string ⟨#[115]⟩, .int .i64 1000, .string ⟨#[109, 115]⟩, .int .i64 1]
/-- what the package's variables hold -/
def Glob (w : World) : Prop := (∃ t fr, w.heap[0]? = some (.cells unitCells t fr)) ∧ Lib.TabIs Tryd.prog w "internal/strconv.uint64pow10" .u64 Lib.pow10Tab
theorem Glob.below {w w' : World} (h : Glob w) (hb : Below w.heap.size w w') : Glob w' := by
  obtain ⟨⟨t, fr, h0⟩, h1⟩ := h
  have hl := (Array.getElem?_eq_some_iff.1 h0).1
  refine ⟨⟨t, fr, (hb.block 0 hl).trans h0⟩, ?_⟩
  unfold Lib.TabIs World.var? at *
  cases hg : Tryd.prog.globalNamed "internal/strconv.uint64pow10" with
  | none => rw [hg] at h1; cases h1
  | some g =>
    simp only [hg, Option.bind_some] at h1 ⊢
    have hlt : g < w.heap.size := by
      rcases Nat.lt_or_ge g w.heap.size with h' | h'
      · exact h'
      · rw [Array.getElem?_eq_none h'] at h1; simp at h1
    rw [hb.block g hlt]
    exact h1
def letS (j : Nat) : ByteArray := ⟨(Dur.lets j).toArray⟩
theorem units_at (j : Nat) (hj : j < 5) (w : World) : (Instr.index 36 (.agg unitCells) (.int .i64 (j : Int))).run Tryd.prog w = .ok (.agg #[.string (letS j), .int .i64 (Dur.size j : Nat)]) w := by
  rcases j with _ | _ | _ | _ | _ | j
  · kernel_rfl
  · kernel_rfl
  · kernel_rfl
  · kernel_rfl
  · kernel_rfl
  · omega
theorem has_any (s p : ByteArray) (b : Bool) (w : World) (h : List.isPrefixOf (Dur.bl p) (Dur.bl s) = b) :
    Calls Tryd.prog 18 #[.string s, .string p] w fun e w' => e = .returned (.bool b) ∧ w = w' := by
  refine (Tryd.strings_HasPrefix s p w).mono ?_
  rintro e w' ⟨rfl, rfl⟩
  refine ⟨?_, rfl⟩
  rw [← h]
  rfl
end Go.Proofs.YtanacoollaajkaaDoor
