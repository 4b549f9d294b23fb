/- The walk of the reference's Units. -/
import Derived.Test.YtanacoollaajkaaDoorDurK
namespace Go.Proofs.YtanacoollaajkaaDoor
open Go.RowKit

set_option maxHeartbeats 400000 in
theorem rUnits_any (w : World) : Calls Tryd.prog 20 #[] w fun e w' => e = .returned (.slice (some ⟨w.heap.size, 0, none⟩) 5 5) ∧ w.alloc (.cells unitCells 43) = w' := by
  go_enter Tryd.func20, Tryd.ntmps20
  go_wp2
  go_ret
  exact ⟨rfl, rfl⟩
/-- a unit's two cells -/
theorem unitCells_at (j : Nat) (hj : j < 5) : unitCells[j * 2]? = some (.string (letS j)) ∧ unitCells[j * 2 + 1]? = some (.int .i64 (Dur.size j : Nat)) := by
  rcases j with _ | _ | _ | _ | _ | j
  · exact ⟨rfl, rfl⟩
  · exact ⟨rfl, rfl⟩
  · exact ⟨rfl, rfl⟩
  · exact ⟨rfl, rfl⟩
  · exact ⟨rfl, rfl⟩
  · omega
end Go.Proofs.YtanacoollaajkaaDoor
