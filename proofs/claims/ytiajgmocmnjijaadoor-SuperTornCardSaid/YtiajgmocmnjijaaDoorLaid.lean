/-
  The table umbel/sum.steps as a row lays it: the walks' fact, and the witness.
-/
import Derived.Test.YtiajgmocmnjijaaDoorRows
import Derived.Test.YtiajgmocmnjijaaDoorSumH
import Derived.LaidMore
import Derived.Lib.LaidTab
import Derived.Stop.Joined
import Derived.ProofKit
namespace Go.Proofs.YtiajgmocmnjijaaDoor.Laid
open Go.RowKit
def L : List (String × DataW Unit) := [("umbel/sum.steps", Rows.laid_umbel_sum_steps)]
theorem gSteps : Tryd.prog.globalNamed "umbel/sum.steps" = some 0 := by kernel_rfl
theorem tSteps : (Tryd.prog.globals[0]?).map (·.type) = some 95 := by kernel_rfl
theorem uSteps : Tryd.prog.underlying 95 = some (.array 16 66) := by kernel_rfl
theorem uU32 : Tryd.prog.underlying 66 = some (.int .u32) := by kernel_rfl
theorem cU32 : Tryd.prog.cellsOf 66 = 1 := by kernel_rfl
theorem cSteps : Tryd.prog.cellsOf 95 = 16 := by kernel_rfl
/-- The door's own heap meets the condition. -/
theorem door_met (os : Os) (args : Array Value) : laidMetH Tryd.prog L ((World.doorLaid Tryd.prog 400 os).forCall (fun _ _ => 0) ⟨#[], args, []⟩).memory :=
  laidMetH_of_parts3 (fuel := 8) (laidMet_of_run' 8 (by kernel_rfl) (by kernel_rfl)) (by kernel_rfl) (by kernel_rfl)
/-- What the condition gives the walks. -/
theorem of_laid {W : World} (h : laidMetH Tryd.prog L W) : SumH.Glob W := by
  rw [MakeChecks.laidMetH_plain _ _ _ (by kernel_rfl)] at h
  have ht : Lib.TabIs Tryd.prog W "umbel/sum.steps" .u32 (Crc.tab.map fun (n : Nat) => (n : Int)) := Lib.tabIs_of_head gSteps tSteps uSteps uU32 cU32 cSteps (rest := []) h
  refine ⟨fun i hi => ?_⟩
  have := ht.cell gSteps i (by simpa [Crc.tab] using hi)
  rw [this]
  congr 2
  have hall : ∀ i, i < 16 → (Crc.tab.map fun (n : Nat) => (n : Int)).getD i 0 = ((Crc.tab.getD i 0 : Nat) : Int) := by decide
  exact hall i hi
end Go.Proofs.YtiajgmocmnjijaaDoor.Laid
