/-
  The tables umbel/digest.begin and umbel/digest.rounds as a row lays them: the walks' fact, and the witness.
-/
import Derived.Test.YtklakmooaffjpaaDoorRows
import Derived.Test.YtklakmooaffjpaaDoorPDgsx1
import Derived.LaidMore
import Derived.Lib.LaidTab
import Derived.Stop.Joined
import Derived.Stop.LaidErr
import Derived.ProofKit
namespace Go.Proofs.YtklakmooaffjpaaDoor.Laid
open Go.RowKit Go.Proofs.YtklakmooaffjpaaDoor.DgsB
def L : List (String × DataW Unit) := [("umbel/digest.begin", Rows.laid_umbel_digest_begin), ("umbel/digest.rounds", Rows.laid_umbel_digest_rounds)]
theorem g0 : Tryd.prog.globalNamed "umbel/digest.begin" = some 0 := by kernel_rfl
theorem t0 : (Tryd.prog.globals[0]?).map (·.type) = some 60 := by kernel_rfl
theorem u0 : Tryd.prog.underlying 60 = some (.array 8 59) := by kernel_rfl
theorem g1 : Tryd.prog.globalNamed "umbel/digest.rounds" = some 1 := by kernel_rfl
theorem t1 : (Tryd.prog.globals[1]?).map (·.type) = some 81 := by kernel_rfl
theorem u1 : Tryd.prog.underlying 81 = some (.array 64 59) := by kernel_rfl
theorem uU32 : Tryd.prog.underlying 59 = some (.int .u32) := by kernel_rfl
theorem cU32 : Tryd.prog.cellsOf 59 = 1 := by kernel_rfl
theorem c0 : Tryd.prog.cellsOf 60 = 8 := by kernel_rfl
theorem c1 : Tryd.prog.cellsOf 81 = 64 := by kernel_rfl
/-- The door's own heap meets the condition. -/
theorem door_met (os : Os) (args : Array Value) : laidMetH Tryd.prog L ((World.doorLaid Tryd.prog 400 os).forCall (fun _ _ => 0) ⟨#[], args, []⟩).memory :=
  laidMetH_of_parts3 (fuel := 8) (laidMet_of_run' 8 (by kernel_rfl) (by kernel_rfl)) (by kernel_rfl) (by kernel_rfl)
/-- What the condition gives the walks. -/
theorem of_laid {W : World} (h : laidMetH Tryd.prog L W) : DgsB.Glob W := by
  rw [MakeChecks.laidMetH_plain _ _ _ (by kernel_rfl)] at h
  have ht0 : Lib.TabIs Tryd.prog W "umbel/digest.begin" .u32 (beg.map fun (n : Nat) => (n : Int)) := Lib.tabIs_of_head g0 t0 u0 uU32 cU32 c0 (rest := [("umbel/digest.rounds", Rows.laid_umbel_digest_rounds)]) h
  have ht1 : Lib.TabIs Tryd.prog W "umbel/digest.rounds" .u32 (kt.map fun (n : Nat) => (n : Int)) := Lib.tabIs_of_head g1 t1 u1 uU32 cU32 c1 (rest := []) h.tail
  refine ⟨fun i hi => ?_, fun i hi => ?_⟩
  · have := ht0.cell g0 i (by simpa [beg] using hi)
    rw [this]
    congr 2
    have hall : ∀ i, i < 8 → (beg.map fun (n : Nat) => (n : Int)).getD i 0 = ((beg.getD i 0 : Nat) : Int) := by decide
    exact hall i hi
  · have := ht1.cell g1 i (by simpa [kt] using hi)
    rw [this]
    congr 2
    have hall : ∀ i : Fin 64, (kt.map fun (n : Nat) => (n : Int)).getD i.val 0 = ((kt.getD i.val 0 : Nat) : Int) := by decide +kernel
    exact hall ⟨i, hi⟩
end Go.Proofs.YtklakmooaffjpaaDoor.Laid
