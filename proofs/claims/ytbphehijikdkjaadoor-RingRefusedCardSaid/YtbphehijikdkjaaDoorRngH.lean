/-
  The hash of nothing: root.Empty and the reference's, walked by hand.
-/
import Derived.Test.YtbphehijikdkjaaDoorDgsA
namespace Go.Proofs.YtbphehijikdkjaaDoor.RngH
open Go.RowKit Go.Proofs.YtbphehijikdkjaaDoorW.PrintWords Go.Proofs.YtbphehijikdkjaaDoorW.PrintMore Go.Proofs.YtbphehijikdkjaaDoor.Cm Go.Proofs.YtbphehijikdkjaaDoor.Str Go.Proofs.YtbphehijikdkjaaDoor.DgsB Go.Proofs.YtbphehijikdkjaaDoor.DgsL Go.Proofs.YtbphehijikdkjaaDoor.DgsO
set_option linter.unusedVariables false
/-- The hash of nothing. -/
def eH : ByteArray := strOfNums (ofB (bytesOf ⟨#[0]⟩))
theorem eH_size : eH.size = 32 := by rw [eH, str_size, ofB, outB_len, hsAt_len]
theorem rempty_c (w : World) (hG : Glob w) : Calls Tryd.prog 50 #[] w fun e w' => e = .returned (.string eH) ∧ Below w.heap.size w w' := by
  have C := Lib.hid (of_c ⟨#[0]⟩ (by decide) w hG)
  go_enter Tryd.func50, Tryd.ntmps50
  go_wp2_with fail
  refine C.out.mono ?_
  rintro e w1 ⟨rfl, hB⟩
  go_wp2_with fail
  go_ret
  exact ⟨rfl, hB⟩
theorem fempty_c (w : World) : Calls Tryd.prog 26 #[] w fun e w' => e = .returned (.string eH) ∧ Below w.heap.size w w' := by
  have C := Lib.hid (DgsA.rof_c ⟨#[0]⟩ (by decide) w)
  go_enter Tryd.func26, Tryd.ntmps26
  go_wp2_with fail
  refine C.out.mono ?_
  rintro e w1 ⟨rfl, hB⟩
  go_wp2_with fail
  go_ret
  exact ⟨rfl, hB⟩
end Go.Proofs.YtbphehijikdkjaaDoor.RngH
