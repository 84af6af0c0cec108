/-
  RingRefused: the walk.
-/
import Derived.Test.YtbphehijikdkjaaDoorRngG
import Derived.Test.YtbphehijikdkjaaDoorRngEb
namespace Go.Proofs.YtbphehijikdkjaaDoor.RngG
open Go.ChangeShapes Go.WideShapes Go.ChangeAt Go.RowKit Go.Proofs.YtbphehijikdkjaaDoor.PRng Go.Proofs.YtbphehijikdkjaaDoorW.PrintWords Go.Proofs.YtbphehijikdkjaaDoorW.PrintMore Go.Proofs.YtbphehijikdkjaaDoor.RngE
set_option linter.unusedVariables false
theorem walkRefused (A0 : Option Addr) (len0 cap0 : Nat) (l : List S49) (i : Int) (w : World) (hG : DgsB.Glob w) (hl : l.length = len0) (hc : len0 ≤ cap0) (hn : len0 < 4398046511104) (hr : Kd.C k49 w A0 len0 l) (hi : (Lit.int .u8 i).wf = true) :
    Calls Tryd.prog 9 #[.slice A0 len0 cap0, .int .u8 i] w fun e w' => e = .returned (.bool true) ∧ Below w.heap.size w w' := by
  subst hl
  have h : 0 ≤ i ∧ i < 256 := by
    have hb := hi
    simp [Lit.wf, show IntKind.u8.min = 0 from rfl, show IntKind.u8.max = 255 from rfl] at hb
    omega
  obtain ⟨k, hk⟩ := refused l i hn h.1 (by omega)
  exact umbellaw21_RingRefused.calls k A0 cap0 l i true w hr hc hG hk
end Go.Proofs.YtbphehijikdkjaaDoor.RngG
