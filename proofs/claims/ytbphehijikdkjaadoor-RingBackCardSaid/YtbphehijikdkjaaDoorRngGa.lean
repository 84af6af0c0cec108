/-
  RingTells and RingBack: the walks.
-/
import Derived.Test.YtbphehijikdkjaaDoorRngG
import Derived.Test.YtbphehijikdkjaaDoorRngEa
namespace Go.Proofs.YtbphehijikdkjaaDoor.RngG
open Go.ChangeShapes Go.WideShapes Go.ChangeAt Go.RowKit Go.Proofs.YtbphehijikdkjaaDoor.PRng Go.Proofs.YtbphehijikdkjaaDoorW.PrintWords Go.Proofs.YtbphehijikdkjaaDoorW.PrintMore Go.Proofs.YtbphehijikdkjaaDoor.RngE
set_option linter.unusedVariables false
theorem walkTells (A0 : Option Addr) (len0 cap0 : Nat) (l : List S49) (s : ByteArray) (w : World) (hG : DgsB.Glob w) (hl : l.length = len0) (hc : len0 ≤ cap0) (hn : len0 < 4398046511104) (hr : Kd.C k49 w A0 len0 l) (_ : s.size ≤ 140737488351232) :
    Calls Tryd.prog 7 #[.slice A0 len0 cap0, .string s] w fun e w' => e = .returned (.bool true) ∧ Below w.heap.size w w' := by
  subst hl
  obtain ⟨k, hk⟩ := tells l s hn
  exact umbellaw21_RingTells.calls k A0 cap0 l s true w hr hc hG hk
theorem walkBack (A0 : Option Addr) (len0 cap0 : Nat) (l : List S49) (s : ByteArray) (w : World) (hG : DgsB.Glob w) (hl : l.length = len0) (hc : len0 ≤ cap0) (hn : len0 < 4398046511104) (hr : Kd.C k49 w A0 len0 l) (_ : s.size ≤ 140737488351232) :
    Calls Tryd.prog 8 #[.slice A0 len0 cap0, .string s] w fun e w' => e = .returned (.bool true) ∧ Below w.heap.size w w' := by
  subst hl
  obtain ⟨k, hk⟩ := back l s hn
  exact umbellaw21_RingBack.calls k A0 cap0 l s true w hr hc hG hk
end Go.Proofs.YtbphehijikdkjaaDoor.RngG
