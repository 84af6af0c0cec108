/-
  umbellaw22.ListRefused, as its row asks.
-/
import Derived.Test.YtbgojedhciimaaaLisR
namespace Go.Proofs.Ytbgojedhciimaaa.LisV
open Go.RowKit Go.Proofs.YtbgojedhciimaaaW.PrintWords Go.Proofs.YtbgojedhciimaaaW.PrintMore Go.Proofs.Ytbgojedhciimaaa.LisR Go.Proofs.Ytbgojedhciimaaa.LisT
set_option linter.unusedVariables false
theorem walk (a : Option Addr) (len cap : Nat) (z : List Int) (next : Int) (q : Int) (W : World)
    (w0 : (a = none ∧ len = 0 ∧ cap = 0 ∧ z = []) ∨ ∃ x, a = some x ∧ len ≤ cap ∧ cap ≤ maxLen ∧ z.length = cap ∧ (∀ i, i < z.length → W.cell? (x.add i) = some (.int .i64 (z.getD i 0))) ∧ ∀ n ∈ z, (Lit.int .i64 n).wf = true)
    (y0 : len * 8 ≤ 140737488351232) (w1 : (Lit.int .i64 next).wf = true) (w2 : (Lit.int .u8 q).wf = true) :
    Calls Try.prog 10 #[.slice a len cap, .int .i64 next, .int .u8 q] W fun e w' => e = .returned (.bool true) ∧ Below W.heap.size W w' := by
  obtain ⟨l, rfl, hc, hC, _⟩ := c_of_row w0
  refine refused a cap l next q W hC hc (by omega) ?_
  have := w2
  have h1 : IntKind.u8.min = 0 := rfl
  have h2 : IntKind.u8.max = 255 := rfl
  simp only [Lit.wf, h1, h2, Bool.and_eq_true, decide_eq_true_eq] at this
  omega
end Go.Proofs.Ytbgojedhciimaaa.LisV
