/-
  NodeUnlike: the walk, for the row.
-/
import Derived.Test.YtklakmooaffjpaaDoorNodY
import Derived.Test.YtklakmooaffjpaaDoorNodOp
namespace Go.Proofs.YtklakmooaffjpaaDoor.NodUU
open Go.RowKit Go.Proofs.YtklakmooaffjpaaDoorW.PrintWords Go.Proofs.YtklakmooaffjpaaDoorW.PrintMore Go.Proofs.YtklakmooaffjpaaDoor.NodP Go.Proofs.YtklakmooaffjpaaDoor.DgsB
set_option linter.unusedVariables false
theorem walk (a0 : Int) (b0 : ByteArray) (c0 : Bool) (e0 : ByteArray) (f0 : Int) (g0 : Option Addr) (m0 : Nat) (l0 : List ByteArray) (a1 : ByteArray) (a2 : Int) (W : World) (hG : Glob W) (h0 : l0.length ≤ m0) (k0 : Kd.C Kd.string W g0 l0.length l0) (x0 : (Lit.int .i64 a0).wf = true) (y0 : (Lit.int .i64 f0).wf = true) (w1 : a1.size ≤ 140737488351232) (w2 : (Lit.int .u8 a2).wf = true) :
    Calls Tryd.prog 6 #[.agg #[.int .i64 a0, .string b0, .bool c0, .string e0, .int .i64 f0, .slice g0 l0.length m0], .string a1, .int .u8 a2] W fun e w' => e = .returned (.bool true) ∧ Below W.heap.size W w' :=
  PNod.u9NodeUnlike.calls 40001 a0 b0 c0 e0 f0 g0 m0 l0 a1 a2 true W k0 h0 hG (NodY.pure ⟨a0, b0, c0, e0, f0, l0⟩ a1 a2 40001 (by decide))
end Go.Proofs.YtklakmooaffjpaaDoor.NodUU
