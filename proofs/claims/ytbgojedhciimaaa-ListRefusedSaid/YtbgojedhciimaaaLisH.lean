/-
  list.two by hand.
-/
import Derived.Test.YtbgojedhciimaaaPLisx1
import Derived.Test.YtbgojedhciimaaaCalm
namespace Go.Proofs.Ytbgojedhciimaaa.LisH
open Go.RowKit Go.Proofs.YtbgojedhciimaaaW.PrintWords Go.Proofs.YtbgojedhciimaaaW.PrintMore Go.Proofs.Ytbgojedhciimaaa.Cm
set_option linter.unusedVariables false
theorem two_c (v : Int) (w : World) : Calls Try.prog 36 #[.int .i64 v] w fun e w' => e = .returned (.agg #[.int .u8 (v / 256 % 256), .int .u8 (v % 256)]) ∧ Below w.heap.size w w' := by
  go_enter Try.func36, Try.ntmps36
  go_wp2
  exact bodyPost_ret (v := .agg #[.int .u8 (v / 256 % 256), .int .u8 (v % 256)]) (by simp [results, Try.results36, go_sem]) rfl ⟨rfl, (Below.refl _ _).alloc (Nat.le_refl _) _⟩
/-- A page's two bytes. -/
def b2 (v : Int) : List Int := [v / 256 % 256, v % 256]
/-- A list's bytes. -/
def encL (l : List Int) (next : Int) : List Int := b2 next ++ [(l.length : Int) % 256] ++ l.flatMap b2
end Go.Proofs.Ytbgojedhciimaaa.LisH
