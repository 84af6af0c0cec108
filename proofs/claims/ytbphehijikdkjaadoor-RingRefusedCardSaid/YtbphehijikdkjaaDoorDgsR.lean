/-
  The complement of a word, in plain numbers.
-/
import Derived.Test.YtbphehijikdkjaaDoorDgsP
namespace Go.Proofs.YtbphehijikdkjaaDoor.DgsR
open Go.RowKit Go.Proofs.YtbphehijikdkjaaDoorW.PrintWords Go.Proofs.YtbphehijikdkjaaDoorW.PrintMore Go.Proofs.YtbphehijikdkjaaDoor.DgsP
set_option linter.unusedVariables false
theorem xor_max (x : Nat) (hx : x < M) : 4294967295 ^^^ x = M - 1 - x := by
  rw [M_eq] at *
  have h : (BitVec.allOnes 32 ^^^ BitVec.ofNat 32 x).toNat = (~~~ BitVec.ofNat 32 x).toNat := by rw [BitVec.allOnes_xor]
  rw [BitVec.toNat_xor, BitVec.toNat_not, BitVec.toNat_ofNat, BitVec.toNat_allOnes, Nat.mod_eq_of_lt (show x < 2 ^ 32 by omega)] at h
  exact h
theorem not_cast (x : Nat) (hx : x < M) : bits .xor .u32 IntKind.u32.max (x : Int) = ((M - 1 - x : Nat) : Int) := by
  rw [← xor_max x hx]
  exact bits_xor 4294967295 x (by decide) hx
end Go.Proofs.YtbphehijikdkjaaDoor.DgsR
