/-
  SHA-256 in plain numbers, and how the language's operations on words of 32 bits are plain ones.
-/
import Derived.Test.YtbphehijikdkjaaDoorStr
import Derived.Laws.BitsLemmas
namespace Go.Proofs.YtbphehijikdkjaaDoor.DgsP
open Go.RowKit Go.Proofs.YtbphehijikdkjaaDoorW.PrintWords Go.Proofs.YtbphehijikdkjaaDoorW.PrintMore
set_option linter.unusedVariables false
/-- How many words there are. -/
def M : Nat := 4294967296
theorem M_eq : M = 4294967296 := rfl
theorem bits_and (a b : Nat) (ha : a < M) (hb : b < M) : bits .and .u32 (a : Int) (b : Int) = ((a &&& b : Nat) : Int) := by
  rw [M_eq] at ha hb
  have h1 : bits .and .u32 (a : Int) (b : Int) = IntKind.u32.wrap ((BitVec.ofNat 32 a &&& BitVec.ofNat 32 b : BitVec 32).toNat : Int) := by
    simp only [bits, BitVec.ofInt_natCast]; rfl
  have hx : a &&& b < 2 ^ 32 := Nat.and_lt_two_pow _ (by omega)
  rw [h1, BitVec.toNat_and, BitVec.toNat_ofNat, BitVec.toNat_ofNat, Nat.mod_eq_of_lt (show a < 2 ^ 32 by omega), Nat.mod_eq_of_lt (show b < 2 ^ 32 by omega), IntKind.wrap_u32]
  omega
theorem bits_or (a b : Nat) (ha : a < M) (hb : b < M) : bits .or .u32 (a : Int) (b : Int) = ((a ||| b : Nat) : Int) := by
  rw [M_eq] at ha hb
  have h1 : bits .or .u32 (a : Int) (b : Int) = IntKind.u32.wrap ((BitVec.ofNat 32 a ||| BitVec.ofNat 32 b : BitVec 32).toNat : Int) := by
    simp only [bits, BitVec.ofInt_natCast]; rfl
  have hx : a ||| b < 2 ^ 32 := Nat.or_lt_two_pow (by omega) (by omega)
  rw [h1, BitVec.toNat_or, BitVec.toNat_ofNat, BitVec.toNat_ofNat, Nat.mod_eq_of_lt (show a < 2 ^ 32 by omega), Nat.mod_eq_of_lt (show b < 2 ^ 32 by omega), IntKind.wrap_u32]
  omega
theorem bits_xor (a b : Nat) (ha : a < M) (hb : b < M) : bits .xor .u32 (a : Int) (b : Int) = ((a ^^^ b : Nat) : Int) := by
  rw [M_eq] at ha hb
  have h1 : bits .xor .u32 (a : Int) (b : Int) = IntKind.u32.wrap ((BitVec.ofNat 32 a ^^^ BitVec.ofNat 32 b : BitVec 32).toNat : Int) := by
    simp only [bits, BitVec.ofInt_natCast]; rfl
  have hx : a ^^^ b < 2 ^ 32 := Nat.xor_lt_two_pow (by omega) (by omega)
  rw [h1, BitVec.toNat_xor, BitVec.toNat_ofNat, BitVec.toNat_ofNat, Nat.mod_eq_of_lt (show a < 2 ^ 32 by omega), Nat.mod_eq_of_lt (show b < 2 ^ 32 by omega), IntKind.wrap_u32]
  omega
theorem and_lt (a b : Nat) (hb : b < M) : a &&& b < M := Nat.and_lt_two_pow (n := 32) _ hb
theorem or_lt (a b : Nat) (ha : a < M) (hb : b < M) : a ||| b < M := Nat.or_lt_two_pow (n := 32) ha hb
theorem xor_lt (a b : Nat) (ha : a < M) (hb : b < M) : a ^^^ b < M := Nat.xor_lt_two_pow (n := 32) ha hb
theorem shr_lt (a n : Nat) (ha : a < M) : a >>> n < M := by rw [Nat.shiftRight_eq_div_pow]; exact Nat.lt_of_le_of_lt (Nat.div_le_self _ _) ha
/-- x turned right by n. -/
def rr (x n : Nat) : Nat := (x <<< (32 - n)) % M ||| (x >>> n)
theorem rr_lt (x n : Nat) (hx : x < M) : rr x n < M := or_lt _ _ (Nat.mod_lt _ (by decide)) (shr_lt x n hx)
theorem shr_cast (x n : Nat) : (x : Int) / 2 ^ n = ((x >>> n : Nat) : Int) := by
  rw [Nat.shiftRight_eq_div_pow]; simp
theorem shl_cast (x n : Nat) : (x : Int) * 2 ^ n % 4294967296 = ((x <<< n % M : Nat) : Int) := by
  rw [Nat.shiftLeft_eq, M_eq]; simp
theorem rot_cast (x n : Nat) (hx : x < M) : bits .or .u32 ((x : Int) * 2 ^ (32 - n) % 4294967296) ((x : Int) / 2 ^ n) = (rr x n : Int) := by
  rw [shl_cast, shr_cast, bits_or _ _ (Nat.mod_lt _ (by decide)) (shr_lt x n hx)]; rfl
end Go.Proofs.YtbphehijikdkjaaDoor.DgsP
