/-
  The laws of package sum over the printed functions, in plain lists.
-/
import Derived.Test.YtbgojedhciimaaaDoorPSumx1
import Derived.Test.YtbgojedhciimaaaDoorCrc
namespace Go.Proofs.YtbgojedhciimaaaDoor.SumL
open Go.RowKit Go.Proofs.YtbgojedhciimaaaDoorW.PrintWords Go.Proofs.YtbgojedhciimaaaDoor.PSum Go.Proofs.YtbgojedhciimaaaDoor.SumH
set_option linter.unusedVariables false
theorem add_ok (c : Nat) (s : ByteArray) (hc : c < 4294967296) (hs : s.size ≤ 140737488351232) : sum_Add.f (c : Int) s = some ((Crc.crc c s.data.toList : Nat) : Int) := by
  show add_f _ _ = _
  unfold add_f
  rw [if_pos ⟨by omega, by omega, hs⟩]; rfl
theorem of_ok (s : ByteArray) (hs : s.size ≤ 140737488351232) : sum_Of.f s = some ((Crc.crc 0 s.data.toList : Nat) : Int) := by
  unfold sum_Of.f
  have := add_ok 0 s (by decide) hs
  rw [show ((0 : Int)) = ((0 : Nat) : Int) from rfl, this]; rfl
theorem wakes_20 : umbellaw03_wakes.f 20 = some true := by
  unfold umbellaw03_wakes.f
  kernel_rfl
theorem wakes_f (k : Nat) (hk : 20 ≤ k) : umbellaw03_wakes.f k = some true := by
  obtain ⟨d, rfl⟩ : ∃ d, k = 20 + d := ⟨k - 20, by omega⟩
  clear hk
  induction d with
  | zero => exact wakes_20
  | succ d ih => exact umbellaw03_wakes.mono _ _ ih
theorem str_nat (l : List UInt8) : (strOfNums (l.map fun b => (b.toNat : Int))).data.toList = l := by
  rw [strOfNums_data, List.map_map]
  conv => rhs; rw [← List.map_id l]
  apply List.map_congr_left
  intro b _
  simp
theorem str_len (l : List Int) : (strOfNums l).size = l.length := strOfNums_size l
theorem bits_xor_u8 (x y : UInt8) : Go.bits .xor .u8 (x.toNat : Int) (y.toNat : Int) = ((x ^^^ y).toNat : Int) := by
  have hx := x.toNat_lt
  have hy := y.toNat_lt
  have h1 : Go.bits .xor .u8 (x.toNat : Int) (y.toNat : Int) = IntKind.u8.wrap ((BitVec.ofNat 8 x.toNat ^^^ BitVec.ofNat 8 y.toNat : BitVec 8).toNat : Int) := by
    simp only [Go.bits, BitVec.ofInt_natCast]; rfl
  have hz := (x ^^^ y).toNat_lt
  rw [h1, BitVec.toNat_xor, BitVec.toNat_ofNat, BitVec.toNat_ofNat, Nat.mod_eq_of_lt hx, Nat.mod_eq_of_lt hy, ← UInt8.toNat_xor, IntKind.wrap_u8]
  omega
theorem bt_nat (s : ByteArray) (j : Nat) (h : j < s.size) : bt s j = (s[j].toNat : Int) := by simp [bt, h]
def z3 (a b c : ByteArray) (n : Nat) : List UInt8 := List.zipWith (· ^^^ ·) (List.zipWith (· ^^^ ·) (a.data.toList.take n) (b.data.toList.take n)) (c.data.toList.take n)
theorem z3_len (a b c : ByteArray) (n : Nat) (ha : n ≤ a.size) (hb : n ≤ b.size) (hc : n ≤ c.size) : (z3 a b c n).length = n := by
  have := data_length a; have := data_length b; have := data_length c
  simp only [z3, List.length_zipWith, List.length_take]; omega
theorem z3_at (a b c : ByteArray) (n j : Nat) (ha : n ≤ a.size) (hb : n ≤ b.size) (hc : n ≤ c.size) (h : j < n) :
    ((z3 a b c n)[j]'(by rw [z3_len a b c n ha hb hc]; exact h)) = a[j] ^^^ b[j] ^^^ c[j] := by
  simp only [z3, List.getElem_zipWith, List.getElem_take]; rfl
end Go.Proofs.YtbgojedhciimaaaDoor.SumL
