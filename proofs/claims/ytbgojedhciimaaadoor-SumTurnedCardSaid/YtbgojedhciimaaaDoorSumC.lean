/-
  Contracts of package sum in clean form, told plainly.
-/
import Derived.Test.YtbgojedhciimaaaDoorSumL
import Derived.Test.YtbgojedhciimaaaDoorCalm
namespace Go.Proofs.YtbgojedhciimaaaDoor.SumC
open Go.RowKit Go.Proofs.YtbgojedhciimaaaDoorW.PrintWords Go.Proofs.YtbgojedhciimaaaDoor.PSum Go.Proofs.YtbgojedhciimaaaDoor.SumH Go.Proofs.YtbgojedhciimaaaDoor.SumL Go.Proofs.YtbgojedhciimaaaDoor.Cm
set_option linter.unusedVariables false
theorem of_drawn {f : Nat} {args : Array Value} {w : World} {r : Value} (h : Calls Tryd.prog f args w fun e w' => e = .returned r ∧ Drawn0 w w') : Calls Tryd.prog f args w fun e w' => e = .returned r ∧ Below w.heap.size w w' :=
  h.mono fun _ _ ⟨he, hd⟩ => ⟨he, hd.below⟩
/-- A text's sum. -/
def crcOf (s : ByteArray) : Int := ((Crc.crc 0 s.data.toList : Nat) : Int)
def crcAdd (c : Int) (s : ByteArray) : Int := ((Crc.crc c.toNat s.data.toList : Nat) : Int)
theorem crcOf_range (s : ByteArray) : 0 ≤ crcOf s ∧ crcOf s < 4294967296 := by
  have := Crc.crc_lt 0 s.data.toList (by decide)
  unfold crcOf; omega
theorem of_c (s : ByteArray) (hs : s.size ≤ 140737488351232) (w : World) (hG : Glob w) : Calls Tryd.prog 10 #[.string s] w fun e w' => e = .returned (.int .u32 (crcOf s)) ∧ Below w.heap.size w w' :=
  of_drawn (sum_Of.calls s _ w hG (of_ok s hs))
theorem add_c (c : Int) (s : ByteArray) (h0 : 0 ≤ c) (h1 : c < 4294967296) (hs : s.size ≤ 140737488351232) (w : World) (hG : Glob w) : Calls Tryd.prog 12 #[.int .u32 c, .string s] w fun e w' => e = .returned (.int .u32 (crcAdd c s)) ∧ Below w.heap.size w w' := by
  obtain ⟨n, rfl⟩ := Int.eq_ofNat_of_zero_le h0
  exact of_drawn (PSum.sum_Add.calls (n : Int) s _ w hG (add_ok n s (by omega) hs))
theorem put_c (v : Int) (w : World) : Calls Tryd.prog 14 #[.int .u32 v] w fun e w' => e = .returned (.string (strOfNums (putL v))) ∧ Below w.heap.size w w' :=
  sum_Put.calls v _ w (put_ok v)
theorem get_c (s : ByteArray) (h : 4 ≤ s.size) (w : World) : Calls Tryd.prog 8 #[.string s] w fun e w' => e = .returned (.tuple #[.int .u32 (be4 s), .bool true]) ∧ Below w.heap.size w w' :=
  of_drawn (sum_Get.calls 5 s _ _ w (get_ok s h 5 (by omega)))
theorem get_n (s : ByteArray) (h : s.size < 4) (w : World) : Calls Tryd.prog 8 #[.string s] w fun e w' => e = .returned (.tuple #[.int .u32 0, .bool false]) ∧ Below w.heap.size w w' :=
  of_drawn (sum_Get.calls 5 s _ _ w (get_no s h 5))
theorem crc_append (s t : ByteArray) : crcAdd (crcOf s) t = crcOf (s ++ t) := by
  unfold crcAdd crcOf
  rw [ByteArray.data_append, Array.toList_append, Crc.crc_append]
  rfl
theorem crc_nil (s : ByteArray) : crcAdd (crcOf s) ⟨#[]⟩ = crcOf s := by
  unfold crcAdd crcOf; rw [Int.toNat_natCast]; exact congrArg _ (Crc.crc_nil _)
theorem toU (c : Int) (h0 : 0 ≤ c) (h1 : c < 4294967296) : c.toNat < 4294967296 := by omega
end Go.Proofs.YtbgojedhciimaaaDoor.SumC
