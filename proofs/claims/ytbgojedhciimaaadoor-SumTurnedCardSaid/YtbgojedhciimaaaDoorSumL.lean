/-
  The laws of package sum over the printed functions, in plain lists.
-/
import Derived.Test.YtbgojedhciimaaaDoorPSumx1
import Derived.Test.YtbgojedhciimaaaDoorCrc
import Derived.Test.YtbgojedhciimaaaDoorStr
namespace Go.Proofs.YtbgojedhciimaaaDoor.SumL
open Go.RowKit Go.Proofs.YtbgojedhciimaaaDoorW.PrintWords Go.Proofs.YtbgojedhciimaaaDoor.PSum Go.Proofs.YtbgojedhciimaaaDoor.SumH Go.Proofs.YtbgojedhciimaaaDoor.Str
set_option linter.unusedVariables false
theorem add_ok (c : Nat) (s : ByteArray) (hc : c < 4294967296) (hs : s.size ≤ 140737488351232) : sum_Add.f (c : Int) s = some ((Crc.crc c s.data.toList : Nat) : Int) := by
  show add_f _ _ = _
  unfold add_f
  rw [if_pos ⟨by omega, by omega, hs⟩]; rfl
theorem of_ok (s : ByteArray) (hs : s.size ≤ 140737488351232) : sum_Of.f s = some ((Crc.crc 0 s.data.toList : Nat) : Int) := by
  unfold sum_Of.f
  have := add_ok 0 s (by decide) hs
  rw [show ((0 : Int)) = ((0 : Nat) : Int) from rfl, this]; rfl
theorem wakes_20 : umbellaw03_wakes.f 20 = some true := by
  unfold umbellaw03_wakes.f
  kernel_rfl
theorem wakes_f (k : Nat) (hk : 20 ≤ k) : umbellaw03_wakes.f k = some true := by
  obtain ⟨d, rfl⟩ : ∃ d, k = 20 + d := ⟨k - 20, by omega⟩
  clear hk
  induction d with
  | zero => exact wakes_20
  | succ d ih => exact umbellaw03_wakes.mono _ _ ih
theorem str_nat (l : List UInt8) : (strOfNums (l.map fun b => (b.toNat : Int))).data.toList = l := by
  rw [strOfNums_data, List.map_map]
  conv => rhs; rw [← List.map_id l]
  apply List.map_congr_left
  intro b _
  simp
theorem str_len (l : List Int) : (strOfNums l).size = l.length := strOfNums_size l
theorem bits_xor_u8 (x y : UInt8) : Go.bits .xor .u8 (x.toNat : Int) (y.toNat : Int) = ((x ^^^ y).toNat : Int) := by
  have hx := x.toNat_lt
  have hy := y.toNat_lt
  have h1 : Go.bits .xor .u8 (x.toNat : Int) (y.toNat : Int) = IntKind.u8.wrap ((BitVec.ofNat 8 x.toNat ^^^ BitVec.ofNat 8 y.toNat : BitVec 8).toNat : Int) := by
    simp only [Go.bits, BitVec.ofInt_natCast]; rfl
  have hz := (x ^^^ y).toNat_lt
  rw [h1, BitVec.toNat_xor, BitVec.toNat_ofNat, BitVec.toNat_ofNat, Nat.mod_eq_of_lt hx, Nat.mod_eq_of_lt hy, ← UInt8.toNat_xor, IntKind.wrap_u8]
  omega
theorem bt_nat (s : ByteArray) (j : Nat) (h : j < s.size) : bt s j = (s[j].toNat : Int) := by simp [bt, h]
def z3 (a b c : ByteArray) (n : Nat) : List UInt8 := List.zipWith (· ^^^ ·) (List.zipWith (· ^^^ ·) (a.data.toList.take n) (b.data.toList.take n)) (c.data.toList.take n)
theorem z3_len (a b c : ByteArray) (n : Nat) (ha : n ≤ a.size) (hb : n ≤ b.size) (hc : n ≤ c.size) : (z3 a b c n).length = n := by
  have := data_length a; have := data_length b; have := data_length c
  simp only [z3, List.length_zipWith, List.length_take]; omega
theorem z3_at (a b c : ByteArray) (n j : Nat) (ha : n ≤ a.size) (hb : n ≤ b.size) (hc : n ≤ c.size) (h : j < n) :
    ((z3 a b c n)[j]'(by rw [z3_len a b c n ha hb hc]; exact h)) = a[j] ^^^ b[j] ^^^ c[j] := by
  simp only [z3, List.getElem_zipWith, List.getElem_take]; rfl
theorem or_byte (x y : Int) (hx0 : 0 ≤ x) (hx : x % 256 = 0) (hx1 : x < 4294967296) (h0 : 0 ≤ y) (h1 : y < 256) : Go.bits .or .u32 x y = x + y :=
  bits_join .u32 32 (by decide) (fun n h0 h1 => by rw [IntKind.wrap_u32]; omega) 8 x y hx0 hx (by omega) h0 (by omega) (by omega)
def be4 (s : ByteArray) : Int := ((bt s 0 * 256 + bt s 1) * 256 + bt s 2) * 256 + bt s 3
theorem be4_range (s : ByteArray) : 0 ≤ be4 s ∧ be4 s < 4294967296 := by
  have h0 := bt_range s 0; have h1 := bt_range s 1; have h2 := bt_range s 2; have h3 := bt_range s 3
  unfold be4; omega
theorem get_ok (s : ByteArray) (h : 4 ≤ s.size) (k : Nat) (hk : 5 ≤ k) : sum_Get.f k s = some (be4 s, true) := by
  obtain ⟨k, rfl⟩ : ∃ m, k = m + 5 := ⟨k - 5, by omega⟩
  have h0 := bt_range s 0; have h1 := bt_range s 1; have h2 := bt_range s 2; have h3 := bt_range s 3
  have w1 : wrap64 (0 + 1) = 1 := wr (x := 0 + 1) (by omega) (by omega)
  have w2 : wrap64 (1 + 1) = 2 := wr (x := 1 + 1) (by omega) (by omega)
  have w3 : wrap64 (2 + 1) = 3 := wr (x := 2 + 1) (by omega) (by omega)
  have w4 : wrap64 (3 + 1) = 4 := wr (x := 3 + 1) (by omega) (by omega)
  unfold sum_Get.f be4
  rw [if_neg (by omega)]
  simp only [sum_Get.l0]
  rw [if_pos (by omega), if_pos (by omega), if_pos (by omega), w1, if_pos (by omega), if_pos (by omega), if_pos (by omega), w2, if_pos (by omega), if_pos (by omega), if_pos (by omega), w3, if_pos (by omega), if_pos (by omega), if_pos (by omega), w4, if_neg (by omega)]
  rw [or_byte _ (bt s 0 % 4294967296) (by omega) (by omega) (by omega) (by omega) (by omega)]
  rw [or_byte _ (bt s 1 % 4294967296) (by omega) (by omega) (by omega) (by omega) (by omega)]
  rw [or_byte _ (bt s 2 % 4294967296) (by omega) (by omega) (by omega) (by omega) (by omega)]
  rw [or_byte _ (bt s 3 % 4294967296) (by omega) (by omega) (by omega) (by omega) (by omega)]
  congr 2
  omega
theorem get_no (s : ByteArray) (h : s.size < 4) (k : Nat) : sum_Get.f k s = some (0, false) := by
  unfold sum_Get.f; rw [if_pos (by omega)]
def putL (v : Int) : List Int := [(v / 16777216) % 256, (v / 65536) % 256, (v / 256) % 256, v % 256]
theorem R_putL (v : Int) : R (putL v) := by
  intro x hx
  simp only [putL, List.mem_cons, List.not_mem_nil, or_false] at hx
  rcases hx with rfl | rfl | rfl | rfl <;> omega
theorem put_ok (v : Int) : sum_Put.f v = some (strOfNums (putL v)) := rfl
theorem ref_put_ok (v : Int) : umbelref03_Put.f v = some (strOfNums (putL v)) := rfl
theorem be4_rd (s : ByteArray) : be4 s = ((rd (bytesOf s) 0 * 256 + rd (bytesOf s) 1) * 256 + rd (bytesOf s) 2) * 256 + rd (bytesOf s) 3 := by
  unfold be4; rw [bt_rd, bt_rd, bt_rd, bt_rd]
theorem get_put (v : Int) (h0 : 0 ≤ v) (h1 : v < 4294967296) (t : ByteArray) : be4 (strOfNums (putL v) ++ t) = v := by
  rw [be4_rd, bytes_app, bytes_str _ (R_putL v)]
  simp only [putL, List.cons_append, rd]
  simp
  omega
theorem put_get (s : ByteArray) (h : 4 ≤ s.size) : strOfNums (putL (be4 s)) = s.extract 0 4 := by
  apply bytes_inj
  rw [bytes_str _ (R_putL _), bytes_extract, be4_rd]
  have hl := len_bytesOf s
  have hR := R_bytesOf s
  revert hR hl
  generalize bytesOf s = l
  intro hl hR
  match l, hl, hR with
  | a :: b :: c :: d :: l, hl, hR =>
    have ha := hR a (by simp); have hb := hR b (by simp); have hc := hR c (by simp); have hd := hR d (by simp)
    simp [putL, rd]
    omega
  | [], hl, _ => simp at hl; omega
  | [_], hl, _ => simp at hl; omega
  | [_, _], hl, _ => simp at hl; omega
  | [_, _, _], hl, _ => simp at hl; omega
end Go.Proofs.YtbgojedhciimaaaDoor.SumL
