/-
  Up to four bytes in a row turned: the number of the bits, and the sum.
-/
import Derived.Test.YtiajgmocmnjijaaDoorCrc
namespace Go.Proofs.YtiajgmocmnjijaaDoor.Crc
theorem leNum_set (l : List UInt8) : ∀ (j : Nat) (y : UInt8) (h : j < l.length), leNum (l.set j (l[j] ^^^ y)) = leNum l ^^^ (2 ^ (8 * j) * y.toNat) := by
  induction l with
  | nil => intro j y h; simp at h
  | cons b l ih =>
    intro j y h
    cases j with
    | zero =>
      show leNum ((b ^^^ y) :: l) = _
      rw [leNum_cons, leNum_cons, UInt8.toNat_xor, Nat.mul_zero, Nat.pow_zero, Nat.one_mul, Nat.xor_assoc]
    | succ j =>
      have hj : j < l.length := by simpa using h
      show leNum (b :: l.set j (l[j]'hj ^^^ y)) = _
      rw [leNum_cons, leNum_cons, ih j y hj, mul_xor, ← Nat.mul_assoc, ← Nat.pow_add, show 8 * (j + 1) = 8 + 8 * j by omega, Nat.xor_assoc, Nat.xor_assoc, Nat.xor_comm b.toNat]
theorem leNum_snoc (l : List UInt8) (b : UInt8) : leNum (l ++ [b]) = leNum l ^^^ (2 ^ (8 * l.length) * b.toNat) := by
  induction l with
  | nil => simp [leNum]
  | cons x l ih =>
    rw [List.cons_append, leNum_cons, leNum_cons, ih, mul_xor, ← Nat.mul_assoc, ← Nat.pow_add, List.length_cons, show 8 * (l.length + 1) = 8 + 8 * l.length by omega, Nat.xor_assoc, Nat.xor_assoc, Nat.xor_comm x.toNat]
theorem leNum_inj : ∀ (l m : List UInt8), l.length = m.length → leNum l = leNum m → l = m
  | [], [], _, _ => rfl
  | [], _ :: _, h, _ => by simp at h
  | _ :: _, [], h, _ => by simp at h
  | a :: l, b :: m, h, e => by
    simp only [leNum] at e
    have ha := a.toNat_lt; have hb := b.toNat_lt
    have h1 : a = b := UInt8.toNat_inj.1 (by omega)
    have h2 := leNum_inj l m (by simpa using h) (by omega)
    rw [h1, h2]
/-- One turn more. -/
theorem turn_more (M0 m : List UInt8) (ys : List UInt8) (k i : Nat) (hi : i < ys.length) (h : leNum m = leNum M0 ^^^ (2 ^ (8 * k) * leNum (ys.take i))) (hk : k + i < m.length) :
    leNum (m.set (k + i) (m[k + i] ^^^ ys[i])) = leNum M0 ^^^ (2 ^ (8 * k) * leNum (ys.take (i + 1))) := by
  rw [leNum_set, h, List.take_succ_eq_append_getElem hi, leNum_snoc, mul_xor, Nat.xor_assoc, List.length_take, Nat.min_eq_left (by omega), ← Nat.mul_assoc, ← Nat.pow_add, show 8 * (k + i) = 8 * k + 8 * i by omega]
theorem four_lt (ys : List UInt8) (h : ys.length = 4) : leNum ys < 2 ^ 32 := by
  match ys, h with
  | [a, b, c, d], _ =>
    have ha := a.toNat_lt; have hb := b.toNat_lt; have hc := c.toNat_lt; have hd := d.toNat_lt
    simp only [leNum]; omega
/-- What is turned has another sum, unless nothing was. -/
theorem burst4 (M0 m ys : List UInt8) (k : Nat) (hy : ys.length = 4) (hk : k ≤ M0.length) (hl : m.length = M0.length) (h : leNum m = leNum M0 ^^^ (2 ^ (8 * k) * leNum ys)) : crc 0 m = crc 0 M0 ↔ leNum ys = 0 :=
  crc_burst 0 (8 * k) (leNum ys) M0 m hl.symm (by omega) (four_lt ys hy) h
theorem burst4_same (M0 m ys : List UInt8) (k : Nat) (hl : m.length = M0.length) (h : leNum m = leNum M0 ^^^ (2 ^ (8 * k) * leNum ys)) (h0 : leNum ys = 0) : m = M0 :=
  leNum_inj m M0 hl (by rw [h, h0, Nat.mul_zero, Nat.xor_zero])
end Go.Proofs.YtiajgmocmnjijaaDoor.Crc
