/-
  How the model compares float64s, told by their bits: a number's place is its lower 63 bits, with its sign.
-/
import GoSem.Core.Float
import Derived.Laws.Cover2
namespace Go.Proofs.Ytbphehijikdkjaa.FOrd
open Ieee
set_option linter.unusedVariables false
def B : Nat := 4503599627370496
def S : Nat := 9223372036854775808
def I : Nat := 9218868437227405312
theorem binade_eq : double.binade = B := by decide
theorem sw_eq : double.signWeight = S := by decide
theorem inf_eq : double.infRung = I := by decide
def neg (b : Nat) : Bool := b / S % 2 == 1
def rung (b : Nat) : Nat := b % S
def nan (b : Nat) : Bool := decide (I < rung b)
/-- A number's place among the numbers. -/
def place (b : Nat) : Int := if neg b then -(rung b : Int) else (rung b : Int)
/-- The magnitude of a rung, in units of the least one. -/
def mag (r : Nat) : Nat := if r < B then r else (B + r % B) * 2 ^ (r / B - 1)
def sg (s : Bool) (n : Nat) : Int := if s then -(n : Int) else (n : Int)
theorem mag_mono {a b : Nat} (h : a < b) : mag a < mag b := by
  have hB : 0 < B := by decide
  have ha : a % B < B := Nat.mod_lt _ hB
  have hb : b % B < B := Nat.mod_lt _ hB
  have da := Nat.div_add_mod a B
  have db := Nat.div_add_mod b B
  unfold mag
  by_cases h1 : a < B
  · rw [if_pos h1]
    by_cases h2 : b < B
    · rw [if_pos h2]; exact h
    · rw [if_neg h2]
      have : 0 < 2 ^ (b / B - 1) := Nat.two_pow_pos _
      calc a < B := h1
        _ ≤ B + b % B := Nat.le_add_right _ _
        _ ≤ (B + b % B) * 2 ^ (b / B - 1) := Nat.le_mul_of_pos_right _ this
  · have h2 : ¬ b < B := by omega
    rw [if_neg h1, if_neg h2]
    have ea : 1 ≤ a / B := (Nat.le_div_iff_mul_le hB).2 (by omega)
    have eb : 1 ≤ b / B := (Nat.le_div_iff_mul_le hB).2 (by omega)
    have hle : a / B ≤ b / B := Nat.div_le_div_right (Nat.le_of_lt h)
    rcases Nat.lt_or_eq_of_le hle with hlt | heq
    · have hp : 2 ^ (a / B - 1) * 2 ≤ 2 ^ (b / B - 1) := by
        rw [← Nat.pow_succ]; exact Nat.pow_le_pow_right (by decide) (by omega)
      have hq : 0 < 2 ^ (a / B - 1) := Nat.two_pow_pos _
      calc (B + a % B) * 2 ^ (a / B - 1) < (B + B) * 2 ^ (a / B - 1) := Nat.mul_lt_mul_of_pos_right (by omega) hq
        _ = B * (2 ^ (a / B - 1) * 2) := by rw [← Nat.two_mul, Nat.mul_comm 2 B, Nat.mul_assoc, Nat.mul_comm 2]
        _ ≤ B * 2 ^ (b / B - 1) := Nat.mul_le_mul_left _ hp
        _ ≤ (B + b % B) * 2 ^ (b / B - 1) := Nat.mul_le_mul_right _ (by omega)
    · rw [heq] at da ⊢
      exact Nat.mul_lt_mul_of_pos_right (by omega) (Nat.two_pow_pos _)
theorem mag_inj {a b : Nat} (h : mag a = mag b) : a = b := by
  rcases Nat.lt_trichotomy a b with h1 | h1 | h1
  · have := mag_mono h1; omega
  · exact h1
  · have := mag_mono h1; omega
theorem mag_zero : mag 0 = 0 := by decide
theorem cmp_sg {s t : Bool} {a b : Nat} : compare (sg s (mag a)) (sg t (mag b)) = compare (sg s a) (sg t b) := by
  have key : ∀ {x y : Nat}, (mag x < mag y ↔ x < y) := by
    intro x y
    constructor
    · intro h
      rcases Nat.lt_or_ge x y with h1 | h1
      · exact h1
      · rcases Nat.lt_or_eq_of_le h1 with h2 | h2
        · have := mag_mono h2; omega
        · subst h2; omega
    · exact mag_mono
  have k0 : ∀ {x : Nat}, (mag x = 0 ↔ x = 0) := by
    intro x
    exact ⟨fun h => mag_inj (by rw [h, mag_zero]), fun h => by rw [h, mag_zero]⟩
  have ke : mag a = mag b ↔ a = b := ⟨mag_inj, fun h => by rw [h]⟩
  have k1 := @key a b
  have k2 := @key b a
  have k3 := @k0 a
  have k4 := @k0 b
  have hc : ∀ (x y x' y' : Int), (x < y ↔ x' < y') → (x = y ↔ x' = y') → compare x y = compare x' y' := by
    intro x y x' y' h1 h2
    simp only [compare, compareOfLessAndEq, h1, h2]
  apply hc
  · unfold sg; cases s <;> cases t <;> simp only [Bool.false_eq_true, if_false, if_true] <;> omega
  · unfold sg; cases s <;> cases t <;> simp only [Bool.false_eq_true, if_false, if_true] <;> omega
theorem cmp_of {x y x' y' : Int} (h1 : x < y ↔ x' < y') (h2 : x = y ↔ x' = y') : compare x y = compare x' y' := by
  simp only [compare, compareOfLessAndEq, h1, h2]
theorem sg_mul (s : Bool) (x c : Nat) : sg s (x * c) = sg s x * (c : Int) := by
  unfold sg; cases s <;> simp [Int.neg_mul]
theorem cmp_scale {s t : Bool} {x y c : Nat} (hc : 0 < c) : compare (sg s (x * c)) (sg t (y * c)) = compare (sg s x) (sg t y) := by
  rw [sg_mul, sg_mul]
  have hc' : (0 : Int) < c := by omega
  apply cmp_of
  · exact ⟨fun h => Int.lt_of_mul_lt_mul_right h (Int.le_of_lt hc'), fun h => Int.mul_lt_mul_of_pos_right h hc'⟩
  · exact ⟨fun h => Int.eq_of_mul_eq_mul_right (by omega) h, fun h => by rw [h]⟩
theorem read_num (b : Nat) (h : rung b < I) : ∃ (m e : Nat), double.read b = .number (neg b) m (double.leastPlace + e) ∧ m * 2 ^ e = mag (rung b) := by
  unfold Format.read
  simp only [binade_eq, sw_eq, inf_eq]
  show ∃ (m e : Nat), (if rung b < B then Datum.number (neg b) (rung b) double.leastPlace else if rung b < I then .number (neg b) (B + rung b % B) (double.leastPlace + (rung b / B - 1 : Nat)) else if rung b = I then .infinity (neg b) else .nan (neg b) (rung b - I)) = _ ∧ _
  by_cases h1 : rung b < B
  · refine ⟨rung b, 0, ?_, ?_⟩
    · rw [if_pos h1]; simp
    · unfold mag; rw [if_pos h1]; simp
  · refine ⟨B + rung b % B, rung b / B - 1, ?_, ?_⟩
    · rw [if_neg h1, if_pos h]
    · unfold mag; rw [if_neg h1]
theorem read_inf (b : Nat) (h : rung b = I) : double.read b = .infinity (neg b) := by
  unfold Format.read
  simp only [binade_eq, sw_eq, inf_eq]
  show (if rung b < B then Datum.number (neg b) (rung b) double.leastPlace else if rung b < I then .number (neg b) (B + rung b % B) (double.leastPlace + (rung b / B - 1 : Nat)) else if rung b = I then .infinity (neg b) else .nan (neg b) (rung b - I)) = _
  rw [if_neg (by rw [h]; decide), if_neg (by omega), if_pos h]
theorem read_nan (b : Nat) (h : I < rung b) : double.read b = .nan (neg b) (rung b - I) := by
  unfold Format.read
  simp only [binade_eq, sw_eq, inf_eq]
  show (if rung b < B then Datum.number (neg b) (rung b) double.leastPlace else if rung b < I then .number (neg b) (B + rung b % B) (double.leastPlace + (rung b / B - 1 : Nat)) else if rung b = I then .infinity (neg b) else .nan (neg b) (rung b - I)) = _
  have hBI : B < I := by decide
  rw [if_neg (by omega), if_neg (by omega), if_neg (by omega)]
theorem place_sg (b : Nat) : place b = sg (neg b) (rung b) := rfl
theorem order_eq (a b : Nat) : double.order a b = if nan a || nan b then none else some (compare (place a) (place b)) := by
  unfold Format.order nan
  rw [place_sg, place_sg]
  rcases Nat.lt_trichotomy (rung a) I with ha | ha | ha
  · obtain ⟨m, e, h1, h2⟩ := read_num a ha
    rcases Nat.lt_trichotomy (rung b) I with hb | hb | hb
    · obtain ⟨n, f, h3, h4⟩ := read_num b hb
      rw [h1, h3, if_neg (by simp; omega)]
      simp only [Datum.order]
      congr 1
      rw [← cmp_sg, ← h2, ← h4]
      have hk : min (double.leastPlace + (e : Int)) (double.leastPlace + (f : Int)) = double.leastPlace + ((min e f : Nat) : Int) := by omega
      rw [hk]
      have e1 : (double.leastPlace + (e : Int) - (double.leastPlace + ((min e f : Nat) : Int))).toNat = e - min e f := by omega
      have e2 : (double.leastPlace + (f : Int) - (double.leastPlace + ((min e f : Nat) : Int))).toNat = f - min e f := by omega
      rw [e1, e2]
      have e3 : m * 2 ^ e = (m * 2 ^ (e - min e f)) * 2 ^ (min e f) := by rw [Nat.mul_assoc, ← Nat.pow_add]; congr 2; omega
      have e4 : n * 2 ^ f = (n * 2 ^ (f - min e f)) * 2 ^ (min e f) := by rw [Nat.mul_assoc, ← Nat.pow_add]; congr 2; omega
      rw [e3, e4, cmp_scale (Nat.two_pow_pos _)]
      simp only [signed, Nat.shiftLeft_eq]
      rfl
    · rw [h1, read_inf b hb, if_neg (by simp; omega), hb]
      simp only [Datum.order]
      congr 1
      have hI : I = 9218868437227405312 := rfl
      cases neg a <;> cases neg b <;> simp only [sg, Bool.false_eq_true, if_false, if_true] <;> symm <;> simp only [compare, compareOfLessAndEq] <;> (first | rw [if_pos (by omega)] | rw [if_neg (by omega), if_neg (by omega)])
    · rw [h1, read_nan b hb, if_pos (by simp; omega)]
      rfl
  · rcases Nat.lt_trichotomy (rung b) I with hb | hb | hb
    · obtain ⟨n, f, h3, h4⟩ := read_num b hb
      rw [h3, read_inf a ha, if_neg (by simp; omega), ha]
      simp only [Datum.order]
      congr 1
      have hI : I = 9218868437227405312 := rfl
      cases neg a <;> cases neg b <;> simp only [sg, Bool.false_eq_true, if_false, if_true] <;> symm <;> simp only [compare, compareOfLessAndEq] <;> (first | rw [if_pos (by omega)] | rw [if_neg (by omega), if_neg (by omega)])
    · rw [read_inf a ha, read_inf b hb, if_neg (by simp; omega), ha, hb]
      cases neg a <;> cases neg b <;> rfl
    · rw [read_inf a ha, read_nan b hb, if_pos (by simp; omega)]
      rfl
  · rw [read_nan a ha, if_pos (by simp; omega)]
    cases double.read b <;> rfl
end Go.Proofs.Ytbphehijikdkjaa.FOrd
