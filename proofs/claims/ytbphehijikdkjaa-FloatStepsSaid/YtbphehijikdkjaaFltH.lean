/-
  Package float and its reference, walked by hand: the functions of one number.
-/
import Derived.Test.YtbphehijikdkjaaProg
import Derived.Test.YtbphehijikdkjaaOrd
import Derived.WalkKit
import Derived.Handy
import Derived.WalkLawsBesides
import Derived.WalkSpells
import Derived.Lib.Hide
import Derived.Laws.BitsLemmas
import Derived.Laws.Externs
import Derived.Below
namespace Go.Proofs.Ytbphehijikdkjaa.FltH
open Go.RowKit
open FOrd (S nan rung place)
set_option linter.unusedVariables false
theorem bits_and (a b : Nat) (ha : a < 18446744073709551616) (hb : b < 18446744073709551616) : bits .and .u64 (a : Int) (b : Int) = ((a &&& b : Nat) : Int) := by
  have h1 : bits .and .u64 (a : Int) (b : Int) = IntKind.u64.wrap ((BitVec.ofNat 64 a &&& BitVec.ofNat 64 b : BitVec 64).toNat : Int) := by
    simp only [bits, BitVec.ofInt_natCast]; rfl
  have hx : a &&& b < 2 ^ 64 := Nat.and_lt_two_pow _ (by omega)
  rw [h1, BitVec.toNat_and, BitVec.toNat_ofNat, BitVec.toNat_ofNat, Nat.mod_eq_of_lt (show a < 2 ^ 64 by omega), Nat.mod_eq_of_lt (show b < 2 ^ 64 by omega), IntKind.wrap_u64]
  omega
theorem bits_or (a b : Nat) (ha : a < 18446744073709551616) (hb : b < 18446744073709551616) : bits .or .u64 (a : Int) (b : Int) = ((a ||| b : Nat) : Int) := by
  have h1 : bits .or .u64 (a : Int) (b : Int) = IntKind.u64.wrap ((BitVec.ofNat 64 a ||| BitVec.ofNat 64 b : BitVec 64).toNat : Int) := by
    simp only [bits, BitVec.ofInt_natCast]; rfl
  have hx : a ||| b < 2 ^ 64 := Nat.or_lt_two_pow (by omega) (by omega)
  rw [h1, BitVec.toNat_or, BitVec.toNat_ofNat, BitVec.toNat_ofNat, Nat.mod_eq_of_lt (show a < 2 ^ 64 by omega), Nat.mod_eq_of_lt (show b < 2 ^ 64 by omega), IntKind.wrap_u64]
  omega
theorem bits_xor (a b : Nat) (ha : a < 18446744073709551616) (hb : b < 18446744073709551616) : bits .xor .u64 (a : Int) (b : Int) = ((a ^^^ b : Nat) : Int) := by
  have h1 : bits .xor .u64 (a : Int) (b : Int) = IntKind.u64.wrap ((BitVec.ofNat 64 a ^^^ BitVec.ofNat 64 b : BitVec 64).toNat : Int) := by
    simp only [bits, BitVec.ofInt_natCast]; rfl
  have hx : a ^^^ b < 2 ^ 64 := Nat.xor_lt_two_pow (by omega) (by omega)
  rw [h1, BitVec.toNat_xor, BitVec.toNat_ofNat, BitVec.toNat_ofNat, Nat.mod_eq_of_lt (show a < 2 ^ 64 by omega), Nat.mod_eq_of_lt (show b < 2 ^ 64 by omega), IntKind.wrap_u64]
  omega
theorem bits_andNot (a b : Nat) (ha : a < 18446744073709551616) (hb : b < 18446744073709551616) : bits .andNot .u64 (a : Int) (b : Int) = ((a &&& (18446744073709551615 - b) : Nat) : Int) := by
  have h1 : bits .andNot .u64 (a : Int) (b : Int) = IntKind.u64.wrap ((BitVec.ofNat 64 a &&& ~~~ BitVec.ofNat 64 b : BitVec 64).toNat : Int) := by
    simp only [bits, BitVec.ofInt_natCast]; rfl
  have hx : a &&& (18446744073709551615 - b) < 2 ^ 64 := Nat.and_lt_two_pow _ (by omega)
  rw [h1, BitVec.toNat_and, BitVec.toNat_not, BitVec.toNat_ofNat, BitVec.toNat_ofNat, Nat.mod_eq_of_lt (show a < 2 ^ 64 by omega), Nat.mod_eq_of_lt (show b < 2 ^ 64 by omega), IntKind.wrap_u64]
  have e : 2 ^ 64 - 1 - b = 18446744073709551615 - b := rfl
  rw [e]
  omega
theorem and_sign (a : Nat) (ha : a < 18446744073709551616) : bits .and .u64 (a : Int) 9223372036854775808 = if a < 9223372036854775808 then 0 else 9223372036854775808 := by
  have := bits_and a 9223372036854775808 ha (by decide)
  have e : a &&& 9223372036854775808 = if a < 9223372036854775808 then 0 else 9223372036854775808 := by
    rw [show 9223372036854775808 = 2 ^ 63 from rfl]
    by_cases h : a < 2 ^ 63
    · rw [if_pos h]
      apply Nat.eq_of_testBit_eq; intro i
      rw [Nat.testBit_and, Nat.testBit_two_pow, Nat.zero_testBit]
      by_cases hi : 63 = i
      · subst hi; rw [Nat.testBit_lt_two_pow h]; rfl
      · simp [hi]
    · rw [if_neg h]
      have h63 : a.testBit 63 = true := by
        rw [Nat.testBit_eq_decide_div_mod_eq]
        have : a / 2 ^ 63 = 1 := by omega
        rw [this]; rfl
      apply Nat.eq_of_testBit_eq; intro i
      rw [Nat.testBit_and, Nat.testBit_two_pow]
      by_cases hi : 63 = i
      · subst hi; rw [h63]; rfl
      · simp [hi]
  rw [show ((9223372036854775808 : Int)) = ((9223372036854775808 : Nat) : Int) from rfl, this, e]
  split <;> rfl
theorem or_sign (a : Nat) (ha : a < 9223372036854775808) : bits .or .u64 (a : Int) 9223372036854775808 = ((a + 9223372036854775808 : Nat) : Int) := by
  have := bits_or a 9223372036854775808 (by omega) (by decide)
  rw [show ((9223372036854775808 : Int)) = ((9223372036854775808 : Nat) : Int) from rfl, this, Nat.or_comm]
  have e := Nat.two_pow_add_eq_or_of_lt (i := 63) (b := a) (by omega) 1
  have e2 : 2 ^ 63 * 1 = 9223372036854775808 := rfl
  rw [e2] at e
  rw [← e, Nat.add_comm]
theorem max_u64 : IntKind.u64.max = ((18446744073709551615 : Nat) : Int) := rfl
theorem bits_inv (a : Nat) (ha : a < 18446744073709551616) : bits .xor .u64 IntKind.u64.max (a : Int) = ((18446744073709551615 - a : Nat) : Int) := by
  rw [max_u64, bits_xor _ _ (by decide) ha]
  have h := BitVec.toNat_not (x := BitVec.ofNat 64 a)
  have h2 : (~~~ BitVec.ofNat 64 a) = BitVec.allOnes 64 ^^^ BitVec.ofNat 64 a := by rw [BitVec.allOnes_xor]
  rw [h2, BitVec.toNat_xor, BitVec.toNat_allOnes, BitVec.toNat_ofNat, Nat.mod_eq_of_lt (show a < 2 ^ 64 by omega)] at h
  have h3 : 18446744073709551615 ^^^ a = 18446744073709551615 - a := h
  rw [h3]
theorem clear_sign (a : Nat) (h0 : 9223372036854775808 ≤ a) (ha : a < 18446744073709551616) : bits .andNot .u64 (a : Int) 9223372036854775808 = ((a - 9223372036854775808 : Nat) : Int) := by
  have := bits_andNot a 9223372036854775808 ha (by decide)
  rw [show ((9223372036854775808 : Int)) = ((9223372036854775808 : Nat) : Int) from rfl, this]
  have e : 18446744073709551615 - 9223372036854775808 = 2 ^ 63 - 1 := rfl
  have e3 : a &&& (18446744073709551615 - 9223372036854775808) = a - 9223372036854775808 := by
    rw [e, Nat.and_two_pow_sub_one_eq_mod]; omega
  rw [e3]
/-! ### What the functions come to -/
def oneB (b : Nat) : Nat := if nan b then 9221120237041090560 else if rung b = 0 then 0 else b
def ordB (b : Nat) : Nat := if oneB b < 9223372036854775808 then oneB b + 9223372036854775808 else 18446744073709551615 - oneB b
theorem S_eq : S = 9223372036854775808 := rfl
theorem oneB_lt (b : Nat) (h : b < 18446744073709551616) : oneB b < 18446744073709551616 := by
  unfold oneB; repeat' split
  all_goals omega
theorem ordB_lt (b : Nat) (h : b < 18446744073709551616) : ordB b < 18446744073709551616 := by
  have := oneB_lt b h
  unfold ordB; split <;> omega
theorem nan0 : nan 0 = false := by decide
theorem place0 : place 0 = 0 := by decide
theorem cmp_refl (x : Int) : compare x x = .eq := by simp [compare, compareOfLessAndEq]
theorem cmp_lt {x y : Int} : (compare x y = .lt) ↔ x < y := by
  simp only [compare, compareOfLessAndEq]
  repeat' split
  all_goals simp_all
theorem cmp_eq {x y : Int} : (compare x y = .eq) ↔ x = y := by
  simp only [compare, compareOfLessAndEq]
  repeat' split
  all_goals simp_all
  omega
theorem cmp_gt {x y : Int} : (compare x y = .gt) ↔ y < x := by
  simp only [compare, compareOfLessAndEq]
  repeat' split
  all_goals simp_all
  all_goals omega
theorem ne_self (b : Nat) : (Ieee.double.order b b != some .eq) = nan b := by
  rw [FOrd.order_eq, Bool.or_self, cmp_refl]
  cases nan b <;> rfl
theorem place_zero (b : Nat) : place b = 0 ↔ rung b = 0 := by
  unfold place; split <;> omega
theorem eq_zero (b : Nat) (h : nan b = false) : (Ieee.double.order b 0 == some .eq) = decide (rung b = 0) := by
  rw [FOrd.order_eq, h, nan0]
  simp only [Bool.or_self, Bool.false_eq_true, if_false, place0]
  rw [show (some (compare (place b) 0) == some Ordering.eq) = decide (place b = 0) by
    by_cases h0 : place b = 0
    · rw [h0]; rfl
    · have : compare (place b) 0 ≠ .eq := fun c => h0 (cmp_eq.1 c)
      rw [decide_eq_false h0, beq_eq_false_iff_ne]
      exact fun c => this (Option.some.inj c)]
  exact decide_eq_decide.2 (place_zero b)
/-! ### The library's two doors -/
theorem bits_run (b : Nat) (w : World) : (callFunc 23 #[.float .f64 b]).run Try.prog w = .ok (.value (.int .u64 b)) w := by
  rw [run_callFunc_extern Try.func23 (by kernel_rfl) (by kernel_rfl) (by kernel_rfl) (e := Extern.MathFloatBits.float64bits) (by kernel_rfl)]
  rfl
theorem from_run (n : Nat) (w : World) : (callFunc 8 #[.int .u64 n]).run Try.prog w = .ok (.value (.float .f64 n)) w := by
  rw [run_callFunc_extern Try.func8 (by kernel_rfl) (by kernel_rfl) (by kernel_rfl) (e := Extern.MathFloatBits.float64frombits) (by kernel_rfl)]
  rfl
theorem ret_int {k : IntKind} {a b : Int} (h : a = b) : Ending.returned (.int k a) = .returned (.int k b) := by rw [h]
theorem ret_bool {a b : Bool} (h : a = b) : Ending.returned (.bool a) = .returned (.bool b) := by rw [h]
theorem isNaN_c (b : Nat) (w : World) : Calls Try.prog 24 #[.float .f64 b] w fun e w' => e = .returned (.bool (nan b)) ∧ w' = w := by
  have h := ne_self b
  go_enter Try.func24, Try.ntmps24
  go_wp2
  go_ret
  exact ⟨ret_bool h, rfl⟩
theorem one_c (b : Nat) (w : World) : Calls Try.prog 28 #[.float .f64 b] w fun e w' => e = .returned (.int .u64 (oneB b : Nat)) ∧ w' = w := by
  have hb := fun W => bits_run b W
  by_cases hn : nan b = true
  · have h1 : oneB b = 9221120237041090560 := by unfold oneB; rw [if_pos hn]
    go_enter Try.func28, Try.ntmps28
    go_wp2_with (go_at_call 24; refine (isNaN_c b _).mono ?_; rintro e w1 ⟨rfl, rfl⟩)
    go_ret
    exact ⟨ret_int (by rw [h1]; rfl), rfl⟩
  · have hn' : nan b = false := by simpa using hn
    have hz := eq_zero b hn'
    by_cases hr : rung b = 0
    · have h1 : oneB b = 0 := by unfold oneB; rw [if_neg hn, if_pos hr]
      have hz2 : (FloatKind.f64.format.order b 0 == some .eq) = true := by rw [show FloatKind.f64.format = Ieee.double from rfl, hz]; exact decide_eq_true hr
      clear hz
      go_enter Try.func28, Try.ntmps28
      go_wp2_with (go_at_call 24; refine (isNaN_c b _).mono ?_; rintro e w1 ⟨rfl, rfl⟩)
      go_ret
      exact ⟨ret_int (by rw [h1]; rfl), rfl⟩
    · have h1 : oneB b = b := by unfold oneB; rw [if_neg hn, if_neg hr]
      have hz2 : (FloatKind.f64.format.order b 0 == some .eq) = false := by rw [show FloatKind.f64.format = Ieee.double from rfl, hz]; exact decide_eq_false hr
      clear hz
      go_enter Try.func28, Try.ntmps28
      go_wp2_with (go_at_call 24; refine (isNaN_c b _).mono ?_; rintro e w1 ⟨rfl, rfl⟩)
      go_ret
      exact ⟨ret_int (by rw [h1]), rfl⟩
theorem order_c (b : Nat) (hb : b < 18446744073709551616) (w : World) : Calls Try.prog 22 #[.float .f64 b] w fun e w' => e = .returned (.int .u64 (ordB b : Nat)) ∧ w' = w := by
  obtain ⟨o, ho⟩ : ∃ o, o = oneB b := ⟨_, rfl⟩
  have hol : o < 18446744073709551616 := by rw [ho]; exact oneB_lt b hb
  have C := Lib.hid fun W => one_c b W
  rw [← ho] at C
  have hs := and_sign o hol
  have Hor : ordB b = if o < 9223372036854775808 then o + 9223372036854775808 else 18446744073709551615 - o := by rw [ho]; rfl
  have HO := Lib.hid Hor
  clear ho Hor
  by_cases h : o < 9223372036854775808
  · rw [if_pos h] at hs
    have h2 := or_sign o h
    have h3 : (bits .and .u64 (o : Int) 9223372036854775808 == 0) = true := by rw [hs]; rfl
    clear hs
    have H2 := Lib.hid h2
    clear h2
    go_enter Try.func22, Try.ntmps22
    go_wp2_with (go_at_call 28; refine (C.out _).mono ?_; rintro e w1 ⟨rfl, rfl⟩)
    go_ret
    exact ⟨ret_int (by rw [HO.out, if_pos h, ← H2.out]), rfl⟩
  · rw [if_neg h] at hs
    have h2 := bits_inv o hol
    have h3 : (bits .and .u64 (o : Int) 9223372036854775808 == 0) = false := by rw [hs]; rfl
    clear hs
    have H2 := Lib.hid h2
    clear h2
    go_enter Try.func22, Try.ntmps22
    go_wp2_with (go_at_call 28; refine (C.out _).mono ?_; rintro e w1 ⟨rfl, rfl⟩)
    go_ret
    exact ⟨ret_int (by rw [HO.out, if_neg ‹¬ o < 9223372036854775808›, ← H2.out]), rfl⟩
theorem rbits_c (b : Nat) (w : World) : Calls Try.prog 21 #[.float .f64 b] w fun e w' => e = .returned (.int .u64 (oneB b : Nat)) ∧ w' = w := by
  have hb := fun W => bits_run b W
  have hne := ne_self b
  have hne' : (FloatKind.f64.format.order b b != some .eq) = nan b := hne
  clear hne
  by_cases hn : nan b = true
  · have h1 : oneB b = 9221120237041090560 := by unfold oneB; rw [if_pos hn]
    rw [hn] at hne'
    go_enter Try.func21, Try.ntmps21
    go_wp2
    go_ret
    exact ⟨ret_int (by rw [h1]; rfl), rfl⟩
  · have hn' : nan b = false := by simpa using hn
    rw [hn'] at hne'
    have hz := eq_zero b hn'
    by_cases hr : rung b = 0
    · have h1 : oneB b = 0 := by unfold oneB; rw [if_neg hn, if_pos hr]
      have hz2 : (FloatKind.f64.format.order b 0 == some .eq) = true := by rw [show FloatKind.f64.format = Ieee.double from rfl, hz]; exact decide_eq_true hr
      clear hz
      go_enter Try.func21, Try.ntmps21
      go_wp2
      go_ret
      exact ⟨ret_int (by rw [h1]; rfl), rfl⟩
    · have h1 : oneB b = b := by unfold oneB; rw [if_neg hn, if_neg hr]
      have hz2 : (FloatKind.f64.format.order b 0 == some .eq) = false := by rw [show FloatKind.f64.format = Ieee.double from rfl, hz]; exact decide_eq_false hr
      clear hz
      go_enter Try.func21, Try.ntmps21
      go_wp2
      go_ret
      exact ⟨ret_int (by rw [h1]), rfl⟩
theorem rank_c (b : Nat) (hb : b < 18446744073709551616) (w : World) : Calls Try.prog 15 #[.float .f64 b] w fun e w' => e = .returned (.int .u64 (ordB b : Nat)) ∧ w' = w := by
  obtain ⟨o, ho⟩ : ∃ o, o = oneB b := ⟨_, rfl⟩
  have hol : o < 18446744073709551616 := by rw [ho]; exact oneB_lt b hb
  have C := Lib.hid fun W => rbits_c b W
  rw [← ho] at C
  have Hor : ordB b = if o < 9223372036854775808 then o + 9223372036854775808 else 18446744073709551615 - o := by rw [ho]; rfl
  have HO := Lib.hid Hor
  clear ho Hor
  by_cases h : o < 9223372036854775808
  · have h2 := or_sign o h
    have h3 : ((o : Int) / 9223372036854775808 == 1) = false := by rw [beq_eq_false_iff_ne]; omega
    have H2 := Lib.hid h2
    clear h2
    go_enter Try.func15, Try.ntmps15
    go_wp2_with (go_at_call 21; refine (C.out _).mono ?_; rintro e w1 ⟨rfl, rfl⟩)
    go_ret
    exact ⟨ret_int (by rw [HO.out, if_pos h, ← H2.out]), rfl⟩
  · have h2 := bits_inv o hol
    have h3 : ((o : Int) / 9223372036854775808 == 1) = true := by rw [beq_iff_eq]; omega
    have H2 := Lib.hid h2
    clear h2
    go_enter Try.func15, Try.ntmps15
    go_wp2_with (go_at_call 21; refine (C.out _).mono ?_; rintro e w1 ⟨rfl, rfl⟩)
    go_ret
    exact ⟨ret_int (by rw [HO.out, if_neg ‹¬ o < 9223372036854775808›, ← H2.out]), rfl⟩
theorem lbits_c (b : Nat) (w : World) : Calls Try.prog 13 #[.float .f64 b] w fun e w' => e = .returned (.int .u64 b) ∧ w' = w := by
  have hb := fun W => bits_run b W
  go_enter Try.func13, Try.ntmps13
  go_wp2
  go_ret
  exact ⟨rfl, rfl⟩
def lessB (a b : Nat) : Bool := if nan a || nan b then !nan a else decide (place a < place b)
def sameB (a b : Nat) : Bool := if nan a || nan b then nan a && nan b else decide (place a = place b)
theorem lt_ord (a b : Nat) (ha : nan a = false) (hb : nan b = false) : (FloatKind.f64.format.order a b == some .lt) = decide (place a < place b) := by
  show (Ieee.double.order a b == some .lt) = _
  rw [FOrd.order_eq, ha, hb]
  simp only [Bool.or_self, Bool.false_eq_true, if_false]
  by_cases h : place a < place b
  · rw [decide_eq_true h, cmp_lt.2 h]; rfl
  · rw [decide_eq_false h, beq_eq_false_iff_ne]
    exact fun c => h (cmp_lt.1 (Option.some.inj c))
theorem eq_ord (a b : Nat) (ha : nan a = false) (hb : nan b = false) : (FloatKind.f64.format.order a b == some .eq) = decide (place a = place b) := by
  show (Ieee.double.order a b == some .eq) = _
  rw [FOrd.order_eq, ha, hb]
  simp only [Bool.or_self, Bool.false_eq_true, if_false]
  by_cases h : place a = place b
  · rw [decide_eq_true h, cmp_eq.2 h]; rfl
  · rw [decide_eq_false h, beq_eq_false_iff_ne]
    exact fun c => h (cmp_eq.1 (Option.some.inj c))
theorem less_c (a b : Nat) (w : World) : Calls Try.prog 14 #[.float .f64 a, .float .f64 b] w fun e w' => e = .returned (.bool (lessB a b)) ∧ w' = w := by
  obtain ⟨x, hx⟩ : ∃ x, x = nan a := ⟨_, rfl⟩
  obtain ⟨y, hy⟩ : ∃ y, y = nan b := ⟨_, rfl⟩
  have CA := Lib.hid fun W => isNaN_c a W
  have CB := Lib.hid fun W => isNaN_c b W
  rw [← hx] at CA
  rw [← hy] at CB
  have hl : lessB a b = if x || y then !x else decide (place a < place b) := by rw [hx, hy]; rfl
  cases x with
  | true =>
    have HL := Lib.hid hl
    clear hl hx hy
    go_enter Try.func14, Try.ntmps14
    go_wp2_with (go_at_call 24; refine (CA.out _).mono ?_; rintro e w1 ⟨rfl, rfl⟩)
    go_ret
    exact ⟨ret_bool (by rw [HL.out]; rfl), rfl⟩
  | false =>
    cases y with
    | true =>
      have HL := Lib.hid hl
      clear hl hx hy
      go_enter Try.func14, Try.ntmps14
      go_wp2_with (go_at_call 24; (first | refine (CA.out _).mono ?_ | refine (CB.out _).mono ?_); rintro e w1 ⟨rfl, rfl⟩)
      go_ret
      exact ⟨ret_bool (by rw [HL.out]; rfl), rfl⟩
    | false =>
      have ho := lt_ord a b hx.symm hy.symm
      have HL := Lib.hid hl
      clear hl hx hy
      go_enter Try.func14, Try.ntmps14
      go_wp2_with (go_at_call 24; (first | refine (CA.out _).mono ?_ | refine (CB.out _).mono ?_); rintro e w1 ⟨rfl, rfl⟩)
      go_ret
      exact ⟨ret_bool (by rw [HL.out]; first | exact ho | rfl), rfl⟩
theorem same_c (a b : Nat) (w : World) : Calls Try.prog 16 #[.float .f64 a, .float .f64 b] w fun e w' => e = .returned (.bool (sameB a b)) ∧ w' = w := by
  obtain ⟨x, hx⟩ : ∃ x, x = nan a := ⟨_, rfl⟩
  obtain ⟨y, hy⟩ : ∃ y, y = nan b := ⟨_, rfl⟩
  have CA := Lib.hid fun W => isNaN_c a W
  have CB := Lib.hid fun W => isNaN_c b W
  rw [← hx] at CA
  rw [← hy] at CB
  have hl : sameB a b = if x || y then x && y else decide (place a = place b) := by rw [hx, hy]; rfl
  cases x with
  | true =>
    have HL := Lib.hid hl
    clear hl hx hy
    cases y <;> (
      go_enter Try.func16, Try.ntmps16
      go_wp2_with (go_at_call 24; (first | refine (CA.out _).mono ?_ | refine (CB.out _).mono ?_); rintro e w1 ⟨rfl, rfl⟩)
      go_ret
      exact ⟨ret_bool (by rw [HL.out]; rfl), rfl⟩)
  | false =>
    cases y with
    | true =>
      have HL := Lib.hid hl
      clear hl hx hy
      go_enter Try.func16, Try.ntmps16
      go_wp2_with (go_at_call 24; (first | refine (CA.out _).mono ?_ | refine (CB.out _).mono ?_); rintro e w1 ⟨rfl, rfl⟩)
      go_ret
      exact ⟨ret_bool (by rw [HL.out]; rfl), rfl⟩
    | false =>
      have ho := eq_ord a b hx.symm hy.symm
      have HL := Lib.hid hl
      clear hl hx hy
      go_enter Try.func16, Try.ntmps16
      go_wp2_with (go_at_call 24; (first | refine (CA.out _).mono ?_ | refine (CB.out _).mono ?_); rintro e w1 ⟨rfl, rfl⟩)
      go_ret
      exact ⟨ret_bool (by rw [HL.out]; first | exact ho | rfl), rfl⟩
end Go.Proofs.Ytbphehijikdkjaa.FltH
