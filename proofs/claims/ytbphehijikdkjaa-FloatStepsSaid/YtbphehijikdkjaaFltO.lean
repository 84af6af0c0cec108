/-
  The order of numbers and of their keys, plainly.
-/
import Derived.Test.YtbphehijikdkjaaFltV
namespace Go.Proofs.Ytbphehijikdkjaa.FltO
open Go.Proofs.Ytbphehijikdkjaa.FltH
open FOrd (S nan rung place neg I)
set_option linter.unusedVariables false
theorem neg_iff (b : Nat) (h : b < 18446744073709551616) : neg b = decide (9223372036854775808 ≤ b) := by
  unfold neg
  rw [show S = 9223372036854775808 from rfl]
  by_cases h1 : 9223372036854775808 ≤ b
  · rw [decide_eq_true h1, beq_iff_eq]; omega
  · rw [decide_eq_false h1, beq_eq_false_iff_ne]; omega
theorem rung_eq (b : Nat) (h : b < 18446744073709551616) : rung b = if 9223372036854775808 ≤ b then b - 9223372036854775808 else b := by
  unfold rung
  rw [show S = 9223372036854775808 from rfl]
  split <;> omega
theorem ord_nan (b : Nat) (h : nan b = true) : ordB b = 18444492273895866368 := by
  unfold ordB oneB
  rw [if_pos h]; rfl
theorem ord_val (b : Nat) (hb : b < 18446744073709551616) (h : nan b = false) : (ordB b : Int) = (if 0 ≤ place b then 9223372036854775808 + place b else 9223372036854775807 + place b) ∧ -9218868437227405312 ≤ place b ∧ place b ≤ 9218868437227405312 := by
  have hr := rung_eq b hb
  have hn := neg_iff b hb
  have hnan : ¬ I < rung b := by simpa [nan] using h
  have hI : I = 9218868437227405312 := rfl
  have hone : oneB b = if rung b = 0 then 0 else b := by unfold oneB; rw [h]; rfl
  unfold ordB place
  rw [hone, hn]
  by_cases h1 : 9223372036854775808 ≤ b
  · rw [if_pos h1] at hr
    rw [decide_eq_true h1, hr]
    rw [hr] at hnan
    by_cases h2 : b - 9223372036854775808 = 0
    · rw [if_pos h2, h2]; simp
    · simp only [if_neg h2, if_true]
      rw [if_neg (by omega), if_neg (by omega)]
      omega
  · rw [if_neg h1] at hr
    rw [decide_eq_false h1, hr]
    rw [hr] at hnan
    by_cases h2 : b = 0
    · subst h2; simp
    · simp only [if_neg h2, Bool.false_eq_true, if_false]
      rw [if_pos (by omega), if_pos (by omega)]
      omega
theorem less_ord (a b : Nat) (ha : a < 18446744073709551616) (hb : b < 18446744073709551616) : lessB a b = decide (ordB a < ordB b) := by
  unfold lessB
  cases h1 : nan a with
  | true =>
    have e1 := ord_nan a h1
    cases h2 : nan b with
    | true => rw [e1, ord_nan b h2]; rfl
    | false =>
      obtain ⟨e2, e3, e4⟩ := ord_val b hb h2
      have : ¬ ordB a < ordB b := by rw [e1]; split at e2 <;> omega
      rw [decide_eq_false this]; rfl
  | false =>
    obtain ⟨e1, e3, e4⟩ := ord_val a ha h1
    cases h2 : nan b with
    | true =>
      have : ordB a < ordB b := by rw [ord_nan b h2]; split at e1 <;> omega
      rw [decide_eq_true this]; rfl
    | false =>
      obtain ⟨f1, f3, f4⟩ := ord_val b hb h2
      simp only [Bool.or_self, Bool.false_eq_true, if_false]
      rw [decide_eq_decide]
      split at e1 <;> split at f1 <;> omega
theorem same_ord (a b : Nat) (ha : a < 18446744073709551616) (hb : b < 18446744073709551616) : sameB a b = decide (ordB a = ordB b) := by
  unfold sameB
  cases h1 : nan a with
  | true =>
    have e1 := ord_nan a h1
    cases h2 : nan b with
    | true => rw [e1, ord_nan b h2]; rfl
    | false =>
      obtain ⟨e2, e3, e4⟩ := ord_val b hb h2
      have : ¬ ordB a = ordB b := by rw [e1]; split at e2 <;> omega
      rw [decide_eq_false this]; rfl
  | false =>
    obtain ⟨e1, e3, e4⟩ := ord_val a ha h1
    cases h2 : nan b with
    | true =>
      have : ¬ ordB a = ordB b := by rw [ord_nan b h2]; split at e1 <;> omega
      rw [decide_eq_false this]; rfl
    | false =>
      obtain ⟨f1, f3, f4⟩ := ord_val b hb h2
      simp only [Bool.or_self, Bool.false_eq_true, if_false]
      rw [decide_eq_decide]
      split at e1 <;> split at f1 <;> omega
end Go.Proofs.Ytbphehijikdkjaa.FltO
