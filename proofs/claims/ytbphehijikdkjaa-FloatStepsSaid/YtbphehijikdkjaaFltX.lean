/-
  math.IsInf, math.Nextafter towards +Inf, walked by hand.
-/
import Derived.Test.YtbphehijikdkjaaFltN
namespace Go.Proofs.Ytbphehijikdkjaa.FltX
open Go.RowKit Go.Proofs.Ytbphehijikdkjaa.FltH Go.Proofs.Ytbphehijikdkjaa.FltK Go.Proofs.Ytbphehijikdkjaa.FltV Go.Proofs.Ytbphehijikdkjaa.FltR Go.Proofs.Ytbphehijikdkjaa.FltW Go.Proofs.Ytbphehijikdkjaa.FltO Go.Proofs.Ytbphehijikdkjaa.FltT Go.Proofs.Ytbphehijikdkjaa.FltB Go.Proofs.Ytbphehijikdkjaa.FltS Go.Proofs.Ytbphehijikdkjaa.FltN Go.Proofs.YtbphehijikdkjaaW.PrintWords Go.Proofs.Ytbphehijikdkjaa.Str Go.Proofs.Ytbphehijikdkjaa.Cm
open FOrd (nan rung place neg)
set_option linter.unusedVariables false
theorem gt_ord (a b : Nat) (ha : nan a = false) (hb : nan b = false) : (FloatKind.f64.format.order a b == some .gt) = decide (place b < place a) := by
  show (Ieee.double.order a b == some .gt) = _
  rw [FOrd.order_eq, ha, hb]
  simp only [Bool.or_self, Bool.false_eq_true, if_false]
  by_cases h : place b < place a
  · rw [decide_eq_true h, cmp_gt.2 h]; rfl
  · rw [decide_eq_false h, beq_eq_false_iff_ne]
    exact fun c => h (cmp_gt.1 (Option.some.inj c))
/-- The next number towards +Inf. -/
def nextB (b : Nat) : Nat := if rung b = 0 then 1 else if b < 9223372036854775808 then b + 1 else b - 1
theorem next_lt (b : Nat) (hb : b < 18446744073709551616) (h : nan b = false) : nextB b < 18446744073709551616 := by
  unfold nextB; repeat' split
  all_goals omega
theorem next_place (b : Nat) (hb : b < 18446744073709551616) (h : nan b = false) (hp : place b ≠ 9218868437227405312) : nan (nextB b) = false ∧ place (nextB b) = place b + 1 := by
  have hr := rung_eq b hb
  have hn := neg_iff b hb
  have hnan : ¬ FOrd.I < rung b := by simpa [nan] using h
  have hI : FOrd.I = 9218868437227405312 := rfl
  have hl := next_lt b hb h
  have hr2 := rung_eq (nextB b) hl
  have hn2 := neg_iff (nextB b) hl
  by_cases h0 : rung b = 0
  · have e : nextB b = 1 := by unfold nextB; rw [if_pos h0]
    have e2 : place b = 0 := (place_zero b).2 h0
    rw [e, e2]; exact ⟨by decide +kernel, by decide +kernel⟩
  · have e : nextB b = if b < 9223372036854775808 then b + 1 else b - 1 := by unfold nextB; rw [if_neg h0]
    by_cases hs : b < 9223372036854775808
    · rw [if_neg (by omega)] at hr
      rw [if_pos hs] at e
      have hn1 : neg b = false := by rw [hn]; exact decide_eq_false (by omega)
      have hpb : place b = (b : Int) := by unfold place; rw [hn1, if_neg (by decide), hr]
      rw [hpb] at hp
      have hb1 : b + 1 < 9223372036854775808 := by rw [hr] at hnan; omega
      rw [e] at hr2 hn2 ⊢
      rw [if_neg (by omega)] at hr2
      refine ⟨?_, ?_⟩
      · unfold nan; rw [hr2, decide_eq_false_iff_not]; rw [hr] at hnan; omega
      · rw [hpb]; unfold place; rw [hn2, decide_eq_false (by omega), hr2]; simp
    · rw [if_pos (by omega)] at hr
      rw [if_neg hs] at e
      have hbs : 9223372036854775808 ≤ b := by omega
      have hn1 : neg b = true := by rw [hn]; exact decide_eq_true hbs
      have hpb : place b = -((b - 9223372036854775808 : Nat) : Int) := by unfold place; rw [hn1, if_pos rfl, hr]
      have hb1 : 9223372036854775808 ≤ b - 1 := by omega
      rw [e] at hr2 hn2 ⊢
      rw [if_pos hb1] at hr2
      rw [hr, hI] at hnan
      refine ⟨?_, ?_⟩
      · unfold nan
        rw [hr2, decide_eq_false_iff_not, hI]
        clear hpb hn1 hn2 hr2 hr hn e hl hI hp h0 h hs
        have : b - 9223372036854775808 ≤ 9218868437227405312 := Nat.not_lt.1 hnan
        exact Nat.not_lt.2 (Nat.le_trans (Nat.sub_le_sub_right (Nat.sub_le b 1) _) this)
      · have hn3 : neg (b - 1) = true := by rw [hn2, decide_eq_true_iff]; omega
        have hp2 : place (b - 1) = -((b - 1 - 9223372036854775808 : Nat) : Int) := by unfold place; rw [hn3, if_pos rfl, hr2]
        rw [hpb, hp2]
        clear hn3 hp2 hpb hr2 hn2 hn hr e
        omega
/-- The keys follow one another. -/
theorem next_ord (b : Nat) (hb : b < 18446744073709551616) (h : nan b = false) (hp : place b ≠ 9218868437227405312) : ordB (nextB b) = ordB b + (if rung (nextB b) = 0 then 2 else 1) := by
  obtain ⟨h1, h2⟩ := next_place b hb h hp
  obtain ⟨e1, _⟩ := ord_val b hb h
  obtain ⟨e2, _⟩ := ord_val (nextB b) (next_lt b hb h) h1
  rw [h2] at e2
  have h3 := place_zero (nextB b)
  rw [h2] at h3
  by_cases h4 : rung (nextB b) = 0
  · have := h3.2 h4
    rw [if_pos h4]; rw [if_neg (by omega)] at e1; rw [if_pos (by omega)] at e2; omega
  · have : ¬ place b + 1 = 0 := fun c => h4 (h3.1 c)
    rw [if_neg h4]
    by_cases h5 : 0 ≤ place b
    · rw [if_pos h5] at e1; rw [if_pos (by omega)] at e2; omega
    · rw [if_neg h5] at e1; rw [if_neg (by omega)] at e2; omega
theorem isInf_c (b : Nat) (h : nan b = false) (w : World) : Calls Try.prog 18 #[.float .f64 b, .int .i64 1] w fun e w' => e = .returned (.bool (decide (9218868437227405311 < place b))) ∧ w' = w := by
  have hm : place 9218868437227405311 = 9218868437227405311 := by decide +kernel
  have hg := gt_ord b 9218868437227405311 h (by decide +kernel)
  rw [hm] at hg
  obtain ⟨x, hx⟩ : ∃ x, x = decide (9218868437227405311 < place b) := ⟨_, rfl⟩
  rw [← hx] at hg ⊢
  clear hx hm
  go_enter Try.func18, Try.ntmps18
  go_wp2
  go_ret
  exact ⟨by first | rfl | (rw [← hg]; rfl), rfl⟩
theorem copysign_c (w : World) : Calls Try.prog 27 #[.float .f64 1, .float .f64 9218868437227405312] w fun e w' => e = .returned (.float .f64 1) ∧ w' = w := by
  have h1 : ∀ W, (callFunc 23 #[.float .f64 1]).run Try.prog W = .ok (.value (.int .u64 1)) W := fun W => bits_run 1 W
  have h2 : ∀ W, (callFunc 23 #[.float .f64 9218868437227405312]).run Try.prog W = .ok (.value (.int .u64 9218868437227405312)) W := fun W => bits_run 9218868437227405312 W
  have h3 : ∀ W, (callFunc 8 #[.int .u64 1]).run Try.prog W = .ok (.value (.float .f64 1)) W := fun W => from_run 1 W
  have e1 : bits .andNot .u64 1 9223372036854775808 = 1 := by decide +kernel
  have e2 : bits .and .u64 9218868437227405312 9223372036854775808 = 0 := by decide +kernel
  have e3 : bits .or .u64 1 0 = 1 := by decide +kernel
  go_enter Try.func27, Try.ntmps27
  go_wp2
  go_ret
  exact ⟨rfl, rfl⟩
set_option maxHeartbeats 1000000 in
theorem next_c (b : Nat) (hb : b < 18446744073709551616) (h : nan b = false) (hp : place b ≠ 9218868437227405312) (w : World) : Calls Try.prog 19 #[.float .f64 b, .float .f64 9218868437227405312] w fun e w' => e = .returned (.float .f64 (nextB b)) ∧ w' = w := by
  have hfr := fun (n : Nat) W => from_run n W
  have h1 : ∀ W, (callFunc 8 #[.int .u64 1]).run Try.prog W = .ok (.value (.float .f64 1)) W := fun W => from_run 1 W
  have hbr := fun W => bits_run b W
  have C1 := Lib.hid fun W => isNaN_c b W
  rw [h] at C1
  have hin : nan 9218868437227405312 = false := by decide +kernel
  have hip : place 9218868437227405312 = 9218868437227405312 := by decide +kernel
  have C2 := Lib.hid fun W => isNaN_c 9218868437227405312 W
  rw [hin] at C2
  have C3 := Lib.hid fun W => copysign_c W
  have q1 := eq_ord b 9218868437227405312 h hin
  rw [hip, decide_eq_false hp] at q1
  have q2 := eq_zero b h
  have q3 := gt_ord 9218868437227405312 b hin h
  have q4 := gt_ord b 0 h nan0
  rw [hip] at q3
  rw [place0] at q4
  obtain ⟨_, hl1, hl2⟩ := ord_val b hb h
  rw [decide_eq_true (show place b < 9218868437227405312 by omega)] at q3
  obtain ⟨o, ho⟩ : ∃ o, o = nextB b := ⟨_, rfl⟩
  rw [← ho]
  by_cases h0 : rung b = 0
  · have e : o = 1 := by rw [ho]; unfold nextB; rw [if_pos h0]
    subst e
    rw [decide_eq_true h0] at q2
    have q2' : (FloatKind.f64.format.order b 0 == some .eq) = true := q2
    clear ho h0 hl1 hl2 hp h hb q2 q4 hin hip
    go_enter Try.func19, Try.ntmps19
    go_wp2_with (first | (go_at_call 24; (first | with_reducible refine (C1.out _).mono ?_ | with_reducible refine (C2.out _).mono ?_); rintro e w1 ⟨rfl, rfl⟩) | (go_at_call 27; refine (C3.out _).mono ?_; rintro e w1 ⟨rfl, rfl⟩))
    go_ret
    exact ⟨rfl, rfl⟩
  · rw [decide_eq_false h0] at q2
    have q2' : (FloatKind.f64.format.order b 0 == some .eq) = false := q2
    have hr := rung_eq b hb
    have hn := neg_iff b hb
    by_cases hs : b < 9223372036854775808
    · have e : o = b + 1 := by rw [ho]; unfold nextB; rw [if_neg h0, if_pos hs]
      have hn1 : neg b = false := by rw [hn]; exact decide_eq_false (by omega)
      have hpos : 0 < place b := by unfold place; rw [hn1, if_neg (by decide)]; omega
      rw [decide_eq_true hpos] at q4
      subst e
      have hw : IntKind.u64.wrap ((b : Int) + 1) = ((b + 1 : Nat) : Int) := by rw [IntKind.wrap_u64]; omega
      have hfr1 : ∀ W, (callFunc 8 #[.int .u64 ((b : Int) + 1)]).run Try.prog W = .ok (.value (.float .f64 (b + 1))) W := fun W => by have := from_run (b + 1) W; simpa using this
      clear ho h0 hl1 hl2 hp h q2 hin hip hr hn hn1 hpos
      go_enter Try.func19, Try.ntmps19
      go_wp2_with (first | (go_at_call 24; (first | with_reducible refine (C1.out _).mono ?_ | with_reducible refine (C2.out _).mono ?_); rintro e w1 ⟨rfl, rfl⟩) | (go_at_call 27; refine (C3.out _).mono ?_; rintro e w1 ⟨rfl, rfl⟩))
      go_ret
      exact ⟨rfl, rfl⟩
    · have e : o = b - 1 := by rw [ho]; unfold nextB; rw [if_neg h0, if_neg hs]
      have hn1 : neg b = true := by rw [hn, decide_eq_true_iff]; omega
      have hpos : ¬ 0 < place b := by unfold place; rw [hn1, if_pos rfl]; omega
      rw [decide_eq_false hpos] at q4
      subst e
      have hw : IntKind.u64.wrap ((b : Int) - 1) = ((b - 1 : Nat) : Int) := by rw [IntKind.wrap_u64]; omega
      have hfr1 : ∀ W, (callFunc 8 #[.int .u64 ((b : Int) - 1)]).run Try.prog W = .ok (.value (.float .f64 (b - 1))) W := fun W => by
        have := from_run (b - 1) W
        rw [show ((b - 1 : Nat) : Int) = (b : Int) - 1 by omega] at this
        exact this
      clear ho h0 hl1 hl2 hp h q2 hin hip hr hn hn1 hpos
      go_enter Try.func19, Try.ntmps19
      go_wp2_with (first | (go_at_call 24; (first | with_reducible refine (C1.out _).mono ?_ | with_reducible refine (C2.out _).mono ?_); rintro e w1 ⟨rfl, rfl⟩) | (go_at_call 27; refine (C3.out _).mono ?_; rintro e w1 ⟨rfl, rfl⟩))
      go_ret
      exact ⟨rfl, rfl⟩
end Go.Proofs.Ytbphehijikdkjaa.FltX
