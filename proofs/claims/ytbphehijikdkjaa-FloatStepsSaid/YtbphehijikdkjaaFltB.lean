/-
  The law FloatBack, walked by hand over the contracts.
-/
import Derived.Test.YtbphehijikdkjaaFltT
namespace Go.Proofs.Ytbphehijikdkjaa.FltB
open Go.RowKit Go.Proofs.Ytbphehijikdkjaa.FltH Go.Proofs.Ytbphehijikdkjaa.FltK Go.Proofs.Ytbphehijikdkjaa.FltV Go.Proofs.Ytbphehijikdkjaa.FltR Go.Proofs.Ytbphehijikdkjaa.FltW Go.Proofs.Ytbphehijikdkjaa.FltO Go.Proofs.Ytbphehijikdkjaa.FltT Go.Proofs.YtbphehijikdkjaaW.PrintWords Go.Proofs.Ytbphehijikdkjaa.Str Go.Proofs.Ytbphehijikdkjaa.Cm
open FOrd (nan rung place)
set_option linter.unusedVariables false
theorem ord_one (b : Nat) (hb : b < 18446744073709551616) : unB (ordB b) = oneB b := by
  have h := oneB_lt b hb
  unfold unB ordB
  by_cases h1 : oneB b < 9223372036854775808
  · rw [if_pos h1, if_pos (by omega)]; omega
  · rw [if_neg h1, if_neg (by omega)]; omega
theorem one_one (b : Nat) (hb : b < 18446744073709551616) : oneB (oneB b) = oneB b := by
  have hc : ∀ c, (c = 9221120237041090560 ∨ c = 0 → oneB c = c) := by
    intro c hc
    rcases hc with rfl | rfl <;> decide
  by_cases h1 : nan b = true
  · have : oneB b = 9221120237041090560 := by unfold oneB; rw [if_pos h1]
    rw [this]; exact hc _ (.inl rfl)
  · by_cases h2 : rung b = 0
    · have : oneB b = 0 := by unfold oneB; rw [if_neg h1, if_pos h2]
      rw [this]; exact hc _ (.inr rfl)
    · have : oneB b = b := by unfold oneB; rw [if_neg h1, if_neg h2]
      rw [this, this]
theorem ord_oneB (b : Nat) (hb : b < 18446744073709551616) : ordB (oneB b) = ordB b := by
  unfold ordB; rw [one_one b hb]
/-- The number of a number's key. -/
theorem back (b : Nat) (hb : b < 18446744073709551616) : valS (strOfNums (be8 (ordB b))) = (oneB b, true) := by
  have ho := ordB_lt b hb
  have hn : num (strOfNums (be8 (ordB b))) = ordB b := by
    unfold num
    rw [be8_eq, bytes_str _ (Dig.dg_range 8 _), Dig.de_dg, Nat.mod_eq_of_lt ho]
  have hsz : (strOfNums (be8 (ordB b))).size = 8 := by rw [str_size, be8_len]
  unfold valS
  rw [if_pos hsz, hn, ord_one b hb, ord_oneB b hb, if_pos rfl]
theorem same_self (b : Nat) (hb : b < 18446744073709551616) : sameB (oneB b) b = true := by
  rw [same_ord _ _ (oneB_lt b hb) hb, ord_oneB b hb]; simp
theorem val_text (k : ByteArray) (u : Nat) (h : valS k = (u, true)) : k.size = 8 ∧ u < 18446744073709551616 ∧ strOfNums (be8 (ordB u)) = k := by
  unfold valS at h
  split at h
  · rename_i hs
    split at h
    · rename_i he
      injection h with h1 h2
      subst h1
      have hl := unB_lt (num k) (num_lt k hs)
      exact ⟨hs, hl, (key_eq k hs _ (ordB_lt _ hl)).2 he⟩
    · cases h
  · cases h
theorem val_none (k : ByteArray) (u : Nat) (h : valS k = (u, false)) : u = 0 := by
  unfold valS at h
  split at h
  · split at h <;> cases h
    rfl
  · cases h; rfl
theorem self_eq (b : Nat) (h : nan b = false) : (FloatKind.f64.format.order b b == some .eq) = true := by
  rw [eq_ord b b h h]; simp
theorem self_ne (b : Nat) (h : nan b = false) : (FloatKind.f64.format.order b b != some .eq) = false := by
  rw [bne, self_eq b h]; rfl
theorem self_nan (b : Nat) (h : nan b = true) : (FloatKind.f64.format.order b b == some .eq) = false := by
  have := ne_self b
  rw [h] at this
  have h2 : (FloatKind.f64.format.order b b != some .eq) = true := this
  rw [bne] at h2
  simpa using h2
theorem nan_zero (b : Nat) (h : nan b = true) : (FloatKind.f64.format.order b 0 != some .eq) = true := by
  show (Ieee.double.order b 0 != some .eq) = true
  rw [FOrd.order_eq, h]; rfl
theorem zero_ne (b : Nat) (h : nan b = false) (hr : rung b = 0) : (FloatKind.f64.format.order 0 b != some .eq) = false := by
  rw [bne, eq_ord 0 b nan0 h, place0, decide_eq_true ((place_zero b).2 hr).symm]; rfl
theorem ne_zero (b : Nat) (h : nan b = false) : (FloatKind.f64.format.order b 0 != some .eq) = !decide (rung b = 0) := by
  rw [bne, show (FloatKind.f64.format.order b 0 == some .eq) = decide (rung b = 0) from eq_zero b h]
set_option maxHeartbeats 2000000 in
theorem walk (n : Int) (k : ByteArray) (w : World) (hn : (Lit.int .u64 n).wf = true) (hk : k.size ≤ 140737488351232) :
    Calls Try.prog 5 #[.int .u64 n, .string k] w fun e w' => e = .returned (.bool true) ∧ Below w.heap.size w w' := by
  obtain ⟨a, rfl, ha⟩ := u64_wf hn
  clear hn
  have hfr := fun (n : Nat) W => from_run n W
  obtain ⟨⟨u, is⟩, hv⟩ : ∃ p, p = valS k := ⟨_, rfl⟩
  have V2 := Lib.hid fun W => val_c hv.symm W
  obtain ⟨t, ht⟩ : ∃ t, t = strOfNums (be8 (ordB a)) := ⟨_, rfl⟩
  have K1 := Lib.hid fun W => key_c a ha W
  have hbk := back a ha
  have hss := same_self a ha
  rw [← ht] at K1 hbk
  obtain ⟨o, ho⟩ : ∃ o, o = oneB a := ⟨_, rfl⟩
  rw [← ho] at hbk hss
  have V1 := Lib.hid fun W => val_c hbk W
  have S1 := Lib.hid fun W => sm_c hss W
  have B1 := Lib.hid fun W => of_same (lbits_c a W)
  clear hbk hss ht
  by_cases hna : nan a = true
  · have f1 := self_nan a hna
    have f2 := nan_zero a hna
    have B2 := B1
    clear hna
    cases is with
    | true =>
      obtain ⟨q1, q2, q3⟩ := val_text k u hv.symm
      have W1 := Lib.hid fun W => ky_c q2 q3 W
      have q4 : ((k.size : Int) == 8) = true := by rw [beq_iff_eq]; omega
      have q5 : (k.toList == k.toList) = true := by simp
      clear hv q1 q2 q3 ha ho
      have hC3 := Cm.Calm.refl w
      go_enter Try.func5, Try.ntmps5
      go_wp2_with fail
      repeat ((first | with_reducible refine (Calm.call hC3 (V1.out _)).mono ?_ | with_reducible refine (Calm.call hC3 (K1.out _)).mono ?_ | with_reducible refine (Calm.call hC3 (S1.out _)).mono ?_ | with_reducible refine (Calm.call hC3 (B1.out _)).mono ?_ | with_reducible refine (Calm.call hC3 (B2.out _)).mono ?_ | with_reducible refine (Calm.call hC3 (V2.out _)).mono ?_ | with_reducible refine (Calm.call hC3 (W1.out _)).mono ?_ | with_reducible refine (Calm.call hC3 (wakes_c _)).mono ?_); rintro e w9 ⟨rfl, hC9⟩; clear hC3; have hC3 := hC9; clear hC9; go_wp2_with fail)
      go_ret
      exact ⟨rfl, hC3.below⟩
    | false =>
      obtain rfl := val_none k u hv.symm
      have W1 := Lib.hid fun W => of_same (lbits_c 0 W)
      clear hv ha ho
      have hC3 := Cm.Calm.refl w
      go_enter Try.func5, Try.ntmps5
      go_wp2_with fail
      repeat ((first | with_reducible refine (Calm.call hC3 (V1.out _)).mono ?_ | with_reducible refine (Calm.call hC3 (K1.out _)).mono ?_ | with_reducible refine (Calm.call hC3 (S1.out _)).mono ?_ | with_reducible refine (Calm.call hC3 (B1.out _)).mono ?_ | with_reducible refine (Calm.call hC3 (B2.out _)).mono ?_ | with_reducible refine (Calm.call hC3 (V2.out _)).mono ?_ | with_reducible refine (Calm.call hC3 (W1.out _)).mono ?_ | with_reducible refine (Calm.call hC3 (wakes_c _)).mono ?_); rintro e w9 ⟨rfl, hC9⟩; clear hC3; have hC3 := hC9; clear hC9; go_wp2_with fail)
      go_ret
      exact ⟨rfl, hC3.below⟩
  · have hna' : nan a = false := by simpa using hna
    by_cases hr : rung a = 0
    · have ho2 : o = 0 := by rw [ho]; unfold oneB; rw [if_neg hna, if_pos hr]
      have f1 := self_eq a hna'
      have f2 := ne_zero a hna'
      have f3 := zero_ne a hna' hr
      rw [decide_eq_true hr] at f2
      clear ho
      subst ho2
      have ho := hr
      have B2 := B1
      clear hna hna' hr
      cases is with
      | true =>
        obtain ⟨q1, q2, q3⟩ := val_text k u hv.symm
        have W1 := Lib.hid fun W => ky_c q2 q3 W
        have q4 : ((k.size : Int) == 8) = true := by rw [beq_iff_eq]; omega
        have q5 : (k.toList == k.toList) = true := by simp
        clear hv q1 q2 q3 ha ho
        have hC3 := Cm.Calm.refl w
        go_enter Try.func5, Try.ntmps5
        go_wp2_with fail
        repeat ((first | with_reducible refine (Calm.call hC3 (V1.out _)).mono ?_ | with_reducible refine (Calm.call hC3 (K1.out _)).mono ?_ | with_reducible refine (Calm.call hC3 (S1.out _)).mono ?_ | with_reducible refine (Calm.call hC3 (B1.out _)).mono ?_ | with_reducible refine (Calm.call hC3 (B2.out _)).mono ?_ | with_reducible refine (Calm.call hC3 (V2.out _)).mono ?_ | with_reducible refine (Calm.call hC3 (W1.out _)).mono ?_ | with_reducible refine (Calm.call hC3 (wakes_c _)).mono ?_); rintro e w9 ⟨rfl, hC9⟩; clear hC3; have hC3 := hC9; clear hC9; go_wp2_with fail)
        go_ret
        exact ⟨rfl, hC3.below⟩
      | false =>
        obtain rfl := val_none k u hv.symm
        have W1 := Lib.hid fun W => of_same (lbits_c 0 W)
        clear hv ha ho
        have hC3 := Cm.Calm.refl w
        go_enter Try.func5, Try.ntmps5
        go_wp2_with fail
        repeat ((first | with_reducible refine (Calm.call hC3 (V1.out _)).mono ?_ | with_reducible refine (Calm.call hC3 (K1.out _)).mono ?_ | with_reducible refine (Calm.call hC3 (S1.out _)).mono ?_ | with_reducible refine (Calm.call hC3 (B1.out _)).mono ?_ | with_reducible refine (Calm.call hC3 (B2.out _)).mono ?_ | with_reducible refine (Calm.call hC3 (V2.out _)).mono ?_ | with_reducible refine (Calm.call hC3 (W1.out _)).mono ?_ | with_reducible refine (Calm.call hC3 (wakes_c _)).mono ?_); rintro e w9 ⟨rfl, hC9⟩; clear hC3; have hC3 := hC9; clear hC9; go_wp2_with fail)
        go_ret
        exact ⟨rfl, hC3.below⟩
    · have ho2 : o = a := by rw [ho]; unfold oneB; rw [if_neg hna, if_neg hr]
      have f1 := self_eq a hna'
      have f2 := ne_zero a hna'
      have f3 := self_ne a hna'
      have f4 : ((a : Int) != (a : Int)) = false := by simp
      rw [decide_eq_false hr] at f2
      clear ho
      subst ho2
      have ho := hr
      have B2 := B1
      clear hna hna' hr
      cases is with
      | true =>
        obtain ⟨q1, q2, q3⟩ := val_text k u hv.symm
        have W1 := Lib.hid fun W => ky_c q2 q3 W
        have q4 : ((k.size : Int) == 8) = true := by rw [beq_iff_eq]; omega
        have q5 : (k.toList == k.toList) = true := by simp
        clear hv q1 q2 q3 ha ho
        have hC3 := Cm.Calm.refl w
        go_enter Try.func5, Try.ntmps5
        go_wp2_with fail
        repeat ((first | with_reducible refine (Calm.call hC3 (V1.out _)).mono ?_ | with_reducible refine (Calm.call hC3 (K1.out _)).mono ?_ | with_reducible refine (Calm.call hC3 (S1.out _)).mono ?_ | with_reducible refine (Calm.call hC3 (B1.out _)).mono ?_ | with_reducible refine (Calm.call hC3 (B2.out _)).mono ?_ | with_reducible refine (Calm.call hC3 (V2.out _)).mono ?_ | with_reducible refine (Calm.call hC3 (W1.out _)).mono ?_ | with_reducible refine (Calm.call hC3 (wakes_c _)).mono ?_); rintro e w9 ⟨rfl, hC9⟩; clear hC3; have hC3 := hC9; clear hC9; go_wp2_with fail)
        go_ret
        exact ⟨rfl, hC3.below⟩
      | false =>
        obtain rfl := val_none k u hv.symm
        have W1 := Lib.hid fun W => of_same (lbits_c 0 W)
        clear hv ha ho
        have hC3 := Cm.Calm.refl w
        go_enter Try.func5, Try.ntmps5
        go_wp2_with fail
        repeat ((first | with_reducible refine (Calm.call hC3 (V1.out _)).mono ?_ | with_reducible refine (Calm.call hC3 (K1.out _)).mono ?_ | with_reducible refine (Calm.call hC3 (S1.out _)).mono ?_ | with_reducible refine (Calm.call hC3 (B1.out _)).mono ?_ | with_reducible refine (Calm.call hC3 (B2.out _)).mono ?_ | with_reducible refine (Calm.call hC3 (V2.out _)).mono ?_ | with_reducible refine (Calm.call hC3 (W1.out _)).mono ?_ | with_reducible refine (Calm.call hC3 (wakes_c _)).mono ?_); rintro e w9 ⟨rfl, hC9⟩; clear hC3; have hC3 := hC9; clear hC9; go_wp2_with fail)
        go_ret
        exact ⟨rfl, hC3.below⟩
end Go.Proofs.Ytbphehijikdkjaa.FltB
