/-
  The law FloatTurned, walked by hand over the contracts.
-/
import Derived.Test.YtbphehijikdkjaaFltS
namespace Go.Proofs.Ytbphehijikdkjaa.FltN
open Go.RowKit Go.Proofs.Ytbphehijikdkjaa.FltH Go.Proofs.Ytbphehijikdkjaa.FltK Go.Proofs.Ytbphehijikdkjaa.FltV Go.Proofs.Ytbphehijikdkjaa.FltR Go.Proofs.Ytbphehijikdkjaa.FltW Go.Proofs.Ytbphehijikdkjaa.FltO Go.Proofs.Ytbphehijikdkjaa.FltT Go.Proofs.Ytbphehijikdkjaa.FltB Go.Proofs.Ytbphehijikdkjaa.FltS Go.Proofs.YtbphehijikdkjaaW.PrintWords Go.Proofs.Ytbphehijikdkjaa.Str Go.Proofs.Ytbphehijikdkjaa.Cm
open FOrd (nan rung place neg)
set_option linter.unusedVariables false
/-- A number with the other sign. -/
def negB (b : Nat) : Nat := if b < 9223372036854775808 then b + 9223372036854775808 else b - 9223372036854775808
theorem add_xor (r : Nat) (h : r < 2 ^ 63) : r + 2 ^ 63 = r ^^^ 2 ^ 63 := by
  apply Nat.eq_of_testBit_eq; intro i
  have e : r + 2 ^ 63 = 2 ^ 63 * 1 + r := by omega
  rw [e, Nat.testBit_two_pow_mul_add 1 h, Nat.testBit_xor, Nat.testBit_two_pow]
  by_cases hi : i < 63
  · have h63 : ¬ 63 = i := by omega
    simp [hi, h63]
  · have hr : r.testBit i = false := Nat.testBit_lt_two_pow (Nat.lt_of_lt_of_le h (Nat.pow_le_pow_right (by decide) (by omega)))
    rw [if_neg hi, hr]
    by_cases h63 : 63 = i
    · subst h63; simp
    · have : i - 63 ≠ 0 := by omega
      have ht : Nat.testBit 1 (i - 63) = false := Nat.testBit_lt_two_pow (Nat.one_lt_two_pow this)
      simp [h63, ht]
theorem neg_bits (b : Nat) (hb : b < 18446744073709551616) : b ^^^ 2 ^ 63 = negB b := by
  unfold negB
  by_cases h : b < 9223372036854775808
  · rw [if_pos h, ← add_xor b (by omega)]
  · rw [if_neg h]
    have e := add_xor (b - 9223372036854775808) (by omega)
    have e2 : b - 9223372036854775808 + 2 ^ 63 = b := by omega
    rw [e2] at e
    conv => lhs; rw [e]
    rw [Nat.xor_assoc, Nat.xor_self, Nat.xor_zero]
theorem neg_run (b : Nat) (hb : b < 18446744073709551616) (w : World) : (Op.unary .neg (.float .f64 b)).run Try.prog w = .ok (.float .f64 (negB b)) w := by
  have : Op.negFloat .f64 b = negB b := neg_bits b hb
  show Sem.run Try.prog (pure (Value.float FloatKind.f64 (Op.negFloat .f64 b))) w = _
  rw [this]; rfl
theorem negB_lt (b : Nat) (hb : b < 18446744073709551616) : negB b < 18446744073709551616 := by unfold negB; split <;> omega
theorem rung_neg (b : Nat) (hb : b < 18446744073709551616) : rung (negB b) = rung b := by
  rw [rung_eq b hb, rung_eq _ (negB_lt b hb)]
  unfold negB
  split <;> split <;> (try split) <;> omega
theorem nan_neg (b : Nat) (hb : b < 18446744073709551616) : nan (negB b) = nan b := by unfold nan; rw [rung_neg b hb]
theorem place_neg (b : Nat) (hb : b < 18446744073709551616) : place (negB b) = - place b := by
  unfold place
  rw [rung_neg b hb, neg_iff b hb, neg_iff _ (negB_lt b hb)]
  unfold negB
  by_cases h : b < 9223372036854775808
  · rw [if_pos h, decide_eq_true (show 9223372036854775808 ≤ b + 9223372036854775808 by omega), decide_eq_false (show ¬ 9223372036854775808 ≤ b by omega)]; simp
  · rw [if_neg h, decide_eq_false (show ¬ 9223372036854775808 ≤ b - 9223372036854775808 by omega), decide_eq_true (show 9223372036854775808 ≤ b by omega)]; simp
theorem ord_same (b : Nat) (hb : b < 18446744073709551616) (h : nan b = true ∨ rung b = 0) : ordB (negB b) = ordB b := by
  have e : oneB (negB b) = oneB b := by
    unfold oneB
    rw [nan_neg b hb, rung_neg b hb]
    rcases h with h | h
    · rw [h]; rfl
    · by_cases h1 : nan b = true
      · rw [h1]; rfl
      · rw [if_neg h1, if_neg h1, if_pos h, if_pos h]
  unfold ordB; rw [e]
theorem ord_turn (b : Nat) (hb : b < 18446744073709551616) (h : nan b = false) (hr : rung b ≠ 0) : ordB (negB b) = 18446744073709551615 - ordB b := by
  have h1 := ord_val b hb h
  have h2 := ord_val (negB b) (negB_lt b hb) (by rw [nan_neg b hb]; exact h)
  rw [place_neg b hb] at h2
  have h3 : place b ≠ 0 := fun c => hr ((place_zero b).1 c)
  have h4 := ordB_lt b hb
  obtain ⟨h1, _⟩ := h1
  obtain ⟨h2, _⟩ := h2
  by_cases hp : 0 ≤ place b
  · rw [if_pos hp] at h1; rw [if_neg (by omega)] at h2; omega
  · rw [if_neg hp] at h1; rw [if_pos (by omega)] at h2; omega
theorem dg_turn (n v : Nat) (h : v < 256 ^ n) : Dig.dg n (256 ^ n - 1 - v) = (Dig.dg n v).map fun x => 255 - x := by
  induction n generalizing v with
  | zero => rfl
  | succ n ih =>
    have hp : 256 ^ (n + 1) = 256 ^ n * 256 := Nat.pow_succ ..
    have hq : 0 < 256 ^ n := Nat.pow_pos (by decide)
    rw [hp] at h
    simp only [Dig.dg, List.map_append, List.map_cons, List.map_nil]
    rw [hp, show (256 ^ n * 256 - 1 - v) / 256 = 256 ^ n - 1 - v / 256 by omega, ih (v / 256) (by omega)]
    congr 2
    omega
theorem turn_at (v : Nat) (h : v < 18446744073709551616) (i : Nat) (s t : ByteArray) (hs : s = strOfNums (be8 v)) (ht : t = strOfNums (be8 (18446744073709551615 - v))) (h1 : i < s.size) (h2 : i < t.size) : (s[i].toNat : Int) = 255 - (t[i].toNat : Int) := by
  have e1 : bytesOf t = (bytesOf s).map fun x => 255 - x := by
    rw [hs, ht, be8_eq, be8_eq, bytes_str _ (Dig.dg_range 8 _), bytes_str _ (Dig.dg_range 8 _)]
    exact dg_turn 8 v h
  have e2 : ∀ u : ByteArray, ∀ (h : i < u.size), (bytesOf u)[i]'(by rw [len_bytesOf]; exact h) = (u[i].toNat : Int) := by
    intro u h; simp [bytesOf]; rfl
  have e3 := e2 s h1
  have e4 := e2 t h2
  have e5 : (bytesOf t)[i]'(by rw [len_bytesOf]; exact h2) = 255 - (bytesOf s)[i]'(by rw [len_bytesOf]; exact h1) := by
    have : ∀ (l m : List Int) (hl : i < l.length) (hm : i < m.length), l = m.map (fun x => 255 - x) → l[i] = 255 - m[i] := by
      intro l m hl hm h; subst h; simp
    exact this _ _ _ _ e1
  rw [e3, e4] at e5
  omega
theorem inv_u8 (y : UInt8) : bits .xor .u8 IntKind.u8.max (y.toNat : Int) = 255 - (y.toNat : Int) := by
  have h : ∀ n : Fin 256, bits .xor .u8 IntKind.u8.max ((n.val : Nat) : Int) = 255 - ((n.val : Nat) : Int) := by decide +kernel
  exact h ⟨y.toNat, y.toNat_lt⟩
set_option maxHeartbeats 2000000 in
theorem walk (n : Int) (w : World) (hn : (Lit.int .u64 n).wf = true) :
    Calls Try.prog 6 #[.int .u64 n] w fun e w' => e = .returned (.bool true) ∧ Below w.heap.size w w' := by
  obtain ⟨a, rfl, ha⟩ := u64_wf hn
  clear hn
  have hfr := fun (n : Nat) W => from_run n W
  have hng := fun W => neg_run a ha W
  have hnl := negB_lt a ha
  have K1 := Lib.hid fun W => key_c a ha W
  have K2 := Lib.hid fun W => key_c (negB a) hnl W
  have L1 := Lib.hid fun W => of_same (less_c a (negB a) W)
  have hC3 := Cm.Calm.refl w
  have hself : (FloatKind.f64.format.order a a != some .eq) = nan a := ne_self a
  by_cases hc : nan a = true ∨ rung a = 0
  · have ho := ord_same a ha hc
    rw [ho] at K2
    obtain ⟨s, hs⟩ : ∃ s, s = strOfNums (be8 (ordB a)) := ⟨_, rfl⟩
    rw [← hs] at K1 K2
    have z1 : ((s.size : Int) != 8) = false := by rw [hs, str_size, be8_len]; rfl
    have e1 : (s.toList == s.toList) = true := by simp
    obtain ⟨m, hm⟩ : ∃ m, m = negB a := ⟨_, rfl⟩
    rw [← hm] at K2 L1 hng
    rcases Bool.eq_false_or_eq_true (nan a) with h | h
    · rw [h] at hself
      clear hs ho hc hm h hnl ha
      go_enter Try.func6, Try.ntmps6
      go_wp2_with fail
      repeat ((first | with_reducible refine (Calm.call hC3 (K1.out _)).mono ?_ | with_reducible refine (Calm.call hC3 (K2.out _)).mono ?_ | with_reducible refine (Calm.call hC3 (wakes_c _)).mono ?_); rintro e w9 ⟨rfl, hC9⟩; clear hC3; have hC3 := hC9; clear hC9; go_wp2_with fail)
      go_ret
      exact ⟨rfl, hC3.below⟩
    · have hr : rung a = 0 := by rcases hc with c | c; · rw [h] at c; cases c
                                 · exact c
      have hz := eq_zero a h
      rw [decide_eq_true hr] at hz
      have hz2 : (FloatKind.f64.format.order a 0 == some .eq) = true := hz
      rw [h] at hself
      clear hs ho hc hm h hnl ha hr hz
      go_enter Try.func6, Try.ntmps6
      go_wp2_with fail
      repeat ((first | with_reducible refine (Calm.call hC3 (K1.out _)).mono ?_ | with_reducible refine (Calm.call hC3 (K2.out _)).mono ?_ | with_reducible refine (Calm.call hC3 (wakes_c _)).mono ?_); rintro e w9 ⟨rfl, hC9⟩; clear hC3; have hC3 := hC9; clear hC9; go_wp2_with fail)
      go_ret
      exact ⟨rfl, hC3.below⟩
  · have h : nan a = false := by
      cases hx : nan a with
      | false => rfl
      | true => exact absurd (.inl hx) hc
    have hr : rung a ≠ 0 := fun c => hc (.inr c)
    have ho := ord_turn a ha h hr
    rw [ho] at K2
    have hol := ordB_lt a ha
    obtain ⟨v, hv⟩ : ∃ v, v = ordB a := ⟨_, rfl⟩
    rw [← hv] at K1 K2 hol
    obtain ⟨s, hs⟩ : ∃ s, s = strOfNums (be8 v) := ⟨_, rfl⟩
    obtain ⟨t, ht⟩ : ∃ s, s = strOfNums (be8 (18446744073709551615 - v)) := ⟨_, rfl⟩
    have hat := fun i (h1 : i < s.size) (h2 : i < t.size) => turn_at v hol i s t hs ht h1 h2
    rw [← hs] at K1
    rw [← ht] at K2
    have hss : s.size = 8 := by rw [hs, str_size, be8_len]
    have hts : t.size = 8 := by rw [ht, str_size, be8_len]
    have z1 : ((s.size : Int) != 8) = false := by rw [hss]; rfl
    have z2 : ((t.size : Int) != 8) = false := by rw [hts]; rfl
    have hz := eq_zero a h
    rw [decide_eq_false hr] at hz
    have hz2 : (FloatKind.f64.format.order a 0 == some .eq) = false := hz
    have hl : lessB a (negB a) = (FloatKind.f64.format.order a 0 == some .lt) := by
      rw [lt_ord a 0 h nan0, place0]
      unfold lessB
      rw [nan_neg a ha, h, place_neg a ha]
      simp only [Bool.or_self, Bool.false_eq_true, if_false]
      rw [decide_eq_decide]; omega
    rw [hl] at L1
    obtain ⟨b, hb⟩ : ∃ b, (FloatKind.f64.format.order a 0 == some .lt) = b := ⟨_, rfl⟩
    rw [hb] at L1
    have hbb : (b == b) = true := by simp
    rw [h] at hself
    obtain ⟨m, hm⟩ : ∃ m, m = negB a := ⟨_, rfl⟩
    rw [← hm] at K2 L1 hng
    have HSS := Lib.hid hss
    have HTS := Lib.hid hts
    have HAT := Lib.hid hat
    clear hs ht ho hc hm h hnl ha hr hz hl hv hol hss hts hat
    go_enter Try.func6, Try.ntmps6
    go_wp2_with fail
    refine (Calm.call hC3 (K1.out _)).mono ?_; rintro e w9 ⟨rfl, hC9⟩; clear hC3; have hC3 := hC9; clear hC9; go_wp2_with fail
    refine (Calm.call hC3 (K2.out _)).mono ?_; rintro e w9 ⟨rfl, hC9⟩; clear hC3; have hC3 := hC9; clear hC9; go_wp2
    go_loopw [6] (fun v6 w' => ∃ i : Nat, i ≤ 8 ∧ v6 = .int .i64 i ∧ Cm.Calm w w') (fun v6 _ => 8 - (intOf v6).toNat)
    case atStart => exact ⟨0, by omega, rfl, hC3⟩
    case round =>
      clear hC3
      obtain ⟨i, hi, rfl, hC3⟩ := hrel
      by_cases hlt : i < 8
      · have h1 : i < s.size := by rw [HSS.out]; exact hlt
        have h2 : i < t.size := by rw [HTS.out]; exact hlt
        have hx := HAT.out i h1 h2
        have hy := inv_u8 t[i]
        have hne : ((s[i].toNat : Int) != bits .xor .u8 IntKind.u8.max (t[i].toNat : Int)) = false := by rw [hy, bne_eq_false_iff_eq]; exact hx
        have hne2 : ((s[i].toNat : Int) == bits .xor .u8 IntKind.u8.max (t[i].toNat : Int)) = true := by rw [hy, beq_iff_eq]; exact hx
        have hif : (if IntKind.u8.signed = true then (-1 : Int) else IntKind.u8.max) = IntKind.u8.max := rfl
        have hne3 : ((s[i].toNat : Int) != bits .xor .u8 (if IntKind.u8.signed = true then -1 else IntKind.u8.max) (t[i].toNat : Int)) = false := by rw [hif]; exact hne
        clear hx hy hif
        go_wp2_with fail
        refine Cm.wp_region_calm_lit w (by kernel_rfl) (by kernel_rfl) hC3 ?_
        repeat (first | go_big_quiet_step (fail) | (refine wpQuiet_step (fun K hK => ?_); go_simp; first | (refine hK _ ?_; clear hK K) | (refine ⟨_, fun _ _ => rfl, hK _ ?_⟩; clear hK K)))
        refine wpQuiet_nil ?_
        intro w7 hC7
        go_wp2
        refine ⟨⟨i + 1, by omega, by go_num, hC7⟩, by simp [intOf]; omega⟩
      · go_wp2_with fail
        repeat ((first | with_reducible refine (Calm.call hC3 (L1.out _)).mono ?_ | with_reducible refine (Calm.call hC3 (wakes_c _)).mono ?_); rintro e w9 ⟨rfl, hC9⟩; clear hC3; have hC3 := hC9; clear hC9; go_wp2_with fail)
        go_ret
        exact ⟨rfl, hC3.below⟩
end Go.Proofs.Ytbphehijikdkjaa.FltN
