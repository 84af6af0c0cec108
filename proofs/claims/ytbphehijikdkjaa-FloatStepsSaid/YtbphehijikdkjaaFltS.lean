/-
  The law FloatOrder, walked by hand over the contracts.
-/
import Derived.Test.YtbphehijikdkjaaFltB
namespace Go.Proofs.Ytbphehijikdkjaa.FltS
open Go.RowKit Go.Proofs.Ytbphehijikdkjaa.FltH Go.Proofs.Ytbphehijikdkjaa.FltK Go.Proofs.Ytbphehijikdkjaa.FltV Go.Proofs.Ytbphehijikdkjaa.FltR Go.Proofs.Ytbphehijikdkjaa.FltW Go.Proofs.Ytbphehijikdkjaa.FltO Go.Proofs.Ytbphehijikdkjaa.FltT Go.Proofs.Ytbphehijikdkjaa.FltB Go.Proofs.YtbphehijikdkjaaW.PrintWords Go.Proofs.Ytbphehijikdkjaa.Str Go.Proofs.Ytbphehijikdkjaa.Cm
open FOrd (nan rung place)
set_option linter.unusedVariables false
/-- Texts of numbers stand as the lists of numbers do. -/
theorem map_lt (l m : List Int) (hl : R l) (hm : R m) : (l.map fun n => UInt8.ofNat n.toNat) < (m.map fun n => UInt8.ofNat n.toNat) ↔ l < m := by
  induction l generalizing m with
  | nil => cases m <;> simp
  | cons x l ih =>
    cases m with
    | nil => simp
    | cons y m =>
      have hx := hl x (by simp)
      have hy := hm y (by simp)
      simp only [List.map_cons, List.cons_lt_cons_iff]
      rw [ih m (fun z hz => hl z (by simp [hz])) (fun z hz => hm z (by simp [hz]))]
      have e1 : (UInt8.ofNat x.toNat).toNat = x.toNat := by rw [UInt8.toNat_ofNat']; omega
      have e2 : (UInt8.ofNat y.toNat).toNat = y.toNat := by rw [UInt8.toNat_ofNat']; omega
      have h1 : UInt8.ofNat x.toNat < UInt8.ofNat y.toNat ↔ x < y := by rw [UInt8.lt_iff_toNat_lt, e1, e2]; omega
      have h2 : UInt8.ofNat x.toNat = UInt8.ofNat y.toNat ↔ x = y := by rw [← UInt8.toNat_inj, e1, e2]; omega
      rw [h1, h2]
theorem bytesLess_iff (x y : List UInt8) : (Op.bytesLess x y = true) ↔ x < y := by
  induction x generalizing y with
  | nil => cases y <;> simp [Op.bytesLess]
  | cons a x ih =>
    cases y with
    | nil => simp [Op.bytesLess]
    | cons b y =>
      rw [Op.bytesLess, List.cons_lt_cons_iff, Bool.or_eq_true, Bool.and_eq_true, decide_eq_true_iff, beq_iff_eq, ih y]
theorem key_lt (a b : Nat) (ha : a < 18446744073709551616) (hb : b < 18446744073709551616) : (strOfNums (be8 a)).toList < (strOfNums (be8 b)).toList ↔ a < b := by
  rw [toList_eq, toList_eq, strOfNums_data, strOfNums_data, be8_eq, be8_eq, map_lt _ _ (Dig.dg_range 8 a) (Dig.dg_range 8 b)]
  exact Dig.dg_lt 8 a b ha hb
theorem key_inj (a b : Nat) (ha : a < 18446744073709551616) (hb : b < 18446744073709551616) : (strOfNums (be8 a)).toList = (strOfNums (be8 b)).toList ↔ a = b := by
  rw [toList_inj]
  constructor
  · intro h
    rw [be8_eq, be8_eq] at h
    exact Dig.dg_inj 8 a b ha hb (str_inj (Dig.dg_range 8 a) (Dig.dg_range 8 b) h)
  · intro h; rw [h]
theorem lt_imp (a b : Nat) (ha : a < 18446744073709551616) (hb : b < 18446744073709551616) (h : (FloatKind.f64.format.order a b == some .lt) = true) : ordB a < ordB b := by
  by_cases h1 : nan a = true
  · have : FloatKind.f64.format.order a b = none := by show Ieee.double.order a b = none; rw [FOrd.order_eq, h1]; rfl
    rw [this] at h; cases h
  · by_cases h2 : nan b = true
    · have : FloatKind.f64.format.order a b = none := by show Ieee.double.order a b = none; rw [FOrd.order_eq, h2]; simp
      rw [this] at h; cases h
    · have h1' : nan a = false := by simpa using h1
      have h2' : nan b = false := by simpa using h2
      rw [lt_ord a b h1' h2'] at h
      have := less_ord a b ha hb
      unfold lessB at this
      rw [h1', h2'] at this
      simp only [Bool.or_self, Bool.false_eq_true, if_false] at this
      rw [h] at this
      exact of_decide_eq_true this.symm
theorem eq_imp (a b : Nat) (ha : a < 18446744073709551616) (hb : b < 18446744073709551616) (h : (FloatKind.f64.format.order a b == some .eq) = true) : ordB a = ordB b := by
  by_cases h1 : nan a = true
  · have : FloatKind.f64.format.order a b = none := by show Ieee.double.order a b = none; rw [FOrd.order_eq, h1]; rfl
    rw [this] at h; cases h
  · by_cases h2 : nan b = true
    · have : FloatKind.f64.format.order a b = none := by show Ieee.double.order a b = none; rw [FOrd.order_eq, h2]; simp
      rw [this] at h; cases h
    · have h1' : nan a = false := by simpa using h1
      have h2' : nan b = false := by simpa using h2
      rw [eq_ord a b h1' h2'] at h
      have := same_ord a b ha hb
      unfold sameB at this
      rw [h1', h2'] at this
      simp only [Bool.or_self, Bool.false_eq_true, if_false] at this
      rw [h] at this
      exact of_decide_eq_true this.symm
theorem nan_imp (a b : Nat) (ha : a < 18446744073709551616) (hb : b < 18446744073709551616) (h : (FloatKind.f64.format.order a a != some .eq) = true) (h2 : (FloatKind.f64.format.order b b == some .eq) = true) : ordB b < ordB a := by
  have e : (FloatKind.f64.format.order a a != some .eq) = nan a := ne_self a
  rw [e] at h
  have hb2 : nan b = false := by
    cases hx : nan b with
    | false => rfl
    | true => rw [self_nan b hx] at h2; cases h2
  have := less_ord b a hb ha
  unfold lessB at this
  rw [h, hb2] at this
  exact of_decide_eq_true this.symm
set_option maxHeartbeats 4000000 in
theorem walk (n m : Int) (w : World) (hn : (Lit.int .u64 n).wf = true) (hm : (Lit.int .u64 m).wf = true) :
    Calls Try.prog 4 #[.int .u64 n, .int .u64 m] w fun e w' => e = .returned (.bool true) ∧ Below w.heap.size w w' := by
  obtain ⟨a, rfl, ha⟩ := u64_wf hn
  obtain ⟨b, rfl, hb⟩ := u64_wf hm
  clear hn hm
  have hfr := fun (n : Nat) W => from_run n W
  have i1 := lt_imp a b ha hb
  have i2 := eq_imp a b ha hb
  have i3 := nan_imp a b ha hb
  have L1 := Lib.hid fun W => of_same (less_c a b W)
  have L2 := Lib.hid fun W => of_same (less_c b a W)
  have S1 := Lib.hid fun W => of_same (same_c a b W)
  rw [less_ord a b ha hb] at L1
  rw [less_ord b a hb ha] at L2
  rw [same_ord a b ha hb] at S1
  have K1 := Lib.hid fun W => key_c a ha W
  have K2 := Lib.hid fun W => key_c b hb W
  have hla := ordB_lt a ha
  have hlb := ordB_lt b hb
  obtain ⟨x, hx⟩ : ∃ r, r = ordB a := ⟨_, rfl⟩
  obtain ⟨y, hy⟩ : ∃ r, r = ordB b := ⟨_, rfl⟩
  rw [← hx] at i1 i2 i3 L1 L2 S1 K1 hla
  rw [← hy] at i1 i2 i3 L1 L2 S1 K2 hlb
  obtain ⟨s, hs⟩ : ∃ s, s = strOfNums (be8 x) := ⟨_, rfl⟩
  obtain ⟨t, ht⟩ : ∃ s, s = strOfNums (be8 y) := ⟨_, rfl⟩
  have kl := key_lt x y hla hlb
  have ki := key_inj x y hla hlb
  rw [← hs] at K1 kl ki
  rw [← ht] at K2 kl ki
  have z1 : ((s.size : Int) != 8) = false := by rw [hs, str_size, be8_len]; rfl
  have z2 : ((t.size : Int) != 8) = false := by rw [ht, str_size, be8_len]; rfl
  obtain ⟨p, hp⟩ : ∃ p, p = FloatKind.f64.format.order a b := ⟨_, rfl⟩
  obtain ⟨x3, hx3⟩ : ∃ p, (FloatKind.f64.format.order a a != some .eq) = p := ⟨_, rfl⟩
  obtain ⟨x4, hx4⟩ : ∃ p, (FloatKind.f64.format.order b b == some .eq) = p := ⟨_, rfl⟩
  obtain ⟨x1, hx1⟩ : ∃ p, (FloatKind.f64.format.order a b == some .lt) = p := ⟨_, rfl⟩
  obtain ⟨x2, hx2⟩ : ∃ p, (FloatKind.f64.format.order a b == some .eq) = p := ⟨_, rfl⟩
  rw [hx1] at i1
  rw [hx2] at i2
  rw [hx3, hx4] at i3
  clear hx hy hs ht hp hla hlb ha hb
  have hC3 := Cm.Calm.refl w
  rcases Nat.lt_trichotomy x y with h | h | h
  · have d1 : decide (x < y) = true := decide_eq_true h
    have d2 : decide (y < x) = false := decide_eq_false (by omega)
    have d3 : decide (x = y) = false := decide_eq_false (by omega)
    have d4 : Op.bytesLess s.toList t.toList = true := (bytesLess_iff _ _).2 (kl.2 h)
    have d5 : (s.toList == t.toList) = false := by rw [beq_eq_false_iff_ne]; exact fun c => absurd (ki.1 c) (by omega)
    rw [d1] at L1
    rw [d2] at L2
    rw [d3] at S1
    have q2 : x2 = false := by cases x2 with
      | false => rfl
      | true => exact absurd (i2 rfl) (by omega)
    subst q2
    have q3 : x3 = false ∨ (x3 = true ∧ x4 = false) := by
      cases x3 <;> cases x4 <;> simp
      exact absurd (i3 rfl rfl) (by omega)
    clear d1 d2 d3 kl ki i1 i2 i3 h
    cases x1 <;> rcases q3 with rfl | ⟨rfl, rfl⟩ <;> (
      go_enter Try.func4, Try.ntmps4
      go_wp2_with fail
      repeat ((first | with_reducible refine (Calm.call hC3 (L1.out _)).mono ?_ | with_reducible refine (Calm.call hC3 (L2.out _)).mono ?_ | with_reducible refine (Calm.call hC3 (S1.out _)).mono ?_ | with_reducible refine (Calm.call hC3 (K1.out _)).mono ?_ | with_reducible refine (Calm.call hC3 (K2.out _)).mono ?_ | with_reducible refine (Calm.call hC3 (wakes_c _)).mono ?_); rintro e w9 ⟨rfl, hC9⟩; clear hC3; have hC3 := hC9; clear hC9; go_wp2_with fail)
      go_ret
      exact ⟨rfl, hC3.below⟩)
  · have d1 : decide (x < y) = false := decide_eq_false (by omega)
    have d2 : decide (y < x) = false := decide_eq_false (by omega)
    have d3 : decide (x = y) = true := decide_eq_true h
    have d4 : Op.bytesLess s.toList t.toList = false := by rw [Bool.eq_false_iff]; exact fun c => absurd (kl.1 ((bytesLess_iff _ _).1 c)) (by omega)
    have d5 : (s.toList == t.toList) = true := by rw [beq_iff_eq]; exact ki.2 h
    rw [d1] at L1
    rw [d2] at L2
    rw [d3] at S1
    have q1 : x1 = false := by cases x1 with
      | false => rfl
      | true => exact absurd (i1 rfl) (by omega)
    subst q1
    have q3 : x3 = false ∨ (x3 = true ∧ x4 = false) := by
      cases x3 <;> cases x4 <;> simp
      exact absurd (i3 rfl rfl) (by omega)
    clear d1 d2 d3 kl ki i1 i2 i3 h
    cases x2 <;> rcases q3 with rfl | ⟨rfl, rfl⟩ <;> (
      go_enter Try.func4, Try.ntmps4
      go_wp2_with fail
      repeat ((first | with_reducible refine (Calm.call hC3 (L1.out _)).mono ?_ | with_reducible refine (Calm.call hC3 (L2.out _)).mono ?_ | with_reducible refine (Calm.call hC3 (S1.out _)).mono ?_ | with_reducible refine (Calm.call hC3 (K1.out _)).mono ?_ | with_reducible refine (Calm.call hC3 (K2.out _)).mono ?_ | with_reducible refine (Calm.call hC3 (wakes_c _)).mono ?_); rintro e w9 ⟨rfl, hC9⟩; clear hC3; have hC3 := hC9; clear hC9; go_wp2_with fail)
      go_ret
      exact ⟨rfl, hC3.below⟩)
  · have d1 : decide (x < y) = false := decide_eq_false (by omega)
    have d2 : decide (y < x) = true := decide_eq_true h
    have d3 : decide (x = y) = false := decide_eq_false (by omega)
    have d4 : Op.bytesLess s.toList t.toList = false := by rw [Bool.eq_false_iff]; exact fun c => absurd (kl.1 ((bytesLess_iff _ _).1 c)) (by omega)
    have d5 : (s.toList == t.toList) = false := by rw [beq_eq_false_iff_ne]; exact fun c => absurd (ki.1 c) (by omega)
    rw [d1] at L1
    rw [d2] at L2
    rw [d3] at S1
    have q1 : x1 = false := by cases x1 with
      | false => rfl
      | true => exact absurd (i1 rfl) (by omega)
    subst q1
    have q2 : x2 = false := by cases x2 with
      | false => rfl
      | true => exact absurd (i2 rfl) (by omega)
    subst q2
    have q3 : x3 = false ∨ (x3 = true ∧ x4 = false) ∨ (x3 = true ∧ x4 = true) := by
      cases x3 <;> cases x4 <;> simp
    clear d1 d2 d3 kl ki i1 i2 i3 h
    rcases q3 with rfl | ⟨rfl, rfl⟩ | ⟨rfl, rfl⟩ <;> (
      go_enter Try.func4, Try.ntmps4
      go_wp2_with fail
      repeat ((first | with_reducible refine (Calm.call hC3 (L1.out _)).mono ?_ | with_reducible refine (Calm.call hC3 (L2.out _)).mono ?_ | with_reducible refine (Calm.call hC3 (S1.out _)).mono ?_ | with_reducible refine (Calm.call hC3 (K1.out _)).mono ?_ | with_reducible refine (Calm.call hC3 (K2.out _)).mono ?_ | with_reducible refine (Calm.call hC3 (wakes_c _)).mono ?_); rintro e w9 ⟨rfl, hC9⟩; clear hC3; have hC3 := hC9; clear hC9; go_wp2_with fail)
      go_ret
      exact ⟨rfl, hC3.below⟩)
end Go.Proofs.Ytbphehijikdkjaa.FltS
