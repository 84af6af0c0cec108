-- Written by a program of this session for this seat. Not trusted: Lean checks it.
import Derived.Test.YtklakmooaffjpaaDoorPNodx1
namespace Go.Proofs.YtklakmooaffjpaaDoor.PNod
open Go.RowKit Go.Proofs.YtklakmooaffjpaaDoorW.PrintWords Go.Proofs.YtklakmooaffjpaaDoorW.PrintLast Go.Proofs.YtklakmooaffjpaaDoorW.PrintMore
attribute [local go_sem] max2_int min2_int max_two min_two max_three min_three max_four min_four   -- for this text's walks alone
set_option linter.unusedVariables false
set_option linter.unusedSimpArgs false
open Go.Proofs.YtklakmooaffjpaaDoor.HW Go.Proofs.YtklakmooaffjpaaDoor.DgsB

/-! ### k9Texts: function 32 -/
def k9Texts.l0 : Nat → List ByteArray → List ByteArray → Int → Option (Bool)
 | 0, _, _, _ => none
 | k + 1, x0, x1, x5 => if x5 < (x0.length : Int) then (if 0 ≤ x5 then (if x5 < (x1.length : Int) then (if (rdOf ByteArray.empty x0 x5).toList = (rdOf ByteArray.empty x1 x5).toList then (k9Texts.l0 k x0 x1 (wrap64 (x5 + 1))) else (some false)) else (none)) else (none)) else (some true)
def k9Texts.f (k : Nat) (l0 : List ByteArray) (l1 : List ByteArray) : Option (Bool) := if (l0.length : Int) = (l1.length : Int) then (k9Texts.l0 k l0 l1 0) else (some false)
set_option maxHeartbeats 8000000 in
set_option maxRecDepth 100000 in
theorem k9Texts.calls (k : Nat) (A0 : Option Addr) (c0 : Nat) (l0 : List ByteArray) (A1 : Option Addr) (c1 : Nat) (l1 : List ByteArray) (r : Bool) (w : World) (hr0 : Kd.C Kd.string w A0 l0.length l0) (hc0 : l0.length ≤ c0) (hr1 : Kd.C Kd.string w A1 l1.length l1) (hc1 : l1.length ≤ c1) (h : k9Texts.f k l0 l1 = some r) :
  Calls Tryd.prog 32 #[.slice A0 l0.length c0, .slice A1 l1.length c1] w fun e w' => e = .returned (.bool r) ∧ Drawn0 w w' := by
 have HR0 := A0_.mk hr0
 have HC0 := A0_.mk hc0
 clear hr0 hc0
 have HR1 := A0_.mk hr1
 have HC1 := A0_.mk hc1
 clear hr1 hc1
 have H : (if (l0.length : Int) = (l1.length : Int) then (k9Texts.l0 k l0 l1 0) else (some false)) = some r := h
 clear h
 by_cases c3 : (l0.length : Int) = (l1.length : Int)
 ·rw [if_pos c3] at H
  have c3b0 : ((l0.length : Int) == (l1.length : Int)) = true := beq_iff_eq.mpr c3
  have c3b1 : ((l0.length : Int) != (l1.length : Int)) = false := bne_eq_false_iff_eq.mpr c3
  have c3b2 : (l0.length == l1.length) = true := by first | simpa using c3 | (simp at c3 ⊢; omega)
  clear c3
  have H' := A0_.mk H
  clear H
  go_enter Tryd.func32, Tryd.ntmps32
  go_wp2
  repeat (go_quiet (fail); try go_wp2)
  go_loopg [5] k (fun kq v5 w' => ∃ (x5_1 : Int), v5 = .int .i64 x5_1 ∧ A0_ (k9Texts.l0 kq l0 l1 x5_1 = some r) ∧ A0_ (kq ≤ k) ∧ Drawn0 w w')
  case atStart => exact ⟨(0), (by first | rfl | (simp; done) | (simp [*]; done)), H', ⟨Nat.le_refl _⟩, by repeat (first | exact Drawn0.refl _ | apply Drawn0.step)⟩
  case round =>
   clear H'
   try clear c1
   try clear p2
   try clear c3
   try clear c3b0
   try clear c3b1
   try clear c3b2
   obtain ⟨x5_1, rfl, HA, HK1, ⟨m1, rfl⟩⟩ := hrel
   cases gk with
   | zero => exact absurd HA.out (by simp [k9Texts.l0])
   | succ k1 =>
    have H := HA.out
    clear HA
    simp only [k9Texts.l0] at H
    by_cases c4 : x5_1 < (l0.length : Int)
    ·rw [if_pos c4] at H
     have c4b0 : decide (x5_1 < (l0.length : Int)) = true := decide_eq_true c4
     clear c4
     by_cases c5 : 0 ≤ x5_1
     ·rw [if_pos c5] at H
      have c5b0 : decide (0 ≤ x5_1) = true := decide_eq_true c5
      clear c5
      by_cases c6 : x5_1 < (l1.length : Int)
      ·rw [if_pos c6] at H
       have c6b0 : decide (x5_1 < (l1.length : Int)) = true := decide_eq_true c6
       clear c6
       by_cases c7 : (rdOf ByteArray.empty l0 x5_1).toList = (rdOf ByteArray.empty l1 x5_1).toList
       ·rw [if_pos c7] at H
        have c7b0 : ((rdOf ByteArray.empty l0 x5_1).toList == (rdOf ByteArray.empty l1 x5_1).toList) = true := beq_iff_eq.mpr c7
        have c7b1 : ((rdOf ByteArray.empty l0 x5_1).toList != (rdOf ByteArray.empty l1 x5_1).toList) = false := bne_eq_false_iff_eq.mpr c7
        clear c7
        have H' := A0_.mk H
        clear H
        have p304 : 0 ≤ (x5_1 : Int) := of_decide_eq_true (by first | (with_reducible assumption) | assumption)
        have q304 : x5_1 < (l0.length : Int) := of_decide_eq_true (by first | (with_reducible assumption) | assumption)
        obtain ⟨ad304, e304, hx304_0⟩ := Kd.at_string HR0.out x5_1 p304 q304
        cases e304
        replace p304 := eq_true p304
        replace q304 := eq_true q304
        have p305 : 0 ≤ (x5_1 : Int) := of_decide_eq_true (by first | (with_reducible assumption) | assumption)
        have q305 : x5_1 < (l1.length : Int) := of_decide_eq_true (by first | (with_reducible assumption) | assumption)
        obtain ⟨ad305, e305, hx305_0⟩ := Kd.at_string HR1.out x5_1 p305 q305
        cases e305
        replace p305 := eq_true p305
        replace q305 := eq_true q305
        go_wp2
        repeat (go_quiet (fail); try go_wp2)
        go_roundg k1
        case measure => have := HK1.out; omega
        case rel => exact ⟨(wrap64 (x5_1 + 1)), (by first | rfl | (simp; done) | (simp [*]; done)), H', ⟨by have := HK1.out; omega⟩, by repeat (first | exact Drawn0.refl _ | apply Drawn0.step)⟩
       ·rw [if_neg c7] at H
        have c7b0 : ((rdOf ByteArray.empty l0 x5_1).toList == (rdOf ByteArray.empty l1 x5_1).toList) = false := beq_eq_false_iff_ne.mpr c7
        have c7b1 : ((rdOf ByteArray.empty l0 x5_1).toList != (rdOf ByteArray.empty l1 x5_1).toList) = true := bne_iff_ne.mpr c7
        obtain rfl := Option.some.inj H
        have p304 : 0 ≤ (x5_1 : Int) := of_decide_eq_true (by first | (with_reducible assumption) | assumption)
        have q304 : x5_1 < (l0.length : Int) := of_decide_eq_true (by first | (with_reducible assumption) | assumption)
        obtain ⟨ad304, e304, hx304_0⟩ := Kd.at_string HR0.out x5_1 p304 q304
        cases e304
        replace p304 := eq_true p304
        replace q304 := eq_true q304
        have p305 : 0 ≤ (x5_1 : Int) := of_decide_eq_true (by first | (with_reducible assumption) | assumption)
        have q305 : x5_1 < (l1.length : Int) := of_decide_eq_true (by first | (with_reducible assumption) | assumption)
        obtain ⟨ad305, e305, hx305_0⟩ := Kd.at_string HR1.out x5_1 p305 q305
        cases e305
        replace p305 := eq_true p305
        replace q305 := eq_true q305
        go_wp2
        repeat (go_quiet (fail); try go_wp2)
        go_ret
        exact ⟨by first | rfl | (simp; done) | (simp [*]; done), by repeat (first | exact Drawn0.refl _ | apply Drawn0.step)⟩
      ·rw [if_neg c6] at H
       exact absurd H (by simp)
     ·rw [if_neg c5] at H
      exact absurd H (by simp)
    ·rw [if_neg c4] at H
     have c4b0 : decide (x5_1 < (l0.length : Int)) = false := decide_eq_false c4
     clear c4
     obtain rfl := Option.some.inj H
     go_wp2
     repeat (go_quiet (fail); try go_wp2)
     go_ret
     exact ⟨by first | rfl | (simp; done) | (simp [*]; done), by repeat (first | exact Drawn0.refl _ | apply Drawn0.step)⟩
 ·rw [if_neg c3] at H
  have c3b0 : ((l0.length : Int) == (l1.length : Int)) = false := beq_eq_false_iff_ne.mpr c3
  have c3b1 : ((l0.length : Int) != (l1.length : Int)) = true := bne_iff_ne.mpr c3
  have c3b2 : (l0.length == l1.length) = false := by first | simpa using c3 | (simp at c3 ⊢; omega)
  obtain rfl := Option.some.inj H
  go_enter Tryd.func32, Tryd.ntmps32
  go_wp2
  repeat (go_quiet (fail); try go_wp2)
  go_ret
  exact ⟨by first | rfl | (simp; done) | (simp [*]; done), by repeat (first | exact Drawn0.refl _ | apply Drawn0.step)⟩

/-! ### k9Item: function 17 -/
def k9Item.f (k : Nat) (a0_0 : Int) (a0_1 : ByteArray) (a0_2 : Bool) (a0_3 : ByteArray) (a0_4 : Int) (l0_5 : List ByteArray) (a1_0 : Int) (a1_1 : ByteArray) (a1_2 : Bool) (a1_3 : ByteArray) (a1_4 : Int) (l1_5 : List ByteArray) : Option (Bool) := if a0_0 = a1_0 then (if a0_1.toList = a1_1.toList then (if (a0_2 == a1_2) = true then (if a0_3.toList = a1_3.toList then (if a0_4 = a1_4 then ((k9Texts.f k l0_5 l1_5).bind fun t308 => (some t308)) else (some false)) else (some false)) else (some false)) else (some false)) else (some false)
set_option maxHeartbeats 8000000 in
set_option maxRecDepth 100000 in
theorem k9Item.calls (k : Nat) (a0_0 : Int) (a0_1 : ByteArray) (a0_2 : Bool) (a0_3 : ByteArray) (a0_4 : Int) (A0_5 : Option Addr) (c0_5 : Nat) (l0_5 : List ByteArray) (a1_0 : Int) (a1_1 : ByteArray) (a1_2 : Bool) (a1_3 : ByteArray) (a1_4 : Int) (A1_5 : Option Addr) (c1_5 : Nat) (l1_5 : List ByteArray) (r : Bool) (w : World) (hr0_5 : Kd.C Kd.string w A0_5 l0_5.length l0_5) (hc0_5 : l0_5.length ≤ c0_5) (hr1_5 : Kd.C Kd.string w A1_5 l1_5.length l1_5) (hc1_5 : l1_5.length ≤ c1_5) (h : k9Item.f k a0_0 a0_1 a0_2 a0_3 a0_4 l0_5 a1_0 a1_1 a1_2 a1_3 a1_4 l1_5 = some r) :
  Calls Tryd.prog 17 #[.agg #[.int .i64 a0_0, .string a0_1, .bool a0_2, .string a0_3, .int .i64 a0_4, .slice A0_5 l0_5.length c0_5], .agg #[.int .i64 a1_0, .string a1_1, .bool a1_2, .string a1_3, .int .i64 a1_4, .slice A1_5 l1_5.length c1_5]] w fun e w' => e = .returned (.bool r) ∧ Below w.heap.size w w' := by
 have hu24 := Tryd.underlying24
 have HR0_5 := A0_.mk hr0_5
 have HC0_5 := A0_.mk hc0_5
 clear hr0_5 hc0_5
 have HR1_5 := A0_.mk hr1_5
 have HC1_5 := A0_.mk hc1_5
 clear hr1_5 hc1_5
 have HB := A0_.mk (Below.refl w.heap.size w)
 have H : (if a0_0 = a1_0 then (if a0_1.toList = a1_1.toList then (if (a0_2 == a1_2) = true then (if a0_3.toList = a1_3.toList then (if a0_4 = a1_4 then ((k9Texts.f k l0_5 l1_5).bind fun t308 => (some t308)) else (some false)) else (some false)) else (some false)) else (some false)) else (some false)) = some r := h
 clear h
 by_cases c3 : a0_0 = a1_0
 ·rw [if_pos c3] at H
  have c3b0 : (a0_0 == a1_0) = true := beq_iff_eq.mpr c3
  have c3b1 : (a0_0 != a1_0) = false := bne_eq_false_iff_eq.mpr c3
  clear c3
  by_cases c4 : a0_1.toList = a1_1.toList
  ·rw [if_pos c4] at H
   have c4b0 : (a0_1.toList == a1_1.toList) = true := beq_iff_eq.mpr c4
   have c4b1 : (a0_1.toList != a1_1.toList) = false := bne_eq_false_iff_eq.mpr c4
   clear c4
   by_cases c5 : (a0_2 == a1_2) = true
   ·rw [if_pos c5] at H
    have c5b0 : (a0_2 == a1_2) = true := c5
    (try (have c5b1 : decide (a0_2 = a1_2) = true := by simpa using c5))
    (try (have c5b2 : (a0_2 == a1_2) = true := by simpa using c5))
    clear c5
    by_cases c6 : a0_3.toList = a1_3.toList
    ·rw [if_pos c6] at H
     have c6b0 : (a0_3.toList == a1_3.toList) = true := beq_iff_eq.mpr c6
     have c6b1 : (a0_3.toList != a1_3.toList) = false := bne_eq_false_iff_eq.mpr c6
     clear c6
     by_cases c7 : a0_4 = a1_4
     ·rw [if_pos c7] at H
      have c7b0 : (a0_4 == a1_4) = true := beq_iff_eq.mpr c7
      have c7b1 : (a0_4 != a1_4) = false := bne_eq_false_iff_eq.mpr c7
      clear c7
      replace H := Option.bind_eq_some_iff.mp H
      obtain ⟨t308, A80, H⟩ := H
      replace H : (some t308) = some r := H
      have A8 := A0_.mk A80
      clear A80
      obtain rfl := Option.some.inj H
      go_enter Tryd.func17, Tryd.ntmps17
      go_wp2_with (first | ((with_reducible refine gD (N := 2) rfl ?_); refine xE ?hg (N := 2) ?hd (cs := #[.int .i64 a0_0, .string a0_1, .bool a0_2, .string a0_3, .int .i64 a0_4, .slice A0_5 l0_5.length c0_5]) (t := 24) ?hr ?_; (case hd => rfl); (case hg => rfl); (case hr => first | (go_simp; done) | (go_simp; rfl)); intro gb306 hg w9 hbox hb; have n0_ := A0_.mk (wT (by repeat (first | (with_reducible first | exact HB.out | apply wA | apply pN | apply wD) | exact HB.out)) hb); have n1_ := A0_.mk (hbox); have n2_ := A0_.mk ((by rw [hg]; exact (wZ (by repeat (first | (with_reducible first | exact HB.out | apply wA | apply pN | apply wD) | exact HB.out))) : w.heap.size ≤ gb306)); have n3_ := A0_.mk ((by rw [hg]; exact (wZ (by repeat (first | (with_reducible first | exact HB.out | apply wA | apply pN | apply wD) | exact HB.out))) : w.heap.size ≤ gb306)); clear HB; have HB := n0_; have BK306 := n1_; have GW306 := n2_; have GE306 := n3_; clear n0_ n1_ n2_ n3_; clear hb hbox hg) | ((with_reducible refine gD (N := 3) rfl ?_); refine xE ?hg (N := 3) ?hd (cs := #[.int .i64 a1_0, .string a1_1, .bool a1_2, .string a1_3, .int .i64 a1_4, .slice A1_5 l1_5.length c1_5]) (t := 24) ?hr ?_; (case hd => rfl); (case hg => rfl); (case hr => first | (go_simp; done) | (go_simp; rfl)); intro gb307 hg w10 hbox hb; have n0_ := A0_.mk (bB (g := gb306) (o := .cells #[.int .i64 a0_0, .string a0_1, .bool a0_2, .string a0_3, .int .i64 a0_4, .slice A0_5 l0_5.length c0_5] 24 (0, 0)) (by (with_reducible repeat (first | refine bN ?_ _ | refine bD ?_ | refine bA ?_ _)); exact BK306.out) hb); have n1_ := A0_.mk (wT (by repeat (first | (with_reducible first | exact HB.out | apply wA | apply pN | apply wD | refine wS ?_ GE306.out) | exact HB.out)) hb); have n2_ := A0_.mk (hbox); have n3_ := A0_.mk ((by rw [hg]; exact (wZ (by repeat (first | (with_reducible first | exact HB.out | apply wA | apply pN | apply wD | refine wS ?_ GE306.out) | exact HB.out))) : w.heap.size ≤ gb307)); have n4_ := A0_.mk ((by rw [hg]; exact (wZ (by repeat (first | (with_reducible first | exact HB.out | apply wA | apply pN | apply wD | refine wS ?_ GE306.out) | exact HB.out))) : w.heap.size ≤ gb307)); have n5_ := A0_.mk ((by rw [hg]; exact Nat.ne_of_lt (bL (g := gb306) (o := .cells #[.int .i64 a0_0, .string a0_1, .bool a0_2, .string a0_3, .int .i64 a0_4, .slice A0_5 l0_5.length c0_5] 24 (0, 0)) (by (with_reducible repeat (first | refine bN ?_ _ | refine bD ?_ | refine bA ?_ _)); exact BK306.out)) : gb306 ≠ gb307)); have n6_ := A0_.mk ((by rw [hg]; exact Nat.ne_of_gt (bL (g := gb306) (o := .cells #[.int .i64 a0_0, .string a0_1, .bool a0_2, .string a0_3, .int .i64 a0_4, .slice A0_5 l0_5.length c0_5] 24 (0, 0)) (by (with_reducible repeat (first | refine bN ?_ _ | refine bD ?_ | refine bA ?_ _)); exact BK306.out)) : gb307 ≠ gb306)); clear BK306; clear HB; have BK306 := n0_; have HB := n1_; have BK307 := n2_; have GW307 := n3_; have GE307 := n4_; have NB306_307 := n5_; have NB307_306 := n6_; clear n0_ n1_ n2_ n3_ n4_ n5_ n6_; clear hb hbox hg; have hnb11 := NB306_307.out; have hnc11 := NB307_306.out; have hcz12_0 : w10.cell? ⟨gb306, 0, none⟩ = some (.int .i64 a0_0) := (bC BK306.out 0).trans rfl; have hcz12_1 : w10.cell? ⟨gb306, 1, none⟩ = some (.string a0_1) := (bC BK306.out 1).trans rfl; have hcz12_2 : w10.cell? ⟨gb306, 2, none⟩ = some (.bool a0_2) := (bC BK306.out 2).trans rfl; have hcz12_3 : w10.cell? ⟨gb306, 3, none⟩ = some (.string a0_3) := (bC BK306.out 3).trans rfl; have hcz12_4 : w10.cell? ⟨gb306, 4, none⟩ = some (.int .i64 a0_4) := (bC BK306.out 4).trans rfl; have hcz12_5 : w10.cell? ⟨gb306, 5, none⟩ = some (.slice A0_5 l0_5.length c0_5) := (bC BK306.out 5).trans rfl; have hfz12_0 := bF BK306.out 0; have hfz12_1 := bF BK306.out 1; have hfz12_2 := bF BK306.out 2; have hfz12_3 := bF BK306.out 3; have hfz12_4 := bF BK306.out 4; have hfz12_5 := bF BK306.out 5; have hcz13_0 : w10.cell? ⟨gb307, 0, none⟩ = some (.int .i64 a1_0) := (bC BK307.out 0).trans rfl; have hcz13_1 : w10.cell? ⟨gb307, 1, none⟩ = some (.string a1_1) := (bC BK307.out 1).trans rfl; have hcz13_2 : w10.cell? ⟨gb307, 2, none⟩ = some (.bool a1_2) := (bC BK307.out 2).trans rfl; have hcz13_3 : w10.cell? ⟨gb307, 3, none⟩ = some (.string a1_3) := (bC BK307.out 3).trans rfl; have hcz13_4 : w10.cell? ⟨gb307, 4, none⟩ = some (.int .i64 a1_4) := (bC BK307.out 4).trans rfl; have hcz13_5 : w10.cell? ⟨gb307, 5, none⟩ = some (.slice A1_5 l1_5.length c1_5) := (bC BK307.out 5).trans rfl; have hfz13_0 := bF BK307.out 0; have hfz13_1 := bF BK307.out 1; have hfz13_2 := bF BK307.out 2; have hfz13_3 := bF BK307.out 3; have hfz13_4 := bF BK307.out 4; have hfz13_5 := bF BK307.out 5) | (go_at_call 32; (with_reducible refine (k9Texts.calls k _ _ l0_5 _ _ l1_5 t308 _ ?side1 ?side2 ?side3 ?side4 A8.out).mono ?_); (case side1 => repeat (first | exact (Kd.C_below HR0_5.out HB.out) | (with_reducible refine Kd.C_alloc ?_ _) | (with_reducible refine Kd.C_drewN ?_ _) | (with_reducible refine Kd.C_drew ?_))); (case side2 => exact HC0_5.out); (case side3 => repeat (first | exact (Kd.C_below HR1_5.out HB.out) | (with_reducible refine Kd.C_alloc ?_ _) | (with_reducible refine Kd.C_drewN ?_ _) | (with_reducible refine Kd.C_drew ?_))); (case side4 => exact HC1_5.out); rintro e w' ⟨rfl, ⟨nd, rfl⟩⟩))
      go_ret
      exact ⟨by first | rfl | (simp [errW_none, errW_some] <;> rfl) | (simp [*, errW_none, errW_some] <;> rfl), by repeat (first | (with_reducible first | exact HB.out | apply wA | apply pN | apply wD | refine wS ?_ GE306.out | refine wS ?_ GE307.out) | exact HB.out)⟩
     ·rw [if_neg c7] at H
      have c7b0 : (a0_4 == a1_4) = false := beq_eq_false_iff_ne.mpr c7
      have c7b1 : (a0_4 != a1_4) = true := bne_iff_ne.mpr c7
      obtain rfl := Option.some.inj H
      go_enter Tryd.func17, Tryd.ntmps17
      go_wp2_with (first | ((with_reducible refine gD (N := 2) rfl ?_); refine xE ?hg (N := 2) ?hd (cs := #[.int .i64 a0_0, .string a0_1, .bool a0_2, .string a0_3, .int .i64 a0_4, .slice A0_5 l0_5.length c0_5]) (t := 24) ?hr ?_; (case hd => rfl); (case hg => rfl); (case hr => first | (go_simp; done) | (go_simp; rfl)); intro gb306 hg w14 hbox hb; have n0_ := A0_.mk (wT (by repeat (first | (with_reducible first | exact HB.out | apply wA | apply pN | apply wD) | exact HB.out)) hb); have n1_ := A0_.mk (hbox); have n2_ := A0_.mk ((by rw [hg]; exact (wZ (by repeat (first | (with_reducible first | exact HB.out | apply wA | apply pN | apply wD) | exact HB.out))) : w.heap.size ≤ gb306)); have n3_ := A0_.mk ((by rw [hg]; exact (wZ (by repeat (first | (with_reducible first | exact HB.out | apply wA | apply pN | apply wD) | exact HB.out))) : w.heap.size ≤ gb306)); clear HB; have HB := n0_; have BK306 := n1_; have GW306 := n2_; have GE306 := n3_; clear n0_ n1_ n2_ n3_; clear hb hbox hg) | ((with_reducible refine gD (N := 3) rfl ?_); refine xE ?hg (N := 3) ?hd (cs := #[.int .i64 a1_0, .string a1_1, .bool a1_2, .string a1_3, .int .i64 a1_4, .slice A1_5 l1_5.length c1_5]) (t := 24) ?hr ?_; (case hd => rfl); (case hg => rfl); (case hr => first | (go_simp; done) | (go_simp; rfl)); intro gb307 hg w15 hbox hb; have n0_ := A0_.mk (bB (g := gb306) (o := .cells #[.int .i64 a0_0, .string a0_1, .bool a0_2, .string a0_3, .int .i64 a0_4, .slice A0_5 l0_5.length c0_5] 24 (0, 0)) (by (with_reducible repeat (first | refine bN ?_ _ | refine bD ?_ | refine bA ?_ _)); exact BK306.out) hb); have n1_ := A0_.mk (wT (by repeat (first | (with_reducible first | exact HB.out | apply wA | apply pN | apply wD | refine wS ?_ GE306.out) | exact HB.out)) hb); have n2_ := A0_.mk (hbox); have n3_ := A0_.mk ((by rw [hg]; exact (wZ (by repeat (first | (with_reducible first | exact HB.out | apply wA | apply pN | apply wD | refine wS ?_ GE306.out) | exact HB.out))) : w.heap.size ≤ gb307)); have n4_ := A0_.mk ((by rw [hg]; exact (wZ (by repeat (first | (with_reducible first | exact HB.out | apply wA | apply pN | apply wD | refine wS ?_ GE306.out) | exact HB.out))) : w.heap.size ≤ gb307)); have n5_ := A0_.mk ((by rw [hg]; exact Nat.ne_of_lt (bL (g := gb306) (o := .cells #[.int .i64 a0_0, .string a0_1, .bool a0_2, .string a0_3, .int .i64 a0_4, .slice A0_5 l0_5.length c0_5] 24 (0, 0)) (by (with_reducible repeat (first | refine bN ?_ _ | refine bD ?_ | refine bA ?_ _)); exact BK306.out)) : gb306 ≠ gb307)); have n6_ := A0_.mk ((by rw [hg]; exact Nat.ne_of_gt (bL (g := gb306) (o := .cells #[.int .i64 a0_0, .string a0_1, .bool a0_2, .string a0_3, .int .i64 a0_4, .slice A0_5 l0_5.length c0_5] 24 (0, 0)) (by (with_reducible repeat (first | refine bN ?_ _ | refine bD ?_ | refine bA ?_ _)); exact BK306.out)) : gb307 ≠ gb306)); clear BK306; clear HB; have BK306 := n0_; have HB := n1_; have BK307 := n2_; have GW307 := n3_; have GE307 := n4_; have NB306_307 := n5_; have NB307_306 := n6_; clear n0_ n1_ n2_ n3_ n4_ n5_ n6_; clear hb hbox hg; have hnb16 := NB306_307.out; have hnc16 := NB307_306.out; have hcz17_0 : w15.cell? ⟨gb306, 0, none⟩ = some (.int .i64 a0_0) := (bC BK306.out 0).trans rfl; have hcz17_1 : w15.cell? ⟨gb306, 1, none⟩ = some (.string a0_1) := (bC BK306.out 1).trans rfl; have hcz17_2 : w15.cell? ⟨gb306, 2, none⟩ = some (.bool a0_2) := (bC BK306.out 2).trans rfl; have hcz17_3 : w15.cell? ⟨gb306, 3, none⟩ = some (.string a0_3) := (bC BK306.out 3).trans rfl; have hcz17_4 : w15.cell? ⟨gb306, 4, none⟩ = some (.int .i64 a0_4) := (bC BK306.out 4).trans rfl; have hcz17_5 : w15.cell? ⟨gb306, 5, none⟩ = some (.slice A0_5 l0_5.length c0_5) := (bC BK306.out 5).trans rfl; have hfz17_0 := bF BK306.out 0; have hfz17_1 := bF BK306.out 1; have hfz17_2 := bF BK306.out 2; have hfz17_3 := bF BK306.out 3; have hfz17_4 := bF BK306.out 4; have hfz17_5 := bF BK306.out 5; have hcz18_0 : w15.cell? ⟨gb307, 0, none⟩ = some (.int .i64 a1_0) := (bC BK307.out 0).trans rfl; have hcz18_1 : w15.cell? ⟨gb307, 1, none⟩ = some (.string a1_1) := (bC BK307.out 1).trans rfl; have hcz18_2 : w15.cell? ⟨gb307, 2, none⟩ = some (.bool a1_2) := (bC BK307.out 2).trans rfl; have hcz18_3 : w15.cell? ⟨gb307, 3, none⟩ = some (.string a1_3) := (bC BK307.out 3).trans rfl; have hcz18_4 : w15.cell? ⟨gb307, 4, none⟩ = some (.int .i64 a1_4) := (bC BK307.out 4).trans rfl; have hcz18_5 : w15.cell? ⟨gb307, 5, none⟩ = some (.slice A1_5 l1_5.length c1_5) := (bC BK307.out 5).trans rfl; have hfz18_0 := bF BK307.out 0; have hfz18_1 := bF BK307.out 1; have hfz18_2 := bF BK307.out 2; have hfz18_3 := bF BK307.out 3; have hfz18_4 := bF BK307.out 4; have hfz18_5 := bF BK307.out 5))
      go_ret
      exact ⟨by first | rfl | (simp [errW_none, errW_some] <;> rfl) | (simp [*, errW_none, errW_some] <;> rfl), by repeat (first | (with_reducible first | exact HB.out | apply wA | apply pN | apply wD | refine wS ?_ GE306.out | refine wS ?_ GE307.out) | exact HB.out)⟩
    ·rw [if_neg c6] at H
     have c6b0 : (a0_3.toList == a1_3.toList) = false := beq_eq_false_iff_ne.mpr c6
     have c6b1 : (a0_3.toList != a1_3.toList) = true := bne_iff_ne.mpr c6
     obtain rfl := Option.some.inj H
     go_enter Tryd.func17, Tryd.ntmps17
     go_wp2_with (first | ((with_reducible refine gD (N := 2) rfl ?_); refine xE ?hg (N := 2) ?hd (cs := #[.int .i64 a0_0, .string a0_1, .bool a0_2, .string a0_3, .int .i64 a0_4, .slice A0_5 l0_5.length c0_5]) (t := 24) ?hr ?_; (case hd => rfl); (case hg => rfl); (case hr => first | (go_simp; done) | (go_simp; rfl)); intro gb306 hg w19 hbox hb; have n0_ := A0_.mk (wT (by repeat (first | (with_reducible first | exact HB.out | apply wA | apply pN | apply wD) | exact HB.out)) hb); have n1_ := A0_.mk (hbox); have n2_ := A0_.mk ((by rw [hg]; exact (wZ (by repeat (first | (with_reducible first | exact HB.out | apply wA | apply pN | apply wD) | exact HB.out))) : w.heap.size ≤ gb306)); have n3_ := A0_.mk ((by rw [hg]; exact (wZ (by repeat (first | (with_reducible first | exact HB.out | apply wA | apply pN | apply wD) | exact HB.out))) : w.heap.size ≤ gb306)); clear HB; have HB := n0_; have BK306 := n1_; have GW306 := n2_; have GE306 := n3_; clear n0_ n1_ n2_ n3_; clear hb hbox hg) | ((with_reducible refine gD (N := 3) rfl ?_); refine xE ?hg (N := 3) ?hd (cs := #[.int .i64 a1_0, .string a1_1, .bool a1_2, .string a1_3, .int .i64 a1_4, .slice A1_5 l1_5.length c1_5]) (t := 24) ?hr ?_; (case hd => rfl); (case hg => rfl); (case hr => first | (go_simp; done) | (go_simp; rfl)); intro gb307 hg w20 hbox hb; have n0_ := A0_.mk (bB (g := gb306) (o := .cells #[.int .i64 a0_0, .string a0_1, .bool a0_2, .string a0_3, .int .i64 a0_4, .slice A0_5 l0_5.length c0_5] 24 (0, 0)) (by (with_reducible repeat (first | refine bN ?_ _ | refine bD ?_ | refine bA ?_ _)); exact BK306.out) hb); have n1_ := A0_.mk (wT (by repeat (first | (with_reducible first | exact HB.out | apply wA | apply pN | apply wD | refine wS ?_ GE306.out) | exact HB.out)) hb); have n2_ := A0_.mk (hbox); have n3_ := A0_.mk ((by rw [hg]; exact (wZ (by repeat (first | (with_reducible first | exact HB.out | apply wA | apply pN | apply wD | refine wS ?_ GE306.out) | exact HB.out))) : w.heap.size ≤ gb307)); have n4_ := A0_.mk ((by rw [hg]; exact (wZ (by repeat (first | (with_reducible first | exact HB.out | apply wA | apply pN | apply wD | refine wS ?_ GE306.out) | exact HB.out))) : w.heap.size ≤ gb307)); have n5_ := A0_.mk ((by rw [hg]; exact Nat.ne_of_lt (bL (g := gb306) (o := .cells #[.int .i64 a0_0, .string a0_1, .bool a0_2, .string a0_3, .int .i64 a0_4, .slice A0_5 l0_5.length c0_5] 24 (0, 0)) (by (with_reducible repeat (first | refine bN ?_ _ | refine bD ?_ | refine bA ?_ _)); exact BK306.out)) : gb306 ≠ gb307)); have n6_ := A0_.mk ((by rw [hg]; exact Nat.ne_of_gt (bL (g := gb306) (o := .cells #[.int .i64 a0_0, .string a0_1, .bool a0_2, .string a0_3, .int .i64 a0_4, .slice A0_5 l0_5.length c0_5] 24 (0, 0)) (by (with_reducible repeat (first | refine bN ?_ _ | refine bD ?_ | refine bA ?_ _)); exact BK306.out)) : gb307 ≠ gb306)); clear BK306; clear HB; have BK306 := n0_; have HB := n1_; have BK307 := n2_; have GW307 := n3_; have GE307 := n4_; have NB306_307 := n5_; have NB307_306 := n6_; clear n0_ n1_ n2_ n3_ n4_ n5_ n6_; clear hb hbox hg; have hnb21 := NB306_307.out; have hnc21 := NB307_306.out; have hcz22_0 : w20.cell? ⟨gb306, 0, none⟩ = some (.int .i64 a0_0) := (bC BK306.out 0).trans rfl; have hcz22_1 : w20.cell? ⟨gb306, 1, none⟩ = some (.string a0_1) := (bC BK306.out 1).trans rfl; have hcz22_2 : w20.cell? ⟨gb306, 2, none⟩ = some (.bool a0_2) := (bC BK306.out 2).trans rfl; have hcz22_3 : w20.cell? ⟨gb306, 3, none⟩ = some (.string a0_3) := (bC BK306.out 3).trans rfl; have hcz22_4 : w20.cell? ⟨gb306, 4, none⟩ = some (.int .i64 a0_4) := (bC BK306.out 4).trans rfl; have hcz22_5 : w20.cell? ⟨gb306, 5, none⟩ = some (.slice A0_5 l0_5.length c0_5) := (bC BK306.out 5).trans rfl; have hfz22_0 := bF BK306.out 0; have hfz22_1 := bF BK306.out 1; have hfz22_2 := bF BK306.out 2; have hfz22_3 := bF BK306.out 3; have hfz22_4 := bF BK306.out 4; have hfz22_5 := bF BK306.out 5; have hcz23_0 : w20.cell? ⟨gb307, 0, none⟩ = some (.int .i64 a1_0) := (bC BK307.out 0).trans rfl; have hcz23_1 : w20.cell? ⟨gb307, 1, none⟩ = some (.string a1_1) := (bC BK307.out 1).trans rfl; have hcz23_2 : w20.cell? ⟨gb307, 2, none⟩ = some (.bool a1_2) := (bC BK307.out 2).trans rfl; have hcz23_3 : w20.cell? ⟨gb307, 3, none⟩ = some (.string a1_3) := (bC BK307.out 3).trans rfl; have hcz23_4 : w20.cell? ⟨gb307, 4, none⟩ = some (.int .i64 a1_4) := (bC BK307.out 4).trans rfl; have hcz23_5 : w20.cell? ⟨gb307, 5, none⟩ = some (.slice A1_5 l1_5.length c1_5) := (bC BK307.out 5).trans rfl; have hfz23_0 := bF BK307.out 0; have hfz23_1 := bF BK307.out 1; have hfz23_2 := bF BK307.out 2; have hfz23_3 := bF BK307.out 3; have hfz23_4 := bF BK307.out 4; have hfz23_5 := bF BK307.out 5))
     go_ret
     exact ⟨by first | rfl | (simp [errW_none, errW_some] <;> rfl) | (simp [*, errW_none, errW_some] <;> rfl), by repeat (first | (with_reducible first | exact HB.out | apply wA | apply pN | apply wD | refine wS ?_ GE306.out | refine wS ?_ GE307.out) | exact HB.out)⟩
   ·rw [if_neg c5] at H
    have c5b0 : (a0_2 == a1_2) = false := by simpa using c5
    (try (have c5b1 : decide (a0_2 = a1_2) = false := by simpa using c5))
    (try (have c5b2 : (a0_2 == a1_2) = false := by simpa using c5))
    (try (have c5b3 : ¬ (a0_2 = a1_2) := by simpa using c5))
    clear c5
    obtain rfl := Option.some.inj H
    go_enter Tryd.func17, Tryd.ntmps17
    go_wp2_with (first | ((with_reducible refine gD (N := 2) rfl ?_); refine xE ?hg (N := 2) ?hd (cs := #[.int .i64 a0_0, .string a0_1, .bool a0_2, .string a0_3, .int .i64 a0_4, .slice A0_5 l0_5.length c0_5]) (t := 24) ?hr ?_; (case hd => rfl); (case hg => rfl); (case hr => first | (go_simp; done) | (go_simp; rfl)); intro gb306 hg w24 hbox hb; have n0_ := A0_.mk (wT (by repeat (first | (with_reducible first | exact HB.out | apply wA | apply pN | apply wD) | exact HB.out)) hb); have n1_ := A0_.mk (hbox); have n2_ := A0_.mk ((by rw [hg]; exact (wZ (by repeat (first | (with_reducible first | exact HB.out | apply wA | apply pN | apply wD) | exact HB.out))) : w.heap.size ≤ gb306)); have n3_ := A0_.mk ((by rw [hg]; exact (wZ (by repeat (first | (with_reducible first | exact HB.out | apply wA | apply pN | apply wD) | exact HB.out))) : w.heap.size ≤ gb306)); clear HB; have HB := n0_; have BK306 := n1_; have GW306 := n2_; have GE306 := n3_; clear n0_ n1_ n2_ n3_; clear hb hbox hg) | ((with_reducible refine gD (N := 3) rfl ?_); refine xE ?hg (N := 3) ?hd (cs := #[.int .i64 a1_0, .string a1_1, .bool a1_2, .string a1_3, .int .i64 a1_4, .slice A1_5 l1_5.length c1_5]) (t := 24) ?hr ?_; (case hd => rfl); (case hg => rfl); (case hr => first | (go_simp; done) | (go_simp; rfl)); intro gb307 hg w25 hbox hb; have n0_ := A0_.mk (bB (g := gb306) (o := .cells #[.int .i64 a0_0, .string a0_1, .bool a0_2, .string a0_3, .int .i64 a0_4, .slice A0_5 l0_5.length c0_5] 24 (0, 0)) (by (with_reducible repeat (first | refine bN ?_ _ | refine bD ?_ | refine bA ?_ _)); exact BK306.out) hb); have n1_ := A0_.mk (wT (by repeat (first | (with_reducible first | exact HB.out | apply wA | apply pN | apply wD | refine wS ?_ GE306.out) | exact HB.out)) hb); have n2_ := A0_.mk (hbox); have n3_ := A0_.mk ((by rw [hg]; exact (wZ (by repeat (first | (with_reducible first | exact HB.out | apply wA | apply pN | apply wD | refine wS ?_ GE306.out) | exact HB.out))) : w.heap.size ≤ gb307)); have n4_ := A0_.mk ((by rw [hg]; exact (wZ (by repeat (first | (with_reducible first | exact HB.out | apply wA | apply pN | apply wD | refine wS ?_ GE306.out) | exact HB.out))) : w.heap.size ≤ gb307)); have n5_ := A0_.mk ((by rw [hg]; exact Nat.ne_of_lt (bL (g := gb306) (o := .cells #[.int .i64 a0_0, .string a0_1, .bool a0_2, .string a0_3, .int .i64 a0_4, .slice A0_5 l0_5.length c0_5] 24 (0, 0)) (by (with_reducible repeat (first | refine bN ?_ _ | refine bD ?_ | refine bA ?_ _)); exact BK306.out)) : gb306 ≠ gb307)); have n6_ := A0_.mk ((by rw [hg]; exact Nat.ne_of_gt (bL (g := gb306) (o := .cells #[.int .i64 a0_0, .string a0_1, .bool a0_2, .string a0_3, .int .i64 a0_4, .slice A0_5 l0_5.length c0_5] 24 (0, 0)) (by (with_reducible repeat (first | refine bN ?_ _ | refine bD ?_ | refine bA ?_ _)); exact BK306.out)) : gb307 ≠ gb306)); clear BK306; clear HB; have BK306 := n0_; have HB := n1_; have BK307 := n2_; have GW307 := n3_; have GE307 := n4_; have NB306_307 := n5_; have NB307_306 := n6_; clear n0_ n1_ n2_ n3_ n4_ n5_ n6_; clear hb hbox hg; have hnb26 := NB306_307.out; have hnc26 := NB307_306.out; have hcz27_0 : w25.cell? ⟨gb306, 0, none⟩ = some (.int .i64 a0_0) := (bC BK306.out 0).trans rfl; have hcz27_1 : w25.cell? ⟨gb306, 1, none⟩ = some (.string a0_1) := (bC BK306.out 1).trans rfl; have hcz27_2 : w25.cell? ⟨gb306, 2, none⟩ = some (.bool a0_2) := (bC BK306.out 2).trans rfl; have hcz27_3 : w25.cell? ⟨gb306, 3, none⟩ = some (.string a0_3) := (bC BK306.out 3).trans rfl; have hcz27_4 : w25.cell? ⟨gb306, 4, none⟩ = some (.int .i64 a0_4) := (bC BK306.out 4).trans rfl; have hcz27_5 : w25.cell? ⟨gb306, 5, none⟩ = some (.slice A0_5 l0_5.length c0_5) := (bC BK306.out 5).trans rfl; have hfz27_0 := bF BK306.out 0; have hfz27_1 := bF BK306.out 1; have hfz27_2 := bF BK306.out 2; have hfz27_3 := bF BK306.out 3; have hfz27_4 := bF BK306.out 4; have hfz27_5 := bF BK306.out 5; have hcz28_0 : w25.cell? ⟨gb307, 0, none⟩ = some (.int .i64 a1_0) := (bC BK307.out 0).trans rfl; have hcz28_1 : w25.cell? ⟨gb307, 1, none⟩ = some (.string a1_1) := (bC BK307.out 1).trans rfl; have hcz28_2 : w25.cell? ⟨gb307, 2, none⟩ = some (.bool a1_2) := (bC BK307.out 2).trans rfl; have hcz28_3 : w25.cell? ⟨gb307, 3, none⟩ = some (.string a1_3) := (bC BK307.out 3).trans rfl; have hcz28_4 : w25.cell? ⟨gb307, 4, none⟩ = some (.int .i64 a1_4) := (bC BK307.out 4).trans rfl; have hcz28_5 : w25.cell? ⟨gb307, 5, none⟩ = some (.slice A1_5 l1_5.length c1_5) := (bC BK307.out 5).trans rfl; have hfz28_0 := bF BK307.out 0; have hfz28_1 := bF BK307.out 1; have hfz28_2 := bF BK307.out 2; have hfz28_3 := bF BK307.out 3; have hfz28_4 := bF BK307.out 4; have hfz28_5 := bF BK307.out 5))
    go_ret
    exact ⟨by first | rfl | (simp [errW_none, errW_some] <;> rfl) | (simp [*, errW_none, errW_some] <;> rfl), by repeat (first | (with_reducible first | exact HB.out | apply wA | apply pN | apply wD | refine wS ?_ GE306.out | refine wS ?_ GE307.out) | exact HB.out)⟩
  ·rw [if_neg c4] at H
   have c4b0 : (a0_1.toList == a1_1.toList) = false := beq_eq_false_iff_ne.mpr c4
   have c4b1 : (a0_1.toList != a1_1.toList) = true := bne_iff_ne.mpr c4
   obtain rfl := Option.some.inj H
   go_enter Tryd.func17, Tryd.ntmps17
   go_wp2_with (first | ((with_reducible refine gD (N := 2) rfl ?_); refine xE ?hg (N := 2) ?hd (cs := #[.int .i64 a0_0, .string a0_1, .bool a0_2, .string a0_3, .int .i64 a0_4, .slice A0_5 l0_5.length c0_5]) (t := 24) ?hr ?_; (case hd => rfl); (case hg => rfl); (case hr => first | (go_simp; done) | (go_simp; rfl)); intro gb306 hg w29 hbox hb; have n0_ := A0_.mk (wT (by repeat (first | (with_reducible first | exact HB.out | apply wA | apply pN | apply wD) | exact HB.out)) hb); have n1_ := A0_.mk (hbox); have n2_ := A0_.mk ((by rw [hg]; exact (wZ (by repeat (first | (with_reducible first | exact HB.out | apply wA | apply pN | apply wD) | exact HB.out))) : w.heap.size ≤ gb306)); have n3_ := A0_.mk ((by rw [hg]; exact (wZ (by repeat (first | (with_reducible first | exact HB.out | apply wA | apply pN | apply wD) | exact HB.out))) : w.heap.size ≤ gb306)); clear HB; have HB := n0_; have BK306 := n1_; have GW306 := n2_; have GE306 := n3_; clear n0_ n1_ n2_ n3_; clear hb hbox hg) | ((with_reducible refine gD (N := 3) rfl ?_); refine xE ?hg (N := 3) ?hd (cs := #[.int .i64 a1_0, .string a1_1, .bool a1_2, .string a1_3, .int .i64 a1_4, .slice A1_5 l1_5.length c1_5]) (t := 24) ?hr ?_; (case hd => rfl); (case hg => rfl); (case hr => first | (go_simp; done) | (go_simp; rfl)); intro gb307 hg w30 hbox hb; have n0_ := A0_.mk (bB (g := gb306) (o := .cells #[.int .i64 a0_0, .string a0_1, .bool a0_2, .string a0_3, .int .i64 a0_4, .slice A0_5 l0_5.length c0_5] 24 (0, 0)) (by (with_reducible repeat (first | refine bN ?_ _ | refine bD ?_ | refine bA ?_ _)); exact BK306.out) hb); have n1_ := A0_.mk (wT (by repeat (first | (with_reducible first | exact HB.out | apply wA | apply pN | apply wD | refine wS ?_ GE306.out) | exact HB.out)) hb); have n2_ := A0_.mk (hbox); have n3_ := A0_.mk ((by rw [hg]; exact (wZ (by repeat (first | (with_reducible first | exact HB.out | apply wA | apply pN | apply wD | refine wS ?_ GE306.out) | exact HB.out))) : w.heap.size ≤ gb307)); have n4_ := A0_.mk ((by rw [hg]; exact (wZ (by repeat (first | (with_reducible first | exact HB.out | apply wA | apply pN | apply wD | refine wS ?_ GE306.out) | exact HB.out))) : w.heap.size ≤ gb307)); have n5_ := A0_.mk ((by rw [hg]; exact Nat.ne_of_lt (bL (g := gb306) (o := .cells #[.int .i64 a0_0, .string a0_1, .bool a0_2, .string a0_3, .int .i64 a0_4, .slice A0_5 l0_5.length c0_5] 24 (0, 0)) (by (with_reducible repeat (first | refine bN ?_ _ | refine bD ?_ | refine bA ?_ _)); exact BK306.out)) : gb306 ≠ gb307)); have n6_ := A0_.mk ((by rw [hg]; exact Nat.ne_of_gt (bL (g := gb306) (o := .cells #[.int .i64 a0_0, .string a0_1, .bool a0_2, .string a0_3, .int .i64 a0_4, .slice A0_5 l0_5.length c0_5] 24 (0, 0)) (by (with_reducible repeat (first | refine bN ?_ _ | refine bD ?_ | refine bA ?_ _)); exact BK306.out)) : gb307 ≠ gb306)); clear BK306; clear HB; have BK306 := n0_; have HB := n1_; have BK307 := n2_; have GW307 := n3_; have GE307 := n4_; have NB306_307 := n5_; have NB307_306 := n6_; clear n0_ n1_ n2_ n3_ n4_ n5_ n6_; clear hb hbox hg; have hnb31 := NB306_307.out; have hnc31 := NB307_306.out; have hcz32_0 : w30.cell? ⟨gb306, 0, none⟩ = some (.int .i64 a0_0) := (bC BK306.out 0).trans rfl; have hcz32_1 : w30.cell? ⟨gb306, 1, none⟩ = some (.string a0_1) := (bC BK306.out 1).trans rfl; have hcz32_2 : w30.cell? ⟨gb306, 2, none⟩ = some (.bool a0_2) := (bC BK306.out 2).trans rfl; have hcz32_3 : w30.cell? ⟨gb306, 3, none⟩ = some (.string a0_3) := (bC BK306.out 3).trans rfl; have hcz32_4 : w30.cell? ⟨gb306, 4, none⟩ = some (.int .i64 a0_4) := (bC BK306.out 4).trans rfl; have hcz32_5 : w30.cell? ⟨gb306, 5, none⟩ = some (.slice A0_5 l0_5.length c0_5) := (bC BK306.out 5).trans rfl; have hfz32_0 := bF BK306.out 0; have hfz32_1 := bF BK306.out 1; have hfz32_2 := bF BK306.out 2; have hfz32_3 := bF BK306.out 3; have hfz32_4 := bF BK306.out 4; have hfz32_5 := bF BK306.out 5; have hcz33_0 : w30.cell? ⟨gb307, 0, none⟩ = some (.int .i64 a1_0) := (bC BK307.out 0).trans rfl; have hcz33_1 : w30.cell? ⟨gb307, 1, none⟩ = some (.string a1_1) := (bC BK307.out 1).trans rfl; have hcz33_2 : w30.cell? ⟨gb307, 2, none⟩ = some (.bool a1_2) := (bC BK307.out 2).trans rfl; have hcz33_3 : w30.cell? ⟨gb307, 3, none⟩ = some (.string a1_3) := (bC BK307.out 3).trans rfl; have hcz33_4 : w30.cell? ⟨gb307, 4, none⟩ = some (.int .i64 a1_4) := (bC BK307.out 4).trans rfl; have hcz33_5 : w30.cell? ⟨gb307, 5, none⟩ = some (.slice A1_5 l1_5.length c1_5) := (bC BK307.out 5).trans rfl; have hfz33_0 := bF BK307.out 0; have hfz33_1 := bF BK307.out 1; have hfz33_2 := bF BK307.out 2; have hfz33_3 := bF BK307.out 3; have hfz33_4 := bF BK307.out 4; have hfz33_5 := bF BK307.out 5))
   go_ret
   exact ⟨by first | rfl | (simp [errW_none, errW_some] <;> rfl) | (simp [*, errW_none, errW_some] <;> rfl), by repeat (first | (with_reducible first | exact HB.out | apply wA | apply pN | apply wD | refine wS ?_ GE306.out | refine wS ?_ GE307.out) | exact HB.out)⟩
 ·rw [if_neg c3] at H
  have c3b0 : (a0_0 == a1_0) = false := beq_eq_false_iff_ne.mpr c3
  have c3b1 : (a0_0 != a1_0) = true := bne_iff_ne.mpr c3
  obtain rfl := Option.some.inj H
  go_enter Tryd.func17, Tryd.ntmps17
  go_wp2_with (first | ((with_reducible refine gD (N := 2) rfl ?_); refine xE ?hg (N := 2) ?hd (cs := #[.int .i64 a0_0, .string a0_1, .bool a0_2, .string a0_3, .int .i64 a0_4, .slice A0_5 l0_5.length c0_5]) (t := 24) ?hr ?_; (case hd => rfl); (case hg => rfl); (case hr => first | (go_simp; done) | (go_simp; rfl)); intro gb306 hg w34 hbox hb; have n0_ := A0_.mk (wT (by repeat (first | (with_reducible first | exact HB.out | apply wA | apply pN | apply wD) | exact HB.out)) hb); have n1_ := A0_.mk (hbox); have n2_ := A0_.mk ((by rw [hg]; exact (wZ (by repeat (first | (with_reducible first | exact HB.out | apply wA | apply pN | apply wD) | exact HB.out))) : w.heap.size ≤ gb306)); have n3_ := A0_.mk ((by rw [hg]; exact (wZ (by repeat (first | (with_reducible first | exact HB.out | apply wA | apply pN | apply wD) | exact HB.out))) : w.heap.size ≤ gb306)); clear HB; have HB := n0_; have BK306 := n1_; have GW306 := n2_; have GE306 := n3_; clear n0_ n1_ n2_ n3_; clear hb hbox hg) | ((with_reducible refine gD (N := 3) rfl ?_); refine xE ?hg (N := 3) ?hd (cs := #[.int .i64 a1_0, .string a1_1, .bool a1_2, .string a1_3, .int .i64 a1_4, .slice A1_5 l1_5.length c1_5]) (t := 24) ?hr ?_; (case hd => rfl); (case hg => rfl); (case hr => first | (go_simp; done) | (go_simp; rfl)); intro gb307 hg w35 hbox hb; have n0_ := A0_.mk (bB (g := gb306) (o := .cells #[.int .i64 a0_0, .string a0_1, .bool a0_2, .string a0_3, .int .i64 a0_4, .slice A0_5 l0_5.length c0_5] 24 (0, 0)) (by (with_reducible repeat (first | refine bN ?_ _ | refine bD ?_ | refine bA ?_ _)); exact BK306.out) hb); have n1_ := A0_.mk (wT (by repeat (first | (with_reducible first | exact HB.out | apply wA | apply pN | apply wD | refine wS ?_ GE306.out) | exact HB.out)) hb); have n2_ := A0_.mk (hbox); have n3_ := A0_.mk ((by rw [hg]; exact (wZ (by repeat (first | (with_reducible first | exact HB.out | apply wA | apply pN | apply wD | refine wS ?_ GE306.out) | exact HB.out))) : w.heap.size ≤ gb307)); have n4_ := A0_.mk ((by rw [hg]; exact (wZ (by repeat (first | (with_reducible first | exact HB.out | apply wA | apply pN | apply wD | refine wS ?_ GE306.out) | exact HB.out))) : w.heap.size ≤ gb307)); have n5_ := A0_.mk ((by rw [hg]; exact Nat.ne_of_lt (bL (g := gb306) (o := .cells #[.int .i64 a0_0, .string a0_1, .bool a0_2, .string a0_3, .int .i64 a0_4, .slice A0_5 l0_5.length c0_5] 24 (0, 0)) (by (with_reducible repeat (first | refine bN ?_ _ | refine bD ?_ | refine bA ?_ _)); exact BK306.out)) : gb306 ≠ gb307)); have n6_ := A0_.mk ((by rw [hg]; exact Nat.ne_of_gt (bL (g := gb306) (o := .cells #[.int .i64 a0_0, .string a0_1, .bool a0_2, .string a0_3, .int .i64 a0_4, .slice A0_5 l0_5.length c0_5] 24 (0, 0)) (by (with_reducible repeat (first | refine bN ?_ _ | refine bD ?_ | refine bA ?_ _)); exact BK306.out)) : gb307 ≠ gb306)); clear BK306; clear HB; have BK306 := n0_; have HB := n1_; have BK307 := n2_; have GW307 := n3_; have GE307 := n4_; have NB306_307 := n5_; have NB307_306 := n6_; clear n0_ n1_ n2_ n3_ n4_ n5_ n6_; clear hb hbox hg; have hnb36 := NB306_307.out; have hnc36 := NB307_306.out; have hcz37_0 : w35.cell? ⟨gb306, 0, none⟩ = some (.int .i64 a0_0) := (bC BK306.out 0).trans rfl; have hcz37_1 : w35.cell? ⟨gb306, 1, none⟩ = some (.string a0_1) := (bC BK306.out 1).trans rfl; have hcz37_2 : w35.cell? ⟨gb306, 2, none⟩ = some (.bool a0_2) := (bC BK306.out 2).trans rfl; have hcz37_3 : w35.cell? ⟨gb306, 3, none⟩ = some (.string a0_3) := (bC BK306.out 3).trans rfl; have hcz37_4 : w35.cell? ⟨gb306, 4, none⟩ = some (.int .i64 a0_4) := (bC BK306.out 4).trans rfl; have hcz37_5 : w35.cell? ⟨gb306, 5, none⟩ = some (.slice A0_5 l0_5.length c0_5) := (bC BK306.out 5).trans rfl; have hfz37_0 := bF BK306.out 0; have hfz37_1 := bF BK306.out 1; have hfz37_2 := bF BK306.out 2; have hfz37_3 := bF BK306.out 3; have hfz37_4 := bF BK306.out 4; have hfz37_5 := bF BK306.out 5; have hcz38_0 : w35.cell? ⟨gb307, 0, none⟩ = some (.int .i64 a1_0) := (bC BK307.out 0).trans rfl; have hcz38_1 : w35.cell? ⟨gb307, 1, none⟩ = some (.string a1_1) := (bC BK307.out 1).trans rfl; have hcz38_2 : w35.cell? ⟨gb307, 2, none⟩ = some (.bool a1_2) := (bC BK307.out 2).trans rfl; have hcz38_3 : w35.cell? ⟨gb307, 3, none⟩ = some (.string a1_3) := (bC BK307.out 3).trans rfl; have hcz38_4 : w35.cell? ⟨gb307, 4, none⟩ = some (.int .i64 a1_4) := (bC BK307.out 4).trans rfl; have hcz38_5 : w35.cell? ⟨gb307, 5, none⟩ = some (.slice A1_5 l1_5.length c1_5) := (bC BK307.out 5).trans rfl; have hfz38_0 := bF BK307.out 0; have hfz38_1 := bF BK307.out 1; have hfz38_2 := bF BK307.out 2; have hfz38_3 := bF BK307.out 3; have hfz38_4 := bF BK307.out 4; have hfz38_5 := bF BK307.out 5))
  go_ret
  exact ⟨by first | rfl | (simp [errW_none, errW_some] <;> rfl) | (simp [*, errW_none, errW_some] <;> rfl), by repeat (first | (with_reducible first | exact HB.out | apply wA | apply pN | apply wD | refine wS ?_ GE306.out | refine wS ?_ GE307.out) | exact HB.out)⟩

end Go.Proofs.YtklakmooaffjpaaDoor.PNod
