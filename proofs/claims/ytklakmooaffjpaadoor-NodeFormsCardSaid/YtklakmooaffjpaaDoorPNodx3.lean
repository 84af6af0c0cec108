-- Written by a program of this session for this seat. Not trusted: Lean checks it.
import Derived.Test.YtklakmooaffjpaaDoorPNodx1
namespace Go.Proofs.YtklakmooaffjpaaDoor.PNod
open Go.RowKit Go.Proofs.YtklakmooaffjpaaDoorW.PrintWords Go.Proofs.YtklakmooaffjpaaDoorW.PrintLast Go.Proofs.YtklakmooaffjpaaDoorW.PrintMore
attribute [local go_sem] max2_int min2_int max_two min_two max_three min_three max_four min_four   -- for this text's walks alone
set_option linter.unusedVariables false
set_option linter.unusedSimpArgs false
open Go.Proofs.YtklakmooaffjpaaDoor.HW Go.Proofs.YtklakmooaffjpaaDoor.DgsB

attribute [local go_sem high] eqA52
/-! ### node_Good: function 13 -/
def node_Good.j0 : Nat → Bool → Int → ByteArray → Bool → ByteArray → Int → List ByteArray → Option (Bool)
 | 0, _, _, _, _, _, _, _ => none
 | k + 1, x38, x107000, x107001, x107002, x107003, x107004, x107005 => if x38 = true then (some false) else (if x107000 = 1 then (some (x107000 == 1 && (x107002 && (x107004 == 0)))) else (if x107000 = 2 then (if (x107000 == 2 && (!x107002 && (x107003.toList == ([] : List UInt8) && (x107004 == 1)))) = true then (some (x107001.toList != ([] : List UInt8))) else (some false)) else (if x107000 = 3 then (if x107001.toList = ([] : List UInt8) then (if (x107005.length : Int) > 1 then (some true) else (if x107002 = true then (some (decide ((x107005.length : Int) > 0))) else (some false))) else (some false)) else (some false))))
def node_Good.f (k : Nat) (a0_0 : Int) (a0_1 : ByteArray) (a0_2 : Bool) (a0_3 : ByteArray) (a0_4 : Int) (l0_5 : List ByteArray) : Option (Bool) := if a0_4 < 0 then (node_Good.j0 k true a0_0 a0_1 a0_2 a0_3 a0_4 l0_5) else (if a0_4 ≥ 65536 then (node_Good.j0 k true a0_0 a0_1 a0_2 a0_3 a0_4 l0_5) else ((node_hashes.f a0_0 a0_1 a0_2 a0_3 a0_4 l0_5).bind fun t107 => (if t107 = true then (if (a0_3.size : Int) > 16 then (node_Good.j0 k true a0_0 a0_1 a0_2 a0_3 a0_4 l0_5) else (if a0_2 = true then ((nibble_Good.f k a0_1).bind fun t108 => (node_Good.j0 k (!t108) a0_0 a0_1 a0_2 a0_3 a0_4 l0_5)) else (if a0_3.toList = ([] : List UInt8) then ((nibble_Good.f k a0_1).bind fun t109 => (node_Good.j0 k (!t109) a0_0 a0_1 a0_2 a0_3 a0_4 l0_5)) else (node_Good.j0 k true a0_0 a0_1 a0_2 a0_3 a0_4 l0_5)))) else (node_Good.j0 k true a0_0 a0_1 a0_2 a0_3 a0_4 l0_5))))
set_option maxHeartbeats 8000000 in
set_option maxRecDepth 100000 in
theorem node_Good.calls (k : Nat) (a0_0 : Int) (a0_1 : ByteArray) (a0_2 : Bool) (a0_3 : ByteArray) (a0_4 : Int) (A0_5 : Option Addr) (c0_5 : Nat) (l0_5 : List ByteArray) (r : Bool) (w : World) (hr0_5 : Kd.C Kd.string w A0_5 l0_5.length l0_5) (hc0_5 : l0_5.length ≤ c0_5) (h : node_Good.f k a0_0 a0_1 a0_2 a0_3 a0_4 l0_5 = some r) :
  Calls Tryd.prog 13 #[.agg #[.int .i64 a0_0, .string a0_1, .bool a0_2, .string a0_3, .int .i64 a0_4, .slice A0_5 l0_5.length c0_5]] w fun e w' => e = .returned (.bool r) ∧ Below w.heap.size w w' := by
 have hu24 := Tryd.underlying24
 have hu52 := Tryd.underlying52
 have HR0_5 := A0_.mk hr0_5
 have HC0_5 := A0_.mk hc0_5
 clear hr0_5 hc0_5
 have HB := A0_.mk (Below.refl w.heap.size w)
 have H : (if a0_4 < 0 then (node_Good.j0 k true a0_0 a0_1 a0_2 a0_3 a0_4 l0_5) else (if a0_4 ≥ 65536 then (node_Good.j0 k true a0_0 a0_1 a0_2 a0_3 a0_4 l0_5) else ((node_hashes.f a0_0 a0_1 a0_2 a0_3 a0_4 l0_5).bind fun t107 => (if t107 = true then (if (a0_3.size : Int) > 16 then (node_Good.j0 k true a0_0 a0_1 a0_2 a0_3 a0_4 l0_5) else (if a0_2 = true then ((nibble_Good.f k a0_1).bind fun t108 => (node_Good.j0 k (!t108) a0_0 a0_1 a0_2 a0_3 a0_4 l0_5)) else (if a0_3.toList = ([] : List UInt8) then ((nibble_Good.f k a0_1).bind fun t109 => (node_Good.j0 k (!t109) a0_0 a0_1 a0_2 a0_3 a0_4 l0_5)) else (node_Good.j0 k true a0_0 a0_1 a0_2 a0_3 a0_4 l0_5)))) else (node_Good.j0 k true a0_0 a0_1 a0_2 a0_3 a0_4 l0_5))))) = some r := h
 clear h
 have HC2 := A0_.mk H
 clear H
 go_enter Tryd.func13, Tryd.ntmps13
 go_upto_region 1 with (first | ((with_reducible refine gD (N := 1) rfl ?_); (try (refine gG (by rfl) ?_; dsimp only)); refine xE ?hg (N := 1) ?hd (cs := #[.int .i64 a0_0, .string a0_1, .bool a0_2, .string a0_3, .int .i64 a0_4, .slice A0_5 l0_5.length c0_5]) (t := 24) ?hr ?_; (case hd => rfl); (case hg => rfl); (case hr => first | (go_simp; done) | (go_simp; rfl)); intro gb106 hg w3 hbox hb; have n0_ := A0_.mk (wT (by repeat (first | (with_reducible first | exact HB.out | apply wA | apply pN | apply wD) | exact HB.out)) hb); have n1_ := A0_.mk (hbox); have n2_ := A0_.mk ((by rw [hg]; exact (wZ (by repeat (first | (with_reducible first | exact HB.out | apply wA | apply pN | apply wD) | exact HB.out))) : w.heap.size ≤ gb106)); have n3_ := A0_.mk ((by rw [hg]; exact (wZ (by repeat (first | (with_reducible first | exact HB.out | apply wA | apply pN | apply wD) | exact HB.out))) : w.heap.size ≤ gb106)); clear HB; have HB := n0_; have BK106 := n1_; have GW106 := n2_; have GE106 := n3_; clear n0_ n1_ n2_ n3_; clear hb hbox hg))
 (try simp only [Act.put, List.setIfInBounds_toArray, List.set_cons_zero, List.set_cons_succ])
 go_cut [38] (fun v38 wc => ∃ (kq : Nat) (x38_1 : Bool), v38 = .bool x38_1 ∧ A0_ (node_Good.j0 kq x38_1 a0_0 a0_1 a0_2 a0_3 a0_4 l0_5 = some r) ∧ A0_ (kq ≤ k) ∧ A0_ (wc.heap[gb106]? = some (.cells #[.int .i64 a0_0, .string a0_1, .bool a0_2, .string a0_3, .int .i64 a0_4, (.slice A0_5 l0_5.length c0_5)] 24 (0, 0))) ∧ A0_ (Below w.heap.size w wc))
 case first =>
  have H := HC2.out
  clear HC2
  by_cases c4 : a0_4 < 0
  ·rw [if_pos c4] at H
   have c4b0 : decide (a0_4 < 0) = true := decide_eq_true c4
   clear c4
   (first | rw [c4b0] | (simp only [i64_w, i32_w]; rw [c4b0]) | skip)
   have H' := A0_.mk H
   clear H
   have hcz5_0 : w3.cell? ⟨gb106, 0, none⟩ = some (.int .i64 a0_0) := (bC BK106.out 0).trans rfl
   have hcz5_1 : w3.cell? ⟨gb106, 1, none⟩ = some (.string a0_1) := (bC BK106.out 1).trans rfl
   have hcz5_2 : w3.cell? ⟨gb106, 2, none⟩ = some (.bool a0_2) := (bC BK106.out 2).trans rfl
   have hcz5_3 : w3.cell? ⟨gb106, 3, none⟩ = some (.string a0_3) := (bC BK106.out 3).trans rfl
   have hcz5_4 : w3.cell? ⟨gb106, 4, none⟩ = some (.int .i64 a0_4) := (bC BK106.out 4).trans rfl
   have hcz5_5 : w3.cell? ⟨gb106, 5, none⟩ = some (.slice A0_5 l0_5.length c0_5) := (bC BK106.out 5).trans rfl
   have hfz5_0 := bF BK106.out 0
   have hfz5_1 := bF BK106.out 1
   have hfz5_2 := bF BK106.out 2
   have hfz5_3 := bF BK106.out 3
   have hfz5_4 := bF BK106.out 4
   have hfz5_5 := bF BK106.out 5
   go_wp2
   go_meet
   case rel => exact ⟨_, (true), (by first | rfl | (simp; done) | (simp [*]; done)), H', ⟨by first | omega | exact Nat.le_refl _⟩, ⟨by (with_reducible repeat (first | refine bN ?_ _ | refine bD ?_ | refine bA ?_ _)); exact BK106.out⟩, ⟨by repeat (first | (with_reducible first | exact HB.out | apply wA | apply pN | apply wD | refine wS ?_ GE106.out) | exact HB.out)⟩⟩
  ·rw [if_neg c4] at H
   have c4b0 : decide (a0_4 < 0) = false := decide_eq_false c4
   clear c4
   (first | rw [c4b0] | (simp only [i64_w, i32_w]; rw [c4b0]) | skip)
   by_cases c6 : a0_4 ≥ 65536
   ·rw [if_pos c6] at H
    have c6b0 : decide (65536 ≤ a0_4) = true := decide_eq_true c6
    clear c6
    have H' := A0_.mk H
    clear H
    have hcz7_0 : w3.cell? ⟨gb106, 0, none⟩ = some (.int .i64 a0_0) := (bC BK106.out 0).trans rfl
    have hcz7_1 : w3.cell? ⟨gb106, 1, none⟩ = some (.string a0_1) := (bC BK106.out 1).trans rfl
    have hcz7_2 : w3.cell? ⟨gb106, 2, none⟩ = some (.bool a0_2) := (bC BK106.out 2).trans rfl
    have hcz7_3 : w3.cell? ⟨gb106, 3, none⟩ = some (.string a0_3) := (bC BK106.out 3).trans rfl
    have hcz7_4 : w3.cell? ⟨gb106, 4, none⟩ = some (.int .i64 a0_4) := (bC BK106.out 4).trans rfl
    have hcz7_5 : w3.cell? ⟨gb106, 5, none⟩ = some (.slice A0_5 l0_5.length c0_5) := (bC BK106.out 5).trans rfl
    have hfz7_0 := bF BK106.out 0
    have hfz7_1 := bF BK106.out 1
    have hfz7_2 := bF BK106.out 2
    have hfz7_3 := bF BK106.out 3
    have hfz7_4 := bF BK106.out 4
    have hfz7_5 := bF BK106.out 5
    go_wp2
    go_meet
    case rel => exact ⟨_, (true), (by first | rfl | (simp; done) | (simp [*]; done)), H', ⟨by first | omega | exact Nat.le_refl _⟩, ⟨by (with_reducible repeat (first | refine bN ?_ _ | refine bD ?_ | refine bA ?_ _)); exact BK106.out⟩, ⟨by repeat (first | (with_reducible first | exact HB.out | apply wA | apply pN | apply wD | refine wS ?_ GE106.out) | exact HB.out)⟩⟩
   ·rw [if_neg c6] at H
    have c6b0 : decide (65536 ≤ a0_4) = false := decide_eq_false c6
    clear c6
    replace H := Option.bind_eq_some_iff.mp H
    obtain ⟨t107, A80, H⟩ := H
    replace H : (if t107 = true then (if (a0_3.size : Int) > 16 then (node_Good.j0 k true a0_0 a0_1 a0_2 a0_3 a0_4 l0_5) else (if a0_2 = true then ((nibble_Good.f k a0_1).bind fun t108 => (node_Good.j0 k (!t108) a0_0 a0_1 a0_2 a0_3 a0_4 l0_5)) else (if a0_3.toList = ([] : List UInt8) then ((nibble_Good.f k a0_1).bind fun t109 => (node_Good.j0 k (!t109) a0_0 a0_1 a0_2 a0_3 a0_4 l0_5)) else (node_Good.j0 k true a0_0 a0_1 a0_2 a0_3 a0_4 l0_5)))) else (node_Good.j0 k true a0_0 a0_1 a0_2 a0_3 a0_4 l0_5)) = some r := H
    have A8 := A0_.mk A80
    clear A80
    by_cases c9 : t107 = true
    ·subst c9
     have H1 : (if (a0_3.size : Int) > 16 then (node_Good.j0 k true a0_0 a0_1 a0_2 a0_3 a0_4 l0_5) else (if a0_2 = true then ((nibble_Good.f k a0_1).bind fun t108 => (node_Good.j0 k (!t108) a0_0 a0_1 a0_2 a0_3 a0_4 l0_5)) else (if a0_3.toList = ([] : List UInt8) then ((nibble_Good.f k a0_1).bind fun t109 => (node_Good.j0 k (!t109) a0_0 a0_1 a0_2 a0_3 a0_4 l0_5)) else (node_Good.j0 k true a0_0 a0_1 a0_2 a0_3 a0_4 l0_5)))) = some r := by rw [if_pos rfl] at H; exact H
     clear H
     have H := H1
     clear H1
     by_cases c10 : (a0_3.size : Int) > 16
     ·rw [if_pos c10] at H
      have c10b0 : decide (16 < (a0_3.size : Int)) = true := decide_eq_true c10
      have c10b1 : decide (16 < a0_3.size) = true := decide_eq_true (by omega)
      clear c10
      have H' := A0_.mk H
      clear H
      have hcz11_0 : w3.cell? ⟨gb106, 0, none⟩ = some (.int .i64 a0_0) := (bC BK106.out 0).trans rfl
      have hcz11_1 : w3.cell? ⟨gb106, 1, none⟩ = some (.string a0_1) := (bC BK106.out 1).trans rfl
      have hcz11_2 : w3.cell? ⟨gb106, 2, none⟩ = some (.bool a0_2) := (bC BK106.out 2).trans rfl
      have hcz11_3 : w3.cell? ⟨gb106, 3, none⟩ = some (.string a0_3) := (bC BK106.out 3).trans rfl
      have hcz11_4 : w3.cell? ⟨gb106, 4, none⟩ = some (.int .i64 a0_4) := (bC BK106.out 4).trans rfl
      have hcz11_5 : w3.cell? ⟨gb106, 5, none⟩ = some (.slice A0_5 l0_5.length c0_5) := (bC BK106.out 5).trans rfl
      have hfz11_0 := bF BK106.out 0
      have hfz11_1 := bF BK106.out 1
      have hfz11_2 := bF BK106.out 2
      have hfz11_3 := bF BK106.out 3
      have hfz11_4 := bF BK106.out 4
      have hfz11_5 := bF BK106.out 5
      go_wp2_with (first | (go_at_call 26; (with_reducible refine (node_hashes.calls a0_0 a0_1 a0_2 a0_3 a0_4 _ _ l0_5 true _ ?side1 ?side2 A8.out).mono ?_); (case side1 => repeat (first | exact (Kd.C_below HR0_5.out HB.out) | (with_reducible refine Kd.C_alloc ?_ _) | (with_reducible refine Kd.C_drewN ?_ _) | (with_reducible refine Kd.C_drew ?_))); (case side2 => exact HC0_5.out); rintro e w12 ⟨rfl, hb⟩; have n0_ := A0_.mk (bB (g := gb106) (o := .cells #[.int .i64 a0_0, .string a0_1, .bool a0_2, .string a0_3, .int .i64 a0_4, .slice A0_5 l0_5.length c0_5] 24 (0, 0)) (by (with_reducible repeat (first | refine bN ?_ _ | refine bD ?_ | refine bA ?_ _)); exact BK106.out) hb); have n1_ := A0_.mk (wT (by repeat (first | (with_reducible first | exact HB.out | apply wA | apply pN | apply wD | refine wS ?_ GE106.out) | exact HB.out)) hb); clear BK106; clear HB; have BK106 := n0_; have HB := n1_; clear n0_ n1_; (try clear hb); (try clear hb2); (try clear hk); (try clear hi); have hcz13_0 : w12.cell? ⟨gb106, 0, none⟩ = some (.int .i64 a0_0) := (bC BK106.out 0).trans rfl; have hcz13_1 : w12.cell? ⟨gb106, 1, none⟩ = some (.string a0_1) := (bC BK106.out 1).trans rfl; have hcz13_2 : w12.cell? ⟨gb106, 2, none⟩ = some (.bool a0_2) := (bC BK106.out 2).trans rfl; have hcz13_3 : w12.cell? ⟨gb106, 3, none⟩ = some (.string a0_3) := (bC BK106.out 3).trans rfl; have hcz13_4 : w12.cell? ⟨gb106, 4, none⟩ = some (.int .i64 a0_4) := (bC BK106.out 4).trans rfl; have hcz13_5 : w12.cell? ⟨gb106, 5, none⟩ = some (.slice A0_5 l0_5.length c0_5) := (bC BK106.out 5).trans rfl; have hfz13_0 := bF BK106.out 0; have hfz13_1 := bF BK106.out 1; have hfz13_2 := bF BK106.out 2; have hfz13_3 := bF BK106.out 3; have hfz13_4 := bF BK106.out 4; have hfz13_5 := bF BK106.out 5))
      go_meet
      case rel => exact ⟨_, (true), (by first | rfl | (simp; done) | (simp [*]; done)), H', ⟨by first | omega | exact Nat.le_refl _⟩, ⟨by (with_reducible repeat (first | refine bN ?_ _ | refine bD ?_ | refine bA ?_ _)); exact BK106.out⟩, ⟨by repeat (first | (with_reducible first | exact HB.out | apply wA | apply pN | apply wD | refine wS ?_ GE106.out) | exact HB.out)⟩⟩
     ·rw [if_neg c10] at H
      have c10b0 : decide (16 < (a0_3.size : Int)) = false := decide_eq_false c10
      have c10b1 : decide (16 < a0_3.size) = false := decide_eq_false (by omega)
      clear c10
      by_cases c14 : a0_2 = true
      ·subst c14
       have H1 : ((nibble_Good.f k a0_1).bind fun t108 => (node_Good.j0 k (!t108) a0_0 a0_1 true a0_3 a0_4 l0_5)) = some r := by rw [if_pos rfl] at H; exact H
       clear H
       have H := H1
       clear H1
       replace H := Option.bind_eq_some_iff.mp H
       obtain ⟨t108, A150, H⟩ := H
       replace H : (node_Good.j0 k (!t108) a0_0 a0_1 true a0_3 a0_4 l0_5) = some r := H
       have A15 := A0_.mk A150
       clear A150
       have H' := A0_.mk H
       clear H
       have hcz16_0 : w3.cell? ⟨gb106, 0, none⟩ = some (.int .i64 a0_0) := (bC BK106.out 0).trans rfl
       have hcz16_1 : w3.cell? ⟨gb106, 1, none⟩ = some (.string a0_1) := (bC BK106.out 1).trans rfl
       have hcz16_2 : w3.cell? ⟨gb106, 2, none⟩ = some (.bool true) := (bC BK106.out 2).trans rfl
       have hcz16_3 : w3.cell? ⟨gb106, 3, none⟩ = some (.string a0_3) := (bC BK106.out 3).trans rfl
       have hcz16_4 : w3.cell? ⟨gb106, 4, none⟩ = some (.int .i64 a0_4) := (bC BK106.out 4).trans rfl
       have hcz16_5 : w3.cell? ⟨gb106, 5, none⟩ = some (.slice A0_5 l0_5.length c0_5) := (bC BK106.out 5).trans rfl
       have hfz16_0 := bF BK106.out 0
       have hfz16_1 := bF BK106.out 1
       have hfz16_2 := bF BK106.out 2
       have hfz16_3 := bF BK106.out 3
       have hfz16_4 := bF BK106.out 4
       have hfz16_5 := bF BK106.out 5
       go_wp2_with (first | (go_at_call 26; (with_reducible refine (node_hashes.calls a0_0 a0_1 true a0_3 a0_4 _ _ l0_5 true _ ?side1 ?side2 A8.out).mono ?_); (case side1 => repeat (first | exact (Kd.C_below HR0_5.out HB.out) | (with_reducible refine Kd.C_alloc ?_ _) | (with_reducible refine Kd.C_drewN ?_ _) | (with_reducible refine Kd.C_drew ?_))); (case side2 => exact HC0_5.out); rintro e w17 ⟨rfl, hb⟩; have n0_ := A0_.mk (bB (g := gb106) (o := .cells #[.int .i64 a0_0, .string a0_1, .bool true, .string a0_3, .int .i64 a0_4, .slice A0_5 l0_5.length c0_5] 24 (0, 0)) (by (with_reducible repeat (first | refine bN ?_ _ | refine bD ?_ | refine bA ?_ _)); exact BK106.out) hb); have n1_ := A0_.mk (wT (by repeat (first | (with_reducible first | exact HB.out | apply wA | apply pN | apply wD | refine wS ?_ GE106.out) | exact HB.out)) hb); clear BK106; clear HB; have BK106 := n0_; have HB := n1_; clear n0_ n1_; (try clear hb); (try clear hb2); (try clear hk); (try clear hi); have hcz18_0 : w17.cell? ⟨gb106, 0, none⟩ = some (.int .i64 a0_0) := (bC BK106.out 0).trans rfl; have hcz18_1 : w17.cell? ⟨gb106, 1, none⟩ = some (.string a0_1) := (bC BK106.out 1).trans rfl; have hcz18_2 : w17.cell? ⟨gb106, 2, none⟩ = some (.bool true) := (bC BK106.out 2).trans rfl; have hcz18_3 : w17.cell? ⟨gb106, 3, none⟩ = some (.string a0_3) := (bC BK106.out 3).trans rfl; have hcz18_4 : w17.cell? ⟨gb106, 4, none⟩ = some (.int .i64 a0_4) := (bC BK106.out 4).trans rfl; have hcz18_5 : w17.cell? ⟨gb106, 5, none⟩ = some (.slice A0_5 l0_5.length c0_5) := (bC BK106.out 5).trans rfl; have hfz18_0 := bF BK106.out 0; have hfz18_1 := bF BK106.out 1; have hfz18_2 := bF BK106.out 2; have hfz18_3 := bF BK106.out 3; have hfz18_4 := bF BK106.out 4; have hfz18_5 := bF BK106.out 5) | (go_at_call 27; (with_reducible refine (nibble_Good.calls k a0_1 t108 _ A15.out).mono ?_); rintro e w19 ⟨rfl, hb⟩; have n0_ := A0_.mk (bB (g := gb106) (o := .cells #[.int .i64 a0_0, .string a0_1, .bool true, .string a0_3, .int .i64 a0_4, .slice A0_5 l0_5.length c0_5] 24 (0, 0)) (by (with_reducible repeat (first | refine bN ?_ _ | refine bD ?_ | refine bA ?_ _)); exact BK106.out) hb); have n1_ := A0_.mk (wT (by repeat (first | (with_reducible first | exact HB.out | apply wA | apply pN | apply wD | refine wS ?_ GE106.out) | exact HB.out)) hb); clear BK106; clear HB; have BK106 := n0_; have HB := n1_; clear n0_ n1_; (try clear hb); (try clear hb2); (try clear hk); (try clear hi)))
       go_meet
       case rel => exact ⟨_, (!t108), (by first | rfl | (simp; done) | (simp [*]; done)), H', ⟨by first | omega | exact Nat.le_refl _⟩, ⟨by (with_reducible repeat (first | refine bN ?_ _ | refine bD ?_ | refine bA ?_ _)); exact BK106.out⟩, ⟨by repeat (first | (with_reducible first | exact HB.out | apply wA | apply pN | apply wD | refine wS ?_ GE106.out) | exact HB.out)⟩⟩
      ·replace c14 := Bool.eq_false_iff.mpr c14
       subst c14
       have H1 : (if a0_3.toList = ([] : List UInt8) then ((nibble_Good.f k a0_1).bind fun t109 => (node_Good.j0 k (!t109) a0_0 a0_1 false a0_3 a0_4 l0_5)) else (node_Good.j0 k true a0_0 a0_1 false a0_3 a0_4 l0_5)) = some r := by rw [if_neg (show ¬ (false = true) by decide)] at H; exact H
       clear H
       have H := H1
       clear H1
       by_cases c20 : a0_3.toList = ([] : List UInt8)
       ·rw [if_pos c20] at H
        have c20b0 : (a0_3.toList == ([] : List UInt8)) = true := beq_iff_eq.mpr c20
        have c20b1 : (a0_3.toList != ([] : List UInt8)) = false := bne_eq_false_iff_eq.mpr c20
        clear c20
        replace H := Option.bind_eq_some_iff.mp H
        obtain ⟨t109, A210, H⟩ := H
        replace H : (node_Good.j0 k (!t109) a0_0 a0_1 false a0_3 a0_4 l0_5) = some r := H
        have A21 := A0_.mk A210
        clear A210
        have H' := A0_.mk H
        clear H
        have hcz22_0 : w3.cell? ⟨gb106, 0, none⟩ = some (.int .i64 a0_0) := (bC BK106.out 0).trans rfl
        have hcz22_1 : w3.cell? ⟨gb106, 1, none⟩ = some (.string a0_1) := (bC BK106.out 1).trans rfl
        have hcz22_2 : w3.cell? ⟨gb106, 2, none⟩ = some (.bool false) := (bC BK106.out 2).trans rfl
        have hcz22_3 : w3.cell? ⟨gb106, 3, none⟩ = some (.string a0_3) := (bC BK106.out 3).trans rfl
        have hcz22_4 : w3.cell? ⟨gb106, 4, none⟩ = some (.int .i64 a0_4) := (bC BK106.out 4).trans rfl
        have hcz22_5 : w3.cell? ⟨gb106, 5, none⟩ = some (.slice A0_5 l0_5.length c0_5) := (bC BK106.out 5).trans rfl
        have hfz22_0 := bF BK106.out 0
        have hfz22_1 := bF BK106.out 1
        have hfz22_2 := bF BK106.out 2
        have hfz22_3 := bF BK106.out 3
        have hfz22_4 := bF BK106.out 4
        have hfz22_5 := bF BK106.out 5
        go_wp2_with (first | (go_at_call 26; (with_reducible refine (node_hashes.calls a0_0 a0_1 false a0_3 a0_4 _ _ l0_5 true _ ?side1 ?side2 A8.out).mono ?_); (case side1 => repeat (first | exact (Kd.C_below HR0_5.out HB.out) | (with_reducible refine Kd.C_alloc ?_ _) | (with_reducible refine Kd.C_drewN ?_ _) | (with_reducible refine Kd.C_drew ?_))); (case side2 => exact HC0_5.out); rintro e w23 ⟨rfl, hb⟩; have n0_ := A0_.mk (bB (g := gb106) (o := .cells #[.int .i64 a0_0, .string a0_1, .bool false, .string a0_3, .int .i64 a0_4, .slice A0_5 l0_5.length c0_5] 24 (0, 0)) (by (with_reducible repeat (first | refine bN ?_ _ | refine bD ?_ | refine bA ?_ _)); exact BK106.out) hb); have n1_ := A0_.mk (wT (by repeat (first | (with_reducible first | exact HB.out | apply wA | apply pN | apply wD | refine wS ?_ GE106.out) | exact HB.out)) hb); clear BK106; clear HB; have BK106 := n0_; have HB := n1_; clear n0_ n1_; (try clear hb); (try clear hb2); (try clear hk); (try clear hi); have hcz24_0 : w23.cell? ⟨gb106, 0, none⟩ = some (.int .i64 a0_0) := (bC BK106.out 0).trans rfl; have hcz24_1 : w23.cell? ⟨gb106, 1, none⟩ = some (.string a0_1) := (bC BK106.out 1).trans rfl; have hcz24_2 : w23.cell? ⟨gb106, 2, none⟩ = some (.bool false) := (bC BK106.out 2).trans rfl; have hcz24_3 : w23.cell? ⟨gb106, 3, none⟩ = some (.string a0_3) := (bC BK106.out 3).trans rfl; have hcz24_4 : w23.cell? ⟨gb106, 4, none⟩ = some (.int .i64 a0_4) := (bC BK106.out 4).trans rfl; have hcz24_5 : w23.cell? ⟨gb106, 5, none⟩ = some (.slice A0_5 l0_5.length c0_5) := (bC BK106.out 5).trans rfl; have hfz24_0 := bF BK106.out 0; have hfz24_1 := bF BK106.out 1; have hfz24_2 := bF BK106.out 2; have hfz24_3 := bF BK106.out 3; have hfz24_4 := bF BK106.out 4; have hfz24_5 := bF BK106.out 5) | (go_at_call 27; (with_reducible refine (nibble_Good.calls k a0_1 t109 _ A21.out).mono ?_); rintro e w25 ⟨rfl, hb⟩; have n0_ := A0_.mk (bB (g := gb106) (o := .cells #[.int .i64 a0_0, .string a0_1, .bool false, .string a0_3, .int .i64 a0_4, .slice A0_5 l0_5.length c0_5] 24 (0, 0)) (by (with_reducible repeat (first | refine bN ?_ _ | refine bD ?_ | refine bA ?_ _)); exact BK106.out) hb); have n1_ := A0_.mk (wT (by repeat (first | (with_reducible first | exact HB.out | apply wA | apply pN | apply wD | refine wS ?_ GE106.out) | exact HB.out)) hb); clear BK106; clear HB; have BK106 := n0_; have HB := n1_; clear n0_ n1_; (try clear hb); (try clear hb2); (try clear hk); (try clear hi)))
        go_meet
        case rel => exact ⟨_, (!t109), (by first | rfl | (simp; done) | (simp [*]; done)), H', ⟨by first | omega | exact Nat.le_refl _⟩, ⟨by (with_reducible repeat (first | refine bN ?_ _ | refine bD ?_ | refine bA ?_ _)); exact BK106.out⟩, ⟨by repeat (first | (with_reducible first | exact HB.out | apply wA | apply pN | apply wD | refine wS ?_ GE106.out) | exact HB.out)⟩⟩
       ·rw [if_neg c20] at H
        have c20b0 : (a0_3.toList == ([] : List UInt8)) = false := beq_eq_false_iff_ne.mpr c20
        have c20b1 : (a0_3.toList != ([] : List UInt8)) = true := bne_iff_ne.mpr c20
        have H' := A0_.mk H
        clear H
        have hcz26_0 : w3.cell? ⟨gb106, 0, none⟩ = some (.int .i64 a0_0) := (bC BK106.out 0).trans rfl
        have hcz26_1 : w3.cell? ⟨gb106, 1, none⟩ = some (.string a0_1) := (bC BK106.out 1).trans rfl
        have hcz26_2 : w3.cell? ⟨gb106, 2, none⟩ = some (.bool false) := (bC BK106.out 2).trans rfl
        have hcz26_3 : w3.cell? ⟨gb106, 3, none⟩ = some (.string a0_3) := (bC BK106.out 3).trans rfl
        have hcz26_4 : w3.cell? ⟨gb106, 4, none⟩ = some (.int .i64 a0_4) := (bC BK106.out 4).trans rfl
        have hcz26_5 : w3.cell? ⟨gb106, 5, none⟩ = some (.slice A0_5 l0_5.length c0_5) := (bC BK106.out 5).trans rfl
        have hfz26_0 := bF BK106.out 0
        have hfz26_1 := bF BK106.out 1
        have hfz26_2 := bF BK106.out 2
        have hfz26_3 := bF BK106.out 3
        have hfz26_4 := bF BK106.out 4
        have hfz26_5 := bF BK106.out 5
        go_wp2_with (first | (go_at_call 26; (with_reducible refine (node_hashes.calls a0_0 a0_1 false a0_3 a0_4 _ _ l0_5 true _ ?side1 ?side2 A8.out).mono ?_); (case side1 => repeat (first | exact (Kd.C_below HR0_5.out HB.out) | (with_reducible refine Kd.C_alloc ?_ _) | (with_reducible refine Kd.C_drewN ?_ _) | (with_reducible refine Kd.C_drew ?_))); (case side2 => exact HC0_5.out); rintro e w27 ⟨rfl, hb⟩; have n0_ := A0_.mk (bB (g := gb106) (o := .cells #[.int .i64 a0_0, .string a0_1, .bool false, .string a0_3, .int .i64 a0_4, .slice A0_5 l0_5.length c0_5] 24 (0, 0)) (by (with_reducible repeat (first | refine bN ?_ _ | refine bD ?_ | refine bA ?_ _)); exact BK106.out) hb); have n1_ := A0_.mk (wT (by repeat (first | (with_reducible first | exact HB.out | apply wA | apply pN | apply wD | refine wS ?_ GE106.out) | exact HB.out)) hb); clear BK106; clear HB; have BK106 := n0_; have HB := n1_; clear n0_ n1_; (try clear hb); (try clear hb2); (try clear hk); (try clear hi); have hcz28_0 : w27.cell? ⟨gb106, 0, none⟩ = some (.int .i64 a0_0) := (bC BK106.out 0).trans rfl; have hcz28_1 : w27.cell? ⟨gb106, 1, none⟩ = some (.string a0_1) := (bC BK106.out 1).trans rfl; have hcz28_2 : w27.cell? ⟨gb106, 2, none⟩ = some (.bool false) := (bC BK106.out 2).trans rfl; have hcz28_3 : w27.cell? ⟨gb106, 3, none⟩ = some (.string a0_3) := (bC BK106.out 3).trans rfl; have hcz28_4 : w27.cell? ⟨gb106, 4, none⟩ = some (.int .i64 a0_4) := (bC BK106.out 4).trans rfl; have hcz28_5 : w27.cell? ⟨gb106, 5, none⟩ = some (.slice A0_5 l0_5.length c0_5) := (bC BK106.out 5).trans rfl; have hfz28_0 := bF BK106.out 0; have hfz28_1 := bF BK106.out 1; have hfz28_2 := bF BK106.out 2; have hfz28_3 := bF BK106.out 3; have hfz28_4 := bF BK106.out 4; have hfz28_5 := bF BK106.out 5))
        go_meet
        case rel => exact ⟨_, (true), (by first | rfl | (simp; done) | (simp [*]; done)), H', ⟨by first | omega | exact Nat.le_refl _⟩, ⟨by (with_reducible repeat (first | refine bN ?_ _ | refine bD ?_ | refine bA ?_ _)); exact BK106.out⟩, ⟨by repeat (first | (with_reducible first | exact HB.out | apply wA | apply pN | apply wD | refine wS ?_ GE106.out) | exact HB.out)⟩⟩
    ·replace c9 := Bool.eq_false_iff.mpr c9
     subst c9
     have H1 : (node_Good.j0 k true a0_0 a0_1 a0_2 a0_3 a0_4 l0_5) = some r := by rw [if_neg (show ¬ (false = true) by decide)] at H; exact H
     clear H
     have H := H1
     clear H1
     have H' := A0_.mk H
     clear H
     have hcz29_0 : w3.cell? ⟨gb106, 0, none⟩ = some (.int .i64 a0_0) := (bC BK106.out 0).trans rfl
     have hcz29_1 : w3.cell? ⟨gb106, 1, none⟩ = some (.string a0_1) := (bC BK106.out 1).trans rfl
     have hcz29_2 : w3.cell? ⟨gb106, 2, none⟩ = some (.bool a0_2) := (bC BK106.out 2).trans rfl
     have hcz29_3 : w3.cell? ⟨gb106, 3, none⟩ = some (.string a0_3) := (bC BK106.out 3).trans rfl
     have hcz29_4 : w3.cell? ⟨gb106, 4, none⟩ = some (.int .i64 a0_4) := (bC BK106.out 4).trans rfl
     have hcz29_5 : w3.cell? ⟨gb106, 5, none⟩ = some (.slice A0_5 l0_5.length c0_5) := (bC BK106.out 5).trans rfl
     have hfz29_0 := bF BK106.out 0
     have hfz29_1 := bF BK106.out 1
     have hfz29_2 := bF BK106.out 2
     have hfz29_3 := bF BK106.out 3
     have hfz29_4 := bF BK106.out 4
     have hfz29_5 := bF BK106.out 5
     go_wp2_with (first | (go_at_call 26; (with_reducible refine (node_hashes.calls a0_0 a0_1 a0_2 a0_3 a0_4 _ _ l0_5 false _ ?side1 ?side2 A8.out).mono ?_); (case side1 => repeat (first | exact (Kd.C_below HR0_5.out HB.out) | (with_reducible refine Kd.C_alloc ?_ _) | (with_reducible refine Kd.C_drewN ?_ _) | (with_reducible refine Kd.C_drew ?_))); (case side2 => exact HC0_5.out); rintro e w30 ⟨rfl, hb⟩; have n0_ := A0_.mk (bB (g := gb106) (o := .cells #[.int .i64 a0_0, .string a0_1, .bool a0_2, .string a0_3, .int .i64 a0_4, .slice A0_5 l0_5.length c0_5] 24 (0, 0)) (by (with_reducible repeat (first | refine bN ?_ _ | refine bD ?_ | refine bA ?_ _)); exact BK106.out) hb); have n1_ := A0_.mk (wT (by repeat (first | (with_reducible first | exact HB.out | apply wA | apply pN | apply wD | refine wS ?_ GE106.out) | exact HB.out)) hb); clear BK106; clear HB; have BK106 := n0_; have HB := n1_; clear n0_ n1_; (try clear hb); (try clear hb2); (try clear hk); (try clear hi)))
     go_meet
     case rel => exact ⟨_, (true), (by first | rfl | (simp; done) | (simp [*]; done)), H', ⟨by first | omega | exact Nat.le_refl _⟩, ⟨by (with_reducible repeat (first | refine bN ?_ _ | refine bD ?_ | refine bA ?_ _)); exact BK106.out⟩, ⟨by repeat (first | (with_reducible first | exact HB.out | apply wA | apply pN | apply wD | refine wS ?_ GE106.out) | exact HB.out)⟩⟩
 case rest =>
  clear HC2
  try clear c1
  try clear c2
  try clear p2
  try clear c4
  try clear c4b0
  try clear c6
  try clear c6b0
  try clear c9
  try clear c10
  try clear c10b0
  try clear c10b1
  try clear c13
  try clear c14
  try clear c20
  try clear c20b0
  try clear c20b1
  try clear hcz11_0
  try clear hcz11_1
  try clear hcz11_2
  try clear hcz11_3
  try clear hcz11_4
  try clear hcz11_5
  try clear hcz13_0
  try clear hcz13_1
  try clear hcz13_2
  try clear hcz13_3
  try clear hcz13_4
  try clear hcz13_5
  try clear hcz16_0
  try clear hcz16_1
  try clear hcz16_2
  try clear hcz16_3
  try clear hcz16_4
  try clear hcz16_5
  try clear hcz18_0
  try clear hcz18_1
  try clear hcz18_2
  try clear hcz18_3
  try clear hcz18_4
  try clear hcz18_5
  try clear hcz22_0
  try clear hcz22_1
  try clear hcz22_2
  try clear hcz22_3
  try clear hcz22_4
  try clear hcz22_5
  try clear hcz24_0
  try clear hcz24_1
  try clear hcz24_2
  try clear hcz24_3
  try clear hcz24_4
  try clear hcz24_5
  try clear hcz26_0
  try clear hcz26_1
  try clear hcz26_2
  try clear hcz26_3
  try clear hcz26_4
  try clear hcz26_5
  try clear hcz28_0
  try clear hcz28_1
  try clear hcz28_2
  try clear hcz28_3
  try clear hcz28_4
  try clear hcz28_5
  try clear hcz29_0
  try clear hcz29_1
  try clear hcz29_2
  try clear hcz29_3
  try clear hcz29_4
  try clear hcz29_5
  try clear hcz5_0
  try clear hcz5_1
  try clear hcz5_2
  try clear hcz5_3
  try clear hcz5_4
  try clear hcz5_5
  try clear hcz7_0
  try clear hcz7_1
  try clear hcz7_2
  try clear hcz7_3
  try clear hcz7_4
  try clear hcz7_5
  try clear hfz11_0
  try clear hfz11_1
  try clear hfz11_2
  try clear hfz11_3
  try clear hfz11_4
  try clear hfz11_5
  try clear hfz13_0
  try clear hfz13_1
  try clear hfz13_2
  try clear hfz13_3
  try clear hfz13_4
  try clear hfz13_5
  try clear hfz16_0
  try clear hfz16_1
  try clear hfz16_2
  try clear hfz16_3
  try clear hfz16_4
  try clear hfz16_5
  try clear hfz18_0
  try clear hfz18_1
  try clear hfz18_2
  try clear hfz18_3
  try clear hfz18_4
  try clear hfz18_5
  try clear hfz22_0
  try clear hfz22_1
  try clear hfz22_2
  try clear hfz22_3
  try clear hfz22_4
  try clear hfz22_5
  try clear hfz24_0
  try clear hfz24_1
  try clear hfz24_2
  try clear hfz24_3
  try clear hfz24_4
  try clear hfz24_5
  try clear hfz26_0
  try clear hfz26_1
  try clear hfz26_2
  try clear hfz26_3
  try clear hfz26_4
  try clear hfz26_5
  try clear hfz28_0
  try clear hfz28_1
  try clear hfz28_2
  try clear hfz28_3
  try clear hfz28_4
  try clear hfz28_5
  try clear hfz29_0
  try clear hfz29_1
  try clear hfz29_2
  try clear hfz29_3
  try clear hfz29_4
  try clear hfz29_5
  try clear hfz5_0
  try clear hfz5_1
  try clear hfz5_2
  try clear hfz5_3
  try clear hfz5_4
  try clear hfz5_5
  try clear hfz7_0
  try clear hfz7_1
  try clear hfz7_2
  try clear hfz7_3
  try clear hfz7_4
  try clear hfz7_5
  obtain ⟨kq, x38_1, rfl, HA, HJ1, BK106, HB⟩ := hcut
  cases kq with
  | zero => exact absurd HA.out (by simp [node_Good.j0])
  | succ kj1 =>
   have H := HA.out
   clear HA
   simp only [node_Good.j0] at H
   by_cases c31 : x38_1 = true
   ·subst c31
    have H1 : (some false) = some r := by rw [if_pos rfl] at H; exact H
    clear H
    have H := H1
    clear H1
    obtain rfl := Option.some.inj H
    go_wp2
    go_ret
    exact ⟨by first | rfl | (simp [errW_none, errW_some] <;> rfl) | (simp [*, errW_none, errW_some] <;> rfl) | (cases a0_1.toList <;> rfl) | (congr 2; cases a0_1.toList <;> rfl), by repeat (first | (with_reducible first | exact HB.out | apply wA | apply pN | apply wD | refine wS ?_ GE106.out) | exact HB.out)⟩
   ·replace c31 := Bool.eq_false_iff.mpr c31
    subst c31
    have H1 : (if a0_0 = 1 then (some (a0_0 == 1 && (a0_2 && (a0_4 == 0)))) else (if a0_0 = 2 then (if (a0_0 == 2 && (!a0_2 && (a0_3.toList == ([] : List UInt8) && (a0_4 == 1)))) = true then (some (a0_1.toList != ([] : List UInt8))) else (some false)) else (if a0_0 = 3 then (if a0_1.toList = ([] : List UInt8) then (if (l0_5.length : Int) > 1 then (some true) else (if a0_2 = true then (some (decide ((l0_5.length : Int) > 0))) else (some false))) else (some false)) else (some false)))) = some r := by rw [if_neg (show ¬ (false = true) by decide)] at H; exact H
    clear H
    have H := H1
    clear H1
    by_cases c32 : a0_0 = 1
    ·rw [if_pos c32] at H
     have c32b0 : (a0_0 == 1) = true := beq_iff_eq.mpr c32
     have c32b1 : (a0_0 != 1) = false := bne_eq_false_iff_eq.mpr c32
     clear c32
     obtain rfl := Option.some.inj H
     have hcz33_0 : wc.cell? ⟨gb106, 0, none⟩ = some (.int .i64 a0_0) := (bC BK106.out 0).trans rfl
     have hcz33_1 : wc.cell? ⟨gb106, 1, none⟩ = some (.string a0_1) := (bC BK106.out 1).trans rfl
     have hcz33_2 : wc.cell? ⟨gb106, 2, none⟩ = some (.bool a0_2) := (bC BK106.out 2).trans rfl
     have hcz33_3 : wc.cell? ⟨gb106, 3, none⟩ = some (.string a0_3) := (bC BK106.out 3).trans rfl
     have hcz33_4 : wc.cell? ⟨gb106, 4, none⟩ = some (.int .i64 a0_4) := (bC BK106.out 4).trans rfl
     have hcz33_5 : wc.cell? ⟨gb106, 5, none⟩ = some (.slice A0_5 l0_5.length c0_5) := (bC BK106.out 5).trans rfl
     have hfz33_0 := bF BK106.out 0
     have hfz33_1 := bF BK106.out 1
     have hfz33_2 := bF BK106.out 2
     have hfz33_3 := bF BK106.out 3
     have hfz33_4 := bF BK106.out 4
     have hfz33_5 := bF BK106.out 5
     go_wp2_with (first | ((with_reducible refine gD (N := 3) rfl ?_); (try (refine gG (by rfl) ?_; dsimp only)); refine xE ?hg (N := 3) ?hd (cs := #[.int .i64 0, .string (⟨#[]⟩ : ByteArray), .bool false, .string (⟨#[]⟩ : ByteArray), .int .i64 0]) (t := 52) ?hr ?_; (case hd => rfl); (case hg => rfl); (case hr => first | (go_simp; done) | (go_simp; rfl)); intro gb110 hg w34 hbox hb; have n0_ := A0_.mk (bB (g := gb106) (o := .cells #[.int .i64 a0_0, .string a0_1, .bool a0_2, .string a0_3, .int .i64 a0_4, .slice A0_5 l0_5.length c0_5] 24 (0, 0)) (by (with_reducible repeat (first | refine bN ?_ _ | refine bD ?_ | refine bA ?_ _)); exact BK106.out) hb); have n1_ := A0_.mk (wT (by repeat (first | (with_reducible first | exact HB.out | apply wA | apply pN | apply wD | refine wS ?_ GE106.out) | exact HB.out)) hb); have n2_ := A0_.mk (hbox); have n3_ := A0_.mk ((by rw [hg]; exact (wZ (by repeat (first | (with_reducible first | exact HB.out | apply wA | apply pN | apply wD | refine wS ?_ GE106.out) | exact HB.out))) : w.heap.size ≤ gb110)); have n4_ := A0_.mk ((by rw [hg]; exact (wZ (by repeat (first | (with_reducible first | exact HB.out | apply wA | apply pN | apply wD | refine wS ?_ GE106.out) | exact HB.out))) : w.heap.size ≤ gb110)); have n5_ := A0_.mk ((by rw [hg]; exact Nat.ne_of_lt (bL (g := gb106) (o := .cells #[.int .i64 a0_0, .string a0_1, .bool a0_2, .string a0_3, .int .i64 a0_4, .slice A0_5 l0_5.length c0_5] 24 (0, 0)) (by (with_reducible repeat (first | refine bN ?_ _ | refine bD ?_ | refine bA ?_ _)); exact BK106.out)) : gb106 ≠ gb110)); have n6_ := A0_.mk ((by rw [hg]; exact Nat.ne_of_gt (bL (g := gb106) (o := .cells #[.int .i64 a0_0, .string a0_1, .bool a0_2, .string a0_3, .int .i64 a0_4, .slice A0_5 l0_5.length c0_5] 24 (0, 0)) (by (with_reducible repeat (first | refine bN ?_ _ | refine bD ?_ | refine bA ?_ _)); exact BK106.out)) : gb110 ≠ gb106)); clear BK106; clear HB; have BK106 := n0_; have HB := n1_; have BK110 := n2_; have GW110 := n3_; have GE110 := n4_; have NB106_110 := n5_; have NB110_106 := n6_; clear n0_ n1_ n2_ n3_ n4_ n5_ n6_; clear hb hbox hg; have hnb35 := NB110_106.out; have hnc35 := NB106_110.out; have hcz36_0 : w34.cell? ⟨gb110, 0, none⟩ = some (.int .i64 0) := (bC BK110.out 0).trans rfl; have hcz36_1 : w34.cell? ⟨gb110, 1, none⟩ = some (.string (⟨#[]⟩ : ByteArray)) := (bC BK110.out 1).trans rfl; have hcz36_2 : w34.cell? ⟨gb110, 2, none⟩ = some (.bool false) := (bC BK110.out 2).trans rfl; have hcz36_3 : w34.cell? ⟨gb110, 3, none⟩ = some (.string (⟨#[]⟩ : ByteArray)) := (bC BK110.out 3).trans rfl; have hcz36_4 : w34.cell? ⟨gb110, 4, none⟩ = some (.int .i64 0) := (bC BK110.out 4).trans rfl; have hfz36_0 := bF BK110.out 0; have hfz36_1 := bF BK110.out 1; have hfz36_2 := bF BK110.out 2; have hfz36_3 := bF BK110.out 3; have hfz36_4 := bF BK110.out 4; have hcz37_0 : w34.cell? ⟨gb106, 0, none⟩ = some (.int .i64 a0_0) := (bC BK106.out 0).trans rfl; have hcz37_1 : w34.cell? ⟨gb106, 1, none⟩ = some (.string a0_1) := (bC BK106.out 1).trans rfl; have hcz37_2 : w34.cell? ⟨gb106, 2, none⟩ = some (.bool a0_2) := (bC BK106.out 2).trans rfl; have hcz37_3 : w34.cell? ⟨gb106, 3, none⟩ = some (.string a0_3) := (bC BK106.out 3).trans rfl; have hcz37_4 : w34.cell? ⟨gb106, 4, none⟩ = some (.int .i64 a0_4) := (bC BK106.out 4).trans rfl; have hcz37_5 : w34.cell? ⟨gb106, 5, none⟩ = some (.slice A0_5 l0_5.length c0_5) := (bC BK106.out 5).trans rfl; have hfz37_0 := bF BK106.out 0; have hfz37_1 := bF BK106.out 1; have hfz37_2 := bF BK106.out 2; have hfz37_3 := bF BK106.out 3; have hfz37_4 := bF BK106.out 4; have hfz37_5 := bF BK106.out 5))
     go_ret
     exact ⟨by first | rfl | (simp [errW_none, errW_some] <;> rfl) | (simp [*, errW_none, errW_some] <;> rfl) | (cases a0_1.toList <;> rfl) | (congr 2; cases a0_1.toList <;> rfl), by repeat (first | (with_reducible first | exact HB.out | apply wA | apply pN | apply wD | refine wS ?_ GE106.out | refine wS ?_ GE110.out) | exact HB.out)⟩
    ·rw [if_neg c32] at H
     have c32b0 : (a0_0 == 1) = false := beq_eq_false_iff_ne.mpr c32
     have c32b1 : (a0_0 != 1) = true := bne_iff_ne.mpr c32
     by_cases c38 : a0_0 = 2
     ·rw [if_pos c38] at H
      have c38b0 : (a0_0 == 2) = true := beq_iff_eq.mpr c38
      have c38b1 : (a0_0 != 2) = false := bne_eq_false_iff_eq.mpr c38
      clear c38
      by_cases c39 : (a0_0 == 2 && (!a0_2 && (a0_3.toList == ([] : List UInt8) && (a0_4 == 1)))) = true
      ·rw [if_pos c39] at H
       have c39b0 : (a0_0 == 2 && (!a0_2 && (a0_3.toList == ([] : List UInt8) && (a0_4 == 1)))) = true := c39
       (try (have c39b1 : decide (a0_0 = 2 && (!a0_2 && (a0_3.toList == ([] : List UInt8) && (a0_4 == 1)))) = true := by simpa using c39))
       (try (have c39b2 : (a0_0 == 2 && (!a0_2 && (a0_3.toList == ([] : List UInt8) && (a0_4 == 1)))) = true := by simpa using c39))
       clear c39
       obtain rfl := Option.some.inj H
       have hcz40_0 : wc.cell? ⟨gb106, 0, none⟩ = some (.int .i64 a0_0) := (bC BK106.out 0).trans rfl
       have hcz40_1 : wc.cell? ⟨gb106, 1, none⟩ = some (.string a0_1) := (bC BK106.out 1).trans rfl
       have hcz40_2 : wc.cell? ⟨gb106, 2, none⟩ = some (.bool a0_2) := (bC BK106.out 2).trans rfl
       have hcz40_3 : wc.cell? ⟨gb106, 3, none⟩ = some (.string a0_3) := (bC BK106.out 3).trans rfl
       have hcz40_4 : wc.cell? ⟨gb106, 4, none⟩ = some (.int .i64 a0_4) := (bC BK106.out 4).trans rfl
       have hcz40_5 : wc.cell? ⟨gb106, 5, none⟩ = some (.slice A0_5 l0_5.length c0_5) := (bC BK106.out 5).trans rfl
       have hfz40_0 := bF BK106.out 0
       have hfz40_1 := bF BK106.out 1
       have hfz40_2 := bF BK106.out 2
       have hfz40_3 := bF BK106.out 3
       have hfz40_4 := bF BK106.out 4
       have hfz40_5 := bF BK106.out 5
       go_wp2_with (first | ((with_reducible refine gD (N := 3) rfl ?_); (try (refine gG (by rfl) ?_; dsimp only)); refine xE ?hg (N := 3) ?hd (cs := #[.int .i64 0, .string (⟨#[]⟩ : ByteArray), .bool false, .string (⟨#[]⟩ : ByteArray), .int .i64 0]) (t := 52) ?hr ?_; (case hd => rfl); (case hg => rfl); (case hr => first | (go_simp; done) | (go_simp; rfl)); intro gb110 hg w41 hbox hb; have n0_ := A0_.mk (bB (g := gb106) (o := .cells #[.int .i64 a0_0, .string a0_1, .bool a0_2, .string a0_3, .int .i64 a0_4, .slice A0_5 l0_5.length c0_5] 24 (0, 0)) (by (with_reducible repeat (first | refine bN ?_ _ | refine bD ?_ | refine bA ?_ _)); exact BK106.out) hb); have n1_ := A0_.mk (wT (by repeat (first | (with_reducible first | exact HB.out | apply wA | apply pN | apply wD | refine wS ?_ GE106.out) | exact HB.out)) hb); have n2_ := A0_.mk (hbox); have n3_ := A0_.mk ((by rw [hg]; exact (wZ (by repeat (first | (with_reducible first | exact HB.out | apply wA | apply pN | apply wD | refine wS ?_ GE106.out) | exact HB.out))) : w.heap.size ≤ gb110)); have n4_ := A0_.mk ((by rw [hg]; exact (wZ (by repeat (first | (with_reducible first | exact HB.out | apply wA | apply pN | apply wD | refine wS ?_ GE106.out) | exact HB.out))) : w.heap.size ≤ gb110)); have n5_ := A0_.mk ((by rw [hg]; exact Nat.ne_of_lt (bL (g := gb106) (o := .cells #[.int .i64 a0_0, .string a0_1, .bool a0_2, .string a0_3, .int .i64 a0_4, .slice A0_5 l0_5.length c0_5] 24 (0, 0)) (by (with_reducible repeat (first | refine bN ?_ _ | refine bD ?_ | refine bA ?_ _)); exact BK106.out)) : gb106 ≠ gb110)); have n6_ := A0_.mk ((by rw [hg]; exact Nat.ne_of_gt (bL (g := gb106) (o := .cells #[.int .i64 a0_0, .string a0_1, .bool a0_2, .string a0_3, .int .i64 a0_4, .slice A0_5 l0_5.length c0_5] 24 (0, 0)) (by (with_reducible repeat (first | refine bN ?_ _ | refine bD ?_ | refine bA ?_ _)); exact BK106.out)) : gb110 ≠ gb106)); clear BK106; clear HB; have BK106 := n0_; have HB := n1_; have BK110 := n2_; have GW110 := n3_; have GE110 := n4_; have NB106_110 := n5_; have NB110_106 := n6_; clear n0_ n1_ n2_ n3_ n4_ n5_ n6_; clear hb hbox hg; have hnb42 := NB110_106.out; have hnc42 := NB106_110.out; have hcz43_0 : w41.cell? ⟨gb110, 0, none⟩ = some (.int .i64 0) := (bC BK110.out 0).trans rfl; have hcz43_1 : w41.cell? ⟨gb110, 1, none⟩ = some (.string (⟨#[]⟩ : ByteArray)) := (bC BK110.out 1).trans rfl; have hcz43_2 : w41.cell? ⟨gb110, 2, none⟩ = some (.bool false) := (bC BK110.out 2).trans rfl; have hcz43_3 : w41.cell? ⟨gb110, 3, none⟩ = some (.string (⟨#[]⟩ : ByteArray)) := (bC BK110.out 3).trans rfl; have hcz43_4 : w41.cell? ⟨gb110, 4, none⟩ = some (.int .i64 0) := (bC BK110.out 4).trans rfl; have hfz43_0 := bF BK110.out 0; have hfz43_1 := bF BK110.out 1; have hfz43_2 := bF BK110.out 2; have hfz43_3 := bF BK110.out 3; have hfz43_4 := bF BK110.out 4; have hcz44_0 : w41.cell? ⟨gb106, 0, none⟩ = some (.int .i64 a0_0) := (bC BK106.out 0).trans rfl; have hcz44_1 : w41.cell? ⟨gb106, 1, none⟩ = some (.string a0_1) := (bC BK106.out 1).trans rfl; have hcz44_2 : w41.cell? ⟨gb106, 2, none⟩ = some (.bool a0_2) := (bC BK106.out 2).trans rfl; have hcz44_3 : w41.cell? ⟨gb106, 3, none⟩ = some (.string a0_3) := (bC BK106.out 3).trans rfl; have hcz44_4 : w41.cell? ⟨gb106, 4, none⟩ = some (.int .i64 a0_4) := (bC BK106.out 4).trans rfl; have hcz44_5 : w41.cell? ⟨gb106, 5, none⟩ = some (.slice A0_5 l0_5.length c0_5) := (bC BK106.out 5).trans rfl; have hfz44_0 := bF BK106.out 0; have hfz44_1 := bF BK106.out 1; have hfz44_2 := bF BK106.out 2; have hfz44_3 := bF BK106.out 3; have hfz44_4 := bF BK106.out 4; have hfz44_5 := bF BK106.out 5))
       rotate_left
       ·rename_i hz_; exfalso; have q_ := c39b0; simp at q_; exact hz_ ⟨q_.2.1, q_.2.2.1, q_.2.2.2⟩
       go_ret
       exact ⟨by first | rfl | (simp [errW_none, errW_some] <;> rfl) | (simp [*, errW_none, errW_some] <;> rfl) | (cases a0_1.toList <;> rfl) | (congr 2; cases a0_1.toList <;> rfl), by repeat (first | (with_reducible first | exact HB.out | apply wA | apply pN | apply wD | refine wS ?_ GE106.out | refine wS ?_ GE110.out) | exact HB.out)⟩
      ·rw [if_neg c39] at H
       have c39b0 : (a0_0 == 2 && (!a0_2 && (a0_3.toList == ([] : List UInt8) && (a0_4 == 1)))) = false := by simpa using c39
       (try (have c39b1 : decide (a0_0 = 2 && (!a0_2 && (a0_3.toList == ([] : List UInt8) && (a0_4 == 1)))) = false := by simpa using c39))
       (try (have c39b2 : (a0_0 == 2 && (!a0_2 && (a0_3.toList == ([] : List UInt8) && (a0_4 == 1)))) = false := by simpa using c39))
       (try (have c39b3 : ¬ (a0_0 = 2 && (!a0_2 && (a0_3.toList == ([] : List UInt8) && (a0_4 == 1)))) := by simpa using c39))
       clear c39
       obtain rfl := Option.some.inj H
       have hcz45_0 : wc.cell? ⟨gb106, 0, none⟩ = some (.int .i64 a0_0) := (bC BK106.out 0).trans rfl
       have hcz45_1 : wc.cell? ⟨gb106, 1, none⟩ = some (.string a0_1) := (bC BK106.out 1).trans rfl
       have hcz45_2 : wc.cell? ⟨gb106, 2, none⟩ = some (.bool a0_2) := (bC BK106.out 2).trans rfl
       have hcz45_3 : wc.cell? ⟨gb106, 3, none⟩ = some (.string a0_3) := (bC BK106.out 3).trans rfl
       have hcz45_4 : wc.cell? ⟨gb106, 4, none⟩ = some (.int .i64 a0_4) := (bC BK106.out 4).trans rfl
       have hcz45_5 : wc.cell? ⟨gb106, 5, none⟩ = some (.slice A0_5 l0_5.length c0_5) := (bC BK106.out 5).trans rfl
       have hfz45_0 := bF BK106.out 0
       have hfz45_1 := bF BK106.out 1
       have hfz45_2 := bF BK106.out 2
       have hfz45_3 := bF BK106.out 3
       have hfz45_4 := bF BK106.out 4
       have hfz45_5 := bF BK106.out 5
       go_wp2_with (first | ((with_reducible refine gD (N := 3) rfl ?_); (try (refine gG (by rfl) ?_; dsimp only)); refine xE ?hg (N := 3) ?hd (cs := #[.int .i64 0, .string (⟨#[]⟩ : ByteArray), .bool false, .string (⟨#[]⟩ : ByteArray), .int .i64 0]) (t := 52) ?hr ?_; (case hd => rfl); (case hg => rfl); (case hr => first | (go_simp; done) | (go_simp; rfl)); intro gb110 hg w46 hbox hb; have n0_ := A0_.mk (bB (g := gb106) (o := .cells #[.int .i64 a0_0, .string a0_1, .bool a0_2, .string a0_3, .int .i64 a0_4, .slice A0_5 l0_5.length c0_5] 24 (0, 0)) (by (with_reducible repeat (first | refine bN ?_ _ | refine bD ?_ | refine bA ?_ _)); exact BK106.out) hb); have n1_ := A0_.mk (wT (by repeat (first | (with_reducible first | exact HB.out | apply wA | apply pN | apply wD | refine wS ?_ GE106.out) | exact HB.out)) hb); have n2_ := A0_.mk (hbox); have n3_ := A0_.mk ((by rw [hg]; exact (wZ (by repeat (first | (with_reducible first | exact HB.out | apply wA | apply pN | apply wD | refine wS ?_ GE106.out) | exact HB.out))) : w.heap.size ≤ gb110)); have n4_ := A0_.mk ((by rw [hg]; exact (wZ (by repeat (first | (with_reducible first | exact HB.out | apply wA | apply pN | apply wD | refine wS ?_ GE106.out) | exact HB.out))) : w.heap.size ≤ gb110)); have n5_ := A0_.mk ((by rw [hg]; exact Nat.ne_of_lt (bL (g := gb106) (o := .cells #[.int .i64 a0_0, .string a0_1, .bool a0_2, .string a0_3, .int .i64 a0_4, .slice A0_5 l0_5.length c0_5] 24 (0, 0)) (by (with_reducible repeat (first | refine bN ?_ _ | refine bD ?_ | refine bA ?_ _)); exact BK106.out)) : gb106 ≠ gb110)); have n6_ := A0_.mk ((by rw [hg]; exact Nat.ne_of_gt (bL (g := gb106) (o := .cells #[.int .i64 a0_0, .string a0_1, .bool a0_2, .string a0_3, .int .i64 a0_4, .slice A0_5 l0_5.length c0_5] 24 (0, 0)) (by (with_reducible repeat (first | refine bN ?_ _ | refine bD ?_ | refine bA ?_ _)); exact BK106.out)) : gb110 ≠ gb106)); clear BK106; clear HB; have BK106 := n0_; have HB := n1_; have BK110 := n2_; have GW110 := n3_; have GE110 := n4_; have NB106_110 := n5_; have NB110_106 := n6_; clear n0_ n1_ n2_ n3_ n4_ n5_ n6_; clear hb hbox hg; have hnb47 := NB110_106.out; have hnc47 := NB106_110.out; have hcz48_0 : w46.cell? ⟨gb110, 0, none⟩ = some (.int .i64 0) := (bC BK110.out 0).trans rfl; have hcz48_1 : w46.cell? ⟨gb110, 1, none⟩ = some (.string (⟨#[]⟩ : ByteArray)) := (bC BK110.out 1).trans rfl; have hcz48_2 : w46.cell? ⟨gb110, 2, none⟩ = some (.bool false) := (bC BK110.out 2).trans rfl; have hcz48_3 : w46.cell? ⟨gb110, 3, none⟩ = some (.string (⟨#[]⟩ : ByteArray)) := (bC BK110.out 3).trans rfl; have hcz48_4 : w46.cell? ⟨gb110, 4, none⟩ = some (.int .i64 0) := (bC BK110.out 4).trans rfl; have hfz48_0 := bF BK110.out 0; have hfz48_1 := bF BK110.out 1; have hfz48_2 := bF BK110.out 2; have hfz48_3 := bF BK110.out 3; have hfz48_4 := bF BK110.out 4; have hcz49_0 : w46.cell? ⟨gb106, 0, none⟩ = some (.int .i64 a0_0) := (bC BK106.out 0).trans rfl; have hcz49_1 : w46.cell? ⟨gb106, 1, none⟩ = some (.string a0_1) := (bC BK106.out 1).trans rfl; have hcz49_2 : w46.cell? ⟨gb106, 2, none⟩ = some (.bool a0_2) := (bC BK106.out 2).trans rfl; have hcz49_3 : w46.cell? ⟨gb106, 3, none⟩ = some (.string a0_3) := (bC BK106.out 3).trans rfl; have hcz49_4 : w46.cell? ⟨gb106, 4, none⟩ = some (.int .i64 a0_4) := (bC BK106.out 4).trans rfl; have hcz49_5 : w46.cell? ⟨gb106, 5, none⟩ = some (.slice A0_5 l0_5.length c0_5) := (bC BK106.out 5).trans rfl; have hfz49_0 := bF BK106.out 0; have hfz49_1 := bF BK106.out 1; have hfz49_2 := bF BK106.out 2; have hfz49_3 := bF BK106.out 3; have hfz49_4 := bF BK106.out 4; have hfz49_5 := bF BK106.out 5))
       ·rename_i hz_; exfalso; have q1_ := beq_iff_eq.1 c38b0; exact absurd c39b0 (by simp [q1_, hz_.1, hz_.2.1, hz_.2.2])
       go_ret
       exact ⟨by first | rfl | (simp [errW_none, errW_some] <;> rfl) | (simp [*, errW_none, errW_some] <;> rfl) | (cases a0_1.toList <;> rfl) | (congr 2; cases a0_1.toList <;> rfl), by repeat (first | (with_reducible first | exact HB.out | apply wA | apply pN | apply wD | refine wS ?_ GE106.out | refine wS ?_ GE110.out) | exact HB.out)⟩
     ·rw [if_neg c38] at H
      have c38b0 : (a0_0 == 2) = false := beq_eq_false_iff_ne.mpr c38
      have c38b1 : (a0_0 != 2) = true := bne_iff_ne.mpr c38
      by_cases c50 : a0_0 = 3
      ·rw [if_pos c50] at H
       have c50b0 : (a0_0 == 3) = true := beq_iff_eq.mpr c50
       have c50b1 : (a0_0 != 3) = false := bne_eq_false_iff_eq.mpr c50
       clear c50
       by_cases c51 : a0_1.toList = ([] : List UInt8)
       ·rw [if_pos c51] at H
        have c51b0 : (a0_1.toList == ([] : List UInt8)) = true := beq_iff_eq.mpr c51
        have c51b1 : (a0_1.toList != ([] : List UInt8)) = false := bne_eq_false_iff_eq.mpr c51
        clear c51
        by_cases c52 : (l0_5.length : Int) > 1
        ·rw [if_pos c52] at H
         have c52b0 : decide (1 < (l0_5.length : Int)) = true := decide_eq_true c52
         have c52b1 : decide (1 < l0_5.length) = true := decide_eq_true (by omega)
         clear c52
         obtain rfl := Option.some.inj H
         have hcz53_0 : wc.cell? ⟨gb106, 0, none⟩ = some (.int .i64 a0_0) := (bC BK106.out 0).trans rfl
         have hcz53_1 : wc.cell? ⟨gb106, 1, none⟩ = some (.string a0_1) := (bC BK106.out 1).trans rfl
         have hcz53_2 : wc.cell? ⟨gb106, 2, none⟩ = some (.bool a0_2) := (bC BK106.out 2).trans rfl
         have hcz53_3 : wc.cell? ⟨gb106, 3, none⟩ = some (.string a0_3) := (bC BK106.out 3).trans rfl
         have hcz53_4 : wc.cell? ⟨gb106, 4, none⟩ = some (.int .i64 a0_4) := (bC BK106.out 4).trans rfl
         have hcz53_5 : wc.cell? ⟨gb106, 5, none⟩ = some (.slice A0_5 l0_5.length c0_5) := (bC BK106.out 5).trans rfl
         have hfz53_0 := bF BK106.out 0
         have hfz53_1 := bF BK106.out 1
         have hfz53_2 := bF BK106.out 2
         have hfz53_3 := bF BK106.out 3
         have hfz53_4 := bF BK106.out 4
         have hfz53_5 := bF BK106.out 5
         go_wp2_with (first | ((with_reducible refine gD (N := 3) rfl ?_); (try (refine gG (by rfl) ?_; dsimp only)); refine xE ?hg (N := 3) ?hd (cs := #[.int .i64 0, .string (⟨#[]⟩ : ByteArray), .bool false, .string (⟨#[]⟩ : ByteArray), .int .i64 0]) (t := 52) ?hr ?_; (case hd => rfl); (case hg => rfl); (case hr => first | (go_simp; done) | (go_simp; rfl)); intro gb110 hg w54 hbox hb; have n0_ := A0_.mk (bB (g := gb106) (o := .cells #[.int .i64 a0_0, .string a0_1, .bool a0_2, .string a0_3, .int .i64 a0_4, .slice A0_5 l0_5.length c0_5] 24 (0, 0)) (by (with_reducible repeat (first | refine bN ?_ _ | refine bD ?_ | refine bA ?_ _)); exact BK106.out) hb); have n1_ := A0_.mk (wT (by repeat (first | (with_reducible first | exact HB.out | apply wA | apply pN | apply wD | refine wS ?_ GE106.out) | exact HB.out)) hb); have n2_ := A0_.mk (hbox); have n3_ := A0_.mk ((by rw [hg]; exact (wZ (by repeat (first | (with_reducible first | exact HB.out | apply wA | apply pN | apply wD | refine wS ?_ GE106.out) | exact HB.out))) : w.heap.size ≤ gb110)); have n4_ := A0_.mk ((by rw [hg]; exact (wZ (by repeat (first | (with_reducible first | exact HB.out | apply wA | apply pN | apply wD | refine wS ?_ GE106.out) | exact HB.out))) : w.heap.size ≤ gb110)); have n5_ := A0_.mk ((by rw [hg]; exact Nat.ne_of_lt (bL (g := gb106) (o := .cells #[.int .i64 a0_0, .string a0_1, .bool a0_2, .string a0_3, .int .i64 a0_4, .slice A0_5 l0_5.length c0_5] 24 (0, 0)) (by (with_reducible repeat (first | refine bN ?_ _ | refine bD ?_ | refine bA ?_ _)); exact BK106.out)) : gb106 ≠ gb110)); have n6_ := A0_.mk ((by rw [hg]; exact Nat.ne_of_gt (bL (g := gb106) (o := .cells #[.int .i64 a0_0, .string a0_1, .bool a0_2, .string a0_3, .int .i64 a0_4, .slice A0_5 l0_5.length c0_5] 24 (0, 0)) (by (with_reducible repeat (first | refine bN ?_ _ | refine bD ?_ | refine bA ?_ _)); exact BK106.out)) : gb110 ≠ gb106)); clear BK106; clear HB; have BK106 := n0_; have HB := n1_; have BK110 := n2_; have GW110 := n3_; have GE110 := n4_; have NB106_110 := n5_; have NB110_106 := n6_; clear n0_ n1_ n2_ n3_ n4_ n5_ n6_; clear hb hbox hg; have hnb55 := NB110_106.out; have hnc55 := NB106_110.out; have hcz56_0 : w54.cell? ⟨gb110, 0, none⟩ = some (.int .i64 0) := (bC BK110.out 0).trans rfl; have hcz56_1 : w54.cell? ⟨gb110, 1, none⟩ = some (.string (⟨#[]⟩ : ByteArray)) := (bC BK110.out 1).trans rfl; have hcz56_2 : w54.cell? ⟨gb110, 2, none⟩ = some (.bool false) := (bC BK110.out 2).trans rfl; have hcz56_3 : w54.cell? ⟨gb110, 3, none⟩ = some (.string (⟨#[]⟩ : ByteArray)) := (bC BK110.out 3).trans rfl; have hcz56_4 : w54.cell? ⟨gb110, 4, none⟩ = some (.int .i64 0) := (bC BK110.out 4).trans rfl; have hfz56_0 := bF BK110.out 0; have hfz56_1 := bF BK110.out 1; have hfz56_2 := bF BK110.out 2; have hfz56_3 := bF BK110.out 3; have hfz56_4 := bF BK110.out 4; have hcz57_0 : w54.cell? ⟨gb106, 0, none⟩ = some (.int .i64 a0_0) := (bC BK106.out 0).trans rfl; have hcz57_1 : w54.cell? ⟨gb106, 1, none⟩ = some (.string a0_1) := (bC BK106.out 1).trans rfl; have hcz57_2 : w54.cell? ⟨gb106, 2, none⟩ = some (.bool a0_2) := (bC BK106.out 2).trans rfl; have hcz57_3 : w54.cell? ⟨gb106, 3, none⟩ = some (.string a0_3) := (bC BK106.out 3).trans rfl; have hcz57_4 : w54.cell? ⟨gb106, 4, none⟩ = some (.int .i64 a0_4) := (bC BK106.out 4).trans rfl; have hcz57_5 : w54.cell? ⟨gb106, 5, none⟩ = some (.slice A0_5 l0_5.length c0_5) := (bC BK106.out 5).trans rfl; have hfz57_0 := bF BK106.out 0; have hfz57_1 := bF BK106.out 1; have hfz57_2 := bF BK106.out 2; have hfz57_3 := bF BK106.out 3; have hfz57_4 := bF BK106.out 4; have hfz57_5 := bF BK106.out 5))
         go_ret
         exact ⟨by first | rfl | (simp [errW_none, errW_some] <;> rfl) | (simp [*, errW_none, errW_some] <;> rfl) | (cases a0_1.toList <;> rfl) | (congr 2; cases a0_1.toList <;> rfl), by repeat (first | (with_reducible first | exact HB.out | apply wA | apply pN | apply wD | refine wS ?_ GE106.out | refine wS ?_ GE110.out) | exact HB.out)⟩
        ·rw [if_neg c52] at H
         have c52b0 : decide (1 < (l0_5.length : Int)) = false := decide_eq_false c52
         have c52b1 : decide (1 < l0_5.length) = false := decide_eq_false (by omega)
         clear c52
         by_cases c58 : a0_2 = true
         ·subst c58
          have H1 : (some (decide ((l0_5.length : Int) > 0))) = some r := by rw [if_pos rfl] at H; exact H
          clear H
          have H := H1
          clear H1
          obtain rfl := Option.some.inj H
          have hcz59_0 : wc.cell? ⟨gb106, 0, none⟩ = some (.int .i64 a0_0) := (bC BK106.out 0).trans rfl
          have hcz59_1 : wc.cell? ⟨gb106, 1, none⟩ = some (.string a0_1) := (bC BK106.out 1).trans rfl
          have hcz59_2 : wc.cell? ⟨gb106, 2, none⟩ = some (.bool true) := (bC BK106.out 2).trans rfl
          have hcz59_3 : wc.cell? ⟨gb106, 3, none⟩ = some (.string a0_3) := (bC BK106.out 3).trans rfl
          have hcz59_4 : wc.cell? ⟨gb106, 4, none⟩ = some (.int .i64 a0_4) := (bC BK106.out 4).trans rfl
          have hcz59_5 : wc.cell? ⟨gb106, 5, none⟩ = some (.slice A0_5 l0_5.length c0_5) := (bC BK106.out 5).trans rfl
          have hfz59_0 := bF BK106.out 0
          have hfz59_1 := bF BK106.out 1
          have hfz59_2 := bF BK106.out 2
          have hfz59_3 := bF BK106.out 3
          have hfz59_4 := bF BK106.out 4
          have hfz59_5 := bF BK106.out 5
          go_wp2_with (first | ((with_reducible refine gD (N := 3) rfl ?_); (try (refine gG (by rfl) ?_; dsimp only)); refine xE ?hg (N := 3) ?hd (cs := #[.int .i64 0, .string (⟨#[]⟩ : ByteArray), .bool false, .string (⟨#[]⟩ : ByteArray), .int .i64 0]) (t := 52) ?hr ?_; (case hd => rfl); (case hg => rfl); (case hr => first | (go_simp; done) | (go_simp; rfl)); intro gb110 hg w60 hbox hb; have n0_ := A0_.mk (bB (g := gb106) (o := .cells #[.int .i64 a0_0, .string a0_1, .bool true, .string a0_3, .int .i64 a0_4, .slice A0_5 l0_5.length c0_5] 24 (0, 0)) (by (with_reducible repeat (first | refine bN ?_ _ | refine bD ?_ | refine bA ?_ _)); exact BK106.out) hb); have n1_ := A0_.mk (wT (by repeat (first | (with_reducible first | exact HB.out | apply wA | apply pN | apply wD | refine wS ?_ GE106.out) | exact HB.out)) hb); have n2_ := A0_.mk (hbox); have n3_ := A0_.mk ((by rw [hg]; exact (wZ (by repeat (first | (with_reducible first | exact HB.out | apply wA | apply pN | apply wD | refine wS ?_ GE106.out) | exact HB.out))) : w.heap.size ≤ gb110)); have n4_ := A0_.mk ((by rw [hg]; exact (wZ (by repeat (first | (with_reducible first | exact HB.out | apply wA | apply pN | apply wD | refine wS ?_ GE106.out) | exact HB.out))) : w.heap.size ≤ gb110)); have n5_ := A0_.mk ((by rw [hg]; exact Nat.ne_of_lt (bL (g := gb106) (o := .cells #[.int .i64 a0_0, .string a0_1, .bool true, .string a0_3, .int .i64 a0_4, .slice A0_5 l0_5.length c0_5] 24 (0, 0)) (by (with_reducible repeat (first | refine bN ?_ _ | refine bD ?_ | refine bA ?_ _)); exact BK106.out)) : gb106 ≠ gb110)); have n6_ := A0_.mk ((by rw [hg]; exact Nat.ne_of_gt (bL (g := gb106) (o := .cells #[.int .i64 a0_0, .string a0_1, .bool true, .string a0_3, .int .i64 a0_4, .slice A0_5 l0_5.length c0_5] 24 (0, 0)) (by (with_reducible repeat (first | refine bN ?_ _ | refine bD ?_ | refine bA ?_ _)); exact BK106.out)) : gb110 ≠ gb106)); clear BK106; clear HB; have BK106 := n0_; have HB := n1_; have BK110 := n2_; have GW110 := n3_; have GE110 := n4_; have NB106_110 := n5_; have NB110_106 := n6_; clear n0_ n1_ n2_ n3_ n4_ n5_ n6_; clear hb hbox hg; have hnb61 := NB110_106.out; have hnc61 := NB106_110.out; have hcz62_0 : w60.cell? ⟨gb110, 0, none⟩ = some (.int .i64 0) := (bC BK110.out 0).trans rfl; have hcz62_1 : w60.cell? ⟨gb110, 1, none⟩ = some (.string (⟨#[]⟩ : ByteArray)) := (bC BK110.out 1).trans rfl; have hcz62_2 : w60.cell? ⟨gb110, 2, none⟩ = some (.bool false) := (bC BK110.out 2).trans rfl; have hcz62_3 : w60.cell? ⟨gb110, 3, none⟩ = some (.string (⟨#[]⟩ : ByteArray)) := (bC BK110.out 3).trans rfl; have hcz62_4 : w60.cell? ⟨gb110, 4, none⟩ = some (.int .i64 0) := (bC BK110.out 4).trans rfl; have hfz62_0 := bF BK110.out 0; have hfz62_1 := bF BK110.out 1; have hfz62_2 := bF BK110.out 2; have hfz62_3 := bF BK110.out 3; have hfz62_4 := bF BK110.out 4; have hcz63_0 : w60.cell? ⟨gb106, 0, none⟩ = some (.int .i64 a0_0) := (bC BK106.out 0).trans rfl; have hcz63_1 : w60.cell? ⟨gb106, 1, none⟩ = some (.string a0_1) := (bC BK106.out 1).trans rfl; have hcz63_2 : w60.cell? ⟨gb106, 2, none⟩ = some (.bool true) := (bC BK106.out 2).trans rfl; have hcz63_3 : w60.cell? ⟨gb106, 3, none⟩ = some (.string a0_3) := (bC BK106.out 3).trans rfl; have hcz63_4 : w60.cell? ⟨gb106, 4, none⟩ = some (.int .i64 a0_4) := (bC BK106.out 4).trans rfl; have hcz63_5 : w60.cell? ⟨gb106, 5, none⟩ = some (.slice A0_5 l0_5.length c0_5) := (bC BK106.out 5).trans rfl; have hfz63_0 := bF BK106.out 0; have hfz63_1 := bF BK106.out 1; have hfz63_2 := bF BK106.out 2; have hfz63_3 := bF BK106.out 3; have hfz63_4 := bF BK106.out 4; have hfz63_5 := bF BK106.out 5))
          go_ret
          exact ⟨by first | rfl | (simp [errW_none, errW_some] <;> rfl) | (simp [*, errW_none, errW_some] <;> rfl) | (cases a0_1.toList <;> rfl) | (congr 2; cases a0_1.toList <;> rfl), by repeat (first | (with_reducible first | exact HB.out | apply wA | apply pN | apply wD | refine wS ?_ GE106.out | refine wS ?_ GE110.out) | exact HB.out)⟩
         ·replace c58 := Bool.eq_false_iff.mpr c58
          subst c58
          have H1 : (some false) = some r := by rw [if_neg (show ¬ (false = true) by decide)] at H; exact H
          clear H
          have H := H1
          clear H1
          obtain rfl := Option.some.inj H
          have hcz64_0 : wc.cell? ⟨gb106, 0, none⟩ = some (.int .i64 a0_0) := (bC BK106.out 0).trans rfl
          have hcz64_1 : wc.cell? ⟨gb106, 1, none⟩ = some (.string a0_1) := (bC BK106.out 1).trans rfl
          have hcz64_2 : wc.cell? ⟨gb106, 2, none⟩ = some (.bool false) := (bC BK106.out 2).trans rfl
          have hcz64_3 : wc.cell? ⟨gb106, 3, none⟩ = some (.string a0_3) := (bC BK106.out 3).trans rfl
          have hcz64_4 : wc.cell? ⟨gb106, 4, none⟩ = some (.int .i64 a0_4) := (bC BK106.out 4).trans rfl
          have hcz64_5 : wc.cell? ⟨gb106, 5, none⟩ = some (.slice A0_5 l0_5.length c0_5) := (bC BK106.out 5).trans rfl
          have hfz64_0 := bF BK106.out 0
          have hfz64_1 := bF BK106.out 1
          have hfz64_2 := bF BK106.out 2
          have hfz64_3 := bF BK106.out 3
          have hfz64_4 := bF BK106.out 4
          have hfz64_5 := bF BK106.out 5
          go_wp2_with (first | ((with_reducible refine gD (N := 3) rfl ?_); (try (refine gG (by rfl) ?_; dsimp only)); refine xE ?hg (N := 3) ?hd (cs := #[.int .i64 0, .string (⟨#[]⟩ : ByteArray), .bool false, .string (⟨#[]⟩ : ByteArray), .int .i64 0]) (t := 52) ?hr ?_; (case hd => rfl); (case hg => rfl); (case hr => first | (go_simp; done) | (go_simp; rfl)); intro gb110 hg w65 hbox hb; have n0_ := A0_.mk (bB (g := gb106) (o := .cells #[.int .i64 a0_0, .string a0_1, .bool false, .string a0_3, .int .i64 a0_4, .slice A0_5 l0_5.length c0_5] 24 (0, 0)) (by (with_reducible repeat (first | refine bN ?_ _ | refine bD ?_ | refine bA ?_ _)); exact BK106.out) hb); have n1_ := A0_.mk (wT (by repeat (first | (with_reducible first | exact HB.out | apply wA | apply pN | apply wD | refine wS ?_ GE106.out) | exact HB.out)) hb); have n2_ := A0_.mk (hbox); have n3_ := A0_.mk ((by rw [hg]; exact (wZ (by repeat (first | (with_reducible first | exact HB.out | apply wA | apply pN | apply wD | refine wS ?_ GE106.out) | exact HB.out))) : w.heap.size ≤ gb110)); have n4_ := A0_.mk ((by rw [hg]; exact (wZ (by repeat (first | (with_reducible first | exact HB.out | apply wA | apply pN | apply wD | refine wS ?_ GE106.out) | exact HB.out))) : w.heap.size ≤ gb110)); have n5_ := A0_.mk ((by rw [hg]; exact Nat.ne_of_lt (bL (g := gb106) (o := .cells #[.int .i64 a0_0, .string a0_1, .bool false, .string a0_3, .int .i64 a0_4, .slice A0_5 l0_5.length c0_5] 24 (0, 0)) (by (with_reducible repeat (first | refine bN ?_ _ | refine bD ?_ | refine bA ?_ _)); exact BK106.out)) : gb106 ≠ gb110)); have n6_ := A0_.mk ((by rw [hg]; exact Nat.ne_of_gt (bL (g := gb106) (o := .cells #[.int .i64 a0_0, .string a0_1, .bool false, .string a0_3, .int .i64 a0_4, .slice A0_5 l0_5.length c0_5] 24 (0, 0)) (by (with_reducible repeat (first | refine bN ?_ _ | refine bD ?_ | refine bA ?_ _)); exact BK106.out)) : gb110 ≠ gb106)); clear BK106; clear HB; have BK106 := n0_; have HB := n1_; have BK110 := n2_; have GW110 := n3_; have GE110 := n4_; have NB106_110 := n5_; have NB110_106 := n6_; clear n0_ n1_ n2_ n3_ n4_ n5_ n6_; clear hb hbox hg; have hnb66 := NB110_106.out; have hnc66 := NB106_110.out; have hcz67_0 : w65.cell? ⟨gb110, 0, none⟩ = some (.int .i64 0) := (bC BK110.out 0).trans rfl; have hcz67_1 : w65.cell? ⟨gb110, 1, none⟩ = some (.string (⟨#[]⟩ : ByteArray)) := (bC BK110.out 1).trans rfl; have hcz67_2 : w65.cell? ⟨gb110, 2, none⟩ = some (.bool false) := (bC BK110.out 2).trans rfl; have hcz67_3 : w65.cell? ⟨gb110, 3, none⟩ = some (.string (⟨#[]⟩ : ByteArray)) := (bC BK110.out 3).trans rfl; have hcz67_4 : w65.cell? ⟨gb110, 4, none⟩ = some (.int .i64 0) := (bC BK110.out 4).trans rfl; have hfz67_0 := bF BK110.out 0; have hfz67_1 := bF BK110.out 1; have hfz67_2 := bF BK110.out 2; have hfz67_3 := bF BK110.out 3; have hfz67_4 := bF BK110.out 4; have hcz68_0 : w65.cell? ⟨gb106, 0, none⟩ = some (.int .i64 a0_0) := (bC BK106.out 0).trans rfl; have hcz68_1 : w65.cell? ⟨gb106, 1, none⟩ = some (.string a0_1) := (bC BK106.out 1).trans rfl; have hcz68_2 : w65.cell? ⟨gb106, 2, none⟩ = some (.bool false) := (bC BK106.out 2).trans rfl; have hcz68_3 : w65.cell? ⟨gb106, 3, none⟩ = some (.string a0_3) := (bC BK106.out 3).trans rfl; have hcz68_4 : w65.cell? ⟨gb106, 4, none⟩ = some (.int .i64 a0_4) := (bC BK106.out 4).trans rfl; have hcz68_5 : w65.cell? ⟨gb106, 5, none⟩ = some (.slice A0_5 l0_5.length c0_5) := (bC BK106.out 5).trans rfl; have hfz68_0 := bF BK106.out 0; have hfz68_1 := bF BK106.out 1; have hfz68_2 := bF BK106.out 2; have hfz68_3 := bF BK106.out 3; have hfz68_4 := bF BK106.out 4; have hfz68_5 := bF BK106.out 5))
          go_ret
          exact ⟨by first | rfl | (simp [errW_none, errW_some] <;> rfl) | (simp [*, errW_none, errW_some] <;> rfl) | (cases a0_1.toList <;> rfl) | (congr 2; cases a0_1.toList <;> rfl), by repeat (first | (with_reducible first | exact HB.out | apply wA | apply pN | apply wD | refine wS ?_ GE106.out | refine wS ?_ GE110.out) | exact HB.out)⟩
       ·rw [if_neg c51] at H
        have c51b0 : (a0_1.toList == ([] : List UInt8)) = false := beq_eq_false_iff_ne.mpr c51
        have c51b1 : (a0_1.toList != ([] : List UInt8)) = true := bne_iff_ne.mpr c51
        obtain rfl := Option.some.inj H
        have hcz69_0 : wc.cell? ⟨gb106, 0, none⟩ = some (.int .i64 a0_0) := (bC BK106.out 0).trans rfl
        have hcz69_1 : wc.cell? ⟨gb106, 1, none⟩ = some (.string a0_1) := (bC BK106.out 1).trans rfl
        have hcz69_2 : wc.cell? ⟨gb106, 2, none⟩ = some (.bool a0_2) := (bC BK106.out 2).trans rfl
        have hcz69_3 : wc.cell? ⟨gb106, 3, none⟩ = some (.string a0_3) := (bC BK106.out 3).trans rfl
        have hcz69_4 : wc.cell? ⟨gb106, 4, none⟩ = some (.int .i64 a0_4) := (bC BK106.out 4).trans rfl
        have hcz69_5 : wc.cell? ⟨gb106, 5, none⟩ = some (.slice A0_5 l0_5.length c0_5) := (bC BK106.out 5).trans rfl
        have hfz69_0 := bF BK106.out 0
        have hfz69_1 := bF BK106.out 1
        have hfz69_2 := bF BK106.out 2
        have hfz69_3 := bF BK106.out 3
        have hfz69_4 := bF BK106.out 4
        have hfz69_5 := bF BK106.out 5
        go_wp2_with (first | ((with_reducible refine gD (N := 3) rfl ?_); (try (refine gG (by rfl) ?_; dsimp only)); refine xE ?hg (N := 3) ?hd (cs := #[.int .i64 0, .string (⟨#[]⟩ : ByteArray), .bool false, .string (⟨#[]⟩ : ByteArray), .int .i64 0]) (t := 52) ?hr ?_; (case hd => rfl); (case hg => rfl); (case hr => first | (go_simp; done) | (go_simp; rfl)); intro gb110 hg w70 hbox hb; have n0_ := A0_.mk (bB (g := gb106) (o := .cells #[.int .i64 a0_0, .string a0_1, .bool a0_2, .string a0_3, .int .i64 a0_4, .slice A0_5 l0_5.length c0_5] 24 (0, 0)) (by (with_reducible repeat (first | refine bN ?_ _ | refine bD ?_ | refine bA ?_ _)); exact BK106.out) hb); have n1_ := A0_.mk (wT (by repeat (first | (with_reducible first | exact HB.out | apply wA | apply pN | apply wD | refine wS ?_ GE106.out) | exact HB.out)) hb); have n2_ := A0_.mk (hbox); have n3_ := A0_.mk ((by rw [hg]; exact (wZ (by repeat (first | (with_reducible first | exact HB.out | apply wA | apply pN | apply wD | refine wS ?_ GE106.out) | exact HB.out))) : w.heap.size ≤ gb110)); have n4_ := A0_.mk ((by rw [hg]; exact (wZ (by repeat (first | (with_reducible first | exact HB.out | apply wA | apply pN | apply wD | refine wS ?_ GE106.out) | exact HB.out))) : w.heap.size ≤ gb110)); have n5_ := A0_.mk ((by rw [hg]; exact Nat.ne_of_lt (bL (g := gb106) (o := .cells #[.int .i64 a0_0, .string a0_1, .bool a0_2, .string a0_3, .int .i64 a0_4, .slice A0_5 l0_5.length c0_5] 24 (0, 0)) (by (with_reducible repeat (first | refine bN ?_ _ | refine bD ?_ | refine bA ?_ _)); exact BK106.out)) : gb106 ≠ gb110)); have n6_ := A0_.mk ((by rw [hg]; exact Nat.ne_of_gt (bL (g := gb106) (o := .cells #[.int .i64 a0_0, .string a0_1, .bool a0_2, .string a0_3, .int .i64 a0_4, .slice A0_5 l0_5.length c0_5] 24 (0, 0)) (by (with_reducible repeat (first | refine bN ?_ _ | refine bD ?_ | refine bA ?_ _)); exact BK106.out)) : gb110 ≠ gb106)); clear BK106; clear HB; have BK106 := n0_; have HB := n1_; have BK110 := n2_; have GW110 := n3_; have GE110 := n4_; have NB106_110 := n5_; have NB110_106 := n6_; clear n0_ n1_ n2_ n3_ n4_ n5_ n6_; clear hb hbox hg; have hnb71 := NB110_106.out; have hnc71 := NB106_110.out; have hcz72_0 : w70.cell? ⟨gb110, 0, none⟩ = some (.int .i64 0) := (bC BK110.out 0).trans rfl; have hcz72_1 : w70.cell? ⟨gb110, 1, none⟩ = some (.string (⟨#[]⟩ : ByteArray)) := (bC BK110.out 1).trans rfl; have hcz72_2 : w70.cell? ⟨gb110, 2, none⟩ = some (.bool false) := (bC BK110.out 2).trans rfl; have hcz72_3 : w70.cell? ⟨gb110, 3, none⟩ = some (.string (⟨#[]⟩ : ByteArray)) := (bC BK110.out 3).trans rfl; have hcz72_4 : w70.cell? ⟨gb110, 4, none⟩ = some (.int .i64 0) := (bC BK110.out 4).trans rfl; have hfz72_0 := bF BK110.out 0; have hfz72_1 := bF BK110.out 1; have hfz72_2 := bF BK110.out 2; have hfz72_3 := bF BK110.out 3; have hfz72_4 := bF BK110.out 4; have hcz73_0 : w70.cell? ⟨gb106, 0, none⟩ = some (.int .i64 a0_0) := (bC BK106.out 0).trans rfl; have hcz73_1 : w70.cell? ⟨gb106, 1, none⟩ = some (.string a0_1) := (bC BK106.out 1).trans rfl; have hcz73_2 : w70.cell? ⟨gb106, 2, none⟩ = some (.bool a0_2) := (bC BK106.out 2).trans rfl; have hcz73_3 : w70.cell? ⟨gb106, 3, none⟩ = some (.string a0_3) := (bC BK106.out 3).trans rfl; have hcz73_4 : w70.cell? ⟨gb106, 4, none⟩ = some (.int .i64 a0_4) := (bC BK106.out 4).trans rfl; have hcz73_5 : w70.cell? ⟨gb106, 5, none⟩ = some (.slice A0_5 l0_5.length c0_5) := (bC BK106.out 5).trans rfl; have hfz73_0 := bF BK106.out 0; have hfz73_1 := bF BK106.out 1; have hfz73_2 := bF BK106.out 2; have hfz73_3 := bF BK106.out 3; have hfz73_4 := bF BK106.out 4; have hfz73_5 := bF BK106.out 5))
        go_ret
        exact ⟨by first | rfl | (simp [errW_none, errW_some] <;> rfl) | (simp [*, errW_none, errW_some] <;> rfl) | (cases a0_1.toList <;> rfl) | (congr 2; cases a0_1.toList <;> rfl), by repeat (first | (with_reducible first | exact HB.out | apply wA | apply pN | apply wD | refine wS ?_ GE106.out | refine wS ?_ GE110.out) | exact HB.out)⟩
      ·rw [if_neg c50] at H
       have c50b0 : (a0_0 == 3) = false := beq_eq_false_iff_ne.mpr c50
       have c50b1 : (a0_0 != 3) = true := bne_iff_ne.mpr c50
       obtain rfl := Option.some.inj H
       have hcz74_0 : wc.cell? ⟨gb106, 0, none⟩ = some (.int .i64 a0_0) := (bC BK106.out 0).trans rfl
       have hcz74_1 : wc.cell? ⟨gb106, 1, none⟩ = some (.string a0_1) := (bC BK106.out 1).trans rfl
       have hcz74_2 : wc.cell? ⟨gb106, 2, none⟩ = some (.bool a0_2) := (bC BK106.out 2).trans rfl
       have hcz74_3 : wc.cell? ⟨gb106, 3, none⟩ = some (.string a0_3) := (bC BK106.out 3).trans rfl
       have hcz74_4 : wc.cell? ⟨gb106, 4, none⟩ = some (.int .i64 a0_4) := (bC BK106.out 4).trans rfl
       have hcz74_5 : wc.cell? ⟨gb106, 5, none⟩ = some (.slice A0_5 l0_5.length c0_5) := (bC BK106.out 5).trans rfl
       have hfz74_0 := bF BK106.out 0
       have hfz74_1 := bF BK106.out 1
       have hfz74_2 := bF BK106.out 2
       have hfz74_3 := bF BK106.out 3
       have hfz74_4 := bF BK106.out 4
       have hfz74_5 := bF BK106.out 5
       go_wp2_with (first | ((with_reducible refine gD (N := 3) rfl ?_); (try (refine gG (by rfl) ?_; dsimp only)); refine xE ?hg (N := 3) ?hd (cs := #[.int .i64 0, .string (⟨#[]⟩ : ByteArray), .bool false, .string (⟨#[]⟩ : ByteArray), .int .i64 0]) (t := 52) ?hr ?_; (case hd => rfl); (case hg => rfl); (case hr => first | (go_simp; done) | (go_simp; rfl)); intro gb110 hg w75 hbox hb; have n0_ := A0_.mk (bB (g := gb106) (o := .cells #[.int .i64 a0_0, .string a0_1, .bool a0_2, .string a0_3, .int .i64 a0_4, .slice A0_5 l0_5.length c0_5] 24 (0, 0)) (by (with_reducible repeat (first | refine bN ?_ _ | refine bD ?_ | refine bA ?_ _)); exact BK106.out) hb); have n1_ := A0_.mk (wT (by repeat (first | (with_reducible first | exact HB.out | apply wA | apply pN | apply wD | refine wS ?_ GE106.out) | exact HB.out)) hb); have n2_ := A0_.mk (hbox); have n3_ := A0_.mk ((by rw [hg]; exact (wZ (by repeat (first | (with_reducible first | exact HB.out | apply wA | apply pN | apply wD | refine wS ?_ GE106.out) | exact HB.out))) : w.heap.size ≤ gb110)); have n4_ := A0_.mk ((by rw [hg]; exact (wZ (by repeat (first | (with_reducible first | exact HB.out | apply wA | apply pN | apply wD | refine wS ?_ GE106.out) | exact HB.out))) : w.heap.size ≤ gb110)); have n5_ := A0_.mk ((by rw [hg]; exact Nat.ne_of_lt (bL (g := gb106) (o := .cells #[.int .i64 a0_0, .string a0_1, .bool a0_2, .string a0_3, .int .i64 a0_4, .slice A0_5 l0_5.length c0_5] 24 (0, 0)) (by (with_reducible repeat (first | refine bN ?_ _ | refine bD ?_ | refine bA ?_ _)); exact BK106.out)) : gb106 ≠ gb110)); have n6_ := A0_.mk ((by rw [hg]; exact Nat.ne_of_gt (bL (g := gb106) (o := .cells #[.int .i64 a0_0, .string a0_1, .bool a0_2, .string a0_3, .int .i64 a0_4, .slice A0_5 l0_5.length c0_5] 24 (0, 0)) (by (with_reducible repeat (first | refine bN ?_ _ | refine bD ?_ | refine bA ?_ _)); exact BK106.out)) : gb110 ≠ gb106)); clear BK106; clear HB; have BK106 := n0_; have HB := n1_; have BK110 := n2_; have GW110 := n3_; have GE110 := n4_; have NB106_110 := n5_; have NB110_106 := n6_; clear n0_ n1_ n2_ n3_ n4_ n5_ n6_; clear hb hbox hg; have hnb76 := NB110_106.out; have hnc76 := NB106_110.out; have hcz77_0 : w75.cell? ⟨gb110, 0, none⟩ = some (.int .i64 0) := (bC BK110.out 0).trans rfl; have hcz77_1 : w75.cell? ⟨gb110, 1, none⟩ = some (.string (⟨#[]⟩ : ByteArray)) := (bC BK110.out 1).trans rfl; have hcz77_2 : w75.cell? ⟨gb110, 2, none⟩ = some (.bool false) := (bC BK110.out 2).trans rfl; have hcz77_3 : w75.cell? ⟨gb110, 3, none⟩ = some (.string (⟨#[]⟩ : ByteArray)) := (bC BK110.out 3).trans rfl; have hcz77_4 : w75.cell? ⟨gb110, 4, none⟩ = some (.int .i64 0) := (bC BK110.out 4).trans rfl; have hfz77_0 := bF BK110.out 0; have hfz77_1 := bF BK110.out 1; have hfz77_2 := bF BK110.out 2; have hfz77_3 := bF BK110.out 3; have hfz77_4 := bF BK110.out 4; have hcz78_0 : w75.cell? ⟨gb106, 0, none⟩ = some (.int .i64 a0_0) := (bC BK106.out 0).trans rfl; have hcz78_1 : w75.cell? ⟨gb106, 1, none⟩ = some (.string a0_1) := (bC BK106.out 1).trans rfl; have hcz78_2 : w75.cell? ⟨gb106, 2, none⟩ = some (.bool a0_2) := (bC BK106.out 2).trans rfl; have hcz78_3 : w75.cell? ⟨gb106, 3, none⟩ = some (.string a0_3) := (bC BK106.out 3).trans rfl; have hcz78_4 : w75.cell? ⟨gb106, 4, none⟩ = some (.int .i64 a0_4) := (bC BK106.out 4).trans rfl; have hcz78_5 : w75.cell? ⟨gb106, 5, none⟩ = some (.slice A0_5 l0_5.length c0_5) := (bC BK106.out 5).trans rfl; have hfz78_0 := bF BK106.out 0; have hfz78_1 := bF BK106.out 1; have hfz78_2 := bF BK106.out 2; have hfz78_3 := bF BK106.out 3; have hfz78_4 := bF BK106.out 4; have hfz78_5 := bF BK106.out 5))
       go_ret
       exact ⟨by first | rfl | (simp [errW_none, errW_some] <;> rfl) | (simp [*, errW_none, errW_some] <;> rfl) | (cases a0_1.toList <;> rfl) | (congr 2; cases a0_1.toList <;> rfl), by repeat (first | (with_reducible first | exact HB.out | apply wA | apply pN | apply wD | refine wS ?_ GE106.out | refine wS ?_ GE110.out) | exact HB.out)⟩

end Go.Proofs.YtklakmooaffjpaaDoor.PNod
