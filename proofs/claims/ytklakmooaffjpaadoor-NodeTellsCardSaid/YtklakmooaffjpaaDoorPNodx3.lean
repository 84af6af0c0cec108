-- Written by a program of this session for this seat. Not trusted: Lean checks it.
import Derived.Test.YtklakmooaffjpaaDoorSQ
import Derived.Test.YtklakmooaffjpaaDoorPNodx0
import Derived.Test.YtklakmooaffjpaaDoorPNodx1
namespace Go.Proofs.YtklakmooaffjpaaDoor.PNod
open Go.RowKit Go.Proofs.YtklakmooaffjpaaDoorW.PrintWords Go.Proofs.YtklakmooaffjpaaDoorW.PrintLast Go.Proofs.YtklakmooaffjpaaDoorW.PrintMore
attribute [local go_sem] max2_int min2_int max_two min_two max_three min_three max_four min_four   -- for this text's walks alone
set_option linter.unusedVariables false
set_option linter.unusedSimpArgs false
open Go.Proofs.YtklakmooaffjpaaDoor.HW Go.Proofs.YtklakmooaffjpaaDoor.DgsB

attribute [local go_sem high] eqA52
/-! ### node_Good: function 13 -/
def node_Good.j0 : Nat → Bool → Int → ByteArray → Bool → ByteArray → Int → List ByteArray → Option (Bool)
 | 0, _, _, _, _, _, _, _ => none
 | k + 1, x38, x107000, x107001, x107002, x107003, x107004, x107005 => if x38 = true then (some false) else (if x107000 = 1 then (some (x107000 == 1 && (x107002 && (x107004 == 0)))) else (if x107000 = 2 then (if (x107000 == 2 && (!x107002 && (x107003.toList == ([] : List UInt8) && (x107004 == 1)))) = true then (some (x107001.toList != ([] : List UInt8))) else (some false)) else (if x107000 = 3 then (if x107001.toList = ([] : List UInt8) then (if (x107005.length : Int) > 1 then (some true) else (if x107002 = true then (some (decide ((x107005.length : Int) > 0))) else (some false))) else (some false)) else (some false))))
def node_Good.f (k : Nat) (a0_0 : Int) (a0_1 : ByteArray) (a0_2 : Bool) (a0_3 : ByteArray) (a0_4 : Int) (l0_5 : List ByteArray) : Option (Bool) := if a0_4 < 0 then (node_Good.j0 k true a0_0 a0_1 a0_2 a0_3 a0_4 l0_5) else (if a0_4 ≥ 65536 then (node_Good.j0 k true a0_0 a0_1 a0_2 a0_3 a0_4 l0_5) else ((node_hashes.f a0_0 a0_1 a0_2 a0_3 a0_4 l0_5).bind fun t107 => (if t107 = true then (if (a0_3.size : Int) > 16 then (node_Good.j0 k true a0_0 a0_1 a0_2 a0_3 a0_4 l0_5) else (if a0_2 = true then ((nibble_Good.f k a0_1).bind fun t108 => (node_Good.j0 k (!t108) a0_0 a0_1 a0_2 a0_3 a0_4 l0_5)) else (if a0_3.toList = ([] : List UInt8) then ((nibble_Good.f k a0_1).bind fun t109 => (node_Good.j0 k (!t109) a0_0 a0_1 a0_2 a0_3 a0_4 l0_5)) else (node_Good.j0 k true a0_0 a0_1 a0_2 a0_3 a0_4 l0_5)))) else (node_Good.j0 k true a0_0 a0_1 a0_2 a0_3 a0_4 l0_5))))
set_option maxHeartbeats 8000000 in
set_option maxRecDepth 100000 in
theorem node_Good.calls (k : Nat) (a0_0 : Int) (a0_1 : ByteArray) (a0_2 : Bool) (a0_3 : ByteArray) (a0_4 : Int) (A0_5 : Option Addr) (c0_5 : Nat) (l0_5 : List ByteArray) (r : Bool) (w : World) (hr0_5 : Kd.C Kd.string w A0_5 l0_5.length l0_5) (hc0_5 : l0_5.length ≤ c0_5) (h : node_Good.f k a0_0 a0_1 a0_2 a0_3 a0_4 l0_5 = some r) :
  Calls Tryd.prog 13 #[.agg #[.int .i64 a0_0, .string a0_1, .bool a0_2, .string a0_3, .int .i64 a0_4, .slice A0_5 l0_5.length c0_5]] w fun e w' => e = .returned (.bool r) ∧ Below w.heap.size w w' := by
 have hu24 := Tryd.underlying24
 have hu52 := Tryd.underlying52
 have HR0_5 := A0_.mk hr0_5
 have HC0_5 := A0_.mk hc0_5
 clear hr0_5 hc0_5
 have HB := A0_.mk (Below.refl w.heap.size w)
 have H : (if a0_4 < 0 then (node_Good.j0 k true a0_0 a0_1 a0_2 a0_3 a0_4 l0_5) else (if a0_4 ≥ 65536 then (node_Good.j0 k true a0_0 a0_1 a0_2 a0_3 a0_4 l0_5) else ((node_hashes.f a0_0 a0_1 a0_2 a0_3 a0_4 l0_5).bind fun t107 => (if t107 = true then (if (a0_3.size : Int) > 16 then (node_Good.j0 k true a0_0 a0_1 a0_2 a0_3 a0_4 l0_5) else (if a0_2 = true then ((nibble_Good.f k a0_1).bind fun t108 => (node_Good.j0 k (!t108) a0_0 a0_1 a0_2 a0_3 a0_4 l0_5)) else (if a0_3.toList = ([] : List UInt8) then ((nibble_Good.f k a0_1).bind fun t109 => (node_Good.j0 k (!t109) a0_0 a0_1 a0_2 a0_3 a0_4 l0_5)) else (node_Good.j0 k true a0_0 a0_1 a0_2 a0_3 a0_4 l0_5)))) else (node_Good.j0 k true a0_0 a0_1 a0_2 a0_3 a0_4 l0_5))))) = some r := h
 clear h
 have HC2 := A0_.mk H
 clear H
 go_enter Tryd.func13, Tryd.ntmps13
 go_upto_region 1 with (first | ((with_reducible refine gD (N := 1) rfl ?_); (try (refine gG (by rfl) ?_; dsimp only)); refine xE ?hg (N := 1) ?hd (cs := #[.int .i64 a0_0, .string a0_1, .bool a0_2, .string a0_3, .int .i64 a0_4, .slice A0_5 l0_5.length c0_5]) (t := 24) ?hr ?_; (case hd => rfl); (case hg => rfl); (case hr => first | (go_simp; done) | (go_simp; rfl)); intro gb106 hg w3 hbox hb; have BK106 := A0_.mk (hbox); have GW106 := A0_.mk ((by rw [hg]; exact (wZ SQ.bw) : w.heap.size ≤ gb106)); have GE106 := A0_.mk ((by rw [hg]; exact (wZ SQ.bw) : w.heap.size ≤ gb106)); replace HB := A0_.mk (wT SQ.bw hb); clear hb hbox hg))
 (try simp only [Act.put, List.setIfInBounds_toArray, List.set_cons_zero, List.set_cons_succ])
 go_cut [38] (fun v38 wc => ∃ (kq : Nat) (x38_1 : Bool), v38 = .bool x38_1 ∧ A0_ (node_Good.j0 kq x38_1 a0_0 a0_1 a0_2 a0_3 a0_4 l0_5 = some r) ∧ A0_ (kq ≤ k) ∧ A0_ (wc.heap[gb106]? = some (.cells #[.int .i64 a0_0, .string a0_1, .bool a0_2, .string a0_3, .int .i64 a0_4, (.slice A0_5 l0_5.length c0_5)] 24 (0, 0))) ∧ A0_ (Below w.heap.size w wc))
 case first =>
  have H := HC2.out
  clear HC2
  by_cases c4 : a0_4 < 0
  ·rw [if_pos c4] at H
   have c4b0 : decide (a0_4 < 0) = true := decide_eq_true c4
   clear c4
   (first | rw [c4b0] | (simp only [i64_w, i32_w]; rw [c4b0]) | skip)
   have H' := A0_.mk H
   clear H
   obtain ⟨hcz5_0, hcz5_1, hcz5_2, hcz5_3, hcz5_4, hcz5_5, hfz5_0, hfz5_1, hfz5_2, hfz5_3, hfz5_4, hfz5_5⟩ := SQ.cs6 BK106.out
   go_wp2
   go_meet
   case rel => exact ⟨_, (true), (by first | rfl | (simp; done) | (simp [*]; done)), H', ⟨by first | omega | exact Nat.le_refl _⟩, ⟨SQ.kw⟩, ⟨SQ.bw⟩⟩
  ·rw [if_neg c4] at H
   have c4b0 : decide (a0_4 < 0) = false := decide_eq_false c4
   clear c4
   (first | rw [c4b0] | (simp only [i64_w, i32_w]; rw [c4b0]) | skip)
   by_cases c6 : a0_4 ≥ 65536
   ·rw [if_pos c6] at H
    have c6b0 : decide (65536 ≤ a0_4) = true := decide_eq_true c6
    clear c6
    have H' := A0_.mk H
    clear H
    obtain ⟨hcz7_0, hcz7_1, hcz7_2, hcz7_3, hcz7_4, hcz7_5, hfz7_0, hfz7_1, hfz7_2, hfz7_3, hfz7_4, hfz7_5⟩ := SQ.cs6 BK106.out
    go_wp2
    go_meet
    case rel => exact ⟨_, (true), (by first | rfl | (simp; done) | (simp [*]; done)), H', ⟨by first | omega | exact Nat.le_refl _⟩, ⟨SQ.kw⟩, ⟨SQ.bw⟩⟩
   ·rw [if_neg c6] at H
    have c6b0 : decide (65536 ≤ a0_4) = false := decide_eq_false c6
    clear c6
    replace H := Option.bind_eq_some_iff.mp H
    obtain ⟨t107, A80, H⟩ := H
    try dsimp only at H
    have A8 := A0_.mk A80
    clear A80
    by_cases c9 : t107 = true
    ·subst c9
     rw [if_pos rfl] at H
     by_cases c10 : (a0_3.size : Int) > 16
     ·rw [if_pos c10] at H
      have c10b0 : decide (16 < (a0_3.size : Int)) = true := decide_eq_true c10
      have c10b1 : decide (16 < a0_3.size) = true := decide_eq_true (by omega)
      clear c10
      have H' := A0_.mk H
      clear H
      obtain ⟨hcz11_0, hcz11_1, hcz11_2, hcz11_3, hcz11_4, hcz11_5, hfz11_0, hfz11_1, hfz11_2, hfz11_3, hfz11_4, hfz11_5⟩ := SQ.cs6 BK106.out
      go_wp2_with (first | (go_at_call 26; (with_reducible refine (node_hashes.calls a0_0 a0_1 a0_2 a0_3 a0_4 _ _ l0_5 true _ ?side1 ?side2 A8.out).mono ?_); (case side1 => repeat (first | exact (Kd.C_below HR0_5.out HB.out) | (with_reducible refine Kd.C_alloc ?_ _) | (with_reducible refine Kd.C_drewN ?_ _) | (with_reducible refine Kd.C_drew ?_))); (case side2 => exact HC0_5.out); rintro e w12 ⟨rfl, hb⟩; replace BK106 := A0_.mk (bB (g := gb106) SQ.kw hb); replace HB := A0_.mk (wT SQ.bw hb); clear hb; obtain ⟨hcz13_0, hcz13_1, hcz13_2, hcz13_3, hcz13_4, hcz13_5, hfz13_0, hfz13_1, hfz13_2, hfz13_3, hfz13_4, hfz13_5⟩ := SQ.cs6 BK106.out))
      go_meet
      case rel => exact ⟨_, (true), (by first | rfl | (simp; done) | (simp [*]; done)), H', ⟨by first | omega | exact Nat.le_refl _⟩, ⟨SQ.kw⟩, ⟨SQ.bw⟩⟩
     ·rw [if_neg c10] at H
      have c10b0 : decide (16 < (a0_3.size : Int)) = false := decide_eq_false c10
      have c10b1 : decide (16 < a0_3.size) = false := decide_eq_false (by omega)
      clear c10
      by_cases c14 : a0_2 = true
      ·subst c14
       rw [if_pos rfl] at H
       replace H := Option.bind_eq_some_iff.mp H
       obtain ⟨t108, A150, H⟩ := H
       try dsimp only at H
       have A15 := A0_.mk A150
       clear A150
       have H' := A0_.mk H
       clear H
       obtain ⟨hcz16_0, hcz16_1, hcz16_2, hcz16_3, hcz16_4, hcz16_5, hfz16_0, hfz16_1, hfz16_2, hfz16_3, hfz16_4, hfz16_5⟩ := SQ.cs6 BK106.out
       go_wp2_with (first | (go_at_call 26; (with_reducible refine (node_hashes.calls a0_0 a0_1 true a0_3 a0_4 _ _ l0_5 true _ ?side1 ?side2 A8.out).mono ?_); (case side1 => repeat (first | exact (Kd.C_below HR0_5.out HB.out) | (with_reducible refine Kd.C_alloc ?_ _) | (with_reducible refine Kd.C_drewN ?_ _) | (with_reducible refine Kd.C_drew ?_))); (case side2 => exact HC0_5.out); rintro e w17 ⟨rfl, hb⟩; replace BK106 := A0_.mk (bB (g := gb106) SQ.kw hb); replace HB := A0_.mk (wT SQ.bw hb); clear hb; obtain ⟨hcz18_0, hcz18_1, hcz18_2, hcz18_3, hcz18_4, hcz18_5, hfz18_0, hfz18_1, hfz18_2, hfz18_3, hfz18_4, hfz18_5⟩ := SQ.cs6 BK106.out) | (go_at_call 27; (with_reducible refine (nibble_Good.calls k a0_1 t108 _ A15.out).mono ?_); rintro e w19 ⟨rfl, hb⟩; replace BK106 := A0_.mk (bB (g := gb106) SQ.kw hb); replace HB := A0_.mk (wT SQ.bw hb); clear hb))
       go_meet
       case rel => exact ⟨_, (!t108), (by first | rfl | (simp; done) | (simp [*]; done)), H', ⟨by first | omega | exact Nat.le_refl _⟩, ⟨SQ.kw⟩, ⟨SQ.bw⟩⟩
      ·replace c14 := Bool.eq_false_iff.mpr c14
       subst c14
       rw [if_neg (show ¬ (false = true) by decide)] at H
       by_cases c20 : a0_3.toList = ([] : List UInt8)
       ·rw [if_pos c20] at H
        have c20b0 : (a0_3.toList == ([] : List UInt8)) = true := beq_iff_eq.mpr c20
        have c20b1 : (a0_3.toList != ([] : List UInt8)) = false := bne_eq_false_iff_eq.mpr c20
        clear c20
        replace H := Option.bind_eq_some_iff.mp H
        obtain ⟨t109, A210, H⟩ := H
        try dsimp only at H
        have A21 := A0_.mk A210
        clear A210
        have H' := A0_.mk H
        clear H
        obtain ⟨hcz22_0, hcz22_1, hcz22_2, hcz22_3, hcz22_4, hcz22_5, hfz22_0, hfz22_1, hfz22_2, hfz22_3, hfz22_4, hfz22_5⟩ := SQ.cs6 BK106.out
        go_wp2_with (first | (go_at_call 26; (with_reducible refine (node_hashes.calls a0_0 a0_1 false a0_3 a0_4 _ _ l0_5 true _ ?side1 ?side2 A8.out).mono ?_); (case side1 => repeat (first | exact (Kd.C_below HR0_5.out HB.out) | (with_reducible refine Kd.C_alloc ?_ _) | (with_reducible refine Kd.C_drewN ?_ _) | (with_reducible refine Kd.C_drew ?_))); (case side2 => exact HC0_5.out); rintro e w23 ⟨rfl, hb⟩; replace BK106 := A0_.mk (bB (g := gb106) SQ.kw hb); replace HB := A0_.mk (wT SQ.bw hb); clear hb; obtain ⟨hcz24_0, hcz24_1, hcz24_2, hcz24_3, hcz24_4, hcz24_5, hfz24_0, hfz24_1, hfz24_2, hfz24_3, hfz24_4, hfz24_5⟩ := SQ.cs6 BK106.out) | (go_at_call 27; (with_reducible refine (nibble_Good.calls k a0_1 t109 _ A21.out).mono ?_); rintro e w25 ⟨rfl, hb⟩; replace BK106 := A0_.mk (bB (g := gb106) SQ.kw hb); replace HB := A0_.mk (wT SQ.bw hb); clear hb))
        go_meet
        case rel => exact ⟨_, (!t109), (by first | rfl | (simp; done) | (simp [*]; done)), H', ⟨by first | omega | exact Nat.le_refl _⟩, ⟨SQ.kw⟩, ⟨SQ.bw⟩⟩
       ·rw [if_neg c20] at H
        have c20b0 : (a0_3.toList == ([] : List UInt8)) = false := beq_eq_false_iff_ne.mpr c20
        have c20b1 : (a0_3.toList != ([] : List UInt8)) = true := bne_iff_ne.mpr c20
        have H' := A0_.mk H
        clear H
        obtain ⟨hcz26_0, hcz26_1, hcz26_2, hcz26_3, hcz26_4, hcz26_5, hfz26_0, hfz26_1, hfz26_2, hfz26_3, hfz26_4, hfz26_5⟩ := SQ.cs6 BK106.out
        go_wp2_with (first | (go_at_call 26; (with_reducible refine (node_hashes.calls a0_0 a0_1 false a0_3 a0_4 _ _ l0_5 true _ ?side1 ?side2 A8.out).mono ?_); (case side1 => repeat (first | exact (Kd.C_below HR0_5.out HB.out) | (with_reducible refine Kd.C_alloc ?_ _) | (with_reducible refine Kd.C_drewN ?_ _) | (with_reducible refine Kd.C_drew ?_))); (case side2 => exact HC0_5.out); rintro e w27 ⟨rfl, hb⟩; replace BK106 := A0_.mk (bB (g := gb106) SQ.kw hb); replace HB := A0_.mk (wT SQ.bw hb); clear hb; obtain ⟨hcz28_0, hcz28_1, hcz28_2, hcz28_3, hcz28_4, hcz28_5, hfz28_0, hfz28_1, hfz28_2, hfz28_3, hfz28_4, hfz28_5⟩ := SQ.cs6 BK106.out))
        go_meet
        case rel => exact ⟨_, (true), (by first | rfl | (simp; done) | (simp [*]; done)), H', ⟨by first | omega | exact Nat.le_refl _⟩, ⟨SQ.kw⟩, ⟨SQ.bw⟩⟩
    ·replace c9 := Bool.eq_false_iff.mpr c9
     subst c9
     rw [if_neg (show ¬ (false = true) by decide)] at H
     have H' := A0_.mk H
     clear H
     obtain ⟨hcz29_0, hcz29_1, hcz29_2, hcz29_3, hcz29_4, hcz29_5, hfz29_0, hfz29_1, hfz29_2, hfz29_3, hfz29_4, hfz29_5⟩ := SQ.cs6 BK106.out
     go_wp2_with (first | (go_at_call 26; (with_reducible refine (node_hashes.calls a0_0 a0_1 a0_2 a0_3 a0_4 _ _ l0_5 false _ ?side1 ?side2 A8.out).mono ?_); (case side1 => repeat (first | exact (Kd.C_below HR0_5.out HB.out) | (with_reducible refine Kd.C_alloc ?_ _) | (with_reducible refine Kd.C_drewN ?_ _) | (with_reducible refine Kd.C_drew ?_))); (case side2 => exact HC0_5.out); rintro e w30 ⟨rfl, hb⟩; replace BK106 := A0_.mk (bB (g := gb106) SQ.kw hb); replace HB := A0_.mk (wT SQ.bw hb); clear hb))
     go_meet
     case rel => exact ⟨_, (true), (by first | rfl | (simp; done) | (simp [*]; done)), H', ⟨by first | omega | exact Nat.le_refl _⟩, ⟨SQ.kw⟩, ⟨SQ.bw⟩⟩
 case rest =>
  clear HC2
  try clear c1
  try clear c2
  try clear p2
  try clear c4
  try clear c4b0
  try clear c6
  try clear c6b0
  try clear c9
  try clear c10
  try clear c10b0
  try clear c10b1
  try clear c13
  try clear c14
  try clear c20
  try clear c20b0
  try clear c20b1
  try clear hcz11_0
  try clear hcz11_1
  try clear hcz11_2
  try clear hcz11_3
  try clear hcz11_4
  try clear hcz11_5
  try clear hcz13_0
  try clear hcz13_1
  try clear hcz13_2
  try clear hcz13_3
  try clear hcz13_4
  try clear hcz13_5
  try clear hcz16_0
  try clear hcz16_1
  try clear hcz16_2
  try clear hcz16_3
  try clear hcz16_4
  try clear hcz16_5
  try clear hcz18_0
  try clear hcz18_1
  try clear hcz18_2
  try clear hcz18_3
  try clear hcz18_4
  try clear hcz18_5
  try clear hcz22_0
  try clear hcz22_1
  try clear hcz22_2
  try clear hcz22_3
  try clear hcz22_4
  try clear hcz22_5
  try clear hcz24_0
  try clear hcz24_1
  try clear hcz24_2
  try clear hcz24_3
  try clear hcz24_4
  try clear hcz24_5
  try clear hcz26_0
  try clear hcz26_1
  try clear hcz26_2
  try clear hcz26_3
  try clear hcz26_4
  try clear hcz26_5
  try clear hcz28_0
  try clear hcz28_1
  try clear hcz28_2
  try clear hcz28_3
  try clear hcz28_4
  try clear hcz28_5
  try clear hcz29_0
  try clear hcz29_1
  try clear hcz29_2
  try clear hcz29_3
  try clear hcz29_4
  try clear hcz29_5
  try clear hcz5_0
  try clear hcz5_1
  try clear hcz5_2
  try clear hcz5_3
  try clear hcz5_4
  try clear hcz5_5
  try clear hcz7_0
  try clear hcz7_1
  try clear hcz7_2
  try clear hcz7_3
  try clear hcz7_4
  try clear hcz7_5
  try clear hfz11_0
  try clear hfz11_1
  try clear hfz11_2
  try clear hfz11_3
  try clear hfz11_4
  try clear hfz11_5
  try clear hfz13_0
  try clear hfz13_1
  try clear hfz13_2
  try clear hfz13_3
  try clear hfz13_4
  try clear hfz13_5
  try clear hfz16_0
  try clear hfz16_1
  try clear hfz16_2
  try clear hfz16_3
  try clear hfz16_4
  try clear hfz16_5
  try clear hfz18_0
  try clear hfz18_1
  try clear hfz18_2
  try clear hfz18_3
  try clear hfz18_4
  try clear hfz18_5
  try clear hfz22_0
  try clear hfz22_1
  try clear hfz22_2
  try clear hfz22_3
  try clear hfz22_4
  try clear hfz22_5
  try clear hfz24_0
  try clear hfz24_1
  try clear hfz24_2
  try clear hfz24_3
  try clear hfz24_4
  try clear hfz24_5
  try clear hfz26_0
  try clear hfz26_1
  try clear hfz26_2
  try clear hfz26_3
  try clear hfz26_4
  try clear hfz26_5
  try clear hfz28_0
  try clear hfz28_1
  try clear hfz28_2
  try clear hfz28_3
  try clear hfz28_4
  try clear hfz28_5
  try clear hfz29_0
  try clear hfz29_1
  try clear hfz29_2
  try clear hfz29_3
  try clear hfz29_4
  try clear hfz29_5
  try clear hfz5_0
  try clear hfz5_1
  try clear hfz5_2
  try clear hfz5_3
  try clear hfz5_4
  try clear hfz5_5
  try clear hfz7_0
  try clear hfz7_1
  try clear hfz7_2
  try clear hfz7_3
  try clear hfz7_4
  try clear hfz7_5
  obtain ⟨kq, x38_1, rfl, HA, HJ1, BK106, HB⟩ := hcut
  cases kq with
  | zero => exact absurd HA.out (by simp [node_Good.j0])
  | succ kj1 =>
   have H := HA.out
   clear HA
   simp only [node_Good.j0] at H
   by_cases c31 : x38_1 = true
   ·subst c31
    rw [if_pos rfl] at H
    obtain rfl := Option.some.inj H
    go_wp2
    go_ret
    exact ⟨by first | rfl | (simp [errW_none, errW_some] <;> rfl) | (simp [*, errW_none, errW_some] <;> rfl) | (cases a0_1.toList <;> rfl) | (congr 2; cases a0_1.toList <;> rfl), SQ.bw⟩
   ·replace c31 := Bool.eq_false_iff.mpr c31
    subst c31
    rw [if_neg (show ¬ (false = true) by decide)] at H
    by_cases c32 : a0_0 = 1
    ·rw [if_pos c32] at H
     have c32b0 : (a0_0 == 1) = true := beq_iff_eq.mpr c32
     have c32b1 : (a0_0 != 1) = false := bne_eq_false_iff_eq.mpr c32
     clear c32
     obtain rfl := Option.some.inj H
     obtain ⟨hcz33_0, hcz33_1, hcz33_2, hcz33_3, hcz33_4, hcz33_5, hfz33_0, hfz33_1, hfz33_2, hfz33_3, hfz33_4, hfz33_5⟩ := SQ.cs6 BK106.out
     go_wp2_with (first | ((with_reducible refine gD (N := 3) rfl ?_); (try (refine gG (by rfl) ?_; dsimp only)); refine xE ?hg (N := 3) ?hd (cs := #[.int .i64 0, .string (⟨#[]⟩ : ByteArray), .bool false, .string (⟨#[]⟩ : ByteArray), .int .i64 0]) (t := 52) ?hr ?_; (case hd => rfl); (case hg => rfl); (case hr => first | (go_simp; done) | (go_simp; rfl)); intro gb110 hg w34 hbox hb; have BK110 := A0_.mk (hbox); have GW110 := A0_.mk ((by rw [hg]; exact (wZ SQ.bw) : w.heap.size ≤ gb110)); have GE110 := A0_.mk ((by rw [hg]; exact (wZ SQ.bw) : w.heap.size ≤ gb110)); have NB106_110 := A0_.mk ((by rw [hg]; exact Nat.ne_of_lt (bL (g := gb106) SQ.kw) : gb106 ≠ gb110)); have NB110_106 := A0_.mk ((by rw [hg]; exact Nat.ne_of_gt (bL (g := gb106) SQ.kw) : gb110 ≠ gb106)); replace BK106 := A0_.mk (bB (g := gb106) SQ.kw hb); replace HB := A0_.mk (wT SQ.bw hb); clear hb hbox hg; have hnb35 := NB110_106.out; have hnc35 := NB106_110.out; obtain ⟨hcz36_0, hcz36_1, hcz36_2, hcz36_3, hcz36_4, hfz36_0, hfz36_1, hfz36_2, hfz36_3, hfz36_4⟩ := SQ.cs5 BK110.out; obtain ⟨hcz37_0, hcz37_1, hcz37_2, hcz37_3, hcz37_4, hcz37_5, hfz37_0, hfz37_1, hfz37_2, hfz37_3, hfz37_4, hfz37_5⟩ := SQ.cs6 BK106.out))
     go_ret
     exact ⟨by first | rfl | (simp [errW_none, errW_some] <;> rfl) | (simp [*, errW_none, errW_some] <;> rfl) | (cases a0_1.toList <;> rfl) | (congr 2; cases a0_1.toList <;> rfl), SQ.bw⟩
    ·rw [if_neg c32] at H
     have c32b0 : (a0_0 == 1) = false := beq_eq_false_iff_ne.mpr c32
     have c32b1 : (a0_0 != 1) = true := bne_iff_ne.mpr c32
     by_cases c38 : a0_0 = 2
     ·rw [if_pos c38] at H
      have c38b0 : (a0_0 == 2) = true := beq_iff_eq.mpr c38
      have c38b1 : (a0_0 != 2) = false := bne_eq_false_iff_eq.mpr c38
      clear c38
      by_cases c39 : (a0_0 == 2 && (!a0_2 && (a0_3.toList == ([] : List UInt8) && (a0_4 == 1)))) = true
      ·rw [if_pos c39] at H
       have c39b0 : (a0_0 == 2 && (!a0_2 && (a0_3.toList == ([] : List UInt8) && (a0_4 == 1)))) = true := c39
       (try (have c39b1 : decide (a0_0 = 2 && (!a0_2 && (a0_3.toList == ([] : List UInt8) && (a0_4 == 1)))) = true := by simpa using c39))
       (try (have c39b2 : (a0_0 == 2 && (!a0_2 && (a0_3.toList == ([] : List UInt8) && (a0_4 == 1)))) = true := by simpa using c39))
       clear c39
       obtain rfl := Option.some.inj H
       obtain ⟨hcz40_0, hcz40_1, hcz40_2, hcz40_3, hcz40_4, hcz40_5, hfz40_0, hfz40_1, hfz40_2, hfz40_3, hfz40_4, hfz40_5⟩ := SQ.cs6 BK106.out
       go_wp2_with (first | ((with_reducible refine gD (N := 3) rfl ?_); (try (refine gG (by rfl) ?_; dsimp only)); refine xE ?hg (N := 3) ?hd (cs := #[.int .i64 0, .string (⟨#[]⟩ : ByteArray), .bool false, .string (⟨#[]⟩ : ByteArray), .int .i64 0]) (t := 52) ?hr ?_; (case hd => rfl); (case hg => rfl); (case hr => first | (go_simp; done) | (go_simp; rfl)); intro gb110 hg w41 hbox hb; have BK110 := A0_.mk (hbox); have GW110 := A0_.mk ((by rw [hg]; exact (wZ SQ.bw) : w.heap.size ≤ gb110)); have GE110 := A0_.mk ((by rw [hg]; exact (wZ SQ.bw) : w.heap.size ≤ gb110)); have NB106_110 := A0_.mk ((by rw [hg]; exact Nat.ne_of_lt (bL (g := gb106) SQ.kw) : gb106 ≠ gb110)); have NB110_106 := A0_.mk ((by rw [hg]; exact Nat.ne_of_gt (bL (g := gb106) SQ.kw) : gb110 ≠ gb106)); replace BK106 := A0_.mk (bB (g := gb106) SQ.kw hb); replace HB := A0_.mk (wT SQ.bw hb); clear hb hbox hg; have hnb42 := NB110_106.out; have hnc42 := NB106_110.out; obtain ⟨hcz43_0, hcz43_1, hcz43_2, hcz43_3, hcz43_4, hfz43_0, hfz43_1, hfz43_2, hfz43_3, hfz43_4⟩ := SQ.cs5 BK110.out; obtain ⟨hcz44_0, hcz44_1, hcz44_2, hcz44_3, hcz44_4, hcz44_5, hfz44_0, hfz44_1, hfz44_2, hfz44_3, hfz44_4, hfz44_5⟩ := SQ.cs6 BK106.out))
       rotate_left
       ·rename_i hz_; exfalso; have q_ := c39b0; simp at q_; exact hz_ ⟨q_.2.1, q_.2.2.1, q_.2.2.2⟩
       go_ret
       exact ⟨by first | rfl | (simp [errW_none, errW_some] <;> rfl) | (simp [*, errW_none, errW_some] <;> rfl) | (cases a0_1.toList <;> rfl) | (congr 2; cases a0_1.toList <;> rfl), SQ.bw⟩
      ·rw [if_neg c39] at H
       have c39b0 : (a0_0 == 2 && (!a0_2 && (a0_3.toList == ([] : List UInt8) && (a0_4 == 1)))) = false := by simpa using c39
       (try (have c39b1 : decide (a0_0 = 2 && (!a0_2 && (a0_3.toList == ([] : List UInt8) && (a0_4 == 1)))) = false := by simpa using c39))
       (try (have c39b2 : (a0_0 == 2 && (!a0_2 && (a0_3.toList == ([] : List UInt8) && (a0_4 == 1)))) = false := by simpa using c39))
       (try (have c39b3 : ¬ (a0_0 = 2 && (!a0_2 && (a0_3.toList == ([] : List UInt8) && (a0_4 == 1)))) := by simpa using c39))
       clear c39
       obtain rfl := Option.some.inj H
       obtain ⟨hcz45_0, hcz45_1, hcz45_2, hcz45_3, hcz45_4, hcz45_5, hfz45_0, hfz45_1, hfz45_2, hfz45_3, hfz45_4, hfz45_5⟩ := SQ.cs6 BK106.out
       go_wp2_with (first | ((with_reducible refine gD (N := 3) rfl ?_); (try (refine gG (by rfl) ?_; dsimp only)); refine xE ?hg (N := 3) ?hd (cs := #[.int .i64 0, .string (⟨#[]⟩ : ByteArray), .bool false, .string (⟨#[]⟩ : ByteArray), .int .i64 0]) (t := 52) ?hr ?_; (case hd => rfl); (case hg => rfl); (case hr => first | (go_simp; done) | (go_simp; rfl)); intro gb110 hg w46 hbox hb; have BK110 := A0_.mk (hbox); have GW110 := A0_.mk ((by rw [hg]; exact (wZ SQ.bw) : w.heap.size ≤ gb110)); have GE110 := A0_.mk ((by rw [hg]; exact (wZ SQ.bw) : w.heap.size ≤ gb110)); have NB106_110 := A0_.mk ((by rw [hg]; exact Nat.ne_of_lt (bL (g := gb106) SQ.kw) : gb106 ≠ gb110)); have NB110_106 := A0_.mk ((by rw [hg]; exact Nat.ne_of_gt (bL (g := gb106) SQ.kw) : gb110 ≠ gb106)); replace BK106 := A0_.mk (bB (g := gb106) SQ.kw hb); replace HB := A0_.mk (wT SQ.bw hb); clear hb hbox hg; have hnb47 := NB110_106.out; have hnc47 := NB106_110.out; obtain ⟨hcz48_0, hcz48_1, hcz48_2, hcz48_3, hcz48_4, hfz48_0, hfz48_1, hfz48_2, hfz48_3, hfz48_4⟩ := SQ.cs5 BK110.out; obtain ⟨hcz49_0, hcz49_1, hcz49_2, hcz49_3, hcz49_4, hcz49_5, hfz49_0, hfz49_1, hfz49_2, hfz49_3, hfz49_4, hfz49_5⟩ := SQ.cs6 BK106.out))
       ·rename_i hz_; exfalso; have q1_ := beq_iff_eq.1 c38b0; exact absurd c39b0 (by simp [q1_, hz_.1, hz_.2.1, hz_.2.2])
       go_ret
       exact ⟨by first | rfl | (simp [errW_none, errW_some] <;> rfl) | (simp [*, errW_none, errW_some] <;> rfl) | (cases a0_1.toList <;> rfl) | (congr 2; cases a0_1.toList <;> rfl), SQ.bw⟩
     ·rw [if_neg c38] at H
      have c38b0 : (a0_0 == 2) = false := beq_eq_false_iff_ne.mpr c38
      have c38b1 : (a0_0 != 2) = true := bne_iff_ne.mpr c38
      by_cases c50 : a0_0 = 3
      ·rw [if_pos c50] at H
       have c50b0 : (a0_0 == 3) = true := beq_iff_eq.mpr c50
       have c50b1 : (a0_0 != 3) = false := bne_eq_false_iff_eq.mpr c50
       clear c50
       by_cases c51 : a0_1.toList = ([] : List UInt8)
       ·rw [if_pos c51] at H
        have c51b0 : (a0_1.toList == ([] : List UInt8)) = true := beq_iff_eq.mpr c51
        have c51b1 : (a0_1.toList != ([] : List UInt8)) = false := bne_eq_false_iff_eq.mpr c51
        clear c51
        by_cases c52 : (l0_5.length : Int) > 1
        ·rw [if_pos c52] at H
         have c52b0 : decide (1 < (l0_5.length : Int)) = true := decide_eq_true c52
         have c52b1 : decide (1 < l0_5.length) = true := decide_eq_true (by omega)
         clear c52
         obtain rfl := Option.some.inj H
         obtain ⟨hcz53_0, hcz53_1, hcz53_2, hcz53_3, hcz53_4, hcz53_5, hfz53_0, hfz53_1, hfz53_2, hfz53_3, hfz53_4, hfz53_5⟩ := SQ.cs6 BK106.out
         go_wp2_with (first | ((with_reducible refine gD (N := 3) rfl ?_); (try (refine gG (by rfl) ?_; dsimp only)); refine xE ?hg (N := 3) ?hd (cs := #[.int .i64 0, .string (⟨#[]⟩ : ByteArray), .bool false, .string (⟨#[]⟩ : ByteArray), .int .i64 0]) (t := 52) ?hr ?_; (case hd => rfl); (case hg => rfl); (case hr => first | (go_simp; done) | (go_simp; rfl)); intro gb110 hg w54 hbox hb; have BK110 := A0_.mk (hbox); have GW110 := A0_.mk ((by rw [hg]; exact (wZ SQ.bw) : w.heap.size ≤ gb110)); have GE110 := A0_.mk ((by rw [hg]; exact (wZ SQ.bw) : w.heap.size ≤ gb110)); have NB106_110 := A0_.mk ((by rw [hg]; exact Nat.ne_of_lt (bL (g := gb106) SQ.kw) : gb106 ≠ gb110)); have NB110_106 := A0_.mk ((by rw [hg]; exact Nat.ne_of_gt (bL (g := gb106) SQ.kw) : gb110 ≠ gb106)); replace BK106 := A0_.mk (bB (g := gb106) SQ.kw hb); replace HB := A0_.mk (wT SQ.bw hb); clear hb hbox hg; have hnb55 := NB110_106.out; have hnc55 := NB106_110.out; obtain ⟨hcz56_0, hcz56_1, hcz56_2, hcz56_3, hcz56_4, hfz56_0, hfz56_1, hfz56_2, hfz56_3, hfz56_4⟩ := SQ.cs5 BK110.out; obtain ⟨hcz57_0, hcz57_1, hcz57_2, hcz57_3, hcz57_4, hcz57_5, hfz57_0, hfz57_1, hfz57_2, hfz57_3, hfz57_4, hfz57_5⟩ := SQ.cs6 BK106.out))
         go_ret
         exact ⟨by first | rfl | (simp [errW_none, errW_some] <;> rfl) | (simp [*, errW_none, errW_some] <;> rfl) | (cases a0_1.toList <;> rfl) | (congr 2; cases a0_1.toList <;> rfl), SQ.bw⟩
        ·rw [if_neg c52] at H
         have c52b0 : decide (1 < (l0_5.length : Int)) = false := decide_eq_false c52
         have c52b1 : decide (1 < l0_5.length) = false := decide_eq_false (by omega)
         clear c52
         by_cases c58 : a0_2 = true
         ·subst c58
          rw [if_pos rfl] at H
          obtain rfl := Option.some.inj H
          obtain ⟨hcz59_0, hcz59_1, hcz59_2, hcz59_3, hcz59_4, hcz59_5, hfz59_0, hfz59_1, hfz59_2, hfz59_3, hfz59_4, hfz59_5⟩ := SQ.cs6 BK106.out
          go_wp2_with (first | ((with_reducible refine gD (N := 3) rfl ?_); (try (refine gG (by rfl) ?_; dsimp only)); refine xE ?hg (N := 3) ?hd (cs := #[.int .i64 0, .string (⟨#[]⟩ : ByteArray), .bool false, .string (⟨#[]⟩ : ByteArray), .int .i64 0]) (t := 52) ?hr ?_; (case hd => rfl); (case hg => rfl); (case hr => first | (go_simp; done) | (go_simp; rfl)); intro gb110 hg w60 hbox hb; have BK110 := A0_.mk (hbox); have GW110 := A0_.mk ((by rw [hg]; exact (wZ SQ.bw) : w.heap.size ≤ gb110)); have GE110 := A0_.mk ((by rw [hg]; exact (wZ SQ.bw) : w.heap.size ≤ gb110)); have NB106_110 := A0_.mk ((by rw [hg]; exact Nat.ne_of_lt (bL (g := gb106) SQ.kw) : gb106 ≠ gb110)); have NB110_106 := A0_.mk ((by rw [hg]; exact Nat.ne_of_gt (bL (g := gb106) SQ.kw) : gb110 ≠ gb106)); replace BK106 := A0_.mk (bB (g := gb106) SQ.kw hb); replace HB := A0_.mk (wT SQ.bw hb); clear hb hbox hg; have hnb61 := NB110_106.out; have hnc61 := NB106_110.out; obtain ⟨hcz62_0, hcz62_1, hcz62_2, hcz62_3, hcz62_4, hfz62_0, hfz62_1, hfz62_2, hfz62_3, hfz62_4⟩ := SQ.cs5 BK110.out; obtain ⟨hcz63_0, hcz63_1, hcz63_2, hcz63_3, hcz63_4, hcz63_5, hfz63_0, hfz63_1, hfz63_2, hfz63_3, hfz63_4, hfz63_5⟩ := SQ.cs6 BK106.out))
          go_ret
          exact ⟨by first | rfl | (simp [errW_none, errW_some] <;> rfl) | (simp [*, errW_none, errW_some] <;> rfl) | (cases a0_1.toList <;> rfl) | (congr 2; cases a0_1.toList <;> rfl), SQ.bw⟩
         ·replace c58 := Bool.eq_false_iff.mpr c58
          subst c58
          rw [if_neg (show ¬ (false = true) by decide)] at H
          obtain rfl := Option.some.inj H
          obtain ⟨hcz64_0, hcz64_1, hcz64_2, hcz64_3, hcz64_4, hcz64_5, hfz64_0, hfz64_1, hfz64_2, hfz64_3, hfz64_4, hfz64_5⟩ := SQ.cs6 BK106.out
          go_wp2_with (first | ((with_reducible refine gD (N := 3) rfl ?_); (try (refine gG (by rfl) ?_; dsimp only)); refine xE ?hg (N := 3) ?hd (cs := #[.int .i64 0, .string (⟨#[]⟩ : ByteArray), .bool false, .string (⟨#[]⟩ : ByteArray), .int .i64 0]) (t := 52) ?hr ?_; (case hd => rfl); (case hg => rfl); (case hr => first | (go_simp; done) | (go_simp; rfl)); intro gb110 hg w65 hbox hb; have BK110 := A0_.mk (hbox); have GW110 := A0_.mk ((by rw [hg]; exact (wZ SQ.bw) : w.heap.size ≤ gb110)); have GE110 := A0_.mk ((by rw [hg]; exact (wZ SQ.bw) : w.heap.size ≤ gb110)); have NB106_110 := A0_.mk ((by rw [hg]; exact Nat.ne_of_lt (bL (g := gb106) SQ.kw) : gb106 ≠ gb110)); have NB110_106 := A0_.mk ((by rw [hg]; exact Nat.ne_of_gt (bL (g := gb106) SQ.kw) : gb110 ≠ gb106)); replace BK106 := A0_.mk (bB (g := gb106) SQ.kw hb); replace HB := A0_.mk (wT SQ.bw hb); clear hb hbox hg; have hnb66 := NB110_106.out; have hnc66 := NB106_110.out; obtain ⟨hcz67_0, hcz67_1, hcz67_2, hcz67_3, hcz67_4, hfz67_0, hfz67_1, hfz67_2, hfz67_3, hfz67_4⟩ := SQ.cs5 BK110.out; obtain ⟨hcz68_0, hcz68_1, hcz68_2, hcz68_3, hcz68_4, hcz68_5, hfz68_0, hfz68_1, hfz68_2, hfz68_3, hfz68_4, hfz68_5⟩ := SQ.cs6 BK106.out))
          go_ret
          exact ⟨by first | rfl | (simp [errW_none, errW_some] <;> rfl) | (simp [*, errW_none, errW_some] <;> rfl) | (cases a0_1.toList <;> rfl) | (congr 2; cases a0_1.toList <;> rfl), SQ.bw⟩
       ·rw [if_neg c51] at H
        have c51b0 : (a0_1.toList == ([] : List UInt8)) = false := beq_eq_false_iff_ne.mpr c51
        have c51b1 : (a0_1.toList != ([] : List UInt8)) = true := bne_iff_ne.mpr c51
        obtain rfl := Option.some.inj H
        obtain ⟨hcz69_0, hcz69_1, hcz69_2, hcz69_3, hcz69_4, hcz69_5, hfz69_0, hfz69_1, hfz69_2, hfz69_3, hfz69_4, hfz69_5⟩ := SQ.cs6 BK106.out
        go_wp2_with (first | ((with_reducible refine gD (N := 3) rfl ?_); (try (refine gG (by rfl) ?_; dsimp only)); refine xE ?hg (N := 3) ?hd (cs := #[.int .i64 0, .string (⟨#[]⟩ : ByteArray), .bool false, .string (⟨#[]⟩ : ByteArray), .int .i64 0]) (t := 52) ?hr ?_; (case hd => rfl); (case hg => rfl); (case hr => first | (go_simp; done) | (go_simp; rfl)); intro gb110 hg w70 hbox hb; have BK110 := A0_.mk (hbox); have GW110 := A0_.mk ((by rw [hg]; exact (wZ SQ.bw) : w.heap.size ≤ gb110)); have GE110 := A0_.mk ((by rw [hg]; exact (wZ SQ.bw) : w.heap.size ≤ gb110)); have NB106_110 := A0_.mk ((by rw [hg]; exact Nat.ne_of_lt (bL (g := gb106) SQ.kw) : gb106 ≠ gb110)); have NB110_106 := A0_.mk ((by rw [hg]; exact Nat.ne_of_gt (bL (g := gb106) SQ.kw) : gb110 ≠ gb106)); replace BK106 := A0_.mk (bB (g := gb106) SQ.kw hb); replace HB := A0_.mk (wT SQ.bw hb); clear hb hbox hg; have hnb71 := NB110_106.out; have hnc71 := NB106_110.out; obtain ⟨hcz72_0, hcz72_1, hcz72_2, hcz72_3, hcz72_4, hfz72_0, hfz72_1, hfz72_2, hfz72_3, hfz72_4⟩ := SQ.cs5 BK110.out; obtain ⟨hcz73_0, hcz73_1, hcz73_2, hcz73_3, hcz73_4, hcz73_5, hfz73_0, hfz73_1, hfz73_2, hfz73_3, hfz73_4, hfz73_5⟩ := SQ.cs6 BK106.out))
        go_ret
        exact ⟨by first | rfl | (simp [errW_none, errW_some] <;> rfl) | (simp [*, errW_none, errW_some] <;> rfl) | (cases a0_1.toList <;> rfl) | (congr 2; cases a0_1.toList <;> rfl), SQ.bw⟩
      ·rw [if_neg c50] at H
       have c50b0 : (a0_0 == 3) = false := beq_eq_false_iff_ne.mpr c50
       have c50b1 : (a0_0 != 3) = true := bne_iff_ne.mpr c50
       obtain rfl := Option.some.inj H
       obtain ⟨hcz74_0, hcz74_1, hcz74_2, hcz74_3, hcz74_4, hcz74_5, hfz74_0, hfz74_1, hfz74_2, hfz74_3, hfz74_4, hfz74_5⟩ := SQ.cs6 BK106.out
       go_wp2_with (first | ((with_reducible refine gD (N := 3) rfl ?_); (try (refine gG (by rfl) ?_; dsimp only)); refine xE ?hg (N := 3) ?hd (cs := #[.int .i64 0, .string (⟨#[]⟩ : ByteArray), .bool false, .string (⟨#[]⟩ : ByteArray), .int .i64 0]) (t := 52) ?hr ?_; (case hd => rfl); (case hg => rfl); (case hr => first | (go_simp; done) | (go_simp; rfl)); intro gb110 hg w75 hbox hb; have BK110 := A0_.mk (hbox); have GW110 := A0_.mk ((by rw [hg]; exact (wZ SQ.bw) : w.heap.size ≤ gb110)); have GE110 := A0_.mk ((by rw [hg]; exact (wZ SQ.bw) : w.heap.size ≤ gb110)); have NB106_110 := A0_.mk ((by rw [hg]; exact Nat.ne_of_lt (bL (g := gb106) SQ.kw) : gb106 ≠ gb110)); have NB110_106 := A0_.mk ((by rw [hg]; exact Nat.ne_of_gt (bL (g := gb106) SQ.kw) : gb110 ≠ gb106)); replace BK106 := A0_.mk (bB (g := gb106) SQ.kw hb); replace HB := A0_.mk (wT SQ.bw hb); clear hb hbox hg; have hnb76 := NB110_106.out; have hnc76 := NB106_110.out; obtain ⟨hcz77_0, hcz77_1, hcz77_2, hcz77_3, hcz77_4, hfz77_0, hfz77_1, hfz77_2, hfz77_3, hfz77_4⟩ := SQ.cs5 BK110.out; obtain ⟨hcz78_0, hcz78_1, hcz78_2, hcz78_3, hcz78_4, hcz78_5, hfz78_0, hfz78_1, hfz78_2, hfz78_3, hfz78_4, hfz78_5⟩ := SQ.cs6 BK106.out))
       go_ret
       exact ⟨by first | rfl | (simp [errW_none, errW_some] <;> rfl) | (simp [*, errW_none, errW_some] <;> rfl) | (cases a0_1.toList <;> rfl) | (congr 2; cases a0_1.toList <;> rfl), SQ.bw⟩

end Go.Proofs.YtklakmooaffjpaaDoor.PNod
