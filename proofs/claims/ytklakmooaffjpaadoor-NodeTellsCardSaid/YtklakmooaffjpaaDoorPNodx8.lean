-- Written by a program of this session for this seat. Not trusted: Lean checks it.
import Derived.Test.YtklakmooaffjpaaDoorSQ
import Derived.Test.YtklakmooaffjpaaDoorPNodx0
import Derived.Test.YtklakmooaffjpaaDoorPNodx9
namespace Go.Proofs.YtklakmooaffjpaaDoor.PNod
open Go.RowKit Go.Proofs.YtklakmooaffjpaaDoorW.PrintWords Go.Proofs.YtklakmooaffjpaaDoorW.PrintLast Go.Proofs.YtklakmooaffjpaaDoorW.PrintMore
attribute [local go_sem] max2_int min2_int max_two min_two max_three min_three max_four min_four   -- for this text's walks alone
set_option linter.unusedVariables false
set_option linter.unusedSimpArgs false
open Go.Proofs.YtklakmooaffjpaaDoor.HW Go.Proofs.YtklakmooaffjpaaDoor.DgsB

/-! ### r9Good: function 14 -/
mutual
def r9Good.l0 : Nat → Int → Int → ByteArray → Bool → ByteArray → Int → List ByteArray → Option (Bool)
 | 0, _, _, _, _, _, _, _ => none
 | k + 1, x3, x226000, x226001, x226002, x226003, x226004, x226005 => if x3 < (x226005.length : Int) then (if 0 ≤ x3 then (if ((rdOf ByteArray.empty x226005 x3).size : Int) = 32 then (r9Good.l0 k (wrap64 (x3 + 1)) x226000 x226001 x226002 x226003 x226004 x226005) else (some false)) else (none)) else (if (x226003.size : Int) > 16 then (r9Good.j1 k true x226000 x226001 x226002 x226003 x226004 x226005) else (if x226002 = true then (r9Good.j1 k false x226000 x226001 x226002 x226003 x226004 x226005) else (r9Good.j1 k (x226003.toList != ([] : List UInt8)) x226000 x226001 x226002 x226003 x226004 x226005)))
def r9Good.j1 : Nat → Bool → Int → ByteArray → Bool → ByteArray → Int → List ByteArray → Option (Bool)
 | 0, _, _, _, _, _, _, _ => none
 | k + 1, x32, x226000, x226001, x226002, x226003, x226004, x226005 => if x32 = true then (some false) else (if x226000 = 1 then ((r2Good.f k x226001).bind fun t227 => (if t227 = true then (if x226002 = true then (if x226004 = 0 then (some ((x226005.length : Int) == 0)) else (some false)) else (some false)) else (some false))) else (if x226000 = 2 then ((r2Good.f k x226001).bind fun t228 => (if t228 = true then (if (x226001.size : Int) ≥ 1 then (if x226002 = true then (some false) else (if x226004 = 1 then (some ((x226005.length : Int) == 1)) else (some false))) else (some false)) else (some false))) else (if x226000 = 3 then (if x226002 = true then (if x226001.toList = ([] : List UInt8) then (if x226004 ≥ 0 then (if x226004 ≤ 65535 then ((r9Bits.f k x226004).bind fun t229 => (if t229 = (x226005.length : Int) then (some (decide ((wrap64 ((x226005.length : Int) + 1)) ≥ 2))) else (some false))) else (some false)) else (some false)) else (some false)) else (if x226001.toList = ([] : List UInt8) then (if x226004 ≥ 0 then (if x226004 ≤ 65535 then ((r9Bits.f k x226004).bind fun t230 => (if t230 = (x226005.length : Int) then (some (decide ((x226005.length : Int) ≥ 2))) else (some false))) else (some false)) else (some false)) else (some false))) else (some false))))
end
def r9Good.f (k : Nat) (a0_0 : Int) (a0_1 : ByteArray) (a0_2 : Bool) (a0_3 : ByteArray) (a0_4 : Int) (l0_5 : List ByteArray) : Option (Bool) := r9Good.l0 k 0 a0_0 a0_1 a0_2 a0_3 a0_4 l0_5
set_option maxHeartbeats 8000000 in
set_option maxRecDepth 100000 in
theorem r9Good.calls (k : Nat) (a0_0 : Int) (a0_1 : ByteArray) (a0_2 : Bool) (a0_3 : ByteArray) (a0_4 : Int) (A0_5 : Option Addr) (c0_5 : Nat) (l0_5 : List ByteArray) (r : Bool) (w : World) (hr0_5 : Kd.C Kd.string w A0_5 l0_5.length l0_5) (hc0_5 : l0_5.length ≤ c0_5) (h : r9Good.f k a0_0 a0_1 a0_2 a0_3 a0_4 l0_5 = some r) :
  Calls Tryd.prog 14 #[.agg #[.int .i64 a0_0, .string a0_1, .bool a0_2, .string a0_3, .int .i64 a0_4, .slice A0_5 l0_5.length c0_5]] w fun e w' => e = .returned (.bool r) ∧ Below w.heap.size w w' := by
 have hu24 := Tryd.underlying24
 have HR0_5 := A0_.mk hr0_5
 have HC0_5 := A0_.mk hc0_5
 clear hr0_5 hc0_5
 have HB := A0_.mk (Below.refl w.heap.size w)
 have H : (r9Good.l0 k 0 a0_0 a0_1 a0_2 a0_3 a0_4 l0_5) = some r := h
 clear h
 have H' := A0_.mk H
 clear H
 go_enter Tryd.func14, Tryd.ntmps14
 go_wp2_with (first | ((with_reducible refine gD (N := 1) rfl ?_); (try (refine gG (by rfl) ?_; dsimp only)); refine xE ?hg (N := 1) ?hd (cs := #[.int .i64 a0_0, .string a0_1, .bool a0_2, .string a0_3, .int .i64 a0_4, .slice A0_5 l0_5.length c0_5]) (t := 24) ?hr ?_; (case hd => rfl); (case hg => rfl); (case hr => first | (go_simp; done) | (go_simp; rfl)); intro gb225 hg w2 hbox hb; have BK225 := A0_.mk (hbox); have GW225 := A0_.mk ((by rw [hg]; exact (wZ SQ.bw) : w.heap.size ≤ gb225)); have GE225 := A0_.mk ((by rw [hg]; exact (wZ SQ.bw) : w.heap.size ≤ gb225)); replace HB := A0_.mk (wT SQ.bw hb); clear hb hbox hg))
 repeat (go_quiet (first | ((with_reducible refine gD (N := 1) rfl ?_); (try (refine gG (by rfl) ?_; dsimp only)); refine xE ?hg (N := 1) ?hd (cs := #[.int .i64 a0_0, .string a0_1, .bool a0_2, .string a0_3, .int .i64 a0_4, .slice A0_5 l0_5.length c0_5]) (t := 24) ?hr ?_; (case hd => rfl); (case hg => rfl); (case hr => first | (go_simp; done) | (go_simp; rfl)); intro gb225 hg w2 hbox hb; have BK225 := A0_.mk (hbox); have GW225 := A0_.mk ((by rw [hg]; exact (wZ SQ.bw) : w.heap.size ≤ gb225)); have GE225 := A0_.mk ((by rw [hg]; exact (wZ SQ.bw) : w.heap.size ≤ gb225)); replace HB := A0_.mk (wT SQ.bw hb); clear hb hbox hg)); try go_wp2_with (first | ((with_reducible refine gD (N := 1) rfl ?_); (try (refine gG (by rfl) ?_; dsimp only)); refine xE ?hg (N := 1) ?hd (cs := #[.int .i64 a0_0, .string a0_1, .bool a0_2, .string a0_3, .int .i64 a0_4, .slice A0_5 l0_5.length c0_5]) (t := 24) ?hr ?_; (case hd => rfl); (case hg => rfl); (case hr => first | (go_simp; done) | (go_simp; rfl)); intro gb225 hg w2 hbox hb; have BK225 := A0_.mk (hbox); have GW225 := A0_.mk ((by rw [hg]; exact (wZ SQ.bw) : w.heap.size ≤ gb225)); have GE225 := A0_.mk ((by rw [hg]; exact (wZ SQ.bw) : w.heap.size ≤ gb225)); replace HB := A0_.mk (wT SQ.bw hb); clear hb hbox hg)))
 go_loopg [3] k (fun kq v3 w' => ∃ (x3_1 : Int), v3 = .int .i64 x3_1 ∧ A0_ (r9Good.l0 kq x3_1 a0_0 a0_1 a0_2 a0_3 a0_4 l0_5 = some r) ∧ A0_ (kq ≤ k) ∧ A0_ (w'.heap[gb225]? = some (.cells #[.int .i64 a0_0, .string a0_1, .bool a0_2, .string a0_3, .int .i64 a0_4, (.slice A0_5 l0_5.length c0_5)] 24 (0, 0))) ∧ A0_ (Below w.heap.size w w'))
 case atStart => exact ⟨(0), (by first | rfl | (simp; done) | (simp [*]; done) | (congr 1; cases a0_3.toList <;> rfl)), H', ⟨Nat.le_refl _⟩, ⟨SQ.kw⟩, ⟨SQ.bw⟩⟩
 case round =>
  clear H'
  try clear c1
  try clear p2
  obtain ⟨x3_1, rfl, HA, HK1, BK225, HB⟩ := hrel
  cases gk with
  | zero => exact absurd HA.out (by simp [r9Good.l0])
  | succ k1 =>
   have H := HA.out
   clear HA
   simp only [r9Good.l0] at H
   by_cases c3 : x3_1 < (l0_5.length : Int)
   ·rw [if_pos c3] at H
    have c3b0 : decide (x3_1 < (l0_5.length : Int)) = true := decide_eq_true c3
    clear c3
    by_cases c4 : 0 ≤ x3_1
    rotate_left
    ·rw [if_neg c4] at H
     exact absurd H (by simp)
    rw [if_pos c4] at H
    have c4b0 : decide (0 ≤ x3_1) = true := decide_eq_true c4
    clear c4
    by_cases c5 : ((rdOf ByteArray.empty l0_5 x3_1).size : Int) = 32
    ·rw [if_pos c5] at H
     have c5b0 : (((rdOf ByteArray.empty l0_5 x3_1).size : Int) == 32) = true := beq_iff_eq.mpr c5
     have c5b1 : (((rdOf ByteArray.empty l0_5 x3_1).size : Int) != 32) = false := bne_eq_false_iff_eq.mpr c5
     clear c5
     have H' := A0_.mk H
     clear H
     obtain ⟨hcz6_0, hcz6_1, hcz6_2, hcz6_3, hcz6_4, hcz6_5, hfz6_0, hfz6_1, hfz6_2, hfz6_3, hfz6_4, hfz6_5⟩ := SQ.cs6 BK225.out
     have p226 : 0 ≤ (x3_1 : Int) := SQ.da
     have q226 : x3_1 < (l0_5.length : Int) := SQ.da
     obtain ⟨ad226, e226, hx226_0⟩ := Kd.at_string HR0_5.out x3_1 p226 q226
     cases e226
     replace hx226_0 := (HB.out.cell (World.block_lt_of_cell? w _ hx226_0)).trans hx226_0
     replace p226 := eq_true p226
     replace q226 := eq_true q226
     go_wp2
     repeat (go_quiet (fail); try go_wp2)
     go_roundg k1
     case measure => have := HK1.out; omega
     case rel => exact ⟨(wrap64 (x3_1 + 1)), (by first | rfl | (simp; done) | (simp [*]; done) | (congr 1; cases a0_3.toList <;> rfl)), H', ⟨by have := HK1.out; omega⟩, ⟨SQ.kw⟩, ⟨SQ.bw⟩⟩
    ·rw [if_neg c5] at H
     have c5b0 : (((rdOf ByteArray.empty l0_5 x3_1).size : Int) == 32) = false := beq_eq_false_iff_ne.mpr c5
     have c5b1 : (((rdOf ByteArray.empty l0_5 x3_1).size : Int) != 32) = true := bne_iff_ne.mpr c5
     obtain rfl := Option.some.inj H
     obtain ⟨hcz7_0, hcz7_1, hcz7_2, hcz7_3, hcz7_4, hcz7_5, hfz7_0, hfz7_1, hfz7_2, hfz7_3, hfz7_4, hfz7_5⟩ := SQ.cs6 BK225.out
     have p226 : 0 ≤ (x3_1 : Int) := SQ.da
     have q226 : x3_1 < (l0_5.length : Int) := SQ.da
     obtain ⟨ad226, e226, hx226_0⟩ := Kd.at_string HR0_5.out x3_1 p226 q226
     cases e226
     replace hx226_0 := (HB.out.cell (World.block_lt_of_cell? w _ hx226_0)).trans hx226_0
     replace p226 := eq_true p226
     replace q226 := eq_true q226
     go_wp2
     repeat (go_quiet (fail); try go_wp2)
     go_ret
     exact ⟨SQ.er, SQ.bw⟩
   ·rw [if_neg c3] at H
    have c3b0 : decide (x3_1 < (l0_5.length : Int)) = false := decide_eq_false c3
    clear c3
    have HC8 := A0_.mk H
    clear H
    obtain ⟨hcz9_0, hcz9_1, hcz9_2, hcz9_3, hcz9_4, hcz9_5, hfz9_0, hfz9_1, hfz9_2, hfz9_3, hfz9_4, hfz9_5⟩ := SQ.cs6 BK225.out
    go_upto_region 6 with (fail)
    repeat (go_quiet (fail); go_upto_region 6 with (fail))
    go_cut [32] (fun v32 wc => ∃ (kq : Nat) (x32_7 : Bool), v32 = .bool x32_7 ∧ A0_ (r9Good.j1 kq x32_7 a0_0 a0_1 a0_2 a0_3 a0_4 l0_5 = some r) ∧ A0_ (kq ≤ k1) ∧ A0_ (wc.heap[gb225]? = some (.cells #[.int .i64 a0_0, .string a0_1, .bool a0_2, .string a0_3, .int .i64 a0_4, (.slice A0_5 l0_5.length c0_5)] 24 (0, 0))) ∧ A0_ (Below w.heap.size w wc))
    case first =>
     have H := HC8.out
     clear HC8
     by_cases c10 : (a0_3.size : Int) > 16
     ·rw [if_pos c10] at H
      have c10b0 : decide (16 < (a0_3.size : Int)) = true := decide_eq_true c10
      have c10b1 : decide (16 < a0_3.size) = true := decide_eq_true (by omega)
      clear c10
      (first | rw [c10b0] | (simp only [i64_w, i32_w]; rw [c10b0]) | skip)
      have H' := A0_.mk H
      clear H
      obtain ⟨hcz11_0, hcz11_1, hcz11_2, hcz11_3, hcz11_4, hcz11_5, hfz11_0, hfz11_1, hfz11_2, hfz11_3, hfz11_4, hfz11_5⟩ := SQ.cs6 BK225.out
      go_wp2
      repeat (go_quiet (fail); try go_wp2)
      go_meet
      case rel => exact ⟨_, (true), (by first | rfl | (simp; done) | (simp [*]; done) | (congr 1; cases a0_3.toList <;> rfl)), H', ⟨by have := HK1.out; first | omega | exact Nat.le_refl _⟩, ⟨SQ.kw⟩, ⟨SQ.bw⟩⟩
     ·rw [if_neg c10] at H
      have c10b0 : decide (16 < (a0_3.size : Int)) = false := decide_eq_false c10
      have c10b1 : decide (16 < a0_3.size) = false := decide_eq_false (by omega)
      clear c10
      (first | rw [c10b0] | (simp only [i64_w, i32_w]; rw [c10b0]) | skip)
      by_cases c12 : a0_2 = true
      ·subst c12
       rw [if_pos rfl] at H
       have H' := A0_.mk H
       clear H
       obtain ⟨hcz13_0, hcz13_1, hcz13_2, hcz13_3, hcz13_4, hcz13_5, hfz13_0, hfz13_1, hfz13_2, hfz13_3, hfz13_4, hfz13_5⟩ := SQ.cs6 BK225.out
       go_wp2
       repeat (go_quiet (fail); try go_wp2)
       go_meet
       case rel => exact ⟨_, (false), (by first | rfl | (simp; done) | (simp [*]; done) | (congr 1; cases a0_3.toList <;> rfl)), H', ⟨by have := HK1.out; first | omega | exact Nat.le_refl _⟩, ⟨SQ.kw⟩, ⟨SQ.bw⟩⟩
      ·replace c12 := Bool.eq_false_iff.mpr c12
       subst c12
       rw [if_neg (show ¬ (false = true) by decide)] at H
       have H' := A0_.mk H
       clear H
       obtain ⟨hcz14_0, hcz14_1, hcz14_2, hcz14_3, hcz14_4, hcz14_5, hfz14_0, hfz14_1, hfz14_2, hfz14_3, hfz14_4, hfz14_5⟩ := SQ.cs6 BK225.out
       go_wp2
       repeat (go_quiet (fail); try go_wp2)
       go_meet
       case rel => exact ⟨_, ((a0_3.toList != ([] : List UInt8))), (by first | rfl | (simp; done) | (simp [*]; done) | (congr 1; cases a0_3.toList <;> rfl)), H', ⟨by have := HK1.out; first | omega | exact Nat.le_refl _⟩, ⟨SQ.kw⟩, ⟨SQ.bw⟩⟩
    case rest =>
     clear HC8
     try clear c1
     try clear p2
     try clear q2
     try clear hx2
     try clear c3
     try clear c3b0
     try clear c4
     try clear c4b0
     try clear c5
     try clear c5b0
     try clear c5b1
     try clear p6
     try clear c10
     try clear c10b0
     try clear c10b1
     try clear c12
     try clear c14
     try clear hcz11_0
     try clear hcz11_1
     try clear hcz11_2
     try clear hcz11_3
     try clear hcz11_4
     try clear hcz11_5
     try clear hcz13_0
     try clear hcz13_1
     try clear hcz13_2
     try clear hcz13_3
     try clear hcz13_4
     try clear hcz13_5
     try clear hcz14_0
     try clear hcz14_1
     try clear hcz14_2
     try clear hcz14_3
     try clear hcz14_4
     try clear hcz14_5
     try clear hcz6_0
     try clear hcz6_1
     try clear hcz6_2
     try clear hcz6_3
     try clear hcz6_4
     try clear hcz6_5
     try clear hcz7_0
     try clear hcz7_1
     try clear hcz7_2
     try clear hcz7_3
     try clear hcz7_4
     try clear hcz7_5
     try clear hcz9_0
     try clear hcz9_1
     try clear hcz9_2
     try clear hcz9_3
     try clear hcz9_4
     try clear hcz9_5
     try clear hfz11_0
     try clear hfz11_1
     try clear hfz11_2
     try clear hfz11_3
     try clear hfz11_4
     try clear hfz11_5
     try clear hfz13_0
     try clear hfz13_1
     try clear hfz13_2
     try clear hfz13_3
     try clear hfz13_4
     try clear hfz13_5
     try clear hfz14_0
     try clear hfz14_1
     try clear hfz14_2
     try clear hfz14_3
     try clear hfz14_4
     try clear hfz14_5
     try clear hfz6_0
     try clear hfz6_1
     try clear hfz6_2
     try clear hfz6_3
     try clear hfz6_4
     try clear hfz6_5
     try clear hfz7_0
     try clear hfz7_1
     try clear hfz7_2
     try clear hfz7_3
     try clear hfz7_4
     try clear hfz7_5
     try clear hfz9_0
     try clear hfz9_1
     try clear hfz9_2
     try clear hfz9_3
     try clear hfz9_4
     try clear hfz9_5
     try clear hx226_0
     try clear p2
     try clear p226
     try clear q226
     obtain ⟨kq, x32_7, rfl, HA, HJ7, BK225, HB⟩ := hcut
     cases kq with
     | zero => exact absurd HA.out (by simp [r9Good.j1])
     | succ kj7 =>
      have H := HA.out
      clear HA
      simp only [r9Good.j1] at H
      by_cases c15 : x32_7 = true
      ·subst c15
       rw [if_pos rfl] at H
       obtain rfl := Option.some.inj H
       go_wp2
       repeat (go_quiet (fail); try go_wp2)
       go_ret
       exact ⟨SQ.er, SQ.bw⟩
      ·replace c15 := Bool.eq_false_iff.mpr c15
       subst c15
       rw [if_neg (show ¬ (false = true) by decide)] at H
       by_cases c16 : a0_0 = 1
       ·rw [if_pos c16] at H
        have c16b0 : (a0_0 == 1) = true := beq_iff_eq.mpr c16
        have c16b1 : (a0_0 != 1) = false := bne_eq_false_iff_eq.mpr c16
        clear c16
        replace H := Option.bind_eq_some_iff.mp H
        obtain ⟨t227, A170, H⟩ := H
        try dsimp only at H
        have A17 := A0_.mk A170
        clear A170
        by_cases c18 : t227 = true
        ·subst c18
         rw [if_pos rfl] at H
         by_cases c19 : a0_2 = true
         ·subst c19
          rw [if_pos rfl] at H
          by_cases c20 : a0_4 = 0
          ·rw [if_pos c20] at H
           have c20b0 : (a0_4 == 0) = true := beq_iff_eq.mpr c20
           have c20b1 : (a0_4 != 0) = false := bne_eq_false_iff_eq.mpr c20
           clear c20
           obtain rfl := Option.some.inj H
           obtain ⟨hcz21_0, hcz21_1, hcz21_2, hcz21_3, hcz21_4, hcz21_5, hfz21_0, hfz21_1, hfz21_2, hfz21_3, hfz21_4, hfz21_5⟩ := SQ.cs6 BK225.out
           go_wp2_with (first | (go_at_call 28; (with_reducible refine (r2Good.calls kj7 a0_1 true _ A17.out).mono ?_); rintro e w' ⟨rfl, ⟨nd, rfl⟩⟩; (try first | exact ⟨rfl, _, World.drewN_drewN _ _ _⟩ | exact ⟨rfl, _, Eq.trans (World.drewN_drewN _ _ _) (congrArg (World.drewN _) (Nat.add_assoc _ _ _))⟩)))
           repeat (go_quiet (first | (go_at_call 28; (with_reducible refine (r2Good.calls kj7 a0_1 true _ A17.out).mono ?_); rintro e w' ⟨rfl, ⟨nd, rfl⟩⟩; (try first | exact ⟨rfl, _, World.drewN_drewN _ _ _⟩ | exact ⟨rfl, _, Eq.trans (World.drewN_drewN _ _ _) (congrArg (World.drewN _) (Nat.add_assoc _ _ _))⟩))); try go_wp2_with (first | (go_at_call 28; (with_reducible refine (r2Good.calls kj7 a0_1 true _ A17.out).mono ?_); rintro e w' ⟨rfl, ⟨nd, rfl⟩⟩; (try first | exact ⟨rfl, _, World.drewN_drewN _ _ _⟩ | exact ⟨rfl, _, Eq.trans (World.drewN_drewN _ _ _) (congrArg (World.drewN _) (Nat.add_assoc _ _ _))⟩))))
           go_ret
           exact ⟨SQ.er, SQ.bw⟩
          ·rw [if_neg c20] at H
           have c20b0 : (a0_4 == 0) = false := beq_eq_false_iff_ne.mpr c20
           have c20b1 : (a0_4 != 0) = true := bne_iff_ne.mpr c20
           obtain rfl := Option.some.inj H
           obtain ⟨hcz22_0, hcz22_1, hcz22_2, hcz22_3, hcz22_4, hcz22_5, hfz22_0, hfz22_1, hfz22_2, hfz22_3, hfz22_4, hfz22_5⟩ := SQ.cs6 BK225.out
           go_wp2_with (first | (go_at_call 28; (with_reducible refine (r2Good.calls kj7 a0_1 true _ A17.out).mono ?_); rintro e w' ⟨rfl, ⟨nd, rfl⟩⟩; (try first | exact ⟨rfl, _, World.drewN_drewN _ _ _⟩ | exact ⟨rfl, _, Eq.trans (World.drewN_drewN _ _ _) (congrArg (World.drewN _) (Nat.add_assoc _ _ _))⟩)))
           repeat (go_quiet (first | (go_at_call 28; (with_reducible refine (r2Good.calls kj7 a0_1 true _ A17.out).mono ?_); rintro e w' ⟨rfl, ⟨nd, rfl⟩⟩; (try first | exact ⟨rfl, _, World.drewN_drewN _ _ _⟩ | exact ⟨rfl, _, Eq.trans (World.drewN_drewN _ _ _) (congrArg (World.drewN _) (Nat.add_assoc _ _ _))⟩))); try go_wp2_with (first | (go_at_call 28; (with_reducible refine (r2Good.calls kj7 a0_1 true _ A17.out).mono ?_); rintro e w' ⟨rfl, ⟨nd, rfl⟩⟩; (try first | exact ⟨rfl, _, World.drewN_drewN _ _ _⟩ | exact ⟨rfl, _, Eq.trans (World.drewN_drewN _ _ _) (congrArg (World.drewN _) (Nat.add_assoc _ _ _))⟩))))
           go_ret
           exact ⟨SQ.er, SQ.bw⟩
         ·replace c19 := Bool.eq_false_iff.mpr c19
          subst c19
          rw [if_neg (show ¬ (false = true) by decide)] at H
          obtain rfl := Option.some.inj H
          obtain ⟨hcz23_0, hcz23_1, hcz23_2, hcz23_3, hcz23_4, hcz23_5, hfz23_0, hfz23_1, hfz23_2, hfz23_3, hfz23_4, hfz23_5⟩ := SQ.cs6 BK225.out
          go_wp2_with (first | (go_at_call 28; (with_reducible refine (r2Good.calls kj7 a0_1 true _ A17.out).mono ?_); rintro e w' ⟨rfl, ⟨nd, rfl⟩⟩; (try first | exact ⟨rfl, _, World.drewN_drewN _ _ _⟩ | exact ⟨rfl, _, Eq.trans (World.drewN_drewN _ _ _) (congrArg (World.drewN _) (Nat.add_assoc _ _ _))⟩)))
          repeat (go_quiet (first | (go_at_call 28; (with_reducible refine (r2Good.calls kj7 a0_1 true _ A17.out).mono ?_); rintro e w' ⟨rfl, ⟨nd, rfl⟩⟩; (try first | exact ⟨rfl, _, World.drewN_drewN _ _ _⟩ | exact ⟨rfl, _, Eq.trans (World.drewN_drewN _ _ _) (congrArg (World.drewN _) (Nat.add_assoc _ _ _))⟩))); try go_wp2_with (first | (go_at_call 28; (with_reducible refine (r2Good.calls kj7 a0_1 true _ A17.out).mono ?_); rintro e w' ⟨rfl, ⟨nd, rfl⟩⟩; (try first | exact ⟨rfl, _, World.drewN_drewN _ _ _⟩ | exact ⟨rfl, _, Eq.trans (World.drewN_drewN _ _ _) (congrArg (World.drewN _) (Nat.add_assoc _ _ _))⟩))))
          go_ret
          exact ⟨SQ.er, SQ.bw⟩
        ·replace c18 := Bool.eq_false_iff.mpr c18
         subst c18
         rw [if_neg (show ¬ (false = true) by decide)] at H
         obtain rfl := Option.some.inj H
         obtain ⟨hcz24_0, hcz24_1, hcz24_2, hcz24_3, hcz24_4, hcz24_5, hfz24_0, hfz24_1, hfz24_2, hfz24_3, hfz24_4, hfz24_5⟩ := SQ.cs6 BK225.out
         go_wp2_with (first | (go_at_call 28; (with_reducible refine (r2Good.calls kj7 a0_1 false _ A17.out).mono ?_); rintro e w' ⟨rfl, ⟨nd, rfl⟩⟩; (try first | exact ⟨rfl, _, World.drewN_drewN _ _ _⟩ | exact ⟨rfl, _, Eq.trans (World.drewN_drewN _ _ _) (congrArg (World.drewN _) (Nat.add_assoc _ _ _))⟩)))
         repeat (go_quiet (first | (go_at_call 28; (with_reducible refine (r2Good.calls kj7 a0_1 false _ A17.out).mono ?_); rintro e w' ⟨rfl, ⟨nd, rfl⟩⟩; (try first | exact ⟨rfl, _, World.drewN_drewN _ _ _⟩ | exact ⟨rfl, _, Eq.trans (World.drewN_drewN _ _ _) (congrArg (World.drewN _) (Nat.add_assoc _ _ _))⟩))); try go_wp2_with (first | (go_at_call 28; (with_reducible refine (r2Good.calls kj7 a0_1 false _ A17.out).mono ?_); rintro e w' ⟨rfl, ⟨nd, rfl⟩⟩; (try first | exact ⟨rfl, _, World.drewN_drewN _ _ _⟩ | exact ⟨rfl, _, Eq.trans (World.drewN_drewN _ _ _) (congrArg (World.drewN _) (Nat.add_assoc _ _ _))⟩))))
         go_ret
         exact ⟨SQ.er, SQ.bw⟩
       ·rw [if_neg c16] at H
        have c16b0 : (a0_0 == 1) = false := beq_eq_false_iff_ne.mpr c16
        have c16b1 : (a0_0 != 1) = true := bne_iff_ne.mpr c16
        by_cases c25 : a0_0 = 2
        ·rw [if_pos c25] at H
         have c25b0 : (a0_0 == 2) = true := beq_iff_eq.mpr c25
         have c25b1 : (a0_0 != 2) = false := bne_eq_false_iff_eq.mpr c25
         clear c25
         replace H := Option.bind_eq_some_iff.mp H
         obtain ⟨t228, A260, H⟩ := H
         try dsimp only at H
         have A26 := A0_.mk A260
         clear A260
         by_cases c27 : t228 = true
         ·subst c27
          rw [if_pos rfl] at H
          by_cases c28 : (a0_1.size : Int) ≥ 1
          ·rw [if_pos c28] at H
           have c28b0 : decide (1 ≤ (a0_1.size : Int)) = true := decide_eq_true c28
           have c28b1 : decide (1 ≤ a0_1.size) = true := decide_eq_true (by omega)
           clear c28
           by_cases c29 : a0_2 = true
           ·subst c29
            rw [if_pos rfl] at H
            obtain rfl := Option.some.inj H
            obtain ⟨hcz30_0, hcz30_1, hcz30_2, hcz30_3, hcz30_4, hcz30_5, hfz30_0, hfz30_1, hfz30_2, hfz30_3, hfz30_4, hfz30_5⟩ := SQ.cs6 BK225.out
            go_wp2_with (first | (go_at_call 28; (with_reducible refine (r2Good.calls kj7 a0_1 true _ A26.out).mono ?_); rintro e w' ⟨rfl, ⟨nd, rfl⟩⟩; (try first | exact ⟨rfl, _, World.drewN_drewN _ _ _⟩ | exact ⟨rfl, _, Eq.trans (World.drewN_drewN _ _ _) (congrArg (World.drewN _) (Nat.add_assoc _ _ _))⟩)))
            repeat (go_quiet (first | (go_at_call 28; (with_reducible refine (r2Good.calls kj7 a0_1 true _ A26.out).mono ?_); rintro e w' ⟨rfl, ⟨nd, rfl⟩⟩; (try first | exact ⟨rfl, _, World.drewN_drewN _ _ _⟩ | exact ⟨rfl, _, Eq.trans (World.drewN_drewN _ _ _) (congrArg (World.drewN _) (Nat.add_assoc _ _ _))⟩))); try go_wp2_with (first | (go_at_call 28; (with_reducible refine (r2Good.calls kj7 a0_1 true _ A26.out).mono ?_); rintro e w' ⟨rfl, ⟨nd, rfl⟩⟩; (try first | exact ⟨rfl, _, World.drewN_drewN _ _ _⟩ | exact ⟨rfl, _, Eq.trans (World.drewN_drewN _ _ _) (congrArg (World.drewN _) (Nat.add_assoc _ _ _))⟩))))
            go_ret
            exact ⟨SQ.er, SQ.bw⟩
           ·replace c29 := Bool.eq_false_iff.mpr c29
            subst c29
            rw [if_neg (show ¬ (false = true) by decide)] at H
            by_cases c31 : a0_4 = 1
            ·rw [if_pos c31] at H
             have c31b0 : (a0_4 == 1) = true := beq_iff_eq.mpr c31
             have c31b1 : (a0_4 != 1) = false := bne_eq_false_iff_eq.mpr c31
             clear c31
             obtain rfl := Option.some.inj H
             obtain ⟨hcz32_0, hcz32_1, hcz32_2, hcz32_3, hcz32_4, hcz32_5, hfz32_0, hfz32_1, hfz32_2, hfz32_3, hfz32_4, hfz32_5⟩ := SQ.cs6 BK225.out
             go_wp2_with (first | (go_at_call 28; (with_reducible refine (r2Good.calls kj7 a0_1 true _ A26.out).mono ?_); rintro e w' ⟨rfl, ⟨nd, rfl⟩⟩; (try first | exact ⟨rfl, _, World.drewN_drewN _ _ _⟩ | exact ⟨rfl, _, Eq.trans (World.drewN_drewN _ _ _) (congrArg (World.drewN _) (Nat.add_assoc _ _ _))⟩)))
             repeat (go_quiet (first | (go_at_call 28; (with_reducible refine (r2Good.calls kj7 a0_1 true _ A26.out).mono ?_); rintro e w' ⟨rfl, ⟨nd, rfl⟩⟩; (try first | exact ⟨rfl, _, World.drewN_drewN _ _ _⟩ | exact ⟨rfl, _, Eq.trans (World.drewN_drewN _ _ _) (congrArg (World.drewN _) (Nat.add_assoc _ _ _))⟩))); try go_wp2_with (first | (go_at_call 28; (with_reducible refine (r2Good.calls kj7 a0_1 true _ A26.out).mono ?_); rintro e w' ⟨rfl, ⟨nd, rfl⟩⟩; (try first | exact ⟨rfl, _, World.drewN_drewN _ _ _⟩ | exact ⟨rfl, _, Eq.trans (World.drewN_drewN _ _ _) (congrArg (World.drewN _) (Nat.add_assoc _ _ _))⟩))))
             go_ret
             exact ⟨SQ.er, SQ.bw⟩
            ·rw [if_neg c31] at H
             have c31b0 : (a0_4 == 1) = false := beq_eq_false_iff_ne.mpr c31
             have c31b1 : (a0_4 != 1) = true := bne_iff_ne.mpr c31
             obtain rfl := Option.some.inj H
             obtain ⟨hcz33_0, hcz33_1, hcz33_2, hcz33_3, hcz33_4, hcz33_5, hfz33_0, hfz33_1, hfz33_2, hfz33_3, hfz33_4, hfz33_5⟩ := SQ.cs6 BK225.out
             go_wp2_with (first | (go_at_call 28; (with_reducible refine (r2Good.calls kj7 a0_1 true _ A26.out).mono ?_); rintro e w' ⟨rfl, ⟨nd, rfl⟩⟩; (try first | exact ⟨rfl, _, World.drewN_drewN _ _ _⟩ | exact ⟨rfl, _, Eq.trans (World.drewN_drewN _ _ _) (congrArg (World.drewN _) (Nat.add_assoc _ _ _))⟩)))
             repeat (go_quiet (first | (go_at_call 28; (with_reducible refine (r2Good.calls kj7 a0_1 true _ A26.out).mono ?_); rintro e w' ⟨rfl, ⟨nd, rfl⟩⟩; (try first | exact ⟨rfl, _, World.drewN_drewN _ _ _⟩ | exact ⟨rfl, _, Eq.trans (World.drewN_drewN _ _ _) (congrArg (World.drewN _) (Nat.add_assoc _ _ _))⟩))); try go_wp2_with (first | (go_at_call 28; (with_reducible refine (r2Good.calls kj7 a0_1 true _ A26.out).mono ?_); rintro e w' ⟨rfl, ⟨nd, rfl⟩⟩; (try first | exact ⟨rfl, _, World.drewN_drewN _ _ _⟩ | exact ⟨rfl, _, Eq.trans (World.drewN_drewN _ _ _) (congrArg (World.drewN _) (Nat.add_assoc _ _ _))⟩))))
             go_ret
             exact ⟨SQ.er, SQ.bw⟩
          ·rw [if_neg c28] at H
           have c28b0 : decide (1 ≤ (a0_1.size : Int)) = false := decide_eq_false c28
           have c28b1 : decide (1 ≤ a0_1.size) = false := decide_eq_false (by omega)
           clear c28
           obtain rfl := Option.some.inj H
           obtain ⟨hcz34_0, hcz34_1, hcz34_2, hcz34_3, hcz34_4, hcz34_5, hfz34_0, hfz34_1, hfz34_2, hfz34_3, hfz34_4, hfz34_5⟩ := SQ.cs6 BK225.out
           go_wp2_with (first | (go_at_call 28; (with_reducible refine (r2Good.calls kj7 a0_1 true _ A26.out).mono ?_); rintro e w' ⟨rfl, ⟨nd, rfl⟩⟩; (try first | exact ⟨rfl, _, World.drewN_drewN _ _ _⟩ | exact ⟨rfl, _, Eq.trans (World.drewN_drewN _ _ _) (congrArg (World.drewN _) (Nat.add_assoc _ _ _))⟩)))
           repeat (go_quiet (first | (go_at_call 28; (with_reducible refine (r2Good.calls kj7 a0_1 true _ A26.out).mono ?_); rintro e w' ⟨rfl, ⟨nd, rfl⟩⟩; (try first | exact ⟨rfl, _, World.drewN_drewN _ _ _⟩ | exact ⟨rfl, _, Eq.trans (World.drewN_drewN _ _ _) (congrArg (World.drewN _) (Nat.add_assoc _ _ _))⟩))); try go_wp2_with (first | (go_at_call 28; (with_reducible refine (r2Good.calls kj7 a0_1 true _ A26.out).mono ?_); rintro e w' ⟨rfl, ⟨nd, rfl⟩⟩; (try first | exact ⟨rfl, _, World.drewN_drewN _ _ _⟩ | exact ⟨rfl, _, Eq.trans (World.drewN_drewN _ _ _) (congrArg (World.drewN _) (Nat.add_assoc _ _ _))⟩))))
           go_ret
           exact ⟨SQ.er, SQ.bw⟩
         ·replace c27 := Bool.eq_false_iff.mpr c27
          subst c27
          rw [if_neg (show ¬ (false = true) by decide)] at H
          obtain rfl := Option.some.inj H
          obtain ⟨hcz35_0, hcz35_1, hcz35_2, hcz35_3, hcz35_4, hcz35_5, hfz35_0, hfz35_1, hfz35_2, hfz35_3, hfz35_4, hfz35_5⟩ := SQ.cs6 BK225.out
          go_wp2_with (first | (go_at_call 28; (with_reducible refine (r2Good.calls kj7 a0_1 false _ A26.out).mono ?_); rintro e w' ⟨rfl, ⟨nd, rfl⟩⟩; (try first | exact ⟨rfl, _, World.drewN_drewN _ _ _⟩ | exact ⟨rfl, _, Eq.trans (World.drewN_drewN _ _ _) (congrArg (World.drewN _) (Nat.add_assoc _ _ _))⟩)))
          repeat (go_quiet (first | (go_at_call 28; (with_reducible refine (r2Good.calls kj7 a0_1 false _ A26.out).mono ?_); rintro e w' ⟨rfl, ⟨nd, rfl⟩⟩; (try first | exact ⟨rfl, _, World.drewN_drewN _ _ _⟩ | exact ⟨rfl, _, Eq.trans (World.drewN_drewN _ _ _) (congrArg (World.drewN _) (Nat.add_assoc _ _ _))⟩))); try go_wp2_with (first | (go_at_call 28; (with_reducible refine (r2Good.calls kj7 a0_1 false _ A26.out).mono ?_); rintro e w' ⟨rfl, ⟨nd, rfl⟩⟩; (try first | exact ⟨rfl, _, World.drewN_drewN _ _ _⟩ | exact ⟨rfl, _, Eq.trans (World.drewN_drewN _ _ _) (congrArg (World.drewN _) (Nat.add_assoc _ _ _))⟩))))
          go_ret
          exact ⟨SQ.er, SQ.bw⟩
        ·rw [if_neg c25] at H
         have c25b0 : (a0_0 == 2) = false := beq_eq_false_iff_ne.mpr c25
         have c25b1 : (a0_0 != 2) = true := bne_iff_ne.mpr c25
         by_cases c36 : a0_0 = 3
         ·rw [if_pos c36] at H
          have c36b0 : (a0_0 == 3) = true := beq_iff_eq.mpr c36
          have c36b1 : (a0_0 != 3) = false := bne_eq_false_iff_eq.mpr c36
          clear c36
          by_cases c37 : a0_2 = true
          ·subst c37
           rw [if_pos rfl] at H
           by_cases c38 : a0_1.toList = ([] : List UInt8)
           ·rw [if_pos c38] at H
            have c38b0 : (a0_1.toList == ([] : List UInt8)) = true := beq_iff_eq.mpr c38
            have c38b1 : (a0_1.toList != ([] : List UInt8)) = false := bne_eq_false_iff_eq.mpr c38
            clear c38
            by_cases c39 : a0_4 ≥ 0
            ·rw [if_pos c39] at H
             have c39b0 : decide (0 ≤ a0_4) = true := decide_eq_true c39
             clear c39
             by_cases c40 : a0_4 ≤ 65535
             ·rw [if_pos c40] at H
              have c40b0 : decide (a0_4 ≤ 65535) = true := decide_eq_true c40
              clear c40
              replace H := Option.bind_eq_some_iff.mp H
              obtain ⟨t229, A410, H⟩ := H
              try dsimp only at H
              have A41 := A0_.mk A410
              clear A410
              by_cases c42 : t229 = (l0_5.length : Int)
              ·rw [if_pos c42] at H
               have c42b0 : (t229 == (l0_5.length : Int)) = true := beq_iff_eq.mpr c42
               have c42b1 : (t229 != (l0_5.length : Int)) = false := bne_eq_false_iff_eq.mpr c42
               clear c42
               obtain rfl := Option.some.inj H
               obtain ⟨hcz43_0, hcz43_1, hcz43_2, hcz43_3, hcz43_4, hcz43_5, hfz43_0, hfz43_1, hfz43_2, hfz43_3, hfz43_4, hfz43_5⟩ := SQ.cs6 BK225.out
               go_wp2_with (first | (go_at_call 29; (with_reducible refine (r9Bits.calls kj7 a0_4 t229 _ A41.out).mono ?_); rintro e w' ⟨rfl, ⟨nd, rfl⟩⟩; (try first | exact ⟨rfl, _, World.drewN_drewN _ _ _⟩ | exact ⟨rfl, _, Eq.trans (World.drewN_drewN _ _ _) (congrArg (World.drewN _) (Nat.add_assoc _ _ _))⟩)))
               repeat (go_quiet (first | (go_at_call 29; (with_reducible refine (r9Bits.calls kj7 a0_4 t229 _ A41.out).mono ?_); rintro e w' ⟨rfl, ⟨nd, rfl⟩⟩; (try first | exact ⟨rfl, _, World.drewN_drewN _ _ _⟩ | exact ⟨rfl, _, Eq.trans (World.drewN_drewN _ _ _) (congrArg (World.drewN _) (Nat.add_assoc _ _ _))⟩))); try go_wp2_with (first | (go_at_call 29; (with_reducible refine (r9Bits.calls kj7 a0_4 t229 _ A41.out).mono ?_); rintro e w' ⟨rfl, ⟨nd, rfl⟩⟩; (try first | exact ⟨rfl, _, World.drewN_drewN _ _ _⟩ | exact ⟨rfl, _, Eq.trans (World.drewN_drewN _ _ _) (congrArg (World.drewN _) (Nat.add_assoc _ _ _))⟩))))
               go_ret
               exact ⟨SQ.er, SQ.bw⟩
              ·rw [if_neg c42] at H
               have c42b0 : (t229 == (l0_5.length : Int)) = false := beq_eq_false_iff_ne.mpr c42
               have c42b1 : (t229 != (l0_5.length : Int)) = true := bne_iff_ne.mpr c42
               obtain rfl := Option.some.inj H
               obtain ⟨hcz44_0, hcz44_1, hcz44_2, hcz44_3, hcz44_4, hcz44_5, hfz44_0, hfz44_1, hfz44_2, hfz44_3, hfz44_4, hfz44_5⟩ := SQ.cs6 BK225.out
               go_wp2_with (first | (go_at_call 29; (with_reducible refine (r9Bits.calls kj7 a0_4 t229 _ A41.out).mono ?_); rintro e w' ⟨rfl, ⟨nd, rfl⟩⟩; (try first | exact ⟨rfl, _, World.drewN_drewN _ _ _⟩ | exact ⟨rfl, _, Eq.trans (World.drewN_drewN _ _ _) (congrArg (World.drewN _) (Nat.add_assoc _ _ _))⟩)))
               repeat (go_quiet (first | (go_at_call 29; (with_reducible refine (r9Bits.calls kj7 a0_4 t229 _ A41.out).mono ?_); rintro e w' ⟨rfl, ⟨nd, rfl⟩⟩; (try first | exact ⟨rfl, _, World.drewN_drewN _ _ _⟩ | exact ⟨rfl, _, Eq.trans (World.drewN_drewN _ _ _) (congrArg (World.drewN _) (Nat.add_assoc _ _ _))⟩))); try go_wp2_with (first | (go_at_call 29; (with_reducible refine (r9Bits.calls kj7 a0_4 t229 _ A41.out).mono ?_); rintro e w' ⟨rfl, ⟨nd, rfl⟩⟩; (try first | exact ⟨rfl, _, World.drewN_drewN _ _ _⟩ | exact ⟨rfl, _, Eq.trans (World.drewN_drewN _ _ _) (congrArg (World.drewN _) (Nat.add_assoc _ _ _))⟩))))
               go_ret
               exact ⟨SQ.er, SQ.bw⟩
             ·rw [if_neg c40] at H
              have c40b0 : decide (a0_4 ≤ 65535) = false := decide_eq_false c40
              clear c40
              obtain rfl := Option.some.inj H
              obtain ⟨hcz45_0, hcz45_1, hcz45_2, hcz45_3, hcz45_4, hcz45_5, hfz45_0, hfz45_1, hfz45_2, hfz45_3, hfz45_4, hfz45_5⟩ := SQ.cs6 BK225.out
              go_wp2
              repeat (go_quiet (fail); try go_wp2)
              go_ret
              exact ⟨SQ.er, SQ.bw⟩
            ·rw [if_neg c39] at H
             have c39b0 : decide (0 ≤ a0_4) = false := decide_eq_false c39
             clear c39
             obtain rfl := Option.some.inj H
             obtain ⟨hcz46_0, hcz46_1, hcz46_2, hcz46_3, hcz46_4, hcz46_5, hfz46_0, hfz46_1, hfz46_2, hfz46_3, hfz46_4, hfz46_5⟩ := SQ.cs6 BK225.out
             go_wp2
             repeat (go_quiet (fail); try go_wp2)
             go_ret
             exact ⟨SQ.er, SQ.bw⟩
           ·rw [if_neg c38] at H
            have c38b0 : (a0_1.toList == ([] : List UInt8)) = false := beq_eq_false_iff_ne.mpr c38
            have c38b1 : (a0_1.toList != ([] : List UInt8)) = true := bne_iff_ne.mpr c38
            obtain rfl := Option.some.inj H
            obtain ⟨hcz47_0, hcz47_1, hcz47_2, hcz47_3, hcz47_4, hcz47_5, hfz47_0, hfz47_1, hfz47_2, hfz47_3, hfz47_4, hfz47_5⟩ := SQ.cs6 BK225.out
            go_wp2
            repeat (go_quiet (fail); try go_wp2)
            go_ret
            exact ⟨SQ.er, SQ.bw⟩
          ·replace c37 := Bool.eq_false_iff.mpr c37
           subst c37
           rw [if_neg (show ¬ (false = true) by decide)] at H
           by_cases c48 : a0_1.toList = ([] : List UInt8)
           ·rw [if_pos c48] at H
            have c48b0 : (a0_1.toList == ([] : List UInt8)) = true := beq_iff_eq.mpr c48
            have c48b1 : (a0_1.toList != ([] : List UInt8)) = false := bne_eq_false_iff_eq.mpr c48
            clear c48
            by_cases c49 : a0_4 ≥ 0
            ·rw [if_pos c49] at H
             have c49b0 : decide (0 ≤ a0_4) = true := decide_eq_true c49
             clear c49
             by_cases c50 : a0_4 ≤ 65535
             ·rw [if_pos c50] at H
              have c50b0 : decide (a0_4 ≤ 65535) = true := decide_eq_true c50
              clear c50
              replace H := Option.bind_eq_some_iff.mp H
              obtain ⟨t230, A510, H⟩ := H
              try dsimp only at H
              have A51 := A0_.mk A510
              clear A510
              by_cases c52 : t230 = (l0_5.length : Int)
              ·rw [if_pos c52] at H
               have c52b0 : (t230 == (l0_5.length : Int)) = true := beq_iff_eq.mpr c52
               have c52b1 : (t230 != (l0_5.length : Int)) = false := bne_eq_false_iff_eq.mpr c52
               clear c52
               obtain rfl := Option.some.inj H
               obtain ⟨hcz53_0, hcz53_1, hcz53_2, hcz53_3, hcz53_4, hcz53_5, hfz53_0, hfz53_1, hfz53_2, hfz53_3, hfz53_4, hfz53_5⟩ := SQ.cs6 BK225.out
               go_wp2_with (first | (go_at_call 29; (with_reducible refine (r9Bits.calls kj7 a0_4 t230 _ A51.out).mono ?_); rintro e w' ⟨rfl, ⟨nd, rfl⟩⟩; (try first | exact ⟨rfl, _, World.drewN_drewN _ _ _⟩ | exact ⟨rfl, _, Eq.trans (World.drewN_drewN _ _ _) (congrArg (World.drewN _) (Nat.add_assoc _ _ _))⟩)))
               repeat (go_quiet (first | (go_at_call 29; (with_reducible refine (r9Bits.calls kj7 a0_4 t230 _ A51.out).mono ?_); rintro e w' ⟨rfl, ⟨nd, rfl⟩⟩; (try first | exact ⟨rfl, _, World.drewN_drewN _ _ _⟩ | exact ⟨rfl, _, Eq.trans (World.drewN_drewN _ _ _) (congrArg (World.drewN _) (Nat.add_assoc _ _ _))⟩))); try go_wp2_with (first | (go_at_call 29; (with_reducible refine (r9Bits.calls kj7 a0_4 t230 _ A51.out).mono ?_); rintro e w' ⟨rfl, ⟨nd, rfl⟩⟩; (try first | exact ⟨rfl, _, World.drewN_drewN _ _ _⟩ | exact ⟨rfl, _, Eq.trans (World.drewN_drewN _ _ _) (congrArg (World.drewN _) (Nat.add_assoc _ _ _))⟩))))
               go_ret
               exact ⟨SQ.er, SQ.bw⟩
              ·rw [if_neg c52] at H
               have c52b0 : (t230 == (l0_5.length : Int)) = false := beq_eq_false_iff_ne.mpr c52
               have c52b1 : (t230 != (l0_5.length : Int)) = true := bne_iff_ne.mpr c52
               obtain rfl := Option.some.inj H
               obtain ⟨hcz54_0, hcz54_1, hcz54_2, hcz54_3, hcz54_4, hcz54_5, hfz54_0, hfz54_1, hfz54_2, hfz54_3, hfz54_4, hfz54_5⟩ := SQ.cs6 BK225.out
               go_wp2_with (first | (go_at_call 29; (with_reducible refine (r9Bits.calls kj7 a0_4 t230 _ A51.out).mono ?_); rintro e w' ⟨rfl, ⟨nd, rfl⟩⟩; (try first | exact ⟨rfl, _, World.drewN_drewN _ _ _⟩ | exact ⟨rfl, _, Eq.trans (World.drewN_drewN _ _ _) (congrArg (World.drewN _) (Nat.add_assoc _ _ _))⟩)))
               repeat (go_quiet (first | (go_at_call 29; (with_reducible refine (r9Bits.calls kj7 a0_4 t230 _ A51.out).mono ?_); rintro e w' ⟨rfl, ⟨nd, rfl⟩⟩; (try first | exact ⟨rfl, _, World.drewN_drewN _ _ _⟩ | exact ⟨rfl, _, Eq.trans (World.drewN_drewN _ _ _) (congrArg (World.drewN _) (Nat.add_assoc _ _ _))⟩))); try go_wp2_with (first | (go_at_call 29; (with_reducible refine (r9Bits.calls kj7 a0_4 t230 _ A51.out).mono ?_); rintro e w' ⟨rfl, ⟨nd, rfl⟩⟩; (try first | exact ⟨rfl, _, World.drewN_drewN _ _ _⟩ | exact ⟨rfl, _, Eq.trans (World.drewN_drewN _ _ _) (congrArg (World.drewN _) (Nat.add_assoc _ _ _))⟩))))
               go_ret
               exact ⟨SQ.er, SQ.bw⟩
             ·rw [if_neg c50] at H
              have c50b0 : decide (a0_4 ≤ 65535) = false := decide_eq_false c50
              clear c50
              obtain rfl := Option.some.inj H
              obtain ⟨hcz55_0, hcz55_1, hcz55_2, hcz55_3, hcz55_4, hcz55_5, hfz55_0, hfz55_1, hfz55_2, hfz55_3, hfz55_4, hfz55_5⟩ := SQ.cs6 BK225.out
              go_wp2
              repeat (go_quiet (fail); try go_wp2)
              go_ret
              exact ⟨SQ.er, SQ.bw⟩
            ·rw [if_neg c49] at H
             have c49b0 : decide (0 ≤ a0_4) = false := decide_eq_false c49
             clear c49
             obtain rfl := Option.some.inj H
             obtain ⟨hcz56_0, hcz56_1, hcz56_2, hcz56_3, hcz56_4, hcz56_5, hfz56_0, hfz56_1, hfz56_2, hfz56_3, hfz56_4, hfz56_5⟩ := SQ.cs6 BK225.out
             go_wp2
             repeat (go_quiet (fail); try go_wp2)
             go_ret
             exact ⟨SQ.er, SQ.bw⟩
           ·rw [if_neg c48] at H
            have c48b0 : (a0_1.toList == ([] : List UInt8)) = false := beq_eq_false_iff_ne.mpr c48
            have c48b1 : (a0_1.toList != ([] : List UInt8)) = true := bne_iff_ne.mpr c48
            obtain rfl := Option.some.inj H
            obtain ⟨hcz57_0, hcz57_1, hcz57_2, hcz57_3, hcz57_4, hcz57_5, hfz57_0, hfz57_1, hfz57_2, hfz57_3, hfz57_4, hfz57_5⟩ := SQ.cs6 BK225.out
            go_wp2
            repeat (go_quiet (fail); try go_wp2)
            go_ret
            exact ⟨SQ.er, SQ.bw⟩
         ·rw [if_neg c36] at H
          have c36b0 : (a0_0 == 3) = false := beq_eq_false_iff_ne.mpr c36
          have c36b1 : (a0_0 != 3) = true := bne_iff_ne.mpr c36
          obtain rfl := Option.some.inj H
          obtain ⟨hcz58_0, hcz58_1, hcz58_2, hcz58_3, hcz58_4, hcz58_5, hfz58_0, hfz58_1, hfz58_2, hfz58_3, hfz58_4, hfz58_5⟩ := SQ.cs6 BK225.out
          go_wp2
          repeat (go_quiet (fail); try go_wp2)
          go_ret
          exact ⟨SQ.er, SQ.bw⟩

end Go.Proofs.YtklakmooaffjpaaDoor.PNod
