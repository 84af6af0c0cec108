-- Written by a program of this session for this seat. Not trusted: Lean checks it.
import Derived.Test.YtklakmooaffjpaaDoorPNodx1
import Derived.Test.YtklakmooaffjpaaDoorNibP
namespace Go.Proofs.YtklakmooaffjpaaDoor.PNod
open Go.RowKit Go.Proofs.YtklakmooaffjpaaDoorW.PrintWords Go.Proofs.YtklakmooaffjpaaDoorW.PrintLast Go.Proofs.YtklakmooaffjpaaDoorW.PrintMore
attribute [local go_sem] max2_int min2_int max_two min_two max_three min_three max_four min_four   -- for this text's walks alone
set_option linter.unusedVariables false
set_option linter.unusedSimpArgs false
open Go.Proofs.YtklakmooaffjpaaDoor.HW Go.Proofs.YtklakmooaffjpaaDoor.DgsB

/-! ### r9Good: function 14 -/
mutual
def r9Good.l0 : Nat → Int → Int → ByteArray → Bool → ByteArray → Int → List ByteArray → Option (Bool)
 | 0, _, _, _, _, _, _, _ => none
 | k + 1, x3, x226000, x226001, x226002, x226003, x226004, x226005 => if x3 < (x226005.length : Int) then (if 0 ≤ x3 then (if ((rdOf ByteArray.empty x226005 x3).size : Int) = 32 then (r9Good.l0 k (wrap64 (x3 + 1)) x226000 x226001 x226002 x226003 x226004 x226005) else (some false)) else (none)) else (if (x226003.size : Int) > 16 then (r9Good.j1 k true x226000 x226001 x226002 x226003 x226004 x226005) else (if x226002 = true then (r9Good.j1 k false x226000 x226001 x226002 x226003 x226004 x226005) else (r9Good.j1 k (x226003.toList != ([] : List UInt8)) x226000 x226001 x226002 x226003 x226004 x226005)))
def r9Good.j1 : Nat → Bool → Int → ByteArray → Bool → ByteArray → Int → List ByteArray → Option (Bool)
 | 0, _, _, _, _, _, _, _ => none
 | k + 1, x32, x226000, x226001, x226002, x226003, x226004, x226005 => if x32 = true then (some false) else (if x226000 = 1 then ((r2Good.f k x226001).bind fun t227 => (if t227 = true then (if x226002 = true then (if x226004 = 0 then (some ((x226005.length : Int) == 0)) else (some false)) else (some false)) else (some false))) else (if x226000 = 2 then ((r2Good.f k x226001).bind fun t228 => (if t228 = true then (if (x226001.size : Int) ≥ 1 then (if x226002 = true then (some false) else (if x226004 = 1 then (some ((x226005.length : Int) == 1)) else (some false))) else (some false)) else (some false))) else (if x226000 = 3 then (if x226002 = true then (if x226001.toList = ([] : List UInt8) then (if x226004 ≥ 0 then (if x226004 ≤ 65535 then ((r9Bits.f k x226004).bind fun t229 => (if t229 = (x226005.length : Int) then (some (decide ((wrap64 ((x226005.length : Int) + 1)) ≥ 2))) else (some false))) else (some false)) else (some false)) else (some false)) else (if x226001.toList = ([] : List UInt8) then (if x226004 ≥ 0 then (if x226004 ≤ 65535 then ((r9Bits.f k x226004).bind fun t230 => (if t230 = (x226005.length : Int) then (some (decide ((x226005.length : Int) ≥ 2))) else (some false))) else (some false)) else (some false)) else (some false))) else (some false))))
end
def r9Good.f (k : Nat) (a0_0 : Int) (a0_1 : ByteArray) (a0_2 : Bool) (a0_3 : ByteArray) (a0_4 : Int) (l0_5 : List ByteArray) : Option (Bool) := r9Good.l0 k 0 a0_0 a0_1 a0_2 a0_3 a0_4 l0_5
set_option maxHeartbeats 8000000 in
set_option maxRecDepth 100000 in
theorem r9Good.calls (k : Nat) (a0_0 : Int) (a0_1 : ByteArray) (a0_2 : Bool) (a0_3 : ByteArray) (a0_4 : Int) (A0_5 : Option Addr) (c0_5 : Nat) (l0_5 : List ByteArray) (r : Bool) (w : World) (hr0_5 : Kd.C Kd.string w A0_5 l0_5.length l0_5) (hc0_5 : l0_5.length ≤ c0_5) (h : r9Good.f k a0_0 a0_1 a0_2 a0_3 a0_4 l0_5 = some r) :
  Calls Tryd.prog 14 #[.agg #[.int .i64 a0_0, .string a0_1, .bool a0_2, .string a0_3, .int .i64 a0_4, .slice A0_5 l0_5.length c0_5]] w fun e w' => e = .returned (.bool r) ∧ Below w.heap.size w w' := by
 have hu24 := Tryd.underlying24
 have HR0_5 := A0_.mk hr0_5
 have HC0_5 := A0_.mk hc0_5
 clear hr0_5 hc0_5
 have HB := A0_.mk (Below.refl w.heap.size w)
 have H : (r9Good.l0 k 0 a0_0 a0_1 a0_2 a0_3 a0_4 l0_5) = some r := h
 clear h
 have H' := A0_.mk H
 clear H
 go_enter Tryd.func14, Tryd.ntmps14
 go_wp2_with (first | ((with_reducible refine gD (N := 1) rfl ?_); (try (refine gG (by rfl) ?_; dsimp only)); refine xE ?hg (N := 1) ?hd (cs := #[.int .i64 a0_0, .string a0_1, .bool a0_2, .string a0_3, .int .i64 a0_4, .slice A0_5 l0_5.length c0_5]) (t := 24) ?hr ?_; (case hd => rfl); (case hg => rfl); (case hr => first | (go_simp; done) | (go_simp; rfl)); intro gb225 hg w2 hbox hb; have n0_ := A0_.mk (wT (by repeat (first | (with_reducible first | exact HB.out | apply wA | apply pN | apply wD) | exact HB.out)) hb); have n1_ := A0_.mk (hbox); have n2_ := A0_.mk ((by rw [hg]; exact (wZ (by repeat (first | (with_reducible first | exact HB.out | apply wA | apply pN | apply wD) | exact HB.out))) : w.heap.size ≤ gb225)); have n3_ := A0_.mk ((by rw [hg]; exact (wZ (by repeat (first | (with_reducible first | exact HB.out | apply wA | apply pN | apply wD) | exact HB.out))) : w.heap.size ≤ gb225)); clear HB; have HB := n0_; have BK225 := n1_; have GW225 := n2_; have GE225 := n3_; clear n0_ n1_ n2_ n3_; clear hb hbox hg))
 repeat (go_quiet (first | ((with_reducible refine gD (N := 1) rfl ?_); (try (refine gG (by rfl) ?_; dsimp only)); refine xE ?hg (N := 1) ?hd (cs := #[.int .i64 a0_0, .string a0_1, .bool a0_2, .string a0_3, .int .i64 a0_4, .slice A0_5 l0_5.length c0_5]) (t := 24) ?hr ?_; (case hd => rfl); (case hg => rfl); (case hr => first | (go_simp; done) | (go_simp; rfl)); intro gb225 hg w2 hbox hb; have n0_ := A0_.mk (wT (by repeat (first | (with_reducible first | exact HB.out | apply wA | apply pN | apply wD) | exact HB.out)) hb); have n1_ := A0_.mk (hbox); have n2_ := A0_.mk ((by rw [hg]; exact (wZ (by repeat (first | (with_reducible first | exact HB.out | apply wA | apply pN | apply wD) | exact HB.out))) : w.heap.size ≤ gb225)); have n3_ := A0_.mk ((by rw [hg]; exact (wZ (by repeat (first | (with_reducible first | exact HB.out | apply wA | apply pN | apply wD) | exact HB.out))) : w.heap.size ≤ gb225)); clear HB; have HB := n0_; have BK225 := n1_; have GW225 := n2_; have GE225 := n3_; clear n0_ n1_ n2_ n3_; clear hb hbox hg)); try go_wp2_with (first | ((with_reducible refine gD (N := 1) rfl ?_); (try (refine gG (by rfl) ?_; dsimp only)); refine xE ?hg (N := 1) ?hd (cs := #[.int .i64 a0_0, .string a0_1, .bool a0_2, .string a0_3, .int .i64 a0_4, .slice A0_5 l0_5.length c0_5]) (t := 24) ?hr ?_; (case hd => rfl); (case hg => rfl); (case hr => first | (go_simp; done) | (go_simp; rfl)); intro gb225 hg w2 hbox hb; have n0_ := A0_.mk (wT (by repeat (first | (with_reducible first | exact HB.out | apply wA | apply pN | apply wD) | exact HB.out)) hb); have n1_ := A0_.mk (hbox); have n2_ := A0_.mk ((by rw [hg]; exact (wZ (by repeat (first | (with_reducible first | exact HB.out | apply wA | apply pN | apply wD) | exact HB.out))) : w.heap.size ≤ gb225)); have n3_ := A0_.mk ((by rw [hg]; exact (wZ (by repeat (first | (with_reducible first | exact HB.out | apply wA | apply pN | apply wD) | exact HB.out))) : w.heap.size ≤ gb225)); clear HB; have HB := n0_; have BK225 := n1_; have GW225 := n2_; have GE225 := n3_; clear n0_ n1_ n2_ n3_; clear hb hbox hg)))
 go_loopg [3] k (fun kq v3 w' => ∃ (x3_1 : Int), v3 = .int .i64 x3_1 ∧ A0_ (r9Good.l0 kq x3_1 a0_0 a0_1 a0_2 a0_3 a0_4 l0_5 = some r) ∧ A0_ (kq ≤ k) ∧ A0_ (w'.heap[gb225]? = some (.cells #[.int .i64 a0_0, .string a0_1, .bool a0_2, .string a0_3, .int .i64 a0_4, (.slice A0_5 l0_5.length c0_5)] 24 (0, 0))) ∧ A0_ (Below w.heap.size w w'))
 case atStart => exact ⟨(0), (by first | rfl | (simp; done) | (simp [*]; done) | (congr 1; cases a0_3.toList <;> rfl)), H', ⟨Nat.le_refl _⟩, ⟨by (with_reducible repeat (first | refine bN ?_ _ | refine bD ?_ | refine bA ?_ _)); exact BK225.out⟩, ⟨by repeat (first | (with_reducible first | exact HB.out | apply wA | apply pN | apply wD | refine wS ?_ GE225.out) | exact HB.out)⟩⟩
 case round =>
  clear H'
  try clear c1
  try clear p2
  obtain ⟨x3_1, rfl, HA, HK1, BK225, HB⟩ := hrel
  cases gk with
  | zero => exact absurd HA.out (by simp [r9Good.l0])
  | succ k1 =>
   have H := HA.out
   clear HA
   simp only [r9Good.l0] at H
   by_cases c3 : x3_1 < (l0_5.length : Int)
   ·rw [if_pos c3] at H
    have c3b0 : decide (x3_1 < (l0_5.length : Int)) = true := decide_eq_true c3
    clear c3
    by_cases c4 : 0 ≤ x3_1
    ·rw [if_pos c4] at H
     have c4b0 : decide (0 ≤ x3_1) = true := decide_eq_true c4
     clear c4
     by_cases c5 : ((rdOf ByteArray.empty l0_5 x3_1).size : Int) = 32
     ·rw [if_pos c5] at H
      have c5b0 : (((rdOf ByteArray.empty l0_5 x3_1).size : Int) == 32) = true := beq_iff_eq.mpr c5
      have c5b1 : (((rdOf ByteArray.empty l0_5 x3_1).size : Int) != 32) = false := bne_eq_false_iff_eq.mpr c5
      clear c5
      have H' := A0_.mk H
      clear H
      have hcz6_0 : wr.cell? ⟨gb225, 0, none⟩ = some (.int .i64 a0_0) := (bC BK225.out 0).trans rfl
      have hcz6_1 : wr.cell? ⟨gb225, 1, none⟩ = some (.string a0_1) := (bC BK225.out 1).trans rfl
      have hcz6_2 : wr.cell? ⟨gb225, 2, none⟩ = some (.bool a0_2) := (bC BK225.out 2).trans rfl
      have hcz6_3 : wr.cell? ⟨gb225, 3, none⟩ = some (.string a0_3) := (bC BK225.out 3).trans rfl
      have hcz6_4 : wr.cell? ⟨gb225, 4, none⟩ = some (.int .i64 a0_4) := (bC BK225.out 4).trans rfl
      have hcz6_5 : wr.cell? ⟨gb225, 5, none⟩ = some (.slice A0_5 l0_5.length c0_5) := (bC BK225.out 5).trans rfl
      have hfz6_0 := bF BK225.out 0
      have hfz6_1 := bF BK225.out 1
      have hfz6_2 := bF BK225.out 2
      have hfz6_3 := bF BK225.out 3
      have hfz6_4 := bF BK225.out 4
      have hfz6_5 := bF BK225.out 5
      have p226 : 0 ≤ (x3_1 : Int) := of_decide_eq_true (by first | (with_reducible assumption) | assumption)
      have q226 : x3_1 < (l0_5.length : Int) := of_decide_eq_true (by first | (with_reducible assumption) | assumption)
      obtain ⟨ad226, e226, hx226_0⟩ := Kd.at_string HR0_5.out x3_1 p226 q226
      cases e226
      replace hx226_0 := (HB.out.cell (World.block_lt_of_cell? w _ hx226_0)).trans hx226_0
      replace p226 := eq_true p226
      replace q226 := eq_true q226
      go_wp2
      repeat (go_quiet (fail); try go_wp2)
      go_roundg k1
      case measure => have := HK1.out; omega
      case rel => exact ⟨(wrap64 (x3_1 + 1)), (by first | rfl | (simp; done) | (simp [*]; done) | (congr 1; cases a0_3.toList <;> rfl)), H', ⟨by have := HK1.out; omega⟩, ⟨by (with_reducible repeat (first | refine bN ?_ _ | refine bD ?_ | refine bA ?_ _)); exact BK225.out⟩, ⟨by repeat (first | (with_reducible first | exact HB.out | apply wA | apply pN | apply wD | refine wS ?_ GE225.out) | exact HB.out)⟩⟩
     ·rw [if_neg c5] at H
      have c5b0 : (((rdOf ByteArray.empty l0_5 x3_1).size : Int) == 32) = false := beq_eq_false_iff_ne.mpr c5
      have c5b1 : (((rdOf ByteArray.empty l0_5 x3_1).size : Int) != 32) = true := bne_iff_ne.mpr c5
      obtain rfl := Option.some.inj H
      have hcz7_0 : wr.cell? ⟨gb225, 0, none⟩ = some (.int .i64 a0_0) := (bC BK225.out 0).trans rfl
      have hcz7_1 : wr.cell? ⟨gb225, 1, none⟩ = some (.string a0_1) := (bC BK225.out 1).trans rfl
      have hcz7_2 : wr.cell? ⟨gb225, 2, none⟩ = some (.bool a0_2) := (bC BK225.out 2).trans rfl
      have hcz7_3 : wr.cell? ⟨gb225, 3, none⟩ = some (.string a0_3) := (bC BK225.out 3).trans rfl
      have hcz7_4 : wr.cell? ⟨gb225, 4, none⟩ = some (.int .i64 a0_4) := (bC BK225.out 4).trans rfl
      have hcz7_5 : wr.cell? ⟨gb225, 5, none⟩ = some (.slice A0_5 l0_5.length c0_5) := (bC BK225.out 5).trans rfl
      have hfz7_0 := bF BK225.out 0
      have hfz7_1 := bF BK225.out 1
      have hfz7_2 := bF BK225.out 2
      have hfz7_3 := bF BK225.out 3
      have hfz7_4 := bF BK225.out 4
      have hfz7_5 := bF BK225.out 5
      have p226 : 0 ≤ (x3_1 : Int) := of_decide_eq_true (by first | (with_reducible assumption) | assumption)
      have q226 : x3_1 < (l0_5.length : Int) := of_decide_eq_true (by first | (with_reducible assumption) | assumption)
      obtain ⟨ad226, e226, hx226_0⟩ := Kd.at_string HR0_5.out x3_1 p226 q226
      cases e226
      replace hx226_0 := (HB.out.cell (World.block_lt_of_cell? w _ hx226_0)).trans hx226_0
      replace p226 := eq_true p226
      replace q226 := eq_true q226
      go_wp2
      repeat (go_quiet (fail); try go_wp2)
      go_ret
      exact ⟨by first | rfl | (simp [errW_none, errW_some] <;> rfl) | (simp [*, errW_none, errW_some] <;> rfl), by repeat (first | (with_reducible first | exact HB.out | apply wA | apply pN | apply wD | refine wS ?_ GE225.out) | exact HB.out)⟩
    ·rw [if_neg c4] at H
     exact absurd H (by simp)
   ·rw [if_neg c3] at H
    have c3b0 : decide (x3_1 < (l0_5.length : Int)) = false := decide_eq_false c3
    clear c3
    have HC8 := A0_.mk H
    clear H
    have hcz9_0 : wr.cell? ⟨gb225, 0, none⟩ = some (.int .i64 a0_0) := (bC BK225.out 0).trans rfl
    have hcz9_1 : wr.cell? ⟨gb225, 1, none⟩ = some (.string a0_1) := (bC BK225.out 1).trans rfl
    have hcz9_2 : wr.cell? ⟨gb225, 2, none⟩ = some (.bool a0_2) := (bC BK225.out 2).trans rfl
    have hcz9_3 : wr.cell? ⟨gb225, 3, none⟩ = some (.string a0_3) := (bC BK225.out 3).trans rfl
    have hcz9_4 : wr.cell? ⟨gb225, 4, none⟩ = some (.int .i64 a0_4) := (bC BK225.out 4).trans rfl
    have hcz9_5 : wr.cell? ⟨gb225, 5, none⟩ = some (.slice A0_5 l0_5.length c0_5) := (bC BK225.out 5).trans rfl
    have hfz9_0 := bF BK225.out 0
    have hfz9_1 := bF BK225.out 1
    have hfz9_2 := bF BK225.out 2
    have hfz9_3 := bF BK225.out 3
    have hfz9_4 := bF BK225.out 4
    have hfz9_5 := bF BK225.out 5
    go_upto_region 6 with (fail)
    repeat (go_quiet (fail); go_upto_region 6 with (fail))
    go_cut [32] (fun v32 wc => ∃ (kq : Nat) (x32_7 : Bool), v32 = .bool x32_7 ∧ A0_ (r9Good.j1 kq x32_7 a0_0 a0_1 a0_2 a0_3 a0_4 l0_5 = some r) ∧ A0_ (kq ≤ k1) ∧ A0_ (wc.heap[gb225]? = some (.cells #[.int .i64 a0_0, .string a0_1, .bool a0_2, .string a0_3, .int .i64 a0_4, (.slice A0_5 l0_5.length c0_5)] 24 (0, 0))) ∧ A0_ (Below w.heap.size w wc))
    case first =>
     have H := HC8.out
     clear HC8
     by_cases c10 : (a0_3.size : Int) > 16
     ·rw [if_pos c10] at H
      have c10b0 : decide (16 < (a0_3.size : Int)) = true := decide_eq_true c10
      have c10b1 : decide (16 < a0_3.size) = true := decide_eq_true (by omega)
      clear c10
      (first | rw [c10b0] | (simp only [i64_w, i32_w]; rw [c10b0]) | skip)
      have H' := A0_.mk H
      clear H
      have hcz11_0 : wr.cell? ⟨gb225, 0, none⟩ = some (.int .i64 a0_0) := (bC BK225.out 0).trans rfl
      have hcz11_1 : wr.cell? ⟨gb225, 1, none⟩ = some (.string a0_1) := (bC BK225.out 1).trans rfl
      have hcz11_2 : wr.cell? ⟨gb225, 2, none⟩ = some (.bool a0_2) := (bC BK225.out 2).trans rfl
      have hcz11_3 : wr.cell? ⟨gb225, 3, none⟩ = some (.string a0_3) := (bC BK225.out 3).trans rfl
      have hcz11_4 : wr.cell? ⟨gb225, 4, none⟩ = some (.int .i64 a0_4) := (bC BK225.out 4).trans rfl
      have hcz11_5 : wr.cell? ⟨gb225, 5, none⟩ = some (.slice A0_5 l0_5.length c0_5) := (bC BK225.out 5).trans rfl
      have hfz11_0 := bF BK225.out 0
      have hfz11_1 := bF BK225.out 1
      have hfz11_2 := bF BK225.out 2
      have hfz11_3 := bF BK225.out 3
      have hfz11_4 := bF BK225.out 4
      have hfz11_5 := bF BK225.out 5
      go_wp2
      repeat (go_quiet (fail); try go_wp2)
      go_meet
      case rel => exact ⟨_, (true), (by first | rfl | (simp; done) | (simp [*]; done) | (congr 1; cases a0_3.toList <;> rfl)), H', ⟨by have := HK1.out; first | omega | exact Nat.le_refl _⟩, ⟨by (with_reducible repeat (first | refine bN ?_ _ | refine bD ?_ | refine bA ?_ _)); exact BK225.out⟩, ⟨by repeat (first | (with_reducible first | exact HB.out | apply wA | apply pN | apply wD | refine wS ?_ GE225.out) | exact HB.out)⟩⟩
     ·rw [if_neg c10] at H
      have c10b0 : decide (16 < (a0_3.size : Int)) = false := decide_eq_false c10
      have c10b1 : decide (16 < a0_3.size) = false := decide_eq_false (by omega)
      clear c10
      (first | rw [c10b0] | (simp only [i64_w, i32_w]; rw [c10b0]) | skip)
      by_cases c12 : a0_2 = true
      ·subst c12
       have H1 : (r9Good.j1 k1 false a0_0 a0_1 true a0_3 a0_4 l0_5) = some r := by rw [if_pos rfl] at H; exact H
       clear H
       have H := H1
       clear H1
       have H' := A0_.mk H
       clear H
       have hcz13_0 : wr.cell? ⟨gb225, 0, none⟩ = some (.int .i64 a0_0) := (bC BK225.out 0).trans rfl
       have hcz13_1 : wr.cell? ⟨gb225, 1, none⟩ = some (.string a0_1) := (bC BK225.out 1).trans rfl
       have hcz13_2 : wr.cell? ⟨gb225, 2, none⟩ = some (.bool true) := (bC BK225.out 2).trans rfl
       have hcz13_3 : wr.cell? ⟨gb225, 3, none⟩ = some (.string a0_3) := (bC BK225.out 3).trans rfl
       have hcz13_4 : wr.cell? ⟨gb225, 4, none⟩ = some (.int .i64 a0_4) := (bC BK225.out 4).trans rfl
       have hcz13_5 : wr.cell? ⟨gb225, 5, none⟩ = some (.slice A0_5 l0_5.length c0_5) := (bC BK225.out 5).trans rfl
       have hfz13_0 := bF BK225.out 0
       have hfz13_1 := bF BK225.out 1
       have hfz13_2 := bF BK225.out 2
       have hfz13_3 := bF BK225.out 3
       have hfz13_4 := bF BK225.out 4
       have hfz13_5 := bF BK225.out 5
       go_wp2
       repeat (go_quiet (fail); try go_wp2)
       go_meet
       case rel => exact ⟨_, (false), (by first | rfl | (simp; done) | (simp [*]; done) | (congr 1; cases a0_3.toList <;> rfl)), H', ⟨by have := HK1.out; first | omega | exact Nat.le_refl _⟩, ⟨by (with_reducible repeat (first | refine bN ?_ _ | refine bD ?_ | refine bA ?_ _)); exact BK225.out⟩, ⟨by repeat (first | (with_reducible first | exact HB.out | apply wA | apply pN | apply wD | refine wS ?_ GE225.out) | exact HB.out)⟩⟩
      ·replace c12 := Bool.eq_false_iff.mpr c12
       subst c12
       have H1 : (r9Good.j1 k1 (a0_3.toList != ([] : List UInt8)) a0_0 a0_1 false a0_3 a0_4 l0_5) = some r := by rw [if_neg (show ¬ (false = true) by decide)] at H; exact H
       clear H
       have H := H1
       clear H1
       have H' := A0_.mk H
       clear H
       have hcz14_0 : wr.cell? ⟨gb225, 0, none⟩ = some (.int .i64 a0_0) := (bC BK225.out 0).trans rfl
       have hcz14_1 : wr.cell? ⟨gb225, 1, none⟩ = some (.string a0_1) := (bC BK225.out 1).trans rfl
       have hcz14_2 : wr.cell? ⟨gb225, 2, none⟩ = some (.bool false) := (bC BK225.out 2).trans rfl
       have hcz14_3 : wr.cell? ⟨gb225, 3, none⟩ = some (.string a0_3) := (bC BK225.out 3).trans rfl
       have hcz14_4 : wr.cell? ⟨gb225, 4, none⟩ = some (.int .i64 a0_4) := (bC BK225.out 4).trans rfl
       have hcz14_5 : wr.cell? ⟨gb225, 5, none⟩ = some (.slice A0_5 l0_5.length c0_5) := (bC BK225.out 5).trans rfl
       have hfz14_0 := bF BK225.out 0
       have hfz14_1 := bF BK225.out 1
       have hfz14_2 := bF BK225.out 2
       have hfz14_3 := bF BK225.out 3
       have hfz14_4 := bF BK225.out 4
       have hfz14_5 := bF BK225.out 5
       go_wp2
       repeat (go_quiet (fail); try go_wp2)
       go_meet
       case rel => exact ⟨_, ((a0_3.toList != ([] : List UInt8))), (by first | rfl | (simp; done) | (simp [*]; done) | (congr 1; cases a0_3.toList <;> rfl)), H', ⟨by have := HK1.out; first | omega | exact Nat.le_refl _⟩, ⟨by (with_reducible repeat (first | refine bN ?_ _ | refine bD ?_ | refine bA ?_ _)); exact BK225.out⟩, ⟨by repeat (first | (with_reducible first | exact HB.out | apply wA | apply pN | apply wD | refine wS ?_ GE225.out) | exact HB.out)⟩⟩
    case rest =>
     clear HC8
     try clear c1
     try clear p2
     try clear q2
     try clear hx2
     try clear c3
     try clear c3b0
     try clear c4
     try clear c4b0
     try clear c5
     try clear c5b0
     try clear c5b1
     try clear p6
     try clear c10
     try clear c10b0
     try clear c10b1
     try clear c12
     try clear c14
     try clear hcz11_0
     try clear hcz11_1
     try clear hcz11_2
     try clear hcz11_3
     try clear hcz11_4
     try clear hcz11_5
     try clear hcz13_0
     try clear hcz13_1
     try clear hcz13_2
     try clear hcz13_3
     try clear hcz13_4
     try clear hcz13_5
     try clear hcz14_0
     try clear hcz14_1
     try clear hcz14_2
     try clear hcz14_3
     try clear hcz14_4
     try clear hcz14_5
     try clear hcz6_0
     try clear hcz6_1
     try clear hcz6_2
     try clear hcz6_3
     try clear hcz6_4
     try clear hcz6_5
     try clear hcz7_0
     try clear hcz7_1
     try clear hcz7_2
     try clear hcz7_3
     try clear hcz7_4
     try clear hcz7_5
     try clear hcz9_0
     try clear hcz9_1
     try clear hcz9_2
     try clear hcz9_3
     try clear hcz9_4
     try clear hcz9_5
     try clear hfz11_0
     try clear hfz11_1
     try clear hfz11_2
     try clear hfz11_3
     try clear hfz11_4
     try clear hfz11_5
     try clear hfz13_0
     try clear hfz13_1
     try clear hfz13_2
     try clear hfz13_3
     try clear hfz13_4
     try clear hfz13_5
     try clear hfz14_0
     try clear hfz14_1
     try clear hfz14_2
     try clear hfz14_3
     try clear hfz14_4
     try clear hfz14_5
     try clear hfz6_0
     try clear hfz6_1
     try clear hfz6_2
     try clear hfz6_3
     try clear hfz6_4
     try clear hfz6_5
     try clear hfz7_0
     try clear hfz7_1
     try clear hfz7_2
     try clear hfz7_3
     try clear hfz7_4
     try clear hfz7_5
     try clear hfz9_0
     try clear hfz9_1
     try clear hfz9_2
     try clear hfz9_3
     try clear hfz9_4
     try clear hfz9_5
     try clear hx226_0
     try clear p2
     try clear p226
     try clear q226
     obtain ⟨kq, x32_7, rfl, HA, HJ7, BK225, HB⟩ := hcut
     cases kq with
     | zero => exact absurd HA.out (by simp [r9Good.j1])
     | succ kj7 =>
      have H := HA.out
      clear HA
      simp only [r9Good.j1] at H
      by_cases c15 : x32_7 = true
      ·subst c15
       have H1 : (some false) = some r := by rw [if_pos rfl] at H; exact H
       clear H
       have H := H1
       clear H1
       obtain rfl := Option.some.inj H
       go_wp2
       repeat (go_quiet (fail); try go_wp2)
       go_ret
       exact ⟨by first | rfl | (simp [errW_none, errW_some] <;> rfl) | (simp [*, errW_none, errW_some] <;> rfl), by repeat (first | (with_reducible first | exact HB.out | apply wA | apply pN | apply wD | refine wS ?_ GE225.out) | exact HB.out)⟩
      ·replace c15 := Bool.eq_false_iff.mpr c15
       subst c15
       have H1 : (if a0_0 = 1 then ((r2Good.f kj7 a0_1).bind fun t227 => (if t227 = true then (if a0_2 = true then (if a0_4 = 0 then (some ((l0_5.length : Int) == 0)) else (some false)) else (some false)) else (some false))) else (if a0_0 = 2 then ((r2Good.f kj7 a0_1).bind fun t228 => (if t228 = true then (if (a0_1.size : Int) ≥ 1 then (if a0_2 = true then (some false) else (if a0_4 = 1 then (some ((l0_5.length : Int) == 1)) else (some false))) else (some false)) else (some false))) else (if a0_0 = 3 then (if a0_2 = true then (if a0_1.toList = ([] : List UInt8) then (if a0_4 ≥ 0 then (if a0_4 ≤ 65535 then ((r9Bits.f kj7 a0_4).bind fun t229 => (if t229 = (l0_5.length : Int) then (some (decide ((wrap64 ((l0_5.length : Int) + 1)) ≥ 2))) else (some false))) else (some false)) else (some false)) else (some false)) else (if a0_1.toList = ([] : List UInt8) then (if a0_4 ≥ 0 then (if a0_4 ≤ 65535 then ((r9Bits.f kj7 a0_4).bind fun t230 => (if t230 = (l0_5.length : Int) then (some (decide ((l0_5.length : Int) ≥ 2))) else (some false))) else (some false)) else (some false)) else (some false))) else (some false)))) = some r := by rw [if_neg (show ¬ (false = true) by decide)] at H; exact H
       clear H
       have H := H1
       clear H1
       by_cases c16 : a0_0 = 1
       ·rw [if_pos c16] at H
        have c16b0 : (a0_0 == 1) = true := beq_iff_eq.mpr c16
        have c16b1 : (a0_0 != 1) = false := bne_eq_false_iff_eq.mpr c16
        clear c16
        replace H := Option.bind_eq_some_iff.mp H
        obtain ⟨t227, A170, H⟩ := H
        replace H : (if t227 = true then (if a0_2 = true then (if a0_4 = 0 then (some ((l0_5.length : Int) == 0)) else (some false)) else (some false)) else (some false)) = some r := H
        have A17 := A0_.mk A170
        clear A170
        by_cases c18 : t227 = true
        ·subst c18
         have H1 : (if a0_2 = true then (if a0_4 = 0 then (some ((l0_5.length : Int) == 0)) else (some false)) else (some false)) = some r := by rw [if_pos rfl] at H; exact H
         clear H
         have H := H1
         clear H1
         by_cases c19 : a0_2 = true
         ·subst c19
          have H1 : (if a0_4 = 0 then (some ((l0_5.length : Int) == 0)) else (some false)) = some r := by rw [if_pos rfl] at H; exact H
          clear H
          have H := H1
          clear H1
          by_cases c20 : a0_4 = 0
          ·rw [if_pos c20] at H
           have c20b0 : (a0_4 == 0) = true := beq_iff_eq.mpr c20
           have c20b1 : (a0_4 != 0) = false := bne_eq_false_iff_eq.mpr c20
           clear c20
           obtain rfl := Option.some.inj H
           have hcz21_0 : wc.cell? ⟨gb225, 0, none⟩ = some (.int .i64 a0_0) := (bC BK225.out 0).trans rfl
           have hcz21_1 : wc.cell? ⟨gb225, 1, none⟩ = some (.string a0_1) := (bC BK225.out 1).trans rfl
           have hcz21_2 : wc.cell? ⟨gb225, 2, none⟩ = some (.bool true) := (bC BK225.out 2).trans rfl
           have hcz21_3 : wc.cell? ⟨gb225, 3, none⟩ = some (.string a0_3) := (bC BK225.out 3).trans rfl
           have hcz21_4 : wc.cell? ⟨gb225, 4, none⟩ = some (.int .i64 a0_4) := (bC BK225.out 4).trans rfl
           have hcz21_5 : wc.cell? ⟨gb225, 5, none⟩ = some (.slice A0_5 l0_5.length c0_5) := (bC BK225.out 5).trans rfl
           have hfz21_0 := bF BK225.out 0
           have hfz21_1 := bF BK225.out 1
           have hfz21_2 := bF BK225.out 2
           have hfz21_3 := bF BK225.out 3
           have hfz21_4 := bF BK225.out 4
           have hfz21_5 := bF BK225.out 5
           go_wp2_with (first | (go_at_call 28; (with_reducible refine (r2Good.calls kj7 a0_1 true _ A17.out).mono ?_); rintro e w' ⟨rfl, ⟨nd, rfl⟩⟩; (try first | exact ⟨rfl, _, World.drewN_drewN _ _ _⟩ | exact ⟨rfl, _, Eq.trans (World.drewN_drewN _ _ _) (congrArg (World.drewN _) (Nat.add_assoc _ _ _))⟩)))
           repeat (go_quiet (first | (go_at_call 28; (with_reducible refine (r2Good.calls kj7 a0_1 true _ A17.out).mono ?_); rintro e w' ⟨rfl, ⟨nd, rfl⟩⟩; (try first | exact ⟨rfl, _, World.drewN_drewN _ _ _⟩ | exact ⟨rfl, _, Eq.trans (World.drewN_drewN _ _ _) (congrArg (World.drewN _) (Nat.add_assoc _ _ _))⟩))); try go_wp2_with (first | (go_at_call 28; (with_reducible refine (r2Good.calls kj7 a0_1 true _ A17.out).mono ?_); rintro e w' ⟨rfl, ⟨nd, rfl⟩⟩; (try first | exact ⟨rfl, _, World.drewN_drewN _ _ _⟩ | exact ⟨rfl, _, Eq.trans (World.drewN_drewN _ _ _) (congrArg (World.drewN _) (Nat.add_assoc _ _ _))⟩))))
           go_ret
           exact ⟨by first | rfl | (simp [errW_none, errW_some] <;> rfl) | (simp [*, errW_none, errW_some] <;> rfl), by repeat (first | (with_reducible first | exact HB.out | apply wA | apply pN | apply wD | refine wS ?_ GE225.out) | exact HB.out)⟩
          ·rw [if_neg c20] at H
           have c20b0 : (a0_4 == 0) = false := beq_eq_false_iff_ne.mpr c20
           have c20b1 : (a0_4 != 0) = true := bne_iff_ne.mpr c20
           obtain rfl := Option.some.inj H
           have hcz22_0 : wc.cell? ⟨gb225, 0, none⟩ = some (.int .i64 a0_0) := (bC BK225.out 0).trans rfl
           have hcz22_1 : wc.cell? ⟨gb225, 1, none⟩ = some (.string a0_1) := (bC BK225.out 1).trans rfl
           have hcz22_2 : wc.cell? ⟨gb225, 2, none⟩ = some (.bool true) := (bC BK225.out 2).trans rfl
           have hcz22_3 : wc.cell? ⟨gb225, 3, none⟩ = some (.string a0_3) := (bC BK225.out 3).trans rfl
           have hcz22_4 : wc.cell? ⟨gb225, 4, none⟩ = some (.int .i64 a0_4) := (bC BK225.out 4).trans rfl
           have hcz22_5 : wc.cell? ⟨gb225, 5, none⟩ = some (.slice A0_5 l0_5.length c0_5) := (bC BK225.out 5).trans rfl
           have hfz22_0 := bF BK225.out 0
           have hfz22_1 := bF BK225.out 1
           have hfz22_2 := bF BK225.out 2
           have hfz22_3 := bF BK225.out 3
           have hfz22_4 := bF BK225.out 4
           have hfz22_5 := bF BK225.out 5
           go_wp2_with (first | (go_at_call 28; (with_reducible refine (r2Good.calls kj7 a0_1 true _ A17.out).mono ?_); rintro e w' ⟨rfl, ⟨nd, rfl⟩⟩; (try first | exact ⟨rfl, _, World.drewN_drewN _ _ _⟩ | exact ⟨rfl, _, Eq.trans (World.drewN_drewN _ _ _) (congrArg (World.drewN _) (Nat.add_assoc _ _ _))⟩)))
           repeat (go_quiet (first | (go_at_call 28; (with_reducible refine (r2Good.calls kj7 a0_1 true _ A17.out).mono ?_); rintro e w' ⟨rfl, ⟨nd, rfl⟩⟩; (try first | exact ⟨rfl, _, World.drewN_drewN _ _ _⟩ | exact ⟨rfl, _, Eq.trans (World.drewN_drewN _ _ _) (congrArg (World.drewN _) (Nat.add_assoc _ _ _))⟩))); try go_wp2_with (first | (go_at_call 28; (with_reducible refine (r2Good.calls kj7 a0_1 true _ A17.out).mono ?_); rintro e w' ⟨rfl, ⟨nd, rfl⟩⟩; (try first | exact ⟨rfl, _, World.drewN_drewN _ _ _⟩ | exact ⟨rfl, _, Eq.trans (World.drewN_drewN _ _ _) (congrArg (World.drewN _) (Nat.add_assoc _ _ _))⟩))))
           go_ret
           exact ⟨by first | rfl | (simp [errW_none, errW_some] <;> rfl) | (simp [*, errW_none, errW_some] <;> rfl), by repeat (first | (with_reducible first | exact HB.out | apply wA | apply pN | apply wD | refine wS ?_ GE225.out) | exact HB.out)⟩
         ·replace c19 := Bool.eq_false_iff.mpr c19
          subst c19
          have H1 : (some false) = some r := by rw [if_neg (show ¬ (false = true) by decide)] at H; exact H
          clear H
          have H := H1
          clear H1
          obtain rfl := Option.some.inj H
          have hcz23_0 : wc.cell? ⟨gb225, 0, none⟩ = some (.int .i64 a0_0) := (bC BK225.out 0).trans rfl
          have hcz23_1 : wc.cell? ⟨gb225, 1, none⟩ = some (.string a0_1) := (bC BK225.out 1).trans rfl
          have hcz23_2 : wc.cell? ⟨gb225, 2, none⟩ = some (.bool false) := (bC BK225.out 2).trans rfl
          have hcz23_3 : wc.cell? ⟨gb225, 3, none⟩ = some (.string a0_3) := (bC BK225.out 3).trans rfl
          have hcz23_4 : wc.cell? ⟨gb225, 4, none⟩ = some (.int .i64 a0_4) := (bC BK225.out 4).trans rfl
          have hcz23_5 : wc.cell? ⟨gb225, 5, none⟩ = some (.slice A0_5 l0_5.length c0_5) := (bC BK225.out 5).trans rfl
          have hfz23_0 := bF BK225.out 0
          have hfz23_1 := bF BK225.out 1
          have hfz23_2 := bF BK225.out 2
          have hfz23_3 := bF BK225.out 3
          have hfz23_4 := bF BK225.out 4
          have hfz23_5 := bF BK225.out 5
          go_wp2_with (first | (go_at_call 28; (with_reducible refine (r2Good.calls kj7 a0_1 true _ A17.out).mono ?_); rintro e w' ⟨rfl, ⟨nd, rfl⟩⟩; (try first | exact ⟨rfl, _, World.drewN_drewN _ _ _⟩ | exact ⟨rfl, _, Eq.trans (World.drewN_drewN _ _ _) (congrArg (World.drewN _) (Nat.add_assoc _ _ _))⟩)))
          repeat (go_quiet (first | (go_at_call 28; (with_reducible refine (r2Good.calls kj7 a0_1 true _ A17.out).mono ?_); rintro e w' ⟨rfl, ⟨nd, rfl⟩⟩; (try first | exact ⟨rfl, _, World.drewN_drewN _ _ _⟩ | exact ⟨rfl, _, Eq.trans (World.drewN_drewN _ _ _) (congrArg (World.drewN _) (Nat.add_assoc _ _ _))⟩))); try go_wp2_with (first | (go_at_call 28; (with_reducible refine (r2Good.calls kj7 a0_1 true _ A17.out).mono ?_); rintro e w' ⟨rfl, ⟨nd, rfl⟩⟩; (try first | exact ⟨rfl, _, World.drewN_drewN _ _ _⟩ | exact ⟨rfl, _, Eq.trans (World.drewN_drewN _ _ _) (congrArg (World.drewN _) (Nat.add_assoc _ _ _))⟩))))
          go_ret
          exact ⟨by first | rfl | (simp [errW_none, errW_some] <;> rfl) | (simp [*, errW_none, errW_some] <;> rfl), by repeat (first | (with_reducible first | exact HB.out | apply wA | apply pN | apply wD | refine wS ?_ GE225.out) | exact HB.out)⟩
        ·replace c18 := Bool.eq_false_iff.mpr c18
         subst c18
         have H1 : (some false) = some r := by rw [if_neg (show ¬ (false = true) by decide)] at H; exact H
         clear H
         have H := H1
         clear H1
         obtain rfl := Option.some.inj H
         have hcz24_0 : wc.cell? ⟨gb225, 0, none⟩ = some (.int .i64 a0_0) := (bC BK225.out 0).trans rfl
         have hcz24_1 : wc.cell? ⟨gb225, 1, none⟩ = some (.string a0_1) := (bC BK225.out 1).trans rfl
         have hcz24_2 : wc.cell? ⟨gb225, 2, none⟩ = some (.bool a0_2) := (bC BK225.out 2).trans rfl
         have hcz24_3 : wc.cell? ⟨gb225, 3, none⟩ = some (.string a0_3) := (bC BK225.out 3).trans rfl
         have hcz24_4 : wc.cell? ⟨gb225, 4, none⟩ = some (.int .i64 a0_4) := (bC BK225.out 4).trans rfl
         have hcz24_5 : wc.cell? ⟨gb225, 5, none⟩ = some (.slice A0_5 l0_5.length c0_5) := (bC BK225.out 5).trans rfl
         have hfz24_0 := bF BK225.out 0
         have hfz24_1 := bF BK225.out 1
         have hfz24_2 := bF BK225.out 2
         have hfz24_3 := bF BK225.out 3
         have hfz24_4 := bF BK225.out 4
         have hfz24_5 := bF BK225.out 5
         go_wp2_with (first | (go_at_call 28; (with_reducible refine (r2Good.calls kj7 a0_1 false _ A17.out).mono ?_); rintro e w' ⟨rfl, ⟨nd, rfl⟩⟩; (try first | exact ⟨rfl, _, World.drewN_drewN _ _ _⟩ | exact ⟨rfl, _, Eq.trans (World.drewN_drewN _ _ _) (congrArg (World.drewN _) (Nat.add_assoc _ _ _))⟩)))
         repeat (go_quiet (first | (go_at_call 28; (with_reducible refine (r2Good.calls kj7 a0_1 false _ A17.out).mono ?_); rintro e w' ⟨rfl, ⟨nd, rfl⟩⟩; (try first | exact ⟨rfl, _, World.drewN_drewN _ _ _⟩ | exact ⟨rfl, _, Eq.trans (World.drewN_drewN _ _ _) (congrArg (World.drewN _) (Nat.add_assoc _ _ _))⟩))); try go_wp2_with (first | (go_at_call 28; (with_reducible refine (r2Good.calls kj7 a0_1 false _ A17.out).mono ?_); rintro e w' ⟨rfl, ⟨nd, rfl⟩⟩; (try first | exact ⟨rfl, _, World.drewN_drewN _ _ _⟩ | exact ⟨rfl, _, Eq.trans (World.drewN_drewN _ _ _) (congrArg (World.drewN _) (Nat.add_assoc _ _ _))⟩))))
         go_ret
         exact ⟨by first | rfl | (simp [errW_none, errW_some] <;> rfl) | (simp [*, errW_none, errW_some] <;> rfl), by repeat (first | (with_reducible first | exact HB.out | apply wA | apply pN | apply wD | refine wS ?_ GE225.out) | exact HB.out)⟩
       ·rw [if_neg c16] at H
        have c16b0 : (a0_0 == 1) = false := beq_eq_false_iff_ne.mpr c16
        have c16b1 : (a0_0 != 1) = true := bne_iff_ne.mpr c16
        by_cases c25 : a0_0 = 2
        ·rw [if_pos c25] at H
         have c25b0 : (a0_0 == 2) = true := beq_iff_eq.mpr c25
         have c25b1 : (a0_0 != 2) = false := bne_eq_false_iff_eq.mpr c25
         clear c25
         replace H := Option.bind_eq_some_iff.mp H
         obtain ⟨t228, A260, H⟩ := H
         replace H : (if t228 = true then (if (a0_1.size : Int) ≥ 1 then (if a0_2 = true then (some false) else (if a0_4 = 1 then (some ((l0_5.length : Int) == 1)) else (some false))) else (some false)) else (some false)) = some r := H
         have A26 := A0_.mk A260
         clear A260
         by_cases c27 : t228 = true
         ·subst c27
          have H1 : (if (a0_1.size : Int) ≥ 1 then (if a0_2 = true then (some false) else (if a0_4 = 1 then (some ((l0_5.length : Int) == 1)) else (some false))) else (some false)) = some r := by rw [if_pos rfl] at H; exact H
          clear H
          have H := H1
          clear H1
          by_cases c28 : (a0_1.size : Int) ≥ 1
          ·rw [if_pos c28] at H
           have c28b0 : decide (1 ≤ (a0_1.size : Int)) = true := decide_eq_true c28
           have c28b1 : decide (1 ≤ a0_1.size) = true := decide_eq_true (by omega)
           clear c28
           by_cases c29 : a0_2 = true
           ·subst c29
            have H1 : (some false) = some r := by rw [if_pos rfl] at H; exact H
            clear H
            have H := H1
            clear H1
            obtain rfl := Option.some.inj H
            have hcz30_0 : wc.cell? ⟨gb225, 0, none⟩ = some (.int .i64 a0_0) := (bC BK225.out 0).trans rfl
            have hcz30_1 : wc.cell? ⟨gb225, 1, none⟩ = some (.string a0_1) := (bC BK225.out 1).trans rfl
            have hcz30_2 : wc.cell? ⟨gb225, 2, none⟩ = some (.bool true) := (bC BK225.out 2).trans rfl
            have hcz30_3 : wc.cell? ⟨gb225, 3, none⟩ = some (.string a0_3) := (bC BK225.out 3).trans rfl
            have hcz30_4 : wc.cell? ⟨gb225, 4, none⟩ = some (.int .i64 a0_4) := (bC BK225.out 4).trans rfl
            have hcz30_5 : wc.cell? ⟨gb225, 5, none⟩ = some (.slice A0_5 l0_5.length c0_5) := (bC BK225.out 5).trans rfl
            have hfz30_0 := bF BK225.out 0
            have hfz30_1 := bF BK225.out 1
            have hfz30_2 := bF BK225.out 2
            have hfz30_3 := bF BK225.out 3
            have hfz30_4 := bF BK225.out 4
            have hfz30_5 := bF BK225.out 5
            go_wp2_with (first | (go_at_call 28; (with_reducible refine (r2Good.calls kj7 a0_1 true _ A26.out).mono ?_); rintro e w' ⟨rfl, ⟨nd, rfl⟩⟩; (try first | exact ⟨rfl, _, World.drewN_drewN _ _ _⟩ | exact ⟨rfl, _, Eq.trans (World.drewN_drewN _ _ _) (congrArg (World.drewN _) (Nat.add_assoc _ _ _))⟩)))
            repeat (go_quiet (first | (go_at_call 28; (with_reducible refine (r2Good.calls kj7 a0_1 true _ A26.out).mono ?_); rintro e w' ⟨rfl, ⟨nd, rfl⟩⟩; (try first | exact ⟨rfl, _, World.drewN_drewN _ _ _⟩ | exact ⟨rfl, _, Eq.trans (World.drewN_drewN _ _ _) (congrArg (World.drewN _) (Nat.add_assoc _ _ _))⟩))); try go_wp2_with (first | (go_at_call 28; (with_reducible refine (r2Good.calls kj7 a0_1 true _ A26.out).mono ?_); rintro e w' ⟨rfl, ⟨nd, rfl⟩⟩; (try first | exact ⟨rfl, _, World.drewN_drewN _ _ _⟩ | exact ⟨rfl, _, Eq.trans (World.drewN_drewN _ _ _) (congrArg (World.drewN _) (Nat.add_assoc _ _ _))⟩))))
            go_ret
            exact ⟨by first | rfl | (simp [errW_none, errW_some] <;> rfl) | (simp [*, errW_none, errW_some] <;> rfl), by repeat (first | (with_reducible first | exact HB.out | apply wA | apply pN | apply wD | refine wS ?_ GE225.out) | exact HB.out)⟩
           ·replace c29 := Bool.eq_false_iff.mpr c29
            subst c29
            have H1 : (if a0_4 = 1 then (some ((l0_5.length : Int) == 1)) else (some false)) = some r := by rw [if_neg (show ¬ (false = true) by decide)] at H; exact H
            clear H
            have H := H1
            clear H1
            by_cases c31 : a0_4 = 1
            ·rw [if_pos c31] at H
             have c31b0 : (a0_4 == 1) = true := beq_iff_eq.mpr c31
             have c31b1 : (a0_4 != 1) = false := bne_eq_false_iff_eq.mpr c31
             clear c31
             obtain rfl := Option.some.inj H
             have hcz32_0 : wc.cell? ⟨gb225, 0, none⟩ = some (.int .i64 a0_0) := (bC BK225.out 0).trans rfl
             have hcz32_1 : wc.cell? ⟨gb225, 1, none⟩ = some (.string a0_1) := (bC BK225.out 1).trans rfl
             have hcz32_2 : wc.cell? ⟨gb225, 2, none⟩ = some (.bool false) := (bC BK225.out 2).trans rfl
             have hcz32_3 : wc.cell? ⟨gb225, 3, none⟩ = some (.string a0_3) := (bC BK225.out 3).trans rfl
             have hcz32_4 : wc.cell? ⟨gb225, 4, none⟩ = some (.int .i64 a0_4) := (bC BK225.out 4).trans rfl
             have hcz32_5 : wc.cell? ⟨gb225, 5, none⟩ = some (.slice A0_5 l0_5.length c0_5) := (bC BK225.out 5).trans rfl
             have hfz32_0 := bF BK225.out 0
             have hfz32_1 := bF BK225.out 1
             have hfz32_2 := bF BK225.out 2
             have hfz32_3 := bF BK225.out 3
             have hfz32_4 := bF BK225.out 4
             have hfz32_5 := bF BK225.out 5
             go_wp2_with (first | (go_at_call 28; (with_reducible refine (r2Good.calls kj7 a0_1 true _ A26.out).mono ?_); rintro e w' ⟨rfl, ⟨nd, rfl⟩⟩; (try first | exact ⟨rfl, _, World.drewN_drewN _ _ _⟩ | exact ⟨rfl, _, Eq.trans (World.drewN_drewN _ _ _) (congrArg (World.drewN _) (Nat.add_assoc _ _ _))⟩)))
             repeat (go_quiet (first | (go_at_call 28; (with_reducible refine (r2Good.calls kj7 a0_1 true _ A26.out).mono ?_); rintro e w' ⟨rfl, ⟨nd, rfl⟩⟩; (try first | exact ⟨rfl, _, World.drewN_drewN _ _ _⟩ | exact ⟨rfl, _, Eq.trans (World.drewN_drewN _ _ _) (congrArg (World.drewN _) (Nat.add_assoc _ _ _))⟩))); try go_wp2_with (first | (go_at_call 28; (with_reducible refine (r2Good.calls kj7 a0_1 true _ A26.out).mono ?_); rintro e w' ⟨rfl, ⟨nd, rfl⟩⟩; (try first | exact ⟨rfl, _, World.drewN_drewN _ _ _⟩ | exact ⟨rfl, _, Eq.trans (World.drewN_drewN _ _ _) (congrArg (World.drewN _) (Nat.add_assoc _ _ _))⟩))))
             go_ret
             exact ⟨by first | rfl | (simp [errW_none, errW_some] <;> rfl) | (simp [*, errW_none, errW_some] <;> rfl), by repeat (first | (with_reducible first | exact HB.out | apply wA | apply pN | apply wD | refine wS ?_ GE225.out) | exact HB.out)⟩
            ·rw [if_neg c31] at H
             have c31b0 : (a0_4 == 1) = false := beq_eq_false_iff_ne.mpr c31
             have c31b1 : (a0_4 != 1) = true := bne_iff_ne.mpr c31
             obtain rfl := Option.some.inj H
             have hcz33_0 : wc.cell? ⟨gb225, 0, none⟩ = some (.int .i64 a0_0) := (bC BK225.out 0).trans rfl
             have hcz33_1 : wc.cell? ⟨gb225, 1, none⟩ = some (.string a0_1) := (bC BK225.out 1).trans rfl
             have hcz33_2 : wc.cell? ⟨gb225, 2, none⟩ = some (.bool false) := (bC BK225.out 2).trans rfl
             have hcz33_3 : wc.cell? ⟨gb225, 3, none⟩ = some (.string a0_3) := (bC BK225.out 3).trans rfl
             have hcz33_4 : wc.cell? ⟨gb225, 4, none⟩ = some (.int .i64 a0_4) := (bC BK225.out 4).trans rfl
             have hcz33_5 : wc.cell? ⟨gb225, 5, none⟩ = some (.slice A0_5 l0_5.length c0_5) := (bC BK225.out 5).trans rfl
             have hfz33_0 := bF BK225.out 0
             have hfz33_1 := bF BK225.out 1
             have hfz33_2 := bF BK225.out 2
             have hfz33_3 := bF BK225.out 3
             have hfz33_4 := bF BK225.out 4
             have hfz33_5 := bF BK225.out 5
             go_wp2_with (first | (go_at_call 28; (with_reducible refine (r2Good.calls kj7 a0_1 true _ A26.out).mono ?_); rintro e w' ⟨rfl, ⟨nd, rfl⟩⟩; (try first | exact ⟨rfl, _, World.drewN_drewN _ _ _⟩ | exact ⟨rfl, _, Eq.trans (World.drewN_drewN _ _ _) (congrArg (World.drewN _) (Nat.add_assoc _ _ _))⟩)))
             repeat (go_quiet (first | (go_at_call 28; (with_reducible refine (r2Good.calls kj7 a0_1 true _ A26.out).mono ?_); rintro e w' ⟨rfl, ⟨nd, rfl⟩⟩; (try first | exact ⟨rfl, _, World.drewN_drewN _ _ _⟩ | exact ⟨rfl, _, Eq.trans (World.drewN_drewN _ _ _) (congrArg (World.drewN _) (Nat.add_assoc _ _ _))⟩))); try go_wp2_with (first | (go_at_call 28; (with_reducible refine (r2Good.calls kj7 a0_1 true _ A26.out).mono ?_); rintro e w' ⟨rfl, ⟨nd, rfl⟩⟩; (try first | exact ⟨rfl, _, World.drewN_drewN _ _ _⟩ | exact ⟨rfl, _, Eq.trans (World.drewN_drewN _ _ _) (congrArg (World.drewN _) (Nat.add_assoc _ _ _))⟩))))
             go_ret
             exact ⟨by first | rfl | (simp [errW_none, errW_some] <;> rfl) | (simp [*, errW_none, errW_some] <;> rfl), by repeat (first | (with_reducible first | exact HB.out | apply wA | apply pN | apply wD | refine wS ?_ GE225.out) | exact HB.out)⟩
          ·rw [if_neg c28] at H
           have c28b0 : decide (1 ≤ (a0_1.size : Int)) = false := decide_eq_false c28
           have c28b1 : decide (1 ≤ a0_1.size) = false := decide_eq_false (by omega)
           clear c28
           obtain rfl := Option.some.inj H
           have hcz34_0 : wc.cell? ⟨gb225, 0, none⟩ = some (.int .i64 a0_0) := (bC BK225.out 0).trans rfl
           have hcz34_1 : wc.cell? ⟨gb225, 1, none⟩ = some (.string a0_1) := (bC BK225.out 1).trans rfl
           have hcz34_2 : wc.cell? ⟨gb225, 2, none⟩ = some (.bool a0_2) := (bC BK225.out 2).trans rfl
           have hcz34_3 : wc.cell? ⟨gb225, 3, none⟩ = some (.string a0_3) := (bC BK225.out 3).trans rfl
           have hcz34_4 : wc.cell? ⟨gb225, 4, none⟩ = some (.int .i64 a0_4) := (bC BK225.out 4).trans rfl
           have hcz34_5 : wc.cell? ⟨gb225, 5, none⟩ = some (.slice A0_5 l0_5.length c0_5) := (bC BK225.out 5).trans rfl
           have hfz34_0 := bF BK225.out 0
           have hfz34_1 := bF BK225.out 1
           have hfz34_2 := bF BK225.out 2
           have hfz34_3 := bF BK225.out 3
           have hfz34_4 := bF BK225.out 4
           have hfz34_5 := bF BK225.out 5
           go_wp2_with (first | (go_at_call 28; (with_reducible refine (r2Good.calls kj7 a0_1 true _ A26.out).mono ?_); rintro e w' ⟨rfl, ⟨nd, rfl⟩⟩; (try first | exact ⟨rfl, _, World.drewN_drewN _ _ _⟩ | exact ⟨rfl, _, Eq.trans (World.drewN_drewN _ _ _) (congrArg (World.drewN _) (Nat.add_assoc _ _ _))⟩)))
           repeat (go_quiet (first | (go_at_call 28; (with_reducible refine (r2Good.calls kj7 a0_1 true _ A26.out).mono ?_); rintro e w' ⟨rfl, ⟨nd, rfl⟩⟩; (try first | exact ⟨rfl, _, World.drewN_drewN _ _ _⟩ | exact ⟨rfl, _, Eq.trans (World.drewN_drewN _ _ _) (congrArg (World.drewN _) (Nat.add_assoc _ _ _))⟩))); try go_wp2_with (first | (go_at_call 28; (with_reducible refine (r2Good.calls kj7 a0_1 true _ A26.out).mono ?_); rintro e w' ⟨rfl, ⟨nd, rfl⟩⟩; (try first | exact ⟨rfl, _, World.drewN_drewN _ _ _⟩ | exact ⟨rfl, _, Eq.trans (World.drewN_drewN _ _ _) (congrArg (World.drewN _) (Nat.add_assoc _ _ _))⟩))))
           go_ret
           exact ⟨by first | rfl | (simp [errW_none, errW_some] <;> rfl) | (simp [*, errW_none, errW_some] <;> rfl), by repeat (first | (with_reducible first | exact HB.out | apply wA | apply pN | apply wD | refine wS ?_ GE225.out) | exact HB.out)⟩
         ·replace c27 := Bool.eq_false_iff.mpr c27
          subst c27
          have H1 : (some false) = some r := by rw [if_neg (show ¬ (false = true) by decide)] at H; exact H
          clear H
          have H := H1
          clear H1
          obtain rfl := Option.some.inj H
          have hcz35_0 : wc.cell? ⟨gb225, 0, none⟩ = some (.int .i64 a0_0) := (bC BK225.out 0).trans rfl
          have hcz35_1 : wc.cell? ⟨gb225, 1, none⟩ = some (.string a0_1) := (bC BK225.out 1).trans rfl
          have hcz35_2 : wc.cell? ⟨gb225, 2, none⟩ = some (.bool a0_2) := (bC BK225.out 2).trans rfl
          have hcz35_3 : wc.cell? ⟨gb225, 3, none⟩ = some (.string a0_3) := (bC BK225.out 3).trans rfl
          have hcz35_4 : wc.cell? ⟨gb225, 4, none⟩ = some (.int .i64 a0_4) := (bC BK225.out 4).trans rfl
          have hcz35_5 : wc.cell? ⟨gb225, 5, none⟩ = some (.slice A0_5 l0_5.length c0_5) := (bC BK225.out 5).trans rfl
          have hfz35_0 := bF BK225.out 0
          have hfz35_1 := bF BK225.out 1
          have hfz35_2 := bF BK225.out 2
          have hfz35_3 := bF BK225.out 3
          have hfz35_4 := bF BK225.out 4
          have hfz35_5 := bF BK225.out 5
          go_wp2_with (first | (go_at_call 28; (with_reducible refine (r2Good.calls kj7 a0_1 false _ A26.out).mono ?_); rintro e w' ⟨rfl, ⟨nd, rfl⟩⟩; (try first | exact ⟨rfl, _, World.drewN_drewN _ _ _⟩ | exact ⟨rfl, _, Eq.trans (World.drewN_drewN _ _ _) (congrArg (World.drewN _) (Nat.add_assoc _ _ _))⟩)))
          repeat (go_quiet (first | (go_at_call 28; (with_reducible refine (r2Good.calls kj7 a0_1 false _ A26.out).mono ?_); rintro e w' ⟨rfl, ⟨nd, rfl⟩⟩; (try first | exact ⟨rfl, _, World.drewN_drewN _ _ _⟩ | exact ⟨rfl, _, Eq.trans (World.drewN_drewN _ _ _) (congrArg (World.drewN _) (Nat.add_assoc _ _ _))⟩))); try go_wp2_with (first | (go_at_call 28; (with_reducible refine (r2Good.calls kj7 a0_1 false _ A26.out).mono ?_); rintro e w' ⟨rfl, ⟨nd, rfl⟩⟩; (try first | exact ⟨rfl, _, World.drewN_drewN _ _ _⟩ | exact ⟨rfl, _, Eq.trans (World.drewN_drewN _ _ _) (congrArg (World.drewN _) (Nat.add_assoc _ _ _))⟩))))
          go_ret
          exact ⟨by first | rfl | (simp [errW_none, errW_some] <;> rfl) | (simp [*, errW_none, errW_some] <;> rfl), by repeat (first | (with_reducible first | exact HB.out | apply wA | apply pN | apply wD | refine wS ?_ GE225.out) | exact HB.out)⟩
        ·rw [if_neg c25] at H
         have c25b0 : (a0_0 == 2) = false := beq_eq_false_iff_ne.mpr c25
         have c25b1 : (a0_0 != 2) = true := bne_iff_ne.mpr c25
         by_cases c36 : a0_0 = 3
         ·rw [if_pos c36] at H
          have c36b0 : (a0_0 == 3) = true := beq_iff_eq.mpr c36
          have c36b1 : (a0_0 != 3) = false := bne_eq_false_iff_eq.mpr c36
          clear c36
          by_cases c37 : a0_2 = true
          ·subst c37
           have H1 : (if a0_1.toList = ([] : List UInt8) then (if a0_4 ≥ 0 then (if a0_4 ≤ 65535 then ((r9Bits.f kj7 a0_4).bind fun t229 => (if t229 = (l0_5.length : Int) then (some (decide ((wrap64 ((l0_5.length : Int) + 1)) ≥ 2))) else (some false))) else (some false)) else (some false)) else (some false)) = some r := by rw [if_pos rfl] at H; exact H
           clear H
           have H := H1
           clear H1
           by_cases c38 : a0_1.toList = ([] : List UInt8)
           ·rw [if_pos c38] at H
            have c38b0 : (a0_1.toList == ([] : List UInt8)) = true := beq_iff_eq.mpr c38
            have c38b1 : (a0_1.toList != ([] : List UInt8)) = false := bne_eq_false_iff_eq.mpr c38
            clear c38
            by_cases c39 : a0_4 ≥ 0
            ·rw [if_pos c39] at H
             have c39b0 : decide (0 ≤ a0_4) = true := decide_eq_true c39
             clear c39
             by_cases c40 : a0_4 ≤ 65535
             ·rw [if_pos c40] at H
              have c40b0 : decide (a0_4 ≤ 65535) = true := decide_eq_true c40
              clear c40
              replace H := Option.bind_eq_some_iff.mp H
              obtain ⟨t229, A410, H⟩ := H
              replace H : (if t229 = (l0_5.length : Int) then (some (decide ((wrap64 ((l0_5.length : Int) + 1)) ≥ 2))) else (some false)) = some r := H
              have A41 := A0_.mk A410
              clear A410
              by_cases c42 : t229 = (l0_5.length : Int)
              ·rw [if_pos c42] at H
               have c42b0 : (t229 == (l0_5.length : Int)) = true := beq_iff_eq.mpr c42
               have c42b1 : (t229 != (l0_5.length : Int)) = false := bne_eq_false_iff_eq.mpr c42
               clear c42
               obtain rfl := Option.some.inj H
               have hcz43_0 : wc.cell? ⟨gb225, 0, none⟩ = some (.int .i64 a0_0) := (bC BK225.out 0).trans rfl
               have hcz43_1 : wc.cell? ⟨gb225, 1, none⟩ = some (.string a0_1) := (bC BK225.out 1).trans rfl
               have hcz43_2 : wc.cell? ⟨gb225, 2, none⟩ = some (.bool true) := (bC BK225.out 2).trans rfl
               have hcz43_3 : wc.cell? ⟨gb225, 3, none⟩ = some (.string a0_3) := (bC BK225.out 3).trans rfl
               have hcz43_4 : wc.cell? ⟨gb225, 4, none⟩ = some (.int .i64 a0_4) := (bC BK225.out 4).trans rfl
               have hcz43_5 : wc.cell? ⟨gb225, 5, none⟩ = some (.slice A0_5 l0_5.length c0_5) := (bC BK225.out 5).trans rfl
               have hfz43_0 := bF BK225.out 0
               have hfz43_1 := bF BK225.out 1
               have hfz43_2 := bF BK225.out 2
               have hfz43_3 := bF BK225.out 3
               have hfz43_4 := bF BK225.out 4
               have hfz43_5 := bF BK225.out 5
               go_wp2_with (first | (go_at_call 29; (with_reducible refine (r9Bits.calls kj7 a0_4 t229 _ A41.out).mono ?_); rintro e w' ⟨rfl, ⟨nd, rfl⟩⟩; (try first | exact ⟨rfl, _, World.drewN_drewN _ _ _⟩ | exact ⟨rfl, _, Eq.trans (World.drewN_drewN _ _ _) (congrArg (World.drewN _) (Nat.add_assoc _ _ _))⟩)))
               repeat (go_quiet (first | (go_at_call 29; (with_reducible refine (r9Bits.calls kj7 a0_4 t229 _ A41.out).mono ?_); rintro e w' ⟨rfl, ⟨nd, rfl⟩⟩; (try first | exact ⟨rfl, _, World.drewN_drewN _ _ _⟩ | exact ⟨rfl, _, Eq.trans (World.drewN_drewN _ _ _) (congrArg (World.drewN _) (Nat.add_assoc _ _ _))⟩))); try go_wp2_with (first | (go_at_call 29; (with_reducible refine (r9Bits.calls kj7 a0_4 t229 _ A41.out).mono ?_); rintro e w' ⟨rfl, ⟨nd, rfl⟩⟩; (try first | exact ⟨rfl, _, World.drewN_drewN _ _ _⟩ | exact ⟨rfl, _, Eq.trans (World.drewN_drewN _ _ _) (congrArg (World.drewN _) (Nat.add_assoc _ _ _))⟩))))
               go_ret
               exact ⟨by first | rfl | (simp [errW_none, errW_some] <;> rfl) | (simp [*, errW_none, errW_some] <;> rfl), by repeat (first | (with_reducible first | exact HB.out | apply wA | apply pN | apply wD | refine wS ?_ GE225.out) | exact HB.out)⟩
              ·rw [if_neg c42] at H
               have c42b0 : (t229 == (l0_5.length : Int)) = false := beq_eq_false_iff_ne.mpr c42
               have c42b1 : (t229 != (l0_5.length : Int)) = true := bne_iff_ne.mpr c42
               obtain rfl := Option.some.inj H
               have hcz44_0 : wc.cell? ⟨gb225, 0, none⟩ = some (.int .i64 a0_0) := (bC BK225.out 0).trans rfl
               have hcz44_1 : wc.cell? ⟨gb225, 1, none⟩ = some (.string a0_1) := (bC BK225.out 1).trans rfl
               have hcz44_2 : wc.cell? ⟨gb225, 2, none⟩ = some (.bool true) := (bC BK225.out 2).trans rfl
               have hcz44_3 : wc.cell? ⟨gb225, 3, none⟩ = some (.string a0_3) := (bC BK225.out 3).trans rfl
               have hcz44_4 : wc.cell? ⟨gb225, 4, none⟩ = some (.int .i64 a0_4) := (bC BK225.out 4).trans rfl
               have hcz44_5 : wc.cell? ⟨gb225, 5, none⟩ = some (.slice A0_5 l0_5.length c0_5) := (bC BK225.out 5).trans rfl
               have hfz44_0 := bF BK225.out 0
               have hfz44_1 := bF BK225.out 1
               have hfz44_2 := bF BK225.out 2
               have hfz44_3 := bF BK225.out 3
               have hfz44_4 := bF BK225.out 4
               have hfz44_5 := bF BK225.out 5
               go_wp2_with (first | (go_at_call 29; (with_reducible refine (r9Bits.calls kj7 a0_4 t229 _ A41.out).mono ?_); rintro e w' ⟨rfl, ⟨nd, rfl⟩⟩; (try first | exact ⟨rfl, _, World.drewN_drewN _ _ _⟩ | exact ⟨rfl, _, Eq.trans (World.drewN_drewN _ _ _) (congrArg (World.drewN _) (Nat.add_assoc _ _ _))⟩)))
               repeat (go_quiet (first | (go_at_call 29; (with_reducible refine (r9Bits.calls kj7 a0_4 t229 _ A41.out).mono ?_); rintro e w' ⟨rfl, ⟨nd, rfl⟩⟩; (try first | exact ⟨rfl, _, World.drewN_drewN _ _ _⟩ | exact ⟨rfl, _, Eq.trans (World.drewN_drewN _ _ _) (congrArg (World.drewN _) (Nat.add_assoc _ _ _))⟩))); try go_wp2_with (first | (go_at_call 29; (with_reducible refine (r9Bits.calls kj7 a0_4 t229 _ A41.out).mono ?_); rintro e w' ⟨rfl, ⟨nd, rfl⟩⟩; (try first | exact ⟨rfl, _, World.drewN_drewN _ _ _⟩ | exact ⟨rfl, _, Eq.trans (World.drewN_drewN _ _ _) (congrArg (World.drewN _) (Nat.add_assoc _ _ _))⟩))))
               go_ret
               exact ⟨by first | rfl | (simp [errW_none, errW_some] <;> rfl) | (simp [*, errW_none, errW_some] <;> rfl), by repeat (first | (with_reducible first | exact HB.out | apply wA | apply pN | apply wD | refine wS ?_ GE225.out) | exact HB.out)⟩
             ·rw [if_neg c40] at H
              have c40b0 : decide (a0_4 ≤ 65535) = false := decide_eq_false c40
              clear c40
              obtain rfl := Option.some.inj H
              have hcz45_0 : wc.cell? ⟨gb225, 0, none⟩ = some (.int .i64 a0_0) := (bC BK225.out 0).trans rfl
              have hcz45_1 : wc.cell? ⟨gb225, 1, none⟩ = some (.string a0_1) := (bC BK225.out 1).trans rfl
              have hcz45_2 : wc.cell? ⟨gb225, 2, none⟩ = some (.bool true) := (bC BK225.out 2).trans rfl
              have hcz45_3 : wc.cell? ⟨gb225, 3, none⟩ = some (.string a0_3) := (bC BK225.out 3).trans rfl
              have hcz45_4 : wc.cell? ⟨gb225, 4, none⟩ = some (.int .i64 a0_4) := (bC BK225.out 4).trans rfl
              have hcz45_5 : wc.cell? ⟨gb225, 5, none⟩ = some (.slice A0_5 l0_5.length c0_5) := (bC BK225.out 5).trans rfl
              have hfz45_0 := bF BK225.out 0
              have hfz45_1 := bF BK225.out 1
              have hfz45_2 := bF BK225.out 2
              have hfz45_3 := bF BK225.out 3
              have hfz45_4 := bF BK225.out 4
              have hfz45_5 := bF BK225.out 5
              go_wp2
              repeat (go_quiet (fail); try go_wp2)
              go_ret
              exact ⟨by first | rfl | (simp [errW_none, errW_some] <;> rfl) | (simp [*, errW_none, errW_some] <;> rfl), by repeat (first | (with_reducible first | exact HB.out | apply wA | apply pN | apply wD | refine wS ?_ GE225.out) | exact HB.out)⟩
            ·rw [if_neg c39] at H
             have c39b0 : decide (0 ≤ a0_4) = false := decide_eq_false c39
             clear c39
             obtain rfl := Option.some.inj H
             have hcz46_0 : wc.cell? ⟨gb225, 0, none⟩ = some (.int .i64 a0_0) := (bC BK225.out 0).trans rfl
             have hcz46_1 : wc.cell? ⟨gb225, 1, none⟩ = some (.string a0_1) := (bC BK225.out 1).trans rfl
             have hcz46_2 : wc.cell? ⟨gb225, 2, none⟩ = some (.bool true) := (bC BK225.out 2).trans rfl
             have hcz46_3 : wc.cell? ⟨gb225, 3, none⟩ = some (.string a0_3) := (bC BK225.out 3).trans rfl
             have hcz46_4 : wc.cell? ⟨gb225, 4, none⟩ = some (.int .i64 a0_4) := (bC BK225.out 4).trans rfl
             have hcz46_5 : wc.cell? ⟨gb225, 5, none⟩ = some (.slice A0_5 l0_5.length c0_5) := (bC BK225.out 5).trans rfl
             have hfz46_0 := bF BK225.out 0
             have hfz46_1 := bF BK225.out 1
             have hfz46_2 := bF BK225.out 2
             have hfz46_3 := bF BK225.out 3
             have hfz46_4 := bF BK225.out 4
             have hfz46_5 := bF BK225.out 5
             go_wp2
             repeat (go_quiet (fail); try go_wp2)
             go_ret
             exact ⟨by first | rfl | (simp [errW_none, errW_some] <;> rfl) | (simp [*, errW_none, errW_some] <;> rfl), by repeat (first | (with_reducible first | exact HB.out | apply wA | apply pN | apply wD | refine wS ?_ GE225.out) | exact HB.out)⟩
           ·rw [if_neg c38] at H
            have c38b0 : (a0_1.toList == ([] : List UInt8)) = false := beq_eq_false_iff_ne.mpr c38
            have c38b1 : (a0_1.toList != ([] : List UInt8)) = true := bne_iff_ne.mpr c38
            obtain rfl := Option.some.inj H
            have hcz47_0 : wc.cell? ⟨gb225, 0, none⟩ = some (.int .i64 a0_0) := (bC BK225.out 0).trans rfl
            have hcz47_1 : wc.cell? ⟨gb225, 1, none⟩ = some (.string a0_1) := (bC BK225.out 1).trans rfl
            have hcz47_2 : wc.cell? ⟨gb225, 2, none⟩ = some (.bool true) := (bC BK225.out 2).trans rfl
            have hcz47_3 : wc.cell? ⟨gb225, 3, none⟩ = some (.string a0_3) := (bC BK225.out 3).trans rfl
            have hcz47_4 : wc.cell? ⟨gb225, 4, none⟩ = some (.int .i64 a0_4) := (bC BK225.out 4).trans rfl
            have hcz47_5 : wc.cell? ⟨gb225, 5, none⟩ = some (.slice A0_5 l0_5.length c0_5) := (bC BK225.out 5).trans rfl
            have hfz47_0 := bF BK225.out 0
            have hfz47_1 := bF BK225.out 1
            have hfz47_2 := bF BK225.out 2
            have hfz47_3 := bF BK225.out 3
            have hfz47_4 := bF BK225.out 4
            have hfz47_5 := bF BK225.out 5
            go_wp2
            repeat (go_quiet (fail); try go_wp2)
            go_ret
            exact ⟨by first | rfl | (simp [errW_none, errW_some] <;> rfl) | (simp [*, errW_none, errW_some] <;> rfl), by repeat (first | (with_reducible first | exact HB.out | apply wA | apply pN | apply wD | refine wS ?_ GE225.out) | exact HB.out)⟩
          ·replace c37 := Bool.eq_false_iff.mpr c37
           subst c37
           have H1 : (if a0_1.toList = ([] : List UInt8) then (if a0_4 ≥ 0 then (if a0_4 ≤ 65535 then ((r9Bits.f kj7 a0_4).bind fun t230 => (if t230 = (l0_5.length : Int) then (some (decide ((l0_5.length : Int) ≥ 2))) else (some false))) else (some false)) else (some false)) else (some false)) = some r := by rw [if_neg (show ¬ (false = true) by decide)] at H; exact H
           clear H
           have H := H1
           clear H1
           by_cases c48 : a0_1.toList = ([] : List UInt8)
           ·rw [if_pos c48] at H
            have c48b0 : (a0_1.toList == ([] : List UInt8)) = true := beq_iff_eq.mpr c48
            have c48b1 : (a0_1.toList != ([] : List UInt8)) = false := bne_eq_false_iff_eq.mpr c48
            clear c48
            by_cases c49 : a0_4 ≥ 0
            ·rw [if_pos c49] at H
             have c49b0 : decide (0 ≤ a0_4) = true := decide_eq_true c49
             clear c49
             by_cases c50 : a0_4 ≤ 65535
             ·rw [if_pos c50] at H
              have c50b0 : decide (a0_4 ≤ 65535) = true := decide_eq_true c50
              clear c50
              replace H := Option.bind_eq_some_iff.mp H
              obtain ⟨t230, A510, H⟩ := H
              replace H : (if t230 = (l0_5.length : Int) then (some (decide ((l0_5.length : Int) ≥ 2))) else (some false)) = some r := H
              have A51 := A0_.mk A510
              clear A510
              by_cases c52 : t230 = (l0_5.length : Int)
              ·rw [if_pos c52] at H
               have c52b0 : (t230 == (l0_5.length : Int)) = true := beq_iff_eq.mpr c52
               have c52b1 : (t230 != (l0_5.length : Int)) = false := bne_eq_false_iff_eq.mpr c52
               clear c52
               obtain rfl := Option.some.inj H
               have hcz53_0 : wc.cell? ⟨gb225, 0, none⟩ = some (.int .i64 a0_0) := (bC BK225.out 0).trans rfl
               have hcz53_1 : wc.cell? ⟨gb225, 1, none⟩ = some (.string a0_1) := (bC BK225.out 1).trans rfl
               have hcz53_2 : wc.cell? ⟨gb225, 2, none⟩ = some (.bool false) := (bC BK225.out 2).trans rfl
               have hcz53_3 : wc.cell? ⟨gb225, 3, none⟩ = some (.string a0_3) := (bC BK225.out 3).trans rfl
               have hcz53_4 : wc.cell? ⟨gb225, 4, none⟩ = some (.int .i64 a0_4) := (bC BK225.out 4).trans rfl
               have hcz53_5 : wc.cell? ⟨gb225, 5, none⟩ = some (.slice A0_5 l0_5.length c0_5) := (bC BK225.out 5).trans rfl
               have hfz53_0 := bF BK225.out 0
               have hfz53_1 := bF BK225.out 1
               have hfz53_2 := bF BK225.out 2
               have hfz53_3 := bF BK225.out 3
               have hfz53_4 := bF BK225.out 4
               have hfz53_5 := bF BK225.out 5
               go_wp2_with (first | (go_at_call 29; (with_reducible refine (r9Bits.calls kj7 a0_4 t230 _ A51.out).mono ?_); rintro e w' ⟨rfl, ⟨nd, rfl⟩⟩; (try first | exact ⟨rfl, _, World.drewN_drewN _ _ _⟩ | exact ⟨rfl, _, Eq.trans (World.drewN_drewN _ _ _) (congrArg (World.drewN _) (Nat.add_assoc _ _ _))⟩)))
               repeat (go_quiet (first | (go_at_call 29; (with_reducible refine (r9Bits.calls kj7 a0_4 t230 _ A51.out).mono ?_); rintro e w' ⟨rfl, ⟨nd, rfl⟩⟩; (try first | exact ⟨rfl, _, World.drewN_drewN _ _ _⟩ | exact ⟨rfl, _, Eq.trans (World.drewN_drewN _ _ _) (congrArg (World.drewN _) (Nat.add_assoc _ _ _))⟩))); try go_wp2_with (first | (go_at_call 29; (with_reducible refine (r9Bits.calls kj7 a0_4 t230 _ A51.out).mono ?_); rintro e w' ⟨rfl, ⟨nd, rfl⟩⟩; (try first | exact ⟨rfl, _, World.drewN_drewN _ _ _⟩ | exact ⟨rfl, _, Eq.trans (World.drewN_drewN _ _ _) (congrArg (World.drewN _) (Nat.add_assoc _ _ _))⟩))))
               go_ret
               exact ⟨by first | rfl | (simp [errW_none, errW_some] <;> rfl) | (simp [*, errW_none, errW_some] <;> rfl), by repeat (first | (with_reducible first | exact HB.out | apply wA | apply pN | apply wD | refine wS ?_ GE225.out) | exact HB.out)⟩
              ·rw [if_neg c52] at H
               have c52b0 : (t230 == (l0_5.length : Int)) = false := beq_eq_false_iff_ne.mpr c52
               have c52b1 : (t230 != (l0_5.length : Int)) = true := bne_iff_ne.mpr c52
               obtain rfl := Option.some.inj H
               have hcz54_0 : wc.cell? ⟨gb225, 0, none⟩ = some (.int .i64 a0_0) := (bC BK225.out 0).trans rfl
               have hcz54_1 : wc.cell? ⟨gb225, 1, none⟩ = some (.string a0_1) := (bC BK225.out 1).trans rfl
               have hcz54_2 : wc.cell? ⟨gb225, 2, none⟩ = some (.bool false) := (bC BK225.out 2).trans rfl
               have hcz54_3 : wc.cell? ⟨gb225, 3, none⟩ = some (.string a0_3) := (bC BK225.out 3).trans rfl
               have hcz54_4 : wc.cell? ⟨gb225, 4, none⟩ = some (.int .i64 a0_4) := (bC BK225.out 4).trans rfl
               have hcz54_5 : wc.cell? ⟨gb225, 5, none⟩ = some (.slice A0_5 l0_5.length c0_5) := (bC BK225.out 5).trans rfl
               have hfz54_0 := bF BK225.out 0
               have hfz54_1 := bF BK225.out 1
               have hfz54_2 := bF BK225.out 2
               have hfz54_3 := bF BK225.out 3
               have hfz54_4 := bF BK225.out 4
               have hfz54_5 := bF BK225.out 5
               go_wp2_with (first | (go_at_call 29; (with_reducible refine (r9Bits.calls kj7 a0_4 t230 _ A51.out).mono ?_); rintro e w' ⟨rfl, ⟨nd, rfl⟩⟩; (try first | exact ⟨rfl, _, World.drewN_drewN _ _ _⟩ | exact ⟨rfl, _, Eq.trans (World.drewN_drewN _ _ _) (congrArg (World.drewN _) (Nat.add_assoc _ _ _))⟩)))
               repeat (go_quiet (first | (go_at_call 29; (with_reducible refine (r9Bits.calls kj7 a0_4 t230 _ A51.out).mono ?_); rintro e w' ⟨rfl, ⟨nd, rfl⟩⟩; (try first | exact ⟨rfl, _, World.drewN_drewN _ _ _⟩ | exact ⟨rfl, _, Eq.trans (World.drewN_drewN _ _ _) (congrArg (World.drewN _) (Nat.add_assoc _ _ _))⟩))); try go_wp2_with (first | (go_at_call 29; (with_reducible refine (r9Bits.calls kj7 a0_4 t230 _ A51.out).mono ?_); rintro e w' ⟨rfl, ⟨nd, rfl⟩⟩; (try first | exact ⟨rfl, _, World.drewN_drewN _ _ _⟩ | exact ⟨rfl, _, Eq.trans (World.drewN_drewN _ _ _) (congrArg (World.drewN _) (Nat.add_assoc _ _ _))⟩))))
               go_ret
               exact ⟨by first | rfl | (simp [errW_none, errW_some] <;> rfl) | (simp [*, errW_none, errW_some] <;> rfl), by repeat (first | (with_reducible first | exact HB.out | apply wA | apply pN | apply wD | refine wS ?_ GE225.out) | exact HB.out)⟩
             ·rw [if_neg c50] at H
              have c50b0 : decide (a0_4 ≤ 65535) = false := decide_eq_false c50
              clear c50
              obtain rfl := Option.some.inj H
              have hcz55_0 : wc.cell? ⟨gb225, 0, none⟩ = some (.int .i64 a0_0) := (bC BK225.out 0).trans rfl
              have hcz55_1 : wc.cell? ⟨gb225, 1, none⟩ = some (.string a0_1) := (bC BK225.out 1).trans rfl
              have hcz55_2 : wc.cell? ⟨gb225, 2, none⟩ = some (.bool false) := (bC BK225.out 2).trans rfl
              have hcz55_3 : wc.cell? ⟨gb225, 3, none⟩ = some (.string a0_3) := (bC BK225.out 3).trans rfl
              have hcz55_4 : wc.cell? ⟨gb225, 4, none⟩ = some (.int .i64 a0_4) := (bC BK225.out 4).trans rfl
              have hcz55_5 : wc.cell? ⟨gb225, 5, none⟩ = some (.slice A0_5 l0_5.length c0_5) := (bC BK225.out 5).trans rfl
              have hfz55_0 := bF BK225.out 0
              have hfz55_1 := bF BK225.out 1
              have hfz55_2 := bF BK225.out 2
              have hfz55_3 := bF BK225.out 3
              have hfz55_4 := bF BK225.out 4
              have hfz55_5 := bF BK225.out 5
              go_wp2
              repeat (go_quiet (fail); try go_wp2)
              go_ret
              exact ⟨by first | rfl | (simp [errW_none, errW_some] <;> rfl) | (simp [*, errW_none, errW_some] <;> rfl), by repeat (first | (with_reducible first | exact HB.out | apply wA | apply pN | apply wD | refine wS ?_ GE225.out) | exact HB.out)⟩
            ·rw [if_neg c49] at H
             have c49b0 : decide (0 ≤ a0_4) = false := decide_eq_false c49
             clear c49
             obtain rfl := Option.some.inj H
             have hcz56_0 : wc.cell? ⟨gb225, 0, none⟩ = some (.int .i64 a0_0) := (bC BK225.out 0).trans rfl
             have hcz56_1 : wc.cell? ⟨gb225, 1, none⟩ = some (.string a0_1) := (bC BK225.out 1).trans rfl
             have hcz56_2 : wc.cell? ⟨gb225, 2, none⟩ = some (.bool false) := (bC BK225.out 2).trans rfl
             have hcz56_3 : wc.cell? ⟨gb225, 3, none⟩ = some (.string a0_3) := (bC BK225.out 3).trans rfl
             have hcz56_4 : wc.cell? ⟨gb225, 4, none⟩ = some (.int .i64 a0_4) := (bC BK225.out 4).trans rfl
             have hcz56_5 : wc.cell? ⟨gb225, 5, none⟩ = some (.slice A0_5 l0_5.length c0_5) := (bC BK225.out 5).trans rfl
             have hfz56_0 := bF BK225.out 0
             have hfz56_1 := bF BK225.out 1
             have hfz56_2 := bF BK225.out 2
             have hfz56_3 := bF BK225.out 3
             have hfz56_4 := bF BK225.out 4
             have hfz56_5 := bF BK225.out 5
             go_wp2
             repeat (go_quiet (fail); try go_wp2)
             go_ret
             exact ⟨by first | rfl | (simp [errW_none, errW_some] <;> rfl) | (simp [*, errW_none, errW_some] <;> rfl), by repeat (first | (with_reducible first | exact HB.out | apply wA | apply pN | apply wD | refine wS ?_ GE225.out) | exact HB.out)⟩
           ·rw [if_neg c48] at H
            have c48b0 : (a0_1.toList == ([] : List UInt8)) = false := beq_eq_false_iff_ne.mpr c48
            have c48b1 : (a0_1.toList != ([] : List UInt8)) = true := bne_iff_ne.mpr c48
            obtain rfl := Option.some.inj H
            have hcz57_0 : wc.cell? ⟨gb225, 0, none⟩ = some (.int .i64 a0_0) := (bC BK225.out 0).trans rfl
            have hcz57_1 : wc.cell? ⟨gb225, 1, none⟩ = some (.string a0_1) := (bC BK225.out 1).trans rfl
            have hcz57_2 : wc.cell? ⟨gb225, 2, none⟩ = some (.bool false) := (bC BK225.out 2).trans rfl
            have hcz57_3 : wc.cell? ⟨gb225, 3, none⟩ = some (.string a0_3) := (bC BK225.out 3).trans rfl
            have hcz57_4 : wc.cell? ⟨gb225, 4, none⟩ = some (.int .i64 a0_4) := (bC BK225.out 4).trans rfl
            have hcz57_5 : wc.cell? ⟨gb225, 5, none⟩ = some (.slice A0_5 l0_5.length c0_5) := (bC BK225.out 5).trans rfl
            have hfz57_0 := bF BK225.out 0
            have hfz57_1 := bF BK225.out 1
            have hfz57_2 := bF BK225.out 2
            have hfz57_3 := bF BK225.out 3
            have hfz57_4 := bF BK225.out 4
            have hfz57_5 := bF BK225.out 5
            go_wp2
            repeat (go_quiet (fail); try go_wp2)
            go_ret
            exact ⟨by first | rfl | (simp [errW_none, errW_some] <;> rfl) | (simp [*, errW_none, errW_some] <;> rfl), by repeat (first | (with_reducible first | exact HB.out | apply wA | apply pN | apply wD | refine wS ?_ GE225.out) | exact HB.out)⟩
         ·rw [if_neg c36] at H
          have c36b0 : (a0_0 == 3) = false := beq_eq_false_iff_ne.mpr c36
          have c36b1 : (a0_0 != 3) = true := bne_iff_ne.mpr c36
          obtain rfl := Option.some.inj H
          have hcz58_0 : wc.cell? ⟨gb225, 0, none⟩ = some (.int .i64 a0_0) := (bC BK225.out 0).trans rfl
          have hcz58_1 : wc.cell? ⟨gb225, 1, none⟩ = some (.string a0_1) := (bC BK225.out 1).trans rfl
          have hcz58_2 : wc.cell? ⟨gb225, 2, none⟩ = some (.bool a0_2) := (bC BK225.out 2).trans rfl
          have hcz58_3 : wc.cell? ⟨gb225, 3, none⟩ = some (.string a0_3) := (bC BK225.out 3).trans rfl
          have hcz58_4 : wc.cell? ⟨gb225, 4, none⟩ = some (.int .i64 a0_4) := (bC BK225.out 4).trans rfl
          have hcz58_5 : wc.cell? ⟨gb225, 5, none⟩ = some (.slice A0_5 l0_5.length c0_5) := (bC BK225.out 5).trans rfl
          have hfz58_0 := bF BK225.out 0
          have hfz58_1 := bF BK225.out 1
          have hfz58_2 := bF BK225.out 2
          have hfz58_3 := bF BK225.out 3
          have hfz58_4 := bF BK225.out 4
          have hfz58_5 := bF BK225.out 5
          go_wp2
          repeat (go_quiet (fail); try go_wp2)
          go_ret
          exact ⟨by first | rfl | (simp [errW_none, errW_some] <;> rfl) | (simp [*, errW_none, errW_some] <;> rfl), by repeat (first | (with_reducible first | exact HB.out | apply wA | apply pN | apply wD | refine wS ?_ GE225.out) | exact HB.out)⟩

end Go.Proofs.YtklakmooaffjpaaDoor.PNod
