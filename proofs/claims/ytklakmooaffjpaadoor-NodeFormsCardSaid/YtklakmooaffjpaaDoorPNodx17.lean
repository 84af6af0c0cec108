-- Written by a program of this session for this seat. Not trusted: Lean checks it.
import Derived.Test.YtklakmooaffjpaaDoorPNodx1
import Derived.Test.YtklakmooaffjpaaDoorPNodx3
import Derived.Test.YtklakmooaffjpaaDoorPNodx4
import Derived.Test.YtklakmooaffjpaaDoorPNodx6
namespace Go.Proofs.YtklakmooaffjpaaDoor.PNod
open Go.RowKit Go.Proofs.YtklakmooaffjpaaDoorW.PrintWords Go.Proofs.YtklakmooaffjpaaDoorW.PrintLast Go.Proofs.YtklakmooaffjpaaDoorW.PrintMore
attribute [local go_sem] max2_int min2_int max_two min_two max_three min_three max_four min_four   -- for this text's walks alone
set_option linter.unusedVariables false
set_option linter.unusedSimpArgs false
open Go.Proofs.YtklakmooaffjpaaDoor.HW Go.Proofs.YtklakmooaffjpaaDoor.DgsB

/-! ### u9NodeForms: function 5 -/
def u9NodeForms.f (k : Nat) (a0_0 : Int) (a0_1 : ByteArray) (a0_2 : Bool) (a0_3 : ByteArray) (a0_4 : Int) (l0_5 : List ByteArray) : Option (Bool) := (u9Long.f k a0_0 a0_1 a0_2 a0_3 a0_4 l0_5).bind fun t402 => (if t402 = true then ((u9wakes.f k).bind fun t403 => (some t403)) else ((node_Encode.f k a0_0 a0_1 a0_2 a0_3 a0_4 l0_5).bind fun bt404 => (if bt404.2 = true then (if a0_0 = 3 then (if a0_2 = true then (if (bt404.1.size : Int) = (wrap64 ((wrap64 ((wrap64 (1 + (wrap64 (32 * (l0_5.length : Int))))) + 3)) + (wrap64 (1 + (a0_3.size : Int))))) then (if 0 < (bt404.1.size : Int) then (if (wrap64 (bt bt404.1 0)) = a0_0 then (if (wrap64 ((wrap64 ((wrap64 (1 + (wrap64 (32 * (l0_5.length : Int))))) + 3)) + (wrap64 (1 + (a0_3.size : Int))))) ≤ 533 then ((u9wakes.f k).bind fun t408 => (some t408)) else (none)) else (none)) else (none)) else (none)) else (if (bt404.1.size : Int) = (wrap64 ((wrap64 (1 + (wrap64 (32 * (l0_5.length : Int))))) + 3)) then (if 0 < (bt404.1.size : Int) then (if (wrap64 (bt bt404.1 0)) = a0_0 then (if (wrap64 ((wrap64 (1 + (wrap64 (32 * (l0_5.length : Int))))) + 3)) ≤ 533 then ((u9wakes.f k).bind fun t409 => (some t409)) else (none)) else (none)) else (none)) else (none))) else (if a0_2 = true then (if (bt404.1.size : Int) = (wrap64 ((wrap64 ((wrap64 (1 + (wrap64 (32 * (l0_5.length : Int))))) + (wrap64 (1 + (wrap64 (Int.tdiv (wrap64 ((a0_1.size : Int) + 1)) 2)))))) + (wrap64 (1 + (a0_3.size : Int))))) then (if 0 < (bt404.1.size : Int) then (if (wrap64 (bt bt404.1 0)) = a0_0 then (if (wrap64 ((wrap64 ((wrap64 (1 + (wrap64 (32 * (l0_5.length : Int))))) + (wrap64 (1 + (wrap64 (Int.tdiv (wrap64 ((a0_1.size : Int) + 1)) 2)))))) + (wrap64 (1 + (a0_3.size : Int))))) ≤ 533 then ((u9wakes.f k).bind fun t410 => (some t410)) else (none)) else (none)) else (none)) else (none)) else (if (bt404.1.size : Int) = (wrap64 ((wrap64 (1 + (wrap64 (32 * (l0_5.length : Int))))) + (wrap64 (1 + (wrap64 (Int.tdiv (wrap64 ((a0_1.size : Int) + 1)) 2)))))) then (if 0 < (bt404.1.size : Int) then (if (wrap64 (bt bt404.1 0)) = a0_0 then (if (wrap64 ((wrap64 (1 + (wrap64 (32 * (l0_5.length : Int))))) + (wrap64 (1 + (wrap64 (Int.tdiv (wrap64 ((a0_1.size : Int) + 1)) 2)))))) ≤ 533 then ((u9wakes.f k).bind fun t411 => (some t411)) else (none)) else (none)) else (none)) else (none)))) else (if bt404.1.toList = ([] : List UInt8) then ((node_Good.f k a0_0 a0_1 a0_2 a0_3 a0_4 l0_5).bind fun t406 => (if t406 = true then (none) else ((u9wakes.f k).bind fun t407 => (some t407)))) else (none)))))
def u9NodeForms.T12 : Bool × List (List Nat × List Nat) := (true, [([], []), ([0], [0]), ([], []), ([1, 2], [1, 2]), ([3], [3]), ([4], [4]), ([5, 4], [4, 5]), ([6, 4], [4, 6]), ([4], [4]), ([8, 4], [4, 8]), ([7, 9, 4], [4, 7, 9]), ([4, 10], [4, 10]), ([11, 4], [11]), ([12], [12]), ([13, 12], [12, 13]), ([12, 14], [12, 14]), ([15, 12], [15]), ([16, 16], [16]), ([16, 17], [16, 17]), ([18, 17, 0, 1, 2, 3, 4, 5, 6, 7, 8, 9, 10, 11, 12, 13, 14, 15, 16, 17, 18], [18])])
def u9NodeForms.B12 : List Nat := [0, 1, 0, 7, 15, 31, 63, 127, 31, 287, 1023, 2047, 4095, 8191, 16383, 32767, 65535, 131071, 262143, 524287]
theorem u9NodeForms.tab12 : rtab .any (opsOf Tryd.f5 12) = u9NodeForms.T12 := by kernel_rfl
theorem u9NodeForms.bits12 : waitsOk u9NodeForms.T12.2 u9NodeForms.B12 = true := by kernel_rfl
set_option maxHeartbeats 8000000 in
set_option maxRecDepth 100000 in
theorem u9NodeForms.calls (k : Nat) (a0_0 : Int) (a0_1 : ByteArray) (a0_2 : Bool) (a0_3 : ByteArray) (a0_4 : Int) (A0_5 : Option Addr) (c0_5 : Nat) (l0_5 : List ByteArray) (r : Bool) (w : World) (hr0_5 : Kd.C Kd.string w A0_5 l0_5.length l0_5) (hc0_5 : l0_5.length ≤ c0_5) (hG : Glob w) (h : u9NodeForms.f k a0_0 a0_1 a0_2 a0_3 a0_4 l0_5 = some r) :
  Calls Tryd.prog 5 #[.agg #[.int .i64 a0_0, .string a0_1, .bool a0_2, .string a0_3, .int .i64 a0_4, .slice A0_5 l0_5.length c0_5]] w fun e w' => e = .returned (.bool r) ∧ Below w.heap.size w w' := by
 have hu24 := Tryd.underlying24
 have HR0_5 := A0_.mk hr0_5
 have HC0_5 := A0_.mk hc0_5
 clear hr0_5 hc0_5
 have HG := A0_.mk hG
 clear hG
 have HB := A0_.mk (Below.refl w.heap.size w)
 have H : ((u9Long.f k a0_0 a0_1 a0_2 a0_3 a0_4 l0_5).bind fun t402 => (if t402 = true then ((u9wakes.f k).bind fun t403 => (some t403)) else ((node_Encode.f k a0_0 a0_1 a0_2 a0_3 a0_4 l0_5).bind fun bt404 => (if bt404.2 = true then (if a0_0 = 3 then (if a0_2 = true then (if (bt404.1.size : Int) = (wrap64 ((wrap64 ((wrap64 (1 + (wrap64 (32 * (l0_5.length : Int))))) + 3)) + (wrap64 (1 + (a0_3.size : Int))))) then (if 0 < (bt404.1.size : Int) then (if (wrap64 (bt bt404.1 0)) = a0_0 then (if (wrap64 ((wrap64 ((wrap64 (1 + (wrap64 (32 * (l0_5.length : Int))))) + 3)) + (wrap64 (1 + (a0_3.size : Int))))) ≤ 533 then ((u9wakes.f k).bind fun t408 => (some t408)) else (none)) else (none)) else (none)) else (none)) else (if (bt404.1.size : Int) = (wrap64 ((wrap64 (1 + (wrap64 (32 * (l0_5.length : Int))))) + 3)) then (if 0 < (bt404.1.size : Int) then (if (wrap64 (bt bt404.1 0)) = a0_0 then (if (wrap64 ((wrap64 (1 + (wrap64 (32 * (l0_5.length : Int))))) + 3)) ≤ 533 then ((u9wakes.f k).bind fun t409 => (some t409)) else (none)) else (none)) else (none)) else (none))) else (if a0_2 = true then (if (bt404.1.size : Int) = (wrap64 ((wrap64 ((wrap64 (1 + (wrap64 (32 * (l0_5.length : Int))))) + (wrap64 (1 + (wrap64 (Int.tdiv (wrap64 ((a0_1.size : Int) + 1)) 2)))))) + (wrap64 (1 + (a0_3.size : Int))))) then (if 0 < (bt404.1.size : Int) then (if (wrap64 (bt bt404.1 0)) = a0_0 then (if (wrap64 ((wrap64 ((wrap64 (1 + (wrap64 (32 * (l0_5.length : Int))))) + (wrap64 (1 + (wrap64 (Int.tdiv (wrap64 ((a0_1.size : Int) + 1)) 2)))))) + (wrap64 (1 + (a0_3.size : Int))))) ≤ 533 then ((u9wakes.f k).bind fun t410 => (some t410)) else (none)) else (none)) else (none)) else (none)) else (if (bt404.1.size : Int) = (wrap64 ((wrap64 (1 + (wrap64 (32 * (l0_5.length : Int))))) + (wrap64 (1 + (wrap64 (Int.tdiv (wrap64 ((a0_1.size : Int) + 1)) 2)))))) then (if 0 < (bt404.1.size : Int) then (if (wrap64 (bt bt404.1 0)) = a0_0 then (if (wrap64 ((wrap64 (1 + (wrap64 (32 * (l0_5.length : Int))))) + (wrap64 (1 + (wrap64 (Int.tdiv (wrap64 ((a0_1.size : Int) + 1)) 2)))))) ≤ 533 then ((u9wakes.f k).bind fun t411 => (some t411)) else (none)) else (none)) else (none)) else (none)))) else (if bt404.1.toList = ([] : List UInt8) then ((node_Good.f k a0_0 a0_1 a0_2 a0_3 a0_4 l0_5).bind fun t406 => (if t406 = true then (none) else ((u9wakes.f k).bind fun t407 => (some t407)))) else (none)))))) = some r := h
 clear h
 replace H := Option.bind_eq_some_iff.mp H
 obtain ⟨t402, A20, H⟩ := H
 replace H : (if t402 = true then ((u9wakes.f k).bind fun t403 => (some t403)) else ((node_Encode.f k a0_0 a0_1 a0_2 a0_3 a0_4 l0_5).bind fun bt404 => (if bt404.2 = true then (if a0_0 = 3 then (if a0_2 = true then (if (bt404.1.size : Int) = (wrap64 ((wrap64 ((wrap64 (1 + (wrap64 (32 * (l0_5.length : Int))))) + 3)) + (wrap64 (1 + (a0_3.size : Int))))) then (if 0 < (bt404.1.size : Int) then (if (wrap64 (bt bt404.1 0)) = a0_0 then (if (wrap64 ((wrap64 ((wrap64 (1 + (wrap64 (32 * (l0_5.length : Int))))) + 3)) + (wrap64 (1 + (a0_3.size : Int))))) ≤ 533 then ((u9wakes.f k).bind fun t408 => (some t408)) else (none)) else (none)) else (none)) else (none)) else (if (bt404.1.size : Int) = (wrap64 ((wrap64 (1 + (wrap64 (32 * (l0_5.length : Int))))) + 3)) then (if 0 < (bt404.1.size : Int) then (if (wrap64 (bt bt404.1 0)) = a0_0 then (if (wrap64 ((wrap64 (1 + (wrap64 (32 * (l0_5.length : Int))))) + 3)) ≤ 533 then ((u9wakes.f k).bind fun t409 => (some t409)) else (none)) else (none)) else (none)) else (none))) else (if a0_2 = true then (if (bt404.1.size : Int) = (wrap64 ((wrap64 ((wrap64 (1 + (wrap64 (32 * (l0_5.length : Int))))) + (wrap64 (1 + (wrap64 (Int.tdiv (wrap64 ((a0_1.size : Int) + 1)) 2)))))) + (wrap64 (1 + (a0_3.size : Int))))) then (if 0 < (bt404.1.size : Int) then (if (wrap64 (bt bt404.1 0)) = a0_0 then (if (wrap64 ((wrap64 ((wrap64 (1 + (wrap64 (32 * (l0_5.length : Int))))) + (wrap64 (1 + (wrap64 (Int.tdiv (wrap64 ((a0_1.size : Int) + 1)) 2)))))) + (wrap64 (1 + (a0_3.size : Int))))) ≤ 533 then ((u9wakes.f k).bind fun t410 => (some t410)) else (none)) else (none)) else (none)) else (none)) else (if (bt404.1.size : Int) = (wrap64 ((wrap64 (1 + (wrap64 (32 * (l0_5.length : Int))))) + (wrap64 (1 + (wrap64 (Int.tdiv (wrap64 ((a0_1.size : Int) + 1)) 2)))))) then (if 0 < (bt404.1.size : Int) then (if (wrap64 (bt bt404.1 0)) = a0_0 then (if (wrap64 ((wrap64 (1 + (wrap64 (32 * (l0_5.length : Int))))) + (wrap64 (1 + (wrap64 (Int.tdiv (wrap64 ((a0_1.size : Int) + 1)) 2)))))) ≤ 533 then ((u9wakes.f k).bind fun t411 => (some t411)) else (none)) else (none)) else (none)) else (none)))) else (if bt404.1.toList = ([] : List UInt8) then ((node_Good.f k a0_0 a0_1 a0_2 a0_3 a0_4 l0_5).bind fun t406 => (if t406 = true then (none) else ((u9wakes.f k).bind fun t407 => (some t407)))) else (none))))) = some r := H
 have A2 := A0_.mk A20
 clear A20
 by_cases c3 : t402 = true
 ·subst c3
  have H1 : ((u9wakes.f k).bind fun t403 => (some t403)) = some r := by rw [if_pos rfl] at H; exact H
  clear H
  have H := H1
  clear H1
  replace H := Option.bind_eq_some_iff.mp H
  obtain ⟨t403, A40, H⟩ := H
  replace H : (some t403) = some r := H
  have A4 := A0_.mk A40
  clear A40
  obtain rfl := Option.some.inj H
  go_enter Tryd.func5, Tryd.ntmps5
  go_wp2_with (first | ((with_reducible refine gD (N := 1) rfl ?_); refine xE ?hg (N := 1) ?hd (cs := #[.int .i64 a0_0, .string a0_1, .bool a0_2, .string a0_3, .int .i64 a0_4, .slice A0_5 l0_5.length c0_5]) (t := 24) ?hr ?_; (case hd => rfl); (case hg => rfl); (case hr => first | (go_simp; done) | (go_simp; rfl)); intro gb401 hg w5 hbox hb; have n0_ := A0_.mk (wT (by repeat (first | (with_reducible first | exact HB.out | apply wA | apply pN | apply wD) | exact HB.out)) hb); have n1_ := A0_.mk (hbox); have n2_ := A0_.mk ((by rw [hg]; exact (wZ (by repeat (first | (with_reducible first | exact HB.out | apply wA | apply pN | apply wD) | exact HB.out))) : w.heap.size ≤ gb401)); have n3_ := A0_.mk ((by rw [hg]; exact (wZ (by repeat (first | (with_reducible first | exact HB.out | apply wA | apply pN | apply wD) | exact HB.out))) : w.heap.size ≤ gb401)); clear HB; have HB := n0_; have BK401 := n1_; have GW401 := n2_; have GE401 := n3_; clear n0_ n1_ n2_ n3_; clear hb hbox hg; have hcz6_0 : w5.cell? ⟨gb401, 0, none⟩ = some (.int .i64 a0_0) := (bC BK401.out 0).trans rfl; have hcz6_1 : w5.cell? ⟨gb401, 1, none⟩ = some (.string a0_1) := (bC BK401.out 1).trans rfl; have hcz6_2 : w5.cell? ⟨gb401, 2, none⟩ = some (.bool a0_2) := (bC BK401.out 2).trans rfl; have hcz6_3 : w5.cell? ⟨gb401, 3, none⟩ = some (.string a0_3) := (bC BK401.out 3).trans rfl; have hcz6_4 : w5.cell? ⟨gb401, 4, none⟩ = some (.int .i64 a0_4) := (bC BK401.out 4).trans rfl; have hcz6_5 : w5.cell? ⟨gb401, 5, none⟩ = some (.slice A0_5 l0_5.length c0_5) := (bC BK401.out 5).trans rfl; have hfz6_0 := bF BK401.out 0; have hfz6_1 := bF BK401.out 1; have hfz6_2 := bF BK401.out 2; have hfz6_3 := bF BK401.out 3; have hfz6_4 := bF BK401.out 4; have hfz6_5 := bF BK401.out 5) | ((with_reducible refine gC (f := 7) rfl ?_); refine gL (some 7) rfl rfl Tryd.func7 (by kernel_rfl) rfl #[.agg #[.int .i64 a0_0, .string a0_1, .bool a0_2, .string a0_3, .int .i64 a0_4, .slice A0_5 l0_5.length c0_5]] rfl (by (try simp only [List.map_toArray, List.map_cons, List.map_nil]); first | done | rfl | (simp only [List.length_drop, List.length_take]; rfl)) ?_; (with_reducible refine (u9Long.calls k a0_0 a0_1 a0_2 a0_3 a0_4 _ _ l0_5 true _ ?side1 ?side2 A2.out).mono ?_); (case side1 => repeat (first | exact (Kd.C_below HR0_5.out HB.out) | (with_reducible refine Kd.C_alloc ?_ _) | (with_reducible refine Kd.C_drewN ?_ _) | (with_reducible refine Kd.C_drew ?_))); (case side2 => exact HC0_5.out); rintro e w7 ⟨rfl, hb⟩; refine ⟨_, rfl, ?_⟩; have n0_ := A0_.mk (bB (g := gb401) (o := .cells #[.int .i64 a0_0, .string a0_1, .bool a0_2, .string a0_3, .int .i64 a0_4, .slice A0_5 l0_5.length c0_5] 24 (0, 0)) (by (with_reducible repeat (first | refine bN ?_ _ | refine bD ?_ | refine bA ?_ _)); exact BK401.out) hb); have n1_ := A0_.mk (wT (by repeat (first | (with_reducible first | exact HB.out | apply wA | apply pN | apply wD | refine wS ?_ GE401.out) | exact HB.out)) hb); clear BK401; clear HB; have BK401 := n0_; have HB := n1_; clear n0_ n1_; (try clear hb); (try clear hb2); (try clear hk); (try clear hi)) | ((with_reducible refine gC (f := 8) rfl ?_); refine gL (some 8) rfl rfl Tryd.func8 (by kernel_rfl) rfl #[] rfl (by (try simp only [List.map_toArray, List.map_cons, List.map_nil]); first | done | rfl | (simp only [List.length_drop, List.length_take]; rfl)) ?_; (with_reducible refine (u9wakes.calls k  t403 _ ?side1 A4.out).mono ?_); (case side1 => exact Glob.below HG.out (by repeat (first | (with_reducible first | exact HB.out | apply wA | apply pN | apply wD | refine wS ?_ GE401.out) | exact HB.out))); rintro e w8 ⟨rfl, hb⟩; refine ⟨_, rfl, ?_⟩; have n0_ := A0_.mk (bB (g := gb401) (o := .cells #[.int .i64 a0_0, .string a0_1, .bool a0_2, .string a0_3, .int .i64 a0_4, .slice A0_5 l0_5.length c0_5] 24 (0, 0)) (by (with_reducible repeat (first | refine bN ?_ _ | refine bD ?_ | refine bA ?_ _)); exact BK401.out) hb); have n1_ := A0_.mk (wT (by repeat (first | (with_reducible first | exact HB.out | apply wA | apply pN | apply wD | refine wS ?_ GE401.out) | exact HB.out)) hb); clear BK401; clear HB; have BK401 := n0_; have HB := n1_; clear n0_ n1_; (try clear hb); (try clear hb2); (try clear hk); (try clear hi)))
  go_ret
  exact ⟨by first | rfl | (simp [errW_none, errW_some] <;> rfl) | (simp [*, errW_none, errW_some] <;> rfl), by repeat (first | (with_reducible first | exact HB.out | apply wA | apply pN | apply wD | refine wS ?_ GE401.out) | exact HB.out)⟩
 ·replace c3 := Bool.eq_false_iff.mpr c3
  subst c3
  have H1 : ((node_Encode.f k a0_0 a0_1 a0_2 a0_3 a0_4 l0_5).bind fun bt404 => (if bt404.2 = true then (if a0_0 = 3 then (if a0_2 = true then (if (bt404.1.size : Int) = (wrap64 ((wrap64 ((wrap64 (1 + (wrap64 (32 * (l0_5.length : Int))))) + 3)) + (wrap64 (1 + (a0_3.size : Int))))) then (if 0 < (bt404.1.size : Int) then (if (wrap64 (bt bt404.1 0)) = a0_0 then (if (wrap64 ((wrap64 ((wrap64 (1 + (wrap64 (32 * (l0_5.length : Int))))) + 3)) + (wrap64 (1 + (a0_3.size : Int))))) ≤ 533 then ((u9wakes.f k).bind fun t408 => (some t408)) else (none)) else (none)) else (none)) else (none)) else (if (bt404.1.size : Int) = (wrap64 ((wrap64 (1 + (wrap64 (32 * (l0_5.length : Int))))) + 3)) then (if 0 < (bt404.1.size : Int) then (if (wrap64 (bt bt404.1 0)) = a0_0 then (if (wrap64 ((wrap64 (1 + (wrap64 (32 * (l0_5.length : Int))))) + 3)) ≤ 533 then ((u9wakes.f k).bind fun t409 => (some t409)) else (none)) else (none)) else (none)) else (none))) else (if a0_2 = true then (if (bt404.1.size : Int) = (wrap64 ((wrap64 ((wrap64 (1 + (wrap64 (32 * (l0_5.length : Int))))) + (wrap64 (1 + (wrap64 (Int.tdiv (wrap64 ((a0_1.size : Int) + 1)) 2)))))) + (wrap64 (1 + (a0_3.size : Int))))) then (if 0 < (bt404.1.size : Int) then (if (wrap64 (bt bt404.1 0)) = a0_0 then (if (wrap64 ((wrap64 ((wrap64 (1 + (wrap64 (32 * (l0_5.length : Int))))) + (wrap64 (1 + (wrap64 (Int.tdiv (wrap64 ((a0_1.size : Int) + 1)) 2)))))) + (wrap64 (1 + (a0_3.size : Int))))) ≤ 533 then ((u9wakes.f k).bind fun t410 => (some t410)) else (none)) else (none)) else (none)) else (none)) else (if (bt404.1.size : Int) = (wrap64 ((wrap64 (1 + (wrap64 (32 * (l0_5.length : Int))))) + (wrap64 (1 + (wrap64 (Int.tdiv (wrap64 ((a0_1.size : Int) + 1)) 2)))))) then (if 0 < (bt404.1.size : Int) then (if (wrap64 (bt bt404.1 0)) = a0_0 then (if (wrap64 ((wrap64 (1 + (wrap64 (32 * (l0_5.length : Int))))) + (wrap64 (1 + (wrap64 (Int.tdiv (wrap64 ((a0_1.size : Int) + 1)) 2)))))) ≤ 533 then ((u9wakes.f k).bind fun t411 => (some t411)) else (none)) else (none)) else (none)) else (none)))) else (if bt404.1.toList = ([] : List UInt8) then ((node_Good.f k a0_0 a0_1 a0_2 a0_3 a0_4 l0_5).bind fun t406 => (if t406 = true then (none) else ((u9wakes.f k).bind fun t407 => (some t407)))) else (none)))) = some r := by rw [if_neg (show ¬ (false = true) by decide)] at H; exact H
  clear H
  have H := H1
  clear H1
  replace H := Option.bind_eq_some_iff.mp H
  obtain ⟨⟨t404, t405⟩, A90, H⟩ := H
  replace H : (if t405 = true then (if a0_0 = 3 then (if a0_2 = true then (if (t404.size : Int) = (wrap64 ((wrap64 ((wrap64 (1 + (wrap64 (32 * (l0_5.length : Int))))) + 3)) + (wrap64 (1 + (a0_3.size : Int))))) then (if 0 < (t404.size : Int) then (if (wrap64 (bt t404 0)) = a0_0 then (if (wrap64 ((wrap64 ((wrap64 (1 + (wrap64 (32 * (l0_5.length : Int))))) + 3)) + (wrap64 (1 + (a0_3.size : Int))))) ≤ 533 then ((u9wakes.f k).bind fun t408 => (some t408)) else (none)) else (none)) else (none)) else (none)) else (if (t404.size : Int) = (wrap64 ((wrap64 (1 + (wrap64 (32 * (l0_5.length : Int))))) + 3)) then (if 0 < (t404.size : Int) then (if (wrap64 (bt t404 0)) = a0_0 then (if (wrap64 ((wrap64 (1 + (wrap64 (32 * (l0_5.length : Int))))) + 3)) ≤ 533 then ((u9wakes.f k).bind fun t409 => (some t409)) else (none)) else (none)) else (none)) else (none))) else (if a0_2 = true then (if (t404.size : Int) = (wrap64 ((wrap64 ((wrap64 (1 + (wrap64 (32 * (l0_5.length : Int))))) + (wrap64 (1 + (wrap64 (Int.tdiv (wrap64 ((a0_1.size : Int) + 1)) 2)))))) + (wrap64 (1 + (a0_3.size : Int))))) then (if 0 < (t404.size : Int) then (if (wrap64 (bt t404 0)) = a0_0 then (if (wrap64 ((wrap64 ((wrap64 (1 + (wrap64 (32 * (l0_5.length : Int))))) + (wrap64 (1 + (wrap64 (Int.tdiv (wrap64 ((a0_1.size : Int) + 1)) 2)))))) + (wrap64 (1 + (a0_3.size : Int))))) ≤ 533 then ((u9wakes.f k).bind fun t410 => (some t410)) else (none)) else (none)) else (none)) else (none)) else (if (t404.size : Int) = (wrap64 ((wrap64 (1 + (wrap64 (32 * (l0_5.length : Int))))) + (wrap64 (1 + (wrap64 (Int.tdiv (wrap64 ((a0_1.size : Int) + 1)) 2)))))) then (if 0 < (t404.size : Int) then (if (wrap64 (bt t404 0)) = a0_0 then (if (wrap64 ((wrap64 (1 + (wrap64 (32 * (l0_5.length : Int))))) + (wrap64 (1 + (wrap64 (Int.tdiv (wrap64 ((a0_1.size : Int) + 1)) 2)))))) ≤ 533 then ((u9wakes.f k).bind fun t411 => (some t411)) else (none)) else (none)) else (none)) else (none)))) else (if t404.toList = ([] : List UInt8) then ((node_Good.f k a0_0 a0_1 a0_2 a0_3 a0_4 l0_5).bind fun t406 => (if t406 = true then (none) else ((u9wakes.f k).bind fun t407 => (some t407)))) else (none))) = some r := H
  have A9 := A0_.mk A90
  clear A90
  by_cases c10 : t405 = true
  ·subst c10
   have H1 : (if a0_0 = 3 then (if a0_2 = true then (if (t404.size : Int) = (wrap64 ((wrap64 ((wrap64 (1 + (wrap64 (32 * (l0_5.length : Int))))) + 3)) + (wrap64 (1 + (a0_3.size : Int))))) then (if 0 < (t404.size : Int) then (if (wrap64 (bt t404 0)) = a0_0 then (if (wrap64 ((wrap64 ((wrap64 (1 + (wrap64 (32 * (l0_5.length : Int))))) + 3)) + (wrap64 (1 + (a0_3.size : Int))))) ≤ 533 then ((u9wakes.f k).bind fun t408 => (some t408)) else (none)) else (none)) else (none)) else (none)) else (if (t404.size : Int) = (wrap64 ((wrap64 (1 + (wrap64 (32 * (l0_5.length : Int))))) + 3)) then (if 0 < (t404.size : Int) then (if (wrap64 (bt t404 0)) = a0_0 then (if (wrap64 ((wrap64 (1 + (wrap64 (32 * (l0_5.length : Int))))) + 3)) ≤ 533 then ((u9wakes.f k).bind fun t409 => (some t409)) else (none)) else (none)) else (none)) else (none))) else (if a0_2 = true then (if (t404.size : Int) = (wrap64 ((wrap64 ((wrap64 (1 + (wrap64 (32 * (l0_5.length : Int))))) + (wrap64 (1 + (wrap64 (Int.tdiv (wrap64 ((a0_1.size : Int) + 1)) 2)))))) + (wrap64 (1 + (a0_3.size : Int))))) then (if 0 < (t404.size : Int) then (if (wrap64 (bt t404 0)) = a0_0 then (if (wrap64 ((wrap64 ((wrap64 (1 + (wrap64 (32 * (l0_5.length : Int))))) + (wrap64 (1 + (wrap64 (Int.tdiv (wrap64 ((a0_1.size : Int) + 1)) 2)))))) + (wrap64 (1 + (a0_3.size : Int))))) ≤ 533 then ((u9wakes.f k).bind fun t410 => (some t410)) else (none)) else (none)) else (none)) else (none)) else (if (t404.size : Int) = (wrap64 ((wrap64 (1 + (wrap64 (32 * (l0_5.length : Int))))) + (wrap64 (1 + (wrap64 (Int.tdiv (wrap64 ((a0_1.size : Int) + 1)) 2)))))) then (if 0 < (t404.size : Int) then (if (wrap64 (bt t404 0)) = a0_0 then (if (wrap64 ((wrap64 (1 + (wrap64 (32 * (l0_5.length : Int))))) + (wrap64 (1 + (wrap64 (Int.tdiv (wrap64 ((a0_1.size : Int) + 1)) 2)))))) ≤ 533 then ((u9wakes.f k).bind fun t411 => (some t411)) else (none)) else (none)) else (none)) else (none)))) = some r := by rw [if_pos rfl] at H; exact H
   clear H
   have H := H1
   clear H1
   by_cases c11 : a0_0 = 3
   ·rw [if_pos c11] at H
    have c11b0 : (a0_0 == 3) = true := beq_iff_eq.mpr c11
    have c11b1 : (a0_0 != 3) = false := bne_eq_false_iff_eq.mpr c11
    clear c11
    by_cases c12 : a0_2 = true
    ·subst c12
     have H1 : (if (t404.size : Int) = (wrap64 ((wrap64 ((wrap64 (1 + (wrap64 (32 * (l0_5.length : Int))))) + 3)) + (wrap64 (1 + (a0_3.size : Int))))) then (if 0 < (t404.size : Int) then (if (wrap64 (bt t404 0)) = a0_0 then (if (wrap64 ((wrap64 ((wrap64 (1 + (wrap64 (32 * (l0_5.length : Int))))) + 3)) + (wrap64 (1 + (a0_3.size : Int))))) ≤ 533 then ((u9wakes.f k).bind fun t408 => (some t408)) else (none)) else (none)) else (none)) else (none)) = some r := by rw [if_pos rfl] at H; exact H
     clear H
     have H := H1
     clear H1
     by_cases c13 : (t404.size : Int) = (wrap64 ((wrap64 ((wrap64 (1 + (wrap64 (32 * (l0_5.length : Int))))) + 3)) + (wrap64 (1 + (a0_3.size : Int)))))
     ·rw [if_pos c13] at H
      have c13b0 : ((t404.size : Int) == (wrap64 ((wrap64 ((wrap64 (1 + (wrap64 (32 * (l0_5.length : Int))))) + 3)) + (wrap64 (1 + (a0_3.size : Int)))))) = true := beq_iff_eq.mpr c13
      have c13b1 : ((t404.size : Int) != (wrap64 ((wrap64 ((wrap64 (1 + (wrap64 (32 * (l0_5.length : Int))))) + 3)) + (wrap64 (1 + (a0_3.size : Int)))))) = false := bne_eq_false_iff_eq.mpr c13
      clear c13
      by_cases c14 : 0 < (t404.size : Int)
      ·rw [if_pos c14] at H
       have c14b0 : decide (0 < (t404.size : Int)) = true := decide_eq_true c14
       have c14b1 : decide (0 < t404.size) = true := decide_eq_true (by omega)
       clear c14
       by_cases c16 : (wrap64 (bt t404 0)) = a0_0
       ·rw [if_pos c16] at H
        have c16b0 : ((wrap64 (bt t404 0)) == a0_0) = true := beq_iff_eq.mpr c16
        have c16b1 : ((wrap64 (bt t404 0)) != a0_0) = false := bne_eq_false_iff_eq.mpr c16
        clear c16
        by_cases c17 : (wrap64 ((wrap64 ((wrap64 (1 + (wrap64 (32 * (l0_5.length : Int))))) + 3)) + (wrap64 (1 + (a0_3.size : Int))))) ≤ 533
        ·rw [if_pos c17] at H
         have c17b0 : decide ((wrap64 ((wrap64 ((wrap64 (1 + (wrap64 (32 * (l0_5.length : Int))))) + 3)) + (wrap64 (1 + (a0_3.size : Int))))) ≤ 533) = true := decide_eq_true c17
         clear c17
         replace H := Option.bind_eq_some_iff.mp H
         obtain ⟨t408, A180, H⟩ := H
         replace H : (some t408) = some r := H
         have A18 := A0_.mk A180
         clear A180
         obtain rfl := Option.some.inj H
         go_enter Tryd.func5, Tryd.ntmps5
         try go_wp2_with (first | ((with_reducible refine gD (N := 1) rfl ?_); refine xE ?hg (N := 1) ?hd (cs := #[.int .i64 a0_0, .string a0_1, .bool true, .string a0_3, .int .i64 a0_4, .slice A0_5 l0_5.length c0_5]) (t := 24) ?hr ?_; (case hd => rfl); (case hg => rfl); (case hr => first | (go_simp; done) | (go_simp; rfl)); intro gb401 hg w19 hbox hb; have n0_ := A0_.mk (wT (by repeat (first | (with_reducible first | exact HB.out | apply wA | apply pN | apply wD) | exact HB.out)) hb); have n1_ := A0_.mk (hbox); have n2_ := A0_.mk ((by rw [hg]; exact (wZ (by repeat (first | (with_reducible first | exact HB.out | apply wA | apply pN | apply wD) | exact HB.out))) : w.heap.size ≤ gb401)); have n3_ := A0_.mk ((by rw [hg]; exact (wZ (by repeat (first | (with_reducible first | exact HB.out | apply wA | apply pN | apply wD) | exact HB.out))) : w.heap.size ≤ gb401)); clear HB; have HB := n0_; have BK401 := n1_; have GW401 := n2_; have GE401 := n3_; clear n0_ n1_ n2_ n3_; clear hb hbox hg; have hcz20_0 : w19.cell? ⟨gb401, 0, none⟩ = some (.int .i64 a0_0) := (bC BK401.out 0).trans rfl; have hcz20_1 : w19.cell? ⟨gb401, 1, none⟩ = some (.string a0_1) := (bC BK401.out 1).trans rfl; have hcz20_2 : w19.cell? ⟨gb401, 2, none⟩ = some (.bool true) := (bC BK401.out 2).trans rfl; have hcz20_3 : w19.cell? ⟨gb401, 3, none⟩ = some (.string a0_3) := (bC BK401.out 3).trans rfl; have hcz20_4 : w19.cell? ⟨gb401, 4, none⟩ = some (.int .i64 a0_4) := (bC BK401.out 4).trans rfl; have hcz20_5 : w19.cell? ⟨gb401, 5, none⟩ = some (.slice A0_5 l0_5.length c0_5) := (bC BK401.out 5).trans rfl; have hfz20_0 := bF BK401.out 0; have hfz20_1 := bF BK401.out 1; have hfz20_2 := bF BK401.out 2; have hfz20_3 := bF BK401.out 3; have hfz20_4 := bF BK401.out 4; have hfz20_5 := bF BK401.out 5) | ((with_reducible refine gC (f := 7) rfl ?_); refine gL (some 7) rfl rfl Tryd.func7 (by kernel_rfl) rfl #[.agg #[.int .i64 a0_0, .string a0_1, .bool true, .string a0_3, .int .i64 a0_4, .slice A0_5 l0_5.length c0_5]] rfl (by (try simp only [List.map_toArray, List.map_cons, List.map_nil]); first | done | rfl | (simp only [List.length_drop, List.length_take]; rfl)) ?_; (with_reducible refine (u9Long.calls k a0_0 a0_1 true a0_3 a0_4 _ _ l0_5 false _ ?side1 ?side2 A2.out).mono ?_); (case side1 => repeat (first | exact (Kd.C_below HR0_5.out HB.out) | (with_reducible refine Kd.C_alloc ?_ _) | (with_reducible refine Kd.C_drewN ?_ _) | (with_reducible refine Kd.C_drew ?_))); (case side2 => exact HC0_5.out); rintro e w21 ⟨rfl, hb⟩; refine ⟨_, rfl, ?_⟩; have n0_ := A0_.mk (bB (g := gb401) (o := .cells #[.int .i64 a0_0, .string a0_1, .bool true, .string a0_3, .int .i64 a0_4, .slice A0_5 l0_5.length c0_5] 24 (0, 0)) (by (with_reducible repeat (first | refine bN ?_ _ | refine bD ?_ | refine bA ?_ _)); exact BK401.out) hb); have n1_ := A0_.mk (wT (by repeat (first | (with_reducible first | exact HB.out | apply wA | apply pN | apply wD | refine wS ?_ GE401.out) | exact HB.out)) hb); clear BK401; clear HB; have BK401 := n0_; have HB := n1_; clear n0_ n1_; (try clear hb); (try clear hb2); (try clear hk); (try clear hi); have hcz22_0 : w21.cell? ⟨gb401, 0, none⟩ = some (.int .i64 a0_0) := (bC BK401.out 0).trans rfl; have hcz22_1 : w21.cell? ⟨gb401, 1, none⟩ = some (.string a0_1) := (bC BK401.out 1).trans rfl; have hcz22_2 : w21.cell? ⟨gb401, 2, none⟩ = some (.bool true) := (bC BK401.out 2).trans rfl; have hcz22_3 : w21.cell? ⟨gb401, 3, none⟩ = some (.string a0_3) := (bC BK401.out 3).trans rfl; have hcz22_4 : w21.cell? ⟨gb401, 4, none⟩ = some (.int .i64 a0_4) := (bC BK401.out 4).trans rfl; have hcz22_5 : w21.cell? ⟨gb401, 5, none⟩ = some (.slice A0_5 l0_5.length c0_5) := (bC BK401.out 5).trans rfl; have hfz22_0 := bF BK401.out 0; have hfz22_1 := bF BK401.out 1; have hfz22_2 := bF BK401.out 2; have hfz22_3 := bF BK401.out 3; have hfz22_4 := bF BK401.out 4; have hfz22_5 := bF BK401.out 5) | ((with_reducible refine gC (f := 9) rfl ?_); refine gL (some 11) rfl rfl Tryd.func9 (by kernel_rfl) rfl #[.agg #[.int .i64 a0_0, .string a0_1, .bool true, .string a0_3, .int .i64 a0_4, .slice A0_5 l0_5.length c0_5]] rfl (by (try simp only [List.map_toArray, List.map_cons, List.map_nil]); first | done | rfl | (simp only [List.length_drop, List.length_take]; rfl)) ?_; (with_reducible refine (node_Encode.calls k a0_0 a0_1 true a0_3 a0_4 _ _ l0_5 t404 true _ ?side1 ?side2 A9.out).mono ?_); (case side1 => repeat (first | exact (Kd.C_below HR0_5.out HB.out) | (with_reducible refine Kd.C_alloc ?_ _) | (with_reducible refine Kd.C_drewN ?_ _) | (with_reducible refine Kd.C_drew ?_))); (case side2 => exact HC0_5.out); rintro e w23 ⟨rfl, hb⟩; refine ⟨_, rfl, ?_⟩; have n0_ := A0_.mk (bB (g := gb401) (o := .cells #[.int .i64 a0_0, .string a0_1, .bool true, .string a0_3, .int .i64 a0_4, .slice A0_5 l0_5.length c0_5] 24 (0, 0)) (by (with_reducible repeat (first | refine bN ?_ _ | refine bD ?_ | refine bA ?_ _)); exact BK401.out) hb); have n1_ := A0_.mk (wT (by repeat (first | (with_reducible first | exact HB.out | apply wA | apply pN | apply wD | refine wS ?_ GE401.out) | exact HB.out)) hb); clear BK401; clear HB; have BK401 := n0_; have HB := n1_; clear n0_ n1_; (try clear hb); (try clear hb2); (try clear hk); (try clear hi); have hcz24_0 : w23.cell? ⟨gb401, 0, none⟩ = some (.int .i64 a0_0) := (bC BK401.out 0).trans rfl; have hcz24_1 : w23.cell? ⟨gb401, 1, none⟩ = some (.string a0_1) := (bC BK401.out 1).trans rfl; have hcz24_2 : w23.cell? ⟨gb401, 2, none⟩ = some (.bool true) := (bC BK401.out 2).trans rfl; have hcz24_3 : w23.cell? ⟨gb401, 3, none⟩ = some (.string a0_3) := (bC BK401.out 3).trans rfl; have hcz24_4 : w23.cell? ⟨gb401, 4, none⟩ = some (.int .i64 a0_4) := (bC BK401.out 4).trans rfl; have hcz24_5 : w23.cell? ⟨gb401, 5, none⟩ = some (.slice A0_5 l0_5.length c0_5) := (bC BK401.out 5).trans rfl; have hfz24_0 := bF BK401.out 0; have hfz24_1 := bF BK401.out 1; have hfz24_2 := bF BK401.out 2; have hfz24_3 := bF BK401.out 3; have hfz24_4 := bF BK401.out 4; have hfz24_5 := bF BK401.out 5))
         have n0_ := A0_.mk (bD BK401.out)
         have n1_ := A0_.mk (wD HB.out)
         clear BK401
         clear HB
         have BK401 := n0_
         have HB := n1_
         clear n0_ n1_
         have p15 : 0 ≤ (0 : Int) := (by omega)
         have q15 : 0 < t404.size := (by have : (0 : Int) < (t404.size : Int) := of_decide_eq_true (by first | (with_reducible assumption) | assumption); omega)
         have hx15 : ∀ h : 0 < t404.size, ((t404[0]'h).toNat : Int) = bt t404 0 := bt_at t404 0
         clear p15
         have qi15 : (0 < (t404.size : Int)) = True := eq_true (of_decide_eq_true (by first | (with_reducible assumption) | assumption))
         replace q15 := eq_true q15
         refine start_ (n := 20) (S := fun w' => w'.cell? ⟨gb401, 0, none⟩ = some (.int .i64 a0_0) ∧ w'.cell? ⟨gb401, 1, none⟩ = some (.string a0_1) ∧ w'.cell? ⟨gb401, 2, none⟩ = some (.bool true) ∧ w'.cell? ⟨gb401, 3, none⟩ = some (.string a0_3) ∧ w'.cell? ⟨gb401, 4, none⟩ = some (.int .i64 a0_4) ∧ w'.cell? ⟨gb401, 5, none⟩ = some (.slice A0_5 l0_5.length c0_5)) (ds := []) #[false, false, false, false, false, false, false, false, false, false, false, false, false, false, false, false, false, false, false, false] (by kernel_rfl) rfl rfl ⟨(bC BK401.out 0).trans rfl, (bC BK401.out 1).trans rfl, (bC BK401.out 2).trans rfl, (bC BK401.out 3).trans rfl, (bC BK401.out 4).trans rfl, (bC BK401.out 5).trans rfl⟩ (fun hHeld => ?_); refine with_tabW u9NodeForms.tab12 u9NodeForms.bits12 (fun HT_ HW_ => ?_)
         generalize w23.drew = w25 at BK401 HB hHeld ⊢
         refine pure_ (i := 0) (N := some 52) (v := ?_) (a' := ?_) #[true, false, false, false, false, false, false, false, false, false, false, false, false, false, false, false, false, false, false, false] rfl rfl (any_of HT_.out (by kernel_rfl)) (fun _ _ _ h => h) (Or.inl ⟨by rfl, ?_⟩) ?_ ?_
         rotate_left
         ·intro w'
          go_simp
          with_reducible rfl
         rotate_left
         ·simp only [Act.put, List.setIfInBounds_toArray, List.set_cons_zero, List.set_cons_succ, i64_w, i32_w]
          rfl
         refine pure_ (i := 1) (N := some 53) (v := ?_) (a' := ?_) #[true, true, false, false, false, false, false, false, false, false, false, false, false, false, false, false, false, false, false, false] rfl rfl (any_of HT_.out (by kernel_rfl)) (fun _ _ _ h => h) (Or.inl ⟨by rfl, ?_⟩) ?_ ?_
         rotate_left
         ·intro w'
          go_simp
          with_reducible rfl
         rotate_left
         ·simp only [Act.put, List.setIfInBounds_toArray, List.set_cons_zero, List.set_cons_succ, i64_w, i32_w]
          rfl
         refine pure_ (i := 2) (N := some 54) (v := ?_) (a' := ?_) #[true, true, true, false, false, false, false, false, false, false, false, false, false, false, false, false, false, false, false, false] rfl rfl (any_of HT_.out (by kernel_rfl)) (fun _ _ _ h => h) (Or.inl ⟨by rfl, ?_⟩) ?_ ?_
         rotate_left
         ·intro w'
          go_simp
          with_reducible rfl
         rotate_left
         ·simp only [Act.put, List.setIfInBounds_toArray, List.set_cons_zero, List.set_cons_succ, i64_w, i32_w]
          rfl
         refine pure_ (i := 3) (N := some 55) (v := ?_) (a' := ?_) #[true, true, true, true, false, false, false, false, false, false, false, false, false, false, false, false, false, false, false, false] rfl rfl (any_of HT_.out (by kernel_rfl)) (fun _ _ _ h => h) (Or.inl ⟨by rfl, ?_⟩) ?_ ?_
         rotate_left
         ·intro w'
          go_simp
          with_reducible rfl
         rotate_left
         ·simp only [Act.put, List.setIfInBounds_toArray, List.set_cons_zero, List.set_cons_succ, i64_w, i32_w]
          rfl
         refine pure_ (i := 4) (N := some 56) (v := ?_) (a' := ?_) #[true, true, true, true, true, false, false, false, false, false, false, false, false, false, false, false, false, false, false, false] rfl rfl (any_of HT_.out (by kernel_rfl)) (fun _ _ _ h => h) (Or.inl ⟨by rfl, ?_⟩) ?_ ?_
         rotate_left
         ·intro w'
          go_simp
          with_reducible rfl
         rotate_left
         ·simp only [Act.put, List.setIfInBounds_toArray, List.set_cons_zero, List.set_cons_succ, i64_w, i32_w]
          rfl
         refine pure_ (i := 5) (N := some 57) (v := ?_) (a' := ?_) #[true, true, true, true, true, true, false, false, false, false, false, false, false, false, false, false, false, false, false, false] rfl rfl (any_of HT_.out (by kernel_rfl)) (fun _ _ _ h => h) (Or.inl ⟨by rfl, ?_⟩) ?_ ?_
         rotate_left
         ·intro w'
          go_simp
          with_reducible rfl
         rotate_left
         ·simp only [Act.put, List.setIfInBounds_toArray, List.set_cons_zero, List.set_cons_succ, i64_w, i32_w]
          rfl
         refine pure_ (i := 8) (N := some 60) (v := ?_) (a' := ?_) #[true, true, true, true, true, true, false, false, true, false, false, false, false, false, false, false, false, false, false, false] rfl rfl (any_of HT_.out (by kernel_rfl)) (fun _ _ _ h => h) (Or.inl ⟨by rfl, ?_⟩) ?_ ?_
         rotate_left
         ·intro w'
          go_simp
          with_reducible rfl
         rotate_left
         ·simp only [Act.put, List.setIfInBounds_toArray, List.set_cons_zero, List.set_cons_succ, i64_w, i32_w]
          rfl
         refine take_ (i := 6) (N := some 58) (v := ?_) (a' := ?_) #[true, true, true, true, true, true, true, false, true, false, false, false, false, false, false, false, false, false, false, false] rfl rfl (take_ofW HT_.out HW_.out (by kernel_rfl)) (fun _ _ _ h => h) (Or.inl ⟨by rfl, ?_⟩) hHeld ?_ ?_
         rotate_left
         ·rintro w' ⟨s0, s1, s2, s3, s4, s5⟩
          go_simp
          with_reducible rfl
         rotate_left
         ·simp only [Act.put, List.setIfInBounds_toArray, List.set_cons_zero, List.set_cons_succ, i64_w, i32_w]
          rfl
         refine pure_ (i := 7) (N := some 59) (v := ?_) (a' := ?_) #[true, true, true, true, true, true, true, true, true, false, false, false, false, false, false, false, false, false, false, false] rfl rfl (any_of HT_.out (by kernel_rfl)) (fun _ _ _ h => h) (Or.inl ⟨by rfl, ?_⟩) ?_ ?_
         rotate_left
         ·intro w'
          go_simp
          with_reducible rfl
         rotate_left
         ·simp only [Act.put, List.setIfInBounds_toArray, List.set_cons_zero, List.set_cons_succ, i64_w, i32_w]
          rfl
         refine take_ (i := 9) (N := some 61) (v := ?_) (a' := ?_) #[true, true, true, true, true, true, true, true, true, true, false, false, false, false, false, false, false, false, false, false] rfl rfl (take_ofW HT_.out HW_.out (by kernel_rfl)) (fun _ _ _ h => h) (Or.inl ⟨by rfl, ?_⟩) hHeld ?_ ?_
         rotate_left
         ·rintro w' ⟨s0, s1, s2, s3, s4, s5⟩
          go_simp
          with_reducible rfl
         rotate_left
         ·simp only [Act.put, List.setIfInBounds_toArray, List.set_cons_zero, List.set_cons_succ, i64_w, i32_w]
          rfl
         refine pure_ (i := 10) (N := some 62) (v := ?_) (a' := ?_) #[true, true, true, true, true, true, true, true, true, true, true, false, false, false, false, false, false, false, false, false] rfl rfl (any_of HT_.out (by kernel_rfl)) (fun _ _ _ h => h) (Or.inl ⟨by rfl, ?_⟩) ?_ ?_
         rotate_left
         ·intro w'
          go_simp
          with_reducible rfl
         rotate_left
         ·simp only [Act.put, List.setIfInBounds_toArray, List.set_cons_zero, List.set_cons_succ, i64_w, i32_w]
          rfl
         refine pure_ (i := 11) (N := some 63) (v := ?_) (a' := ?_) #[true, true, true, true, true, true, true, true, true, true, true, true, false, false, false, false, false, false, false, false] rfl rfl (any_of HT_.out (by kernel_rfl)) (fun _ _ _ h => h) (Or.inl ⟨by rfl, ?_⟩) ?_ ?_
         rotate_left
         ·intro w'
          go_simp
          with_reducible rfl
         rotate_left
         ·simp only [Act.put, List.setIfInBounds_toArray, List.set_cons_zero, List.set_cons_succ, i64_w, i32_w]
          rfl
         refine pure_ (i := 12) (N := some 64) (v := ?_) (a' := ?_) #[true, true, true, true, true, true, true, true, true, true, true, true, true, false, false, false, false, false, false, false] rfl rfl (any_of HT_.out (by kernel_rfl)) (fun _ _ _ h => h) (Or.inl ⟨by rfl, ?_⟩) ?_ ?_
         rotate_left
         ·intro w'
          go_simp
          with_reducible rfl
         rotate_left
         ·simp only [Act.put, List.setIfInBounds_toArray, List.set_cons_zero, List.set_cons_succ, i64_w, i32_w]
          rfl
         refine pure_ (i := 13) (N := some 65) (v := ?_) (a' := ?_) #[true, true, true, true, true, true, true, true, true, true, true, true, true, true, false, false, false, false, false, false] rfl rfl (any_of HT_.out (by kernel_rfl)) (fun _ _ _ h => h) (Or.inl ⟨by rfl, ?_⟩) ?_ ?_
         rotate_left
         ·intro w'
          go_simp
          with_reducible rfl
         rotate_left
         ·simp only [Act.put, List.setIfInBounds_toArray, List.set_cons_zero, List.set_cons_succ, i64_w, i32_w]
          rfl
         refine pure_ (i := 14) (N := some 66) (v := ?_) (a' := ?_) #[true, true, true, true, true, true, true, true, true, true, true, true, true, true, true, false, false, false, false, false] rfl rfl (any_of HT_.out (by kernel_rfl)) (fun _ _ _ h => h) (Or.inl ⟨by rfl, ?_⟩) ?_ ?_
         rotate_left
         ·intro w'
          go_simp
          with_reducible rfl
         rotate_left
         ·simp only [Act.put, List.setIfInBounds_toArray, List.set_cons_zero, List.set_cons_succ, i64_w, i32_w]
          rfl
         refine pure_ (i := 15) (N := some 67) (v := ?_) (a' := ?_) #[true, true, true, true, true, true, true, true, true, true, true, true, true, true, true, true, false, false, false, false] rfl rfl (any_of HT_.out (by kernel_rfl)) (fun _ _ _ h => h) (Or.inl ⟨by rfl, ?_⟩) ?_ ?_
         rotate_left
         ·intro w'
          go_simp
          with_reducible rfl
         rotate_left
         ·simp only [Act.put, List.setIfInBounds_toArray, List.set_cons_zero, List.set_cons_succ, i64_w, i32_w]
          rfl
         refine pure_ (i := 16) (N := some 68) (v := ?_) (a' := ?_) #[true, true, true, true, true, true, true, true, true, true, true, true, true, true, true, true, true, false, false, false] rfl rfl (any_of HT_.out (by kernel_rfl)) (fun _ _ _ h => h) (Or.inl ⟨by rfl, ?_⟩) ?_ ?_
         rotate_left
         ·intro w'
          go_simp
          with_reducible rfl
         rotate_left
         ·simp only [Act.put, List.setIfInBounds_toArray, List.set_cons_zero, List.set_cons_succ, i64_w, i32_w]
          rfl
         refine one_ (i := 17) (N := some 69) #[true, true, true, true, true, true, true, true, true, true, true, true, true, true, true, true, true, true, false, false] rfl rfl (one_of HT_.out (by kernel_rfl)) (by decide) (fun K hK => ?_)
         refine goes_ Tryd.func8 (by kernel_rfl) rfl #[] (by rfl) rfl rfl (by (try simp only [List.map_toArray, List.map_cons, List.map_nil]); first | done | rfl | (simp only [List.length_drop, List.length_take]; rfl)) ?_
         with_reducible refine (u9wakes.calls k  t408 _ ?side1 A18.out).mono ?_
         (case side1 => exact Glob.below HG.out (by repeat (first | (with_reducible first | exact HB.out | apply wA | apply pN | apply wD | refine wS ?_ GE401.out) | exact HB.out)))
         rintro e w26 ⟨rfl, hb⟩
         refine ⟨_, rfl, ?_⟩
         have n0_ := A0_.mk (bB (g := gb401) (o := .cells #[.int .i64 a0_0, .string a0_1, .bool true, .string a0_3, .int .i64 a0_4, .slice A0_5 l0_5.length c0_5] 24 (0, 0)) (by (with_reducible repeat (first | refine bN ?_ _ | refine bD ?_ | refine bA ?_ _)); exact BK401.out) hb)
         have n1_ := A0_.mk (wT (by repeat (first | (with_reducible first | exact HB.out | apply wA | apply pN | apply wD | refine wS ?_ GE401.out) | exact HB.out)) hb)
         clear BK401
         clear HB
         have BK401 := n0_
         have HB := n1_
         clear n0_ n1_
         (try clear hb)
         (try clear hb2)
         (try clear hk)
         (try clear hi)
         refine hK.out _ _ ⟨(bC BK401.out 0).trans rfl, (bC BK401.out 1).trans rfl, (bC BK401.out 2).trans rfl, (bC BK401.out 3).trans rfl, (bC BK401.out 4).trans rfl, (bC BK401.out 5).trans rfl⟩ (fun hHeld => ?_)
         clear hK K
         refine norm_ (a' := ?_) ?_ ?_
         rotate_left
         ·show Act.put _ (some 69) _ = _
          simp only [Act.put, List.setIfInBounds_toArray, List.set_cons_zero, List.set_cons_succ, i64_w, i32_w]
          rfl
         refine pure_ (i := 18) (N := some 70) (v := ?_) (a' := ?_) #[true, true, true, true, true, true, true, true, true, true, true, true, true, true, true, true, true, true, true, false] rfl rfl (any_of HT_.out (by kernel_rfl)) (fun _ _ _ h => h) (Or.inl ⟨by rfl, ?_⟩) ?_ ?_
         rotate_left
         ·intro w'
          go_simp
          with_reducible rfl
         rotate_left
         ·simp only [Act.put, List.setIfInBounds_toArray, List.set_cons_zero, List.set_cons_succ, i64_w, i32_w]
          rfl
         refine pure_ (i := 19) (N := some 2) (v := ?_) (a' := ?_) #[true, true, true, true, true, true, true, true, true, true, true, true, true, true, true, true, true, true, true, true] rfl rfl (any_of HT_.out (by kernel_rfl)) (fun _ _ _ h => h) (Or.inl ⟨by rfl, ?_⟩) ?_ ?_
         rotate_left
         ·intro w'
          go_simp
          with_reducible rfl
         rotate_left
         ·simp only [Act.put, List.setIfInBounds_toArray, List.set_cons_zero, List.set_cons_succ, i64_w, i32_w]
          rfl
         refine done_ (done_of HT_.out (by kernel_rfl)) ?_
         try go_wp2
         go_ret
         exact ⟨by first | rfl | (simp [errW_none, errW_some] <;> rfl) | (simp [*, errW_none, errW_some] <;> rfl), by repeat (first | (with_reducible first | exact HB.out | apply wA | apply pN | apply wD | refine wS ?_ GE401.out) | exact HB.out)⟩
        ·rw [if_neg c17] at H
         exact absurd H (by simp)
       ·rw [if_neg c16] at H
        exact absurd H (by simp)
      ·rw [if_neg c14] at H
       exact absurd H (by simp)
     ·rw [if_neg c13] at H
      exact absurd H (by simp)
    ·replace c12 := Bool.eq_false_iff.mpr c12
     subst c12
     have H1 : (if (t404.size : Int) = (wrap64 ((wrap64 (1 + (wrap64 (32 * (l0_5.length : Int))))) + 3)) then (if 0 < (t404.size : Int) then (if (wrap64 (bt t404 0)) = a0_0 then (if (wrap64 ((wrap64 (1 + (wrap64 (32 * (l0_5.length : Int))))) + 3)) ≤ 533 then ((u9wakes.f k).bind fun t409 => (some t409)) else (none)) else (none)) else (none)) else (none)) = some r := by rw [if_neg (show ¬ (false = true) by decide)] at H; exact H
     clear H
     have H := H1
     clear H1
     by_cases c48 : (t404.size : Int) = (wrap64 ((wrap64 (1 + (wrap64 (32 * (l0_5.length : Int))))) + 3))
     ·rw [if_pos c48] at H
      have c48b0 : ((t404.size : Int) == (wrap64 ((wrap64 (1 + (wrap64 (32 * (l0_5.length : Int))))) + 3))) = true := beq_iff_eq.mpr c48
      have c48b1 : ((t404.size : Int) != (wrap64 ((wrap64 (1 + (wrap64 (32 * (l0_5.length : Int))))) + 3))) = false := bne_eq_false_iff_eq.mpr c48
      clear c48
      by_cases c49 : 0 < (t404.size : Int)
      ·rw [if_pos c49] at H
       have c49b0 : decide (0 < (t404.size : Int)) = true := decide_eq_true c49
       have c49b1 : decide (0 < t404.size) = true := decide_eq_true (by omega)
       clear c49
       by_cases c51 : (wrap64 (bt t404 0)) = a0_0
       ·rw [if_pos c51] at H
        have c51b0 : ((wrap64 (bt t404 0)) == a0_0) = true := beq_iff_eq.mpr c51
        have c51b1 : ((wrap64 (bt t404 0)) != a0_0) = false := bne_eq_false_iff_eq.mpr c51
        clear c51
        by_cases c52 : (wrap64 ((wrap64 (1 + (wrap64 (32 * (l0_5.length : Int))))) + 3)) ≤ 533
        ·rw [if_pos c52] at H
         have c52b0 : decide ((wrap64 ((wrap64 (1 + (wrap64 (32 * (l0_5.length : Int))))) + 3)) ≤ 533) = true := decide_eq_true c52
         clear c52
         replace H := Option.bind_eq_some_iff.mp H
         obtain ⟨t409, A530, H⟩ := H
         replace H : (some t409) = some r := H
         have A53 := A0_.mk A530
         clear A530
         obtain rfl := Option.some.inj H
         go_enter Tryd.func5, Tryd.ntmps5
         try go_wp2_with (first | ((with_reducible refine gD (N := 1) rfl ?_); refine xE ?hg (N := 1) ?hd (cs := #[.int .i64 a0_0, .string a0_1, .bool false, .string a0_3, .int .i64 a0_4, .slice A0_5 l0_5.length c0_5]) (t := 24) ?hr ?_; (case hd => rfl); (case hg => rfl); (case hr => first | (go_simp; done) | (go_simp; rfl)); intro gb401 hg w54 hbox hb; have n0_ := A0_.mk (wT (by repeat (first | (with_reducible first | exact HB.out | apply wA | apply pN | apply wD) | exact HB.out)) hb); have n1_ := A0_.mk (hbox); have n2_ := A0_.mk ((by rw [hg]; exact (wZ (by repeat (first | (with_reducible first | exact HB.out | apply wA | apply pN | apply wD) | exact HB.out))) : w.heap.size ≤ gb401)); have n3_ := A0_.mk ((by rw [hg]; exact (wZ (by repeat (first | (with_reducible first | exact HB.out | apply wA | apply pN | apply wD) | exact HB.out))) : w.heap.size ≤ gb401)); clear HB; have HB := n0_; have BK401 := n1_; have GW401 := n2_; have GE401 := n3_; clear n0_ n1_ n2_ n3_; clear hb hbox hg; have hcz55_0 : w54.cell? ⟨gb401, 0, none⟩ = some (.int .i64 a0_0) := (bC BK401.out 0).trans rfl; have hcz55_1 : w54.cell? ⟨gb401, 1, none⟩ = some (.string a0_1) := (bC BK401.out 1).trans rfl; have hcz55_2 : w54.cell? ⟨gb401, 2, none⟩ = some (.bool false) := (bC BK401.out 2).trans rfl; have hcz55_3 : w54.cell? ⟨gb401, 3, none⟩ = some (.string a0_3) := (bC BK401.out 3).trans rfl; have hcz55_4 : w54.cell? ⟨gb401, 4, none⟩ = some (.int .i64 a0_4) := (bC BK401.out 4).trans rfl; have hcz55_5 : w54.cell? ⟨gb401, 5, none⟩ = some (.slice A0_5 l0_5.length c0_5) := (bC BK401.out 5).trans rfl; have hfz55_0 := bF BK401.out 0; have hfz55_1 := bF BK401.out 1; have hfz55_2 := bF BK401.out 2; have hfz55_3 := bF BK401.out 3; have hfz55_4 := bF BK401.out 4; have hfz55_5 := bF BK401.out 5) | ((with_reducible refine gC (f := 7) rfl ?_); refine gL (some 7) rfl rfl Tryd.func7 (by kernel_rfl) rfl #[.agg #[.int .i64 a0_0, .string a0_1, .bool false, .string a0_3, .int .i64 a0_4, .slice A0_5 l0_5.length c0_5]] rfl (by (try simp only [List.map_toArray, List.map_cons, List.map_nil]); first | done | rfl | (simp only [List.length_drop, List.length_take]; rfl)) ?_; (with_reducible refine (u9Long.calls k a0_0 a0_1 false a0_3 a0_4 _ _ l0_5 false _ ?side1 ?side2 A2.out).mono ?_); (case side1 => repeat (first | exact (Kd.C_below HR0_5.out HB.out) | (with_reducible refine Kd.C_alloc ?_ _) | (with_reducible refine Kd.C_drewN ?_ _) | (with_reducible refine Kd.C_drew ?_))); (case side2 => exact HC0_5.out); rintro e w56 ⟨rfl, hb⟩; refine ⟨_, rfl, ?_⟩; have n0_ := A0_.mk (bB (g := gb401) (o := .cells #[.int .i64 a0_0, .string a0_1, .bool false, .string a0_3, .int .i64 a0_4, .slice A0_5 l0_5.length c0_5] 24 (0, 0)) (by (with_reducible repeat (first | refine bN ?_ _ | refine bD ?_ | refine bA ?_ _)); exact BK401.out) hb); have n1_ := A0_.mk (wT (by repeat (first | (with_reducible first | exact HB.out | apply wA | apply pN | apply wD | refine wS ?_ GE401.out) | exact HB.out)) hb); clear BK401; clear HB; have BK401 := n0_; have HB := n1_; clear n0_ n1_; (try clear hb); (try clear hb2); (try clear hk); (try clear hi); have hcz57_0 : w56.cell? ⟨gb401, 0, none⟩ = some (.int .i64 a0_0) := (bC BK401.out 0).trans rfl; have hcz57_1 : w56.cell? ⟨gb401, 1, none⟩ = some (.string a0_1) := (bC BK401.out 1).trans rfl; have hcz57_2 : w56.cell? ⟨gb401, 2, none⟩ = some (.bool false) := (bC BK401.out 2).trans rfl; have hcz57_3 : w56.cell? ⟨gb401, 3, none⟩ = some (.string a0_3) := (bC BK401.out 3).trans rfl; have hcz57_4 : w56.cell? ⟨gb401, 4, none⟩ = some (.int .i64 a0_4) := (bC BK401.out 4).trans rfl; have hcz57_5 : w56.cell? ⟨gb401, 5, none⟩ = some (.slice A0_5 l0_5.length c0_5) := (bC BK401.out 5).trans rfl; have hfz57_0 := bF BK401.out 0; have hfz57_1 := bF BK401.out 1; have hfz57_2 := bF BK401.out 2; have hfz57_3 := bF BK401.out 3; have hfz57_4 := bF BK401.out 4; have hfz57_5 := bF BK401.out 5) | ((with_reducible refine gC (f := 9) rfl ?_); refine gL (some 11) rfl rfl Tryd.func9 (by kernel_rfl) rfl #[.agg #[.int .i64 a0_0, .string a0_1, .bool false, .string a0_3, .int .i64 a0_4, .slice A0_5 l0_5.length c0_5]] rfl (by (try simp only [List.map_toArray, List.map_cons, List.map_nil]); first | done | rfl | (simp only [List.length_drop, List.length_take]; rfl)) ?_; (with_reducible refine (node_Encode.calls k a0_0 a0_1 false a0_3 a0_4 _ _ l0_5 t404 true _ ?side1 ?side2 A9.out).mono ?_); (case side1 => repeat (first | exact (Kd.C_below HR0_5.out HB.out) | (with_reducible refine Kd.C_alloc ?_ _) | (with_reducible refine Kd.C_drewN ?_ _) | (with_reducible refine Kd.C_drew ?_))); (case side2 => exact HC0_5.out); rintro e w58 ⟨rfl, hb⟩; refine ⟨_, rfl, ?_⟩; have n0_ := A0_.mk (bB (g := gb401) (o := .cells #[.int .i64 a0_0, .string a0_1, .bool false, .string a0_3, .int .i64 a0_4, .slice A0_5 l0_5.length c0_5] 24 (0, 0)) (by (with_reducible repeat (first | refine bN ?_ _ | refine bD ?_ | refine bA ?_ _)); exact BK401.out) hb); have n1_ := A0_.mk (wT (by repeat (first | (with_reducible first | exact HB.out | apply wA | apply pN | apply wD | refine wS ?_ GE401.out) | exact HB.out)) hb); clear BK401; clear HB; have BK401 := n0_; have HB := n1_; clear n0_ n1_; (try clear hb); (try clear hb2); (try clear hk); (try clear hi); have hcz59_0 : w58.cell? ⟨gb401, 0, none⟩ = some (.int .i64 a0_0) := (bC BK401.out 0).trans rfl; have hcz59_1 : w58.cell? ⟨gb401, 1, none⟩ = some (.string a0_1) := (bC BK401.out 1).trans rfl; have hcz59_2 : w58.cell? ⟨gb401, 2, none⟩ = some (.bool false) := (bC BK401.out 2).trans rfl; have hcz59_3 : w58.cell? ⟨gb401, 3, none⟩ = some (.string a0_3) := (bC BK401.out 3).trans rfl; have hcz59_4 : w58.cell? ⟨gb401, 4, none⟩ = some (.int .i64 a0_4) := (bC BK401.out 4).trans rfl; have hcz59_5 : w58.cell? ⟨gb401, 5, none⟩ = some (.slice A0_5 l0_5.length c0_5) := (bC BK401.out 5).trans rfl; have hfz59_0 := bF BK401.out 0; have hfz59_1 := bF BK401.out 1; have hfz59_2 := bF BK401.out 2; have hfz59_3 := bF BK401.out 3; have hfz59_4 := bF BK401.out 4; have hfz59_5 := bF BK401.out 5))
         have n0_ := A0_.mk (bD BK401.out)
         have n1_ := A0_.mk (wD HB.out)
         clear BK401
         clear HB
         have BK401 := n0_
         have HB := n1_
         clear n0_ n1_
         have p50 : 0 ≤ (0 : Int) := (by omega)
         have q50 : 0 < t404.size := (by have : (0 : Int) < (t404.size : Int) := of_decide_eq_true (by first | (with_reducible assumption) | assumption); omega)
         have hx50 : ∀ h : 0 < t404.size, ((t404[0]'h).toNat : Int) = bt t404 0 := bt_at t404 0
         clear p50
         have qi50 : (0 < (t404.size : Int)) = True := eq_true (of_decide_eq_true (by first | (with_reducible assumption) | assumption))
         replace q50 := eq_true q50
         refine start_ (n := 20) (S := fun w' => w'.cell? ⟨gb401, 0, none⟩ = some (.int .i64 a0_0) ∧ w'.cell? ⟨gb401, 1, none⟩ = some (.string a0_1) ∧ w'.cell? ⟨gb401, 2, none⟩ = some (.bool false) ∧ w'.cell? ⟨gb401, 3, none⟩ = some (.string a0_3) ∧ w'.cell? ⟨gb401, 4, none⟩ = some (.int .i64 a0_4) ∧ w'.cell? ⟨gb401, 5, none⟩ = some (.slice A0_5 l0_5.length c0_5)) (ds := []) #[false, false, false, false, false, false, false, false, false, false, false, false, false, false, false, false, false, false, false, false] (by kernel_rfl) rfl rfl ⟨(bC BK401.out 0).trans rfl, (bC BK401.out 1).trans rfl, (bC BK401.out 2).trans rfl, (bC BK401.out 3).trans rfl, (bC BK401.out 4).trans rfl, (bC BK401.out 5).trans rfl⟩ (fun hHeld => ?_); refine with_tabW u9NodeForms.tab12 u9NodeForms.bits12 (fun HT_ HW_ => ?_)
         generalize w58.drew = w60 at BK401 HB hHeld ⊢
         refine pure_ (i := 0) (N := some 52) (v := ?_) (a' := ?_) #[true, false, false, false, false, false, false, false, false, false, false, false, false, false, false, false, false, false, false, false] rfl rfl (any_of HT_.out (by kernel_rfl)) (fun _ _ _ h => h) (Or.inl ⟨by rfl, ?_⟩) ?_ ?_
         rotate_left
         ·intro w'
          go_simp
          with_reducible rfl
         rotate_left
         ·simp only [Act.put, List.setIfInBounds_toArray, List.set_cons_zero, List.set_cons_succ, i64_w, i32_w]
          rfl
         refine pure_ (i := 1) (N := some 53) (v := ?_) (a' := ?_) #[true, true, false, false, false, false, false, false, false, false, false, false, false, false, false, false, false, false, false, false] rfl rfl (any_of HT_.out (by kernel_rfl)) (fun _ _ _ h => h) (Or.inl ⟨by rfl, ?_⟩) ?_ ?_
         rotate_left
         ·intro w'
          go_simp
          with_reducible rfl
         rotate_left
         ·simp only [Act.put, List.setIfInBounds_toArray, List.set_cons_zero, List.set_cons_succ, i64_w, i32_w]
          rfl
         refine pure_ (i := 2) (N := some 54) (v := ?_) (a' := ?_) #[true, true, true, false, false, false, false, false, false, false, false, false, false, false, false, false, false, false, false, false] rfl rfl (any_of HT_.out (by kernel_rfl)) (fun _ _ _ h => h) (Or.inl ⟨by rfl, ?_⟩) ?_ ?_
         rotate_left
         ·intro w'
          go_simp
          with_reducible rfl
         rotate_left
         ·simp only [Act.put, List.setIfInBounds_toArray, List.set_cons_zero, List.set_cons_succ, i64_w, i32_w]
          rfl
         refine pure_ (i := 3) (N := some 55) (v := ?_) (a' := ?_) #[true, true, true, true, false, false, false, false, false, false, false, false, false, false, false, false, false, false, false, false] rfl rfl (any_of HT_.out (by kernel_rfl)) (fun _ _ _ h => h) (Or.inl ⟨by rfl, ?_⟩) ?_ ?_
         rotate_left
         ·intro w'
          go_simp
          with_reducible rfl
         rotate_left
         ·simp only [Act.put, List.setIfInBounds_toArray, List.set_cons_zero, List.set_cons_succ, i64_w, i32_w]
          rfl
         refine pure_ (i := 4) (N := some 56) (v := ?_) (a' := ?_) #[true, true, true, true, true, false, false, false, false, false, false, false, false, false, false, false, false, false, false, false] rfl rfl (any_of HT_.out (by kernel_rfl)) (fun _ _ _ h => h) (Or.inl ⟨by rfl, ?_⟩) ?_ ?_
         rotate_left
         ·intro w'
          go_simp
          with_reducible rfl
         rotate_left
         ·simp only [Act.put, List.setIfInBounds_toArray, List.set_cons_zero, List.set_cons_succ, i64_w, i32_w]
          rfl
         refine pure_ (i := 5) (N := some 57) (v := ?_) (a' := ?_) #[true, true, true, true, true, true, false, false, false, false, false, false, false, false, false, false, false, false, false, false] rfl rfl (any_of HT_.out (by kernel_rfl)) (fun _ _ _ h => h) (Or.inl ⟨by rfl, ?_⟩) ?_ ?_
         rotate_left
         ·intro w'
          go_simp
          with_reducible rfl
         rotate_left
         ·simp only [Act.put, List.setIfInBounds_toArray, List.set_cons_zero, List.set_cons_succ, i64_w, i32_w]
          rfl
         refine pure_ (i := 8) (N := some 60) (v := ?_) (a' := ?_) #[true, true, true, true, true, true, false, false, true, false, false, false, false, false, false, false, false, false, false, false] rfl rfl (any_of HT_.out (by kernel_rfl)) (fun _ _ _ h => h) (Or.inl ⟨by rfl, ?_⟩) ?_ ?_
         rotate_left
         ·intro w'
          go_simp
          with_reducible rfl
         rotate_left
         ·simp only [Act.put, List.setIfInBounds_toArray, List.set_cons_zero, List.set_cons_succ, i64_w, i32_w]
          rfl
         refine take_ (i := 6) (N := some 58) (v := ?_) (a' := ?_) #[true, true, true, true, true, true, true, false, true, false, false, false, false, false, false, false, false, false, false, false] rfl rfl (take_ofW HT_.out HW_.out (by kernel_rfl)) (fun _ _ _ h => h) (Or.inl ⟨by rfl, ?_⟩) hHeld ?_ ?_
         rotate_left
         ·rintro w' ⟨s0, s1, s2, s3, s4, s5⟩
          go_simp
          with_reducible rfl
         rotate_left
         ·simp only [Act.put, List.setIfInBounds_toArray, List.set_cons_zero, List.set_cons_succ, i64_w, i32_w]
          rfl
         refine pure_ (i := 7) (N := some 59) (v := ?_) (a' := ?_) #[true, true, true, true, true, true, true, true, true, false, false, false, false, false, false, false, false, false, false, false] rfl rfl (any_of HT_.out (by kernel_rfl)) (fun _ _ _ h => h) (Or.inl ⟨by rfl, ?_⟩) ?_ ?_
         rotate_left
         ·intro w'
          go_simp
          with_reducible rfl
         rotate_left
         ·simp only [Act.put, List.setIfInBounds_toArray, List.set_cons_zero, List.set_cons_succ, i64_w, i32_w]
          rfl
         refine take_ (i := 9) (N := some 61) (v := ?_) (a' := ?_) #[true, true, true, true, true, true, true, true, true, true, false, false, false, false, false, false, false, false, false, false] rfl rfl (take_ofW HT_.out HW_.out (by kernel_rfl)) (fun _ _ _ h => h) (Or.inl ⟨by rfl, ?_⟩) hHeld ?_ ?_
         rotate_left
         ·rintro w' ⟨s0, s1, s2, s3, s4, s5⟩
          go_simp
          with_reducible rfl
         rotate_left
         ·simp only [Act.put, List.setIfInBounds_toArray, List.set_cons_zero, List.set_cons_succ, i64_w, i32_w]
          rfl
         refine pure_ (i := 10) (N := some 62) (v := ?_) (a' := ?_) #[true, true, true, true, true, true, true, true, true, true, true, false, false, false, false, false, false, false, false, false] rfl rfl (any_of HT_.out (by kernel_rfl)) (fun _ _ _ h => h) (Or.inl ⟨by rfl, ?_⟩) ?_ ?_
         rotate_left
         ·intro w'
          go_simp
          with_reducible rfl
         rotate_left
         ·simp only [Act.put, List.setIfInBounds_toArray, List.set_cons_zero, List.set_cons_succ, i64_w, i32_w]
          rfl
         refine pure_ (i := 11) (N := some 63) (v := ?_) (a' := ?_) #[true, true, true, true, true, true, true, true, true, true, true, true, false, false, false, false, false, false, false, false] rfl rfl (any_of HT_.out (by kernel_rfl)) (fun _ _ _ h => h) (Or.inl ⟨by rfl, ?_⟩) ?_ ?_
         rotate_left
         ·intro w'
          go_simp
          with_reducible rfl
         rotate_left
         ·simp only [Act.put, List.setIfInBounds_toArray, List.set_cons_zero, List.set_cons_succ, i64_w, i32_w]
          rfl
         refine pure_ (i := 12) (N := some 64) (v := ?_) (a' := ?_) #[true, true, true, true, true, true, true, true, true, true, true, true, true, false, false, false, false, false, false, false] rfl rfl (any_of HT_.out (by kernel_rfl)) (fun _ _ _ h => h) (Or.inl ⟨by rfl, ?_⟩) ?_ ?_
         rotate_left
         ·intro w'
          go_simp
          with_reducible rfl
         rotate_left
         ·simp only [Act.put, List.setIfInBounds_toArray, List.set_cons_zero, List.set_cons_succ, i64_w, i32_w]
          rfl
         refine pure_ (i := 13) (N := some 65) (v := ?_) (a' := ?_) #[true, true, true, true, true, true, true, true, true, true, true, true, true, true, false, false, false, false, false, false] rfl rfl (any_of HT_.out (by kernel_rfl)) (fun _ _ _ h => h) (Or.inl ⟨by rfl, ?_⟩) ?_ ?_
         rotate_left
         ·intro w'
          go_simp
          with_reducible rfl
         rotate_left
         ·simp only [Act.put, List.setIfInBounds_toArray, List.set_cons_zero, List.set_cons_succ, i64_w, i32_w]
          rfl
         refine pure_ (i := 14) (N := some 66) (v := ?_) (a' := ?_) #[true, true, true, true, true, true, true, true, true, true, true, true, true, true, true, false, false, false, false, false] rfl rfl (any_of HT_.out (by kernel_rfl)) (fun _ _ _ h => h) (Or.inl ⟨by rfl, ?_⟩) ?_ ?_
         rotate_left
         ·intro w'
          go_simp
          with_reducible rfl
         rotate_left
         ·simp only [Act.put, List.setIfInBounds_toArray, List.set_cons_zero, List.set_cons_succ, i64_w, i32_w]
          rfl
         refine pure_ (i := 15) (N := some 67) (v := ?_) (a' := ?_) #[true, true, true, true, true, true, true, true, true, true, true, true, true, true, true, true, false, false, false, false] rfl rfl (any_of HT_.out (by kernel_rfl)) (fun _ _ _ h => h) (Or.inl ⟨by rfl, ?_⟩) ?_ ?_
         rotate_left
         ·intro w'
          go_simp
          with_reducible rfl
         rotate_left
         ·simp only [Act.put, List.setIfInBounds_toArray, List.set_cons_zero, List.set_cons_succ, i64_w, i32_w]
          rfl
         refine pure_ (i := 16) (N := some 68) (v := ?_) (a' := ?_) #[true, true, true, true, true, true, true, true, true, true, true, true, true, true, true, true, true, false, false, false] rfl rfl (any_of HT_.out (by kernel_rfl)) (fun _ _ _ h => h) (Or.inl ⟨by rfl, ?_⟩) ?_ ?_
         rotate_left
         ·intro w'
          go_simp
          with_reducible rfl
         rotate_left
         ·simp only [Act.put, List.setIfInBounds_toArray, List.set_cons_zero, List.set_cons_succ, i64_w, i32_w]
          rfl
         refine one_ (i := 17) (N := some 69) #[true, true, true, true, true, true, true, true, true, true, true, true, true, true, true, true, true, true, false, false] rfl rfl (one_of HT_.out (by kernel_rfl)) (by decide) (fun K hK => ?_)
         refine goes_ Tryd.func8 (by kernel_rfl) rfl #[] (by rfl) rfl rfl (by (try simp only [List.map_toArray, List.map_cons, List.map_nil]); first | done | rfl | (simp only [List.length_drop, List.length_take]; rfl)) ?_
         with_reducible refine (u9wakes.calls k  t409 _ ?side1 A53.out).mono ?_
         (case side1 => exact Glob.below HG.out (by repeat (first | (with_reducible first | exact HB.out | apply wA | apply pN | apply wD | refine wS ?_ GE401.out) | exact HB.out)))
         rintro e w61 ⟨rfl, hb⟩
         refine ⟨_, rfl, ?_⟩
         have n0_ := A0_.mk (bB (g := gb401) (o := .cells #[.int .i64 a0_0, .string a0_1, .bool false, .string a0_3, .int .i64 a0_4, .slice A0_5 l0_5.length c0_5] 24 (0, 0)) (by (with_reducible repeat (first | refine bN ?_ _ | refine bD ?_ | refine bA ?_ _)); exact BK401.out) hb)
         have n1_ := A0_.mk (wT (by repeat (first | (with_reducible first | exact HB.out | apply wA | apply pN | apply wD | refine wS ?_ GE401.out) | exact HB.out)) hb)
         clear BK401
         clear HB
         have BK401 := n0_
         have HB := n1_
         clear n0_ n1_
         (try clear hb)
         (try clear hb2)
         (try clear hk)
         (try clear hi)
         refine hK.out _ _ ⟨(bC BK401.out 0).trans rfl, (bC BK401.out 1).trans rfl, (bC BK401.out 2).trans rfl, (bC BK401.out 3).trans rfl, (bC BK401.out 4).trans rfl, (bC BK401.out 5).trans rfl⟩ (fun hHeld => ?_)
         clear hK K
         refine norm_ (a' := ?_) ?_ ?_
         rotate_left
         ·show Act.put _ (some 69) _ = _
          simp only [Act.put, List.setIfInBounds_toArray, List.set_cons_zero, List.set_cons_succ, i64_w, i32_w]
          rfl
         refine pure_ (i := 18) (N := some 70) (v := ?_) (a' := ?_) #[true, true, true, true, true, true, true, true, true, true, true, true, true, true, true, true, true, true, true, false] rfl rfl (any_of HT_.out (by kernel_rfl)) (fun _ _ _ h => h) (Or.inl ⟨by rfl, ?_⟩) ?_ ?_
         rotate_left
         ·intro w'
          go_simp
          with_reducible rfl
         rotate_left
         ·simp only [Act.put, List.setIfInBounds_toArray, List.set_cons_zero, List.set_cons_succ, i64_w, i32_w]
          rfl
         refine pure_ (i := 19) (N := some 2) (v := ?_) (a' := ?_) #[true, true, true, true, true, true, true, true, true, true, true, true, true, true, true, true, true, true, true, true] rfl rfl (any_of HT_.out (by kernel_rfl)) (fun _ _ _ h => h) (Or.inl ⟨by rfl, ?_⟩) ?_ ?_
         rotate_left
         ·intro w'
          go_simp
          with_reducible rfl
         rotate_left
         ·simp only [Act.put, List.setIfInBounds_toArray, List.set_cons_zero, List.set_cons_succ, i64_w, i32_w]
          rfl
         refine done_ (done_of HT_.out (by kernel_rfl)) ?_
         try go_wp2
         go_ret
         exact ⟨by first | rfl | (simp [errW_none, errW_some] <;> rfl) | (simp [*, errW_none, errW_some] <;> rfl), by repeat (first | (with_reducible first | exact HB.out | apply wA | apply pN | apply wD | refine wS ?_ GE401.out) | exact HB.out)⟩
        ·rw [if_neg c52] at H
         exact absurd H (by simp)
       ·rw [if_neg c51] at H
        exact absurd H (by simp)
      ·rw [if_neg c49] at H
       exact absurd H (by simp)
     ·rw [if_neg c48] at H
      exact absurd H (by simp)
   ·rw [if_neg c11] at H
    have c11b0 : (a0_0 == 3) = false := beq_eq_false_iff_ne.mpr c11
    have c11b1 : (a0_0 != 3) = true := bne_iff_ne.mpr c11
    by_cases c83 : a0_2 = true
    ·subst c83
     have H1 : (if (t404.size : Int) = (wrap64 ((wrap64 ((wrap64 (1 + (wrap64 (32 * (l0_5.length : Int))))) + (wrap64 (1 + (wrap64 (Int.tdiv (wrap64 ((a0_1.size : Int) + 1)) 2)))))) + (wrap64 (1 + (a0_3.size : Int))))) then (if 0 < (t404.size : Int) then (if (wrap64 (bt t404 0)) = a0_0 then (if (wrap64 ((wrap64 ((wrap64 (1 + (wrap64 (32 * (l0_5.length : Int))))) + (wrap64 (1 + (wrap64 (Int.tdiv (wrap64 ((a0_1.size : Int) + 1)) 2)))))) + (wrap64 (1 + (a0_3.size : Int))))) ≤ 533 then ((u9wakes.f k).bind fun t410 => (some t410)) else (none)) else (none)) else (none)) else (none)) = some r := by rw [if_pos rfl] at H; exact H
     clear H
     have H := H1
     clear H1
     by_cases c84 : (t404.size : Int) = (wrap64 ((wrap64 ((wrap64 (1 + (wrap64 (32 * (l0_5.length : Int))))) + (wrap64 (1 + (wrap64 (Int.tdiv (wrap64 ((a0_1.size : Int) + 1)) 2)))))) + (wrap64 (1 + (a0_3.size : Int)))))
     ·rw [if_pos c84] at H
      have c84b0 : ((t404.size : Int) == (wrap64 ((wrap64 ((wrap64 (1 + (wrap64 (32 * (l0_5.length : Int))))) + (wrap64 (1 + (wrap64 (Int.tdiv (wrap64 ((a0_1.size : Int) + 1)) 2)))))) + (wrap64 (1 + (a0_3.size : Int)))))) = true := beq_iff_eq.mpr c84
      have c84b1 : ((t404.size : Int) != (wrap64 ((wrap64 ((wrap64 (1 + (wrap64 (32 * (l0_5.length : Int))))) + (wrap64 (1 + (wrap64 (Int.tdiv (wrap64 ((a0_1.size : Int) + 1)) 2)))))) + (wrap64 (1 + (a0_3.size : Int)))))) = false := bne_eq_false_iff_eq.mpr c84
      clear c84
      by_cases c85 : 0 < (t404.size : Int)
      ·rw [if_pos c85] at H
       have c85b0 : decide (0 < (t404.size : Int)) = true := decide_eq_true c85
       have c85b1 : decide (0 < t404.size) = true := decide_eq_true (by omega)
       clear c85
       by_cases c87 : (wrap64 (bt t404 0)) = a0_0
       ·rw [if_pos c87] at H
        have c87b0 : ((wrap64 (bt t404 0)) == a0_0) = true := beq_iff_eq.mpr c87
        have c87b1 : ((wrap64 (bt t404 0)) != a0_0) = false := bne_eq_false_iff_eq.mpr c87
        clear c87
        by_cases c88 : (wrap64 ((wrap64 ((wrap64 (1 + (wrap64 (32 * (l0_5.length : Int))))) + (wrap64 (1 + (wrap64 (Int.tdiv (wrap64 ((a0_1.size : Int) + 1)) 2)))))) + (wrap64 (1 + (a0_3.size : Int))))) ≤ 533
        ·rw [if_pos c88] at H
         have c88b0 : decide ((wrap64 ((wrap64 ((wrap64 (1 + (wrap64 (32 * (l0_5.length : Int))))) + (wrap64 (1 + (wrap64 (Int.tdiv (wrap64 ((a0_1.size : Int) + 1)) 2)))))) + (wrap64 (1 + (a0_3.size : Int))))) ≤ 533) = true := decide_eq_true c88
         clear c88
         replace H := Option.bind_eq_some_iff.mp H
         obtain ⟨t410, A890, H⟩ := H
         replace H : (some t410) = some r := H
         have A89 := A0_.mk A890
         clear A890
         obtain rfl := Option.some.inj H
         go_enter Tryd.func5, Tryd.ntmps5
         try go_wp2_with (first | ((with_reducible refine gD (N := 1) rfl ?_); refine xE ?hg (N := 1) ?hd (cs := #[.int .i64 a0_0, .string a0_1, .bool true, .string a0_3, .int .i64 a0_4, .slice A0_5 l0_5.length c0_5]) (t := 24) ?hr ?_; (case hd => rfl); (case hg => rfl); (case hr => first | (go_simp; done) | (go_simp; rfl)); intro gb401 hg w90 hbox hb; have n0_ := A0_.mk (wT (by repeat (first | (with_reducible first | exact HB.out | apply wA | apply pN | apply wD) | exact HB.out)) hb); have n1_ := A0_.mk (hbox); have n2_ := A0_.mk ((by rw [hg]; exact (wZ (by repeat (first | (with_reducible first | exact HB.out | apply wA | apply pN | apply wD) | exact HB.out))) : w.heap.size ≤ gb401)); have n3_ := A0_.mk ((by rw [hg]; exact (wZ (by repeat (first | (with_reducible first | exact HB.out | apply wA | apply pN | apply wD) | exact HB.out))) : w.heap.size ≤ gb401)); clear HB; have HB := n0_; have BK401 := n1_; have GW401 := n2_; have GE401 := n3_; clear n0_ n1_ n2_ n3_; clear hb hbox hg; have hcz91_0 : w90.cell? ⟨gb401, 0, none⟩ = some (.int .i64 a0_0) := (bC BK401.out 0).trans rfl; have hcz91_1 : w90.cell? ⟨gb401, 1, none⟩ = some (.string a0_1) := (bC BK401.out 1).trans rfl; have hcz91_2 : w90.cell? ⟨gb401, 2, none⟩ = some (.bool true) := (bC BK401.out 2).trans rfl; have hcz91_3 : w90.cell? ⟨gb401, 3, none⟩ = some (.string a0_3) := (bC BK401.out 3).trans rfl; have hcz91_4 : w90.cell? ⟨gb401, 4, none⟩ = some (.int .i64 a0_4) := (bC BK401.out 4).trans rfl; have hcz91_5 : w90.cell? ⟨gb401, 5, none⟩ = some (.slice A0_5 l0_5.length c0_5) := (bC BK401.out 5).trans rfl; have hfz91_0 := bF BK401.out 0; have hfz91_1 := bF BK401.out 1; have hfz91_2 := bF BK401.out 2; have hfz91_3 := bF BK401.out 3; have hfz91_4 := bF BK401.out 4; have hfz91_5 := bF BK401.out 5) | ((with_reducible refine gC (f := 7) rfl ?_); refine gL (some 7) rfl rfl Tryd.func7 (by kernel_rfl) rfl #[.agg #[.int .i64 a0_0, .string a0_1, .bool true, .string a0_3, .int .i64 a0_4, .slice A0_5 l0_5.length c0_5]] rfl (by (try simp only [List.map_toArray, List.map_cons, List.map_nil]); first | done | rfl | (simp only [List.length_drop, List.length_take]; rfl)) ?_; (with_reducible refine (u9Long.calls k a0_0 a0_1 true a0_3 a0_4 _ _ l0_5 false _ ?side1 ?side2 A2.out).mono ?_); (case side1 => repeat (first | exact (Kd.C_below HR0_5.out HB.out) | (with_reducible refine Kd.C_alloc ?_ _) | (with_reducible refine Kd.C_drewN ?_ _) | (with_reducible refine Kd.C_drew ?_))); (case side2 => exact HC0_5.out); rintro e w92 ⟨rfl, hb⟩; refine ⟨_, rfl, ?_⟩; have n0_ := A0_.mk (bB (g := gb401) (o := .cells #[.int .i64 a0_0, .string a0_1, .bool true, .string a0_3, .int .i64 a0_4, .slice A0_5 l0_5.length c0_5] 24 (0, 0)) (by (with_reducible repeat (first | refine bN ?_ _ | refine bD ?_ | refine bA ?_ _)); exact BK401.out) hb); have n1_ := A0_.mk (wT (by repeat (first | (with_reducible first | exact HB.out | apply wA | apply pN | apply wD | refine wS ?_ GE401.out) | exact HB.out)) hb); clear BK401; clear HB; have BK401 := n0_; have HB := n1_; clear n0_ n1_; (try clear hb); (try clear hb2); (try clear hk); (try clear hi); have hcz93_0 : w92.cell? ⟨gb401, 0, none⟩ = some (.int .i64 a0_0) := (bC BK401.out 0).trans rfl; have hcz93_1 : w92.cell? ⟨gb401, 1, none⟩ = some (.string a0_1) := (bC BK401.out 1).trans rfl; have hcz93_2 : w92.cell? ⟨gb401, 2, none⟩ = some (.bool true) := (bC BK401.out 2).trans rfl; have hcz93_3 : w92.cell? ⟨gb401, 3, none⟩ = some (.string a0_3) := (bC BK401.out 3).trans rfl; have hcz93_4 : w92.cell? ⟨gb401, 4, none⟩ = some (.int .i64 a0_4) := (bC BK401.out 4).trans rfl; have hcz93_5 : w92.cell? ⟨gb401, 5, none⟩ = some (.slice A0_5 l0_5.length c0_5) := (bC BK401.out 5).trans rfl; have hfz93_0 := bF BK401.out 0; have hfz93_1 := bF BK401.out 1; have hfz93_2 := bF BK401.out 2; have hfz93_3 := bF BK401.out 3; have hfz93_4 := bF BK401.out 4; have hfz93_5 := bF BK401.out 5) | ((with_reducible refine gC (f := 9) rfl ?_); refine gL (some 11) rfl rfl Tryd.func9 (by kernel_rfl) rfl #[.agg #[.int .i64 a0_0, .string a0_1, .bool true, .string a0_3, .int .i64 a0_4, .slice A0_5 l0_5.length c0_5]] rfl (by (try simp only [List.map_toArray, List.map_cons, List.map_nil]); first | done | rfl | (simp only [List.length_drop, List.length_take]; rfl)) ?_; (with_reducible refine (node_Encode.calls k a0_0 a0_1 true a0_3 a0_4 _ _ l0_5 t404 true _ ?side1 ?side2 A9.out).mono ?_); (case side1 => repeat (first | exact (Kd.C_below HR0_5.out HB.out) | (with_reducible refine Kd.C_alloc ?_ _) | (with_reducible refine Kd.C_drewN ?_ _) | (with_reducible refine Kd.C_drew ?_))); (case side2 => exact HC0_5.out); rintro e w94 ⟨rfl, hb⟩; refine ⟨_, rfl, ?_⟩; have n0_ := A0_.mk (bB (g := gb401) (o := .cells #[.int .i64 a0_0, .string a0_1, .bool true, .string a0_3, .int .i64 a0_4, .slice A0_5 l0_5.length c0_5] 24 (0, 0)) (by (with_reducible repeat (first | refine bN ?_ _ | refine bD ?_ | refine bA ?_ _)); exact BK401.out) hb); have n1_ := A0_.mk (wT (by repeat (first | (with_reducible first | exact HB.out | apply wA | apply pN | apply wD | refine wS ?_ GE401.out) | exact HB.out)) hb); clear BK401; clear HB; have BK401 := n0_; have HB := n1_; clear n0_ n1_; (try clear hb); (try clear hb2); (try clear hk); (try clear hi); have hcz95_0 : w94.cell? ⟨gb401, 0, none⟩ = some (.int .i64 a0_0) := (bC BK401.out 0).trans rfl; have hcz95_1 : w94.cell? ⟨gb401, 1, none⟩ = some (.string a0_1) := (bC BK401.out 1).trans rfl; have hcz95_2 : w94.cell? ⟨gb401, 2, none⟩ = some (.bool true) := (bC BK401.out 2).trans rfl; have hcz95_3 : w94.cell? ⟨gb401, 3, none⟩ = some (.string a0_3) := (bC BK401.out 3).trans rfl; have hcz95_4 : w94.cell? ⟨gb401, 4, none⟩ = some (.int .i64 a0_4) := (bC BK401.out 4).trans rfl; have hcz95_5 : w94.cell? ⟨gb401, 5, none⟩ = some (.slice A0_5 l0_5.length c0_5) := (bC BK401.out 5).trans rfl; have hfz95_0 := bF BK401.out 0; have hfz95_1 := bF BK401.out 1; have hfz95_2 := bF BK401.out 2; have hfz95_3 := bF BK401.out 3; have hfz95_4 := bF BK401.out 4; have hfz95_5 := bF BK401.out 5))
         have n0_ := A0_.mk (bD BK401.out)
         have n1_ := A0_.mk (wD HB.out)
         clear BK401
         clear HB
         have BK401 := n0_
         have HB := n1_
         clear n0_ n1_
         have p86 : 0 ≤ (0 : Int) := (by omega)
         have q86 : 0 < t404.size := (by have : (0 : Int) < (t404.size : Int) := of_decide_eq_true (by first | (with_reducible assumption) | assumption); omega)
         have hx86 : ∀ h : 0 < t404.size, ((t404[0]'h).toNat : Int) = bt t404 0 := bt_at t404 0
         clear p86
         have qi86 : (0 < (t404.size : Int)) = True := eq_true (of_decide_eq_true (by first | (with_reducible assumption) | assumption))
         replace q86 := eq_true q86
         refine start_ (n := 20) (S := fun w' => w'.cell? ⟨gb401, 0, none⟩ = some (.int .i64 a0_0) ∧ w'.cell? ⟨gb401, 1, none⟩ = some (.string a0_1) ∧ w'.cell? ⟨gb401, 2, none⟩ = some (.bool true) ∧ w'.cell? ⟨gb401, 3, none⟩ = some (.string a0_3) ∧ w'.cell? ⟨gb401, 4, none⟩ = some (.int .i64 a0_4) ∧ w'.cell? ⟨gb401, 5, none⟩ = some (.slice A0_5 l0_5.length c0_5)) (ds := []) #[false, false, false, false, false, false, false, false, false, false, false, false, false, false, false, false, false, false, false, false] (by kernel_rfl) rfl rfl ⟨(bC BK401.out 0).trans rfl, (bC BK401.out 1).trans rfl, (bC BK401.out 2).trans rfl, (bC BK401.out 3).trans rfl, (bC BK401.out 4).trans rfl, (bC BK401.out 5).trans rfl⟩ (fun hHeld => ?_); refine with_tabW u9NodeForms.tab12 u9NodeForms.bits12 (fun HT_ HW_ => ?_)
         generalize w94.drew = w96 at BK401 HB hHeld ⊢
         refine pure_ (i := 0) (N := some 52) (v := ?_) (a' := ?_) #[true, false, false, false, false, false, false, false, false, false, false, false, false, false, false, false, false, false, false, false] rfl rfl (any_of HT_.out (by kernel_rfl)) (fun _ _ _ h => h) (Or.inl ⟨by rfl, ?_⟩) ?_ ?_
         rotate_left
         ·intro w'
          go_simp
          with_reducible rfl
         rotate_left
         ·simp only [Act.put, List.setIfInBounds_toArray, List.set_cons_zero, List.set_cons_succ, i64_w, i32_w]
          rfl
         refine pure_ (i := 1) (N := some 53) (v := ?_) (a' := ?_) #[true, true, false, false, false, false, false, false, false, false, false, false, false, false, false, false, false, false, false, false] rfl rfl (any_of HT_.out (by kernel_rfl)) (fun _ _ _ h => h) (Or.inl ⟨by rfl, ?_⟩) ?_ ?_
         rotate_left
         ·intro w'
          go_simp
          with_reducible rfl
         rotate_left
         ·simp only [Act.put, List.setIfInBounds_toArray, List.set_cons_zero, List.set_cons_succ, i64_w, i32_w]
          rfl
         refine pure_ (i := 2) (N := some 54) (v := ?_) (a' := ?_) #[true, true, true, false, false, false, false, false, false, false, false, false, false, false, false, false, false, false, false, false] rfl rfl (any_of HT_.out (by kernel_rfl)) (fun _ _ _ h => h) (Or.inl ⟨by rfl, ?_⟩) ?_ ?_
         rotate_left
         ·intro w'
          go_simp
          with_reducible rfl
         rotate_left
         ·simp only [Act.put, List.setIfInBounds_toArray, List.set_cons_zero, List.set_cons_succ, i64_w, i32_w]
          rfl
         refine pure_ (i := 3) (N := some 55) (v := ?_) (a' := ?_) #[true, true, true, true, false, false, false, false, false, false, false, false, false, false, false, false, false, false, false, false] rfl rfl (any_of HT_.out (by kernel_rfl)) (fun _ _ _ h => h) (Or.inl ⟨by rfl, ?_⟩) ?_ ?_
         rotate_left
         ·intro w'
          go_simp
          with_reducible rfl
         rotate_left
         ·simp only [Act.put, List.setIfInBounds_toArray, List.set_cons_zero, List.set_cons_succ, i64_w, i32_w]
          rfl
         refine pure_ (i := 4) (N := some 56) (v := ?_) (a' := ?_) #[true, true, true, true, true, false, false, false, false, false, false, false, false, false, false, false, false, false, false, false] rfl rfl (any_of HT_.out (by kernel_rfl)) (fun _ _ _ h => h) (Or.inl ⟨by rfl, ?_⟩) ?_ ?_
         rotate_left
         ·intro w'
          go_simp
          with_reducible rfl
         rotate_left
         ·simp only [Act.put, List.setIfInBounds_toArray, List.set_cons_zero, List.set_cons_succ, i64_w, i32_w]
          rfl
         refine pure_ (i := 5) (N := some 57) (v := ?_) (a' := ?_) #[true, true, true, true, true, true, false, false, false, false, false, false, false, false, false, false, false, false, false, false] rfl rfl (any_of HT_.out (by kernel_rfl)) (fun _ _ _ h => h) (Or.inl ⟨by rfl, ?_⟩) ?_ ?_
         rotate_left
         ·intro w'
          go_simp
          with_reducible rfl
         rotate_left
         ·simp only [Act.put, List.setIfInBounds_toArray, List.set_cons_zero, List.set_cons_succ, i64_w, i32_w]
          rfl
         refine pure_ (i := 8) (N := some 60) (v := ?_) (a' := ?_) #[true, true, true, true, true, true, false, false, true, false, false, false, false, false, false, false, false, false, false, false] rfl rfl (any_of HT_.out (by kernel_rfl)) (fun _ _ _ h => h) (Or.inl ⟨by rfl, ?_⟩) ?_ ?_
         rotate_left
         ·intro w'
          go_simp
          with_reducible rfl
         rotate_left
         ·simp only [Act.put, List.setIfInBounds_toArray, List.set_cons_zero, List.set_cons_succ, i64_w, i32_w]
          rfl
         refine take_ (i := 6) (N := some 58) (v := ?_) (a' := ?_) #[true, true, true, true, true, true, true, false, true, false, false, false, false, false, false, false, false, false, false, false] rfl rfl (take_ofW HT_.out HW_.out (by kernel_rfl)) (fun _ _ _ h => h) (Or.inl ⟨by rfl, ?_⟩) hHeld ?_ ?_
         rotate_left
         ·rintro w' ⟨s0, s1, s2, s3, s4, s5⟩
          go_simp
          with_reducible rfl
         rotate_left
         ·simp only [Act.put, List.setIfInBounds_toArray, List.set_cons_zero, List.set_cons_succ, i64_w, i32_w]
          rfl
         refine pure_ (i := 7) (N := some 59) (v := ?_) (a' := ?_) #[true, true, true, true, true, true, true, true, true, false, false, false, false, false, false, false, false, false, false, false] rfl rfl (any_of HT_.out (by kernel_rfl)) (fun _ _ _ h => h) (Or.inl ⟨by rfl, ?_⟩) ?_ ?_
         rotate_left
         ·intro w'
          go_simp
          with_reducible rfl
         rotate_left
         ·simp only [Act.put, List.setIfInBounds_toArray, List.set_cons_zero, List.set_cons_succ, i64_w, i32_w]
          rfl
         refine take_ (i := 9) (N := some 61) (v := ?_) (a' := ?_) #[true, true, true, true, true, true, true, true, true, true, false, false, false, false, false, false, false, false, false, false] rfl rfl (take_ofW HT_.out HW_.out (by kernel_rfl)) (fun _ _ _ h => h) (Or.inl ⟨by rfl, ?_⟩) hHeld ?_ ?_
         rotate_left
         ·rintro w' ⟨s0, s1, s2, s3, s4, s5⟩
          go_simp
          with_reducible rfl
         rotate_left
         ·simp only [Act.put, List.setIfInBounds_toArray, List.set_cons_zero, List.set_cons_succ, i64_w, i32_w]
          rfl
         refine pure_ (i := 10) (N := some 62) (v := ?_) (a' := ?_) #[true, true, true, true, true, true, true, true, true, true, true, false, false, false, false, false, false, false, false, false] rfl rfl (any_of HT_.out (by kernel_rfl)) (fun _ _ _ h => h) (Or.inl ⟨by rfl, ?_⟩) ?_ ?_
         rotate_left
         ·intro w'
          go_simp
          with_reducible rfl
         rotate_left
         ·simp only [Act.put, List.setIfInBounds_toArray, List.set_cons_zero, List.set_cons_succ, i64_w, i32_w]
          rfl
         refine pure_ (i := 11) (N := some 63) (v := ?_) (a' := ?_) #[true, true, true, true, true, true, true, true, true, true, true, true, false, false, false, false, false, false, false, false] rfl rfl (any_of HT_.out (by kernel_rfl)) (fun _ _ _ h => h) (Or.inl ⟨by rfl, ?_⟩) ?_ ?_
         rotate_left
         ·intro w'
          go_simp
          with_reducible rfl
         rotate_left
         ·simp only [Act.put, List.setIfInBounds_toArray, List.set_cons_zero, List.set_cons_succ, i64_w, i32_w]
          rfl
         refine pure_ (i := 12) (N := some 64) (v := ?_) (a' := ?_) #[true, true, true, true, true, true, true, true, true, true, true, true, true, false, false, false, false, false, false, false] rfl rfl (any_of HT_.out (by kernel_rfl)) (fun _ _ _ h => h) (Or.inl ⟨by rfl, ?_⟩) ?_ ?_
         rotate_left
         ·intro w'
          go_simp
          with_reducible rfl
         rotate_left
         ·simp only [Act.put, List.setIfInBounds_toArray, List.set_cons_zero, List.set_cons_succ, i64_w, i32_w]
          rfl
         refine pure_ (i := 13) (N := some 65) (v := ?_) (a' := ?_) #[true, true, true, true, true, true, true, true, true, true, true, true, true, true, false, false, false, false, false, false] rfl rfl (any_of HT_.out (by kernel_rfl)) (fun _ _ _ h => h) (Or.inl ⟨by rfl, ?_⟩) ?_ ?_
         rotate_left
         ·intro w'
          go_simp
          with_reducible rfl
         rotate_left
         ·simp only [Act.put, List.setIfInBounds_toArray, List.set_cons_zero, List.set_cons_succ, i64_w, i32_w]
          rfl
         refine pure_ (i := 14) (N := some 66) (v := ?_) (a' := ?_) #[true, true, true, true, true, true, true, true, true, true, true, true, true, true, true, false, false, false, false, false] rfl rfl (any_of HT_.out (by kernel_rfl)) (fun _ _ _ h => h) (Or.inl ⟨by rfl, ?_⟩) ?_ ?_
         rotate_left
         ·intro w'
          go_simp
          with_reducible rfl
         rotate_left
         ·simp only [Act.put, List.setIfInBounds_toArray, List.set_cons_zero, List.set_cons_succ, i64_w, i32_w]
          rfl
         refine pure_ (i := 15) (N := some 67) (v := ?_) (a' := ?_) #[true, true, true, true, true, true, true, true, true, true, true, true, true, true, true, true, false, false, false, false] rfl rfl (any_of HT_.out (by kernel_rfl)) (fun _ _ _ h => h) (Or.inl ⟨by rfl, ?_⟩) ?_ ?_
         rotate_left
         ·intro w'
          go_simp
          with_reducible rfl
         rotate_left
         ·simp only [Act.put, List.setIfInBounds_toArray, List.set_cons_zero, List.set_cons_succ, i64_w, i32_w]
          rfl
         refine pure_ (i := 16) (N := some 68) (v := ?_) (a' := ?_) #[true, true, true, true, true, true, true, true, true, true, true, true, true, true, true, true, true, false, false, false] rfl rfl (any_of HT_.out (by kernel_rfl)) (fun _ _ _ h => h) (Or.inl ⟨by rfl, ?_⟩) ?_ ?_
         rotate_left
         ·intro w'
          go_simp
          with_reducible rfl
         rotate_left
         ·simp only [Act.put, List.setIfInBounds_toArray, List.set_cons_zero, List.set_cons_succ, i64_w, i32_w]
          rfl
         refine one_ (i := 17) (N := some 69) #[true, true, true, true, true, true, true, true, true, true, true, true, true, true, true, true, true, true, false, false] rfl rfl (one_of HT_.out (by kernel_rfl)) (by decide) (fun K hK => ?_)
         refine goes_ Tryd.func8 (by kernel_rfl) rfl #[] (by rfl) rfl rfl (by (try simp only [List.map_toArray, List.map_cons, List.map_nil]); first | done | rfl | (simp only [List.length_drop, List.length_take]; rfl)) ?_
         with_reducible refine (u9wakes.calls k  t410 _ ?side1 A89.out).mono ?_
         (case side1 => exact Glob.below HG.out (by repeat (first | (with_reducible first | exact HB.out | apply wA | apply pN | apply wD | refine wS ?_ GE401.out) | exact HB.out)))
         rintro e w97 ⟨rfl, hb⟩
         refine ⟨_, rfl, ?_⟩
         have n0_ := A0_.mk (bB (g := gb401) (o := .cells #[.int .i64 a0_0, .string a0_1, .bool true, .string a0_3, .int .i64 a0_4, .slice A0_5 l0_5.length c0_5] 24 (0, 0)) (by (with_reducible repeat (first | refine bN ?_ _ | refine bD ?_ | refine bA ?_ _)); exact BK401.out) hb)
         have n1_ := A0_.mk (wT (by repeat (first | (with_reducible first | exact HB.out | apply wA | apply pN | apply wD | refine wS ?_ GE401.out) | exact HB.out)) hb)
         clear BK401
         clear HB
         have BK401 := n0_
         have HB := n1_
         clear n0_ n1_
         (try clear hb)
         (try clear hb2)
         (try clear hk)
         (try clear hi)
         refine hK.out _ _ ⟨(bC BK401.out 0).trans rfl, (bC BK401.out 1).trans rfl, (bC BK401.out 2).trans rfl, (bC BK401.out 3).trans rfl, (bC BK401.out 4).trans rfl, (bC BK401.out 5).trans rfl⟩ (fun hHeld => ?_)
         clear hK K
         refine norm_ (a' := ?_) ?_ ?_
         rotate_left
         ·show Act.put _ (some 69) _ = _
          simp only [Act.put, List.setIfInBounds_toArray, List.set_cons_zero, List.set_cons_succ, i64_w, i32_w]
          rfl
         refine pure_ (i := 18) (N := some 70) (v := ?_) (a' := ?_) #[true, true, true, true, true, true, true, true, true, true, true, true, true, true, true, true, true, true, true, false] rfl rfl (any_of HT_.out (by kernel_rfl)) (fun _ _ _ h => h) (Or.inl ⟨by rfl, ?_⟩) ?_ ?_
         rotate_left
         ·intro w'
          go_simp
          with_reducible rfl
         rotate_left
         ·simp only [Act.put, List.setIfInBounds_toArray, List.set_cons_zero, List.set_cons_succ, i64_w, i32_w]
          rfl
         refine pure_ (i := 19) (N := some 2) (v := ?_) (a' := ?_) #[true, true, true, true, true, true, true, true, true, true, true, true, true, true, true, true, true, true, true, true] rfl rfl (any_of HT_.out (by kernel_rfl)) (fun _ _ _ h => h) (Or.inl ⟨by rfl, ?_⟩) ?_ ?_
         rotate_left
         ·intro w'
          go_simp
          with_reducible rfl
         rotate_left
         ·simp only [Act.put, List.setIfInBounds_toArray, List.set_cons_zero, List.set_cons_succ, i64_w, i32_w]
          rfl
         refine done_ (done_of HT_.out (by kernel_rfl)) ?_
         try go_wp2
         go_ret
         exact ⟨by first | rfl | (simp [errW_none, errW_some] <;> rfl) | (simp [*, errW_none, errW_some] <;> rfl), by repeat (first | (with_reducible first | exact HB.out | apply wA | apply pN | apply wD | refine wS ?_ GE401.out) | exact HB.out)⟩
        ·rw [if_neg c88] at H
         exact absurd H (by simp)
       ·rw [if_neg c87] at H
        exact absurd H (by simp)
      ·rw [if_neg c85] at H
       exact absurd H (by simp)
     ·rw [if_neg c84] at H
      exact absurd H (by simp)
    ·replace c83 := Bool.eq_false_iff.mpr c83
     subst c83
     have H1 : (if (t404.size : Int) = (wrap64 ((wrap64 (1 + (wrap64 (32 * (l0_5.length : Int))))) + (wrap64 (1 + (wrap64 (Int.tdiv (wrap64 ((a0_1.size : Int) + 1)) 2)))))) then (if 0 < (t404.size : Int) then (if (wrap64 (bt t404 0)) = a0_0 then (if (wrap64 ((wrap64 (1 + (wrap64 (32 * (l0_5.length : Int))))) + (wrap64 (1 + (wrap64 (Int.tdiv (wrap64 ((a0_1.size : Int) + 1)) 2)))))) ≤ 533 then ((u9wakes.f k).bind fun t411 => (some t411)) else (none)) else (none)) else (none)) else (none)) = some r := by rw [if_neg (show ¬ (false = true) by decide)] at H; exact H
     clear H
     have H := H1
     clear H1
     by_cases c119 : (t404.size : Int) = (wrap64 ((wrap64 (1 + (wrap64 (32 * (l0_5.length : Int))))) + (wrap64 (1 + (wrap64 (Int.tdiv (wrap64 ((a0_1.size : Int) + 1)) 2))))))
     ·rw [if_pos c119] at H
      have c119b0 : ((t404.size : Int) == (wrap64 ((wrap64 (1 + (wrap64 (32 * (l0_5.length : Int))))) + (wrap64 (1 + (wrap64 (Int.tdiv (wrap64 ((a0_1.size : Int) + 1)) 2))))))) = true := beq_iff_eq.mpr c119
      have c119b1 : ((t404.size : Int) != (wrap64 ((wrap64 (1 + (wrap64 (32 * (l0_5.length : Int))))) + (wrap64 (1 + (wrap64 (Int.tdiv (wrap64 ((a0_1.size : Int) + 1)) 2))))))) = false := bne_eq_false_iff_eq.mpr c119
      clear c119
      by_cases c120 : 0 < (t404.size : Int)
      ·rw [if_pos c120] at H
       have c120b0 : decide (0 < (t404.size : Int)) = true := decide_eq_true c120
       have c120b1 : decide (0 < t404.size) = true := decide_eq_true (by omega)
       clear c120
       by_cases c122 : (wrap64 (bt t404 0)) = a0_0
       ·rw [if_pos c122] at H
        have c122b0 : ((wrap64 (bt t404 0)) == a0_0) = true := beq_iff_eq.mpr c122
        have c122b1 : ((wrap64 (bt t404 0)) != a0_0) = false := bne_eq_false_iff_eq.mpr c122
        clear c122
        by_cases c123 : (wrap64 ((wrap64 (1 + (wrap64 (32 * (l0_5.length : Int))))) + (wrap64 (1 + (wrap64 (Int.tdiv (wrap64 ((a0_1.size : Int) + 1)) 2)))))) ≤ 533
        ·rw [if_pos c123] at H
         have c123b0 : decide ((wrap64 ((wrap64 (1 + (wrap64 (32 * (l0_5.length : Int))))) + (wrap64 (1 + (wrap64 (Int.tdiv (wrap64 ((a0_1.size : Int) + 1)) 2)))))) ≤ 533) = true := decide_eq_true c123
         clear c123
         replace H := Option.bind_eq_some_iff.mp H
         obtain ⟨t411, A1240, H⟩ := H
         replace H : (some t411) = some r := H
         have A124 := A0_.mk A1240
         clear A1240
         obtain rfl := Option.some.inj H
         go_enter Tryd.func5, Tryd.ntmps5
         try go_wp2_with (first | ((with_reducible refine gD (N := 1) rfl ?_); refine xE ?hg (N := 1) ?hd (cs := #[.int .i64 a0_0, .string a0_1, .bool false, .string a0_3, .int .i64 a0_4, .slice A0_5 l0_5.length c0_5]) (t := 24) ?hr ?_; (case hd => rfl); (case hg => rfl); (case hr => first | (go_simp; done) | (go_simp; rfl)); intro gb401 hg w125 hbox hb; have n0_ := A0_.mk (wT (by repeat (first | (with_reducible first | exact HB.out | apply wA | apply pN | apply wD) | exact HB.out)) hb); have n1_ := A0_.mk (hbox); have n2_ := A0_.mk ((by rw [hg]; exact (wZ (by repeat (first | (with_reducible first | exact HB.out | apply wA | apply pN | apply wD) | exact HB.out))) : w.heap.size ≤ gb401)); have n3_ := A0_.mk ((by rw [hg]; exact (wZ (by repeat (first | (with_reducible first | exact HB.out | apply wA | apply pN | apply wD) | exact HB.out))) : w.heap.size ≤ gb401)); clear HB; have HB := n0_; have BK401 := n1_; have GW401 := n2_; have GE401 := n3_; clear n0_ n1_ n2_ n3_; clear hb hbox hg; have hcz126_0 : w125.cell? ⟨gb401, 0, none⟩ = some (.int .i64 a0_0) := (bC BK401.out 0).trans rfl; have hcz126_1 : w125.cell? ⟨gb401, 1, none⟩ = some (.string a0_1) := (bC BK401.out 1).trans rfl; have hcz126_2 : w125.cell? ⟨gb401, 2, none⟩ = some (.bool false) := (bC BK401.out 2).trans rfl; have hcz126_3 : w125.cell? ⟨gb401, 3, none⟩ = some (.string a0_3) := (bC BK401.out 3).trans rfl; have hcz126_4 : w125.cell? ⟨gb401, 4, none⟩ = some (.int .i64 a0_4) := (bC BK401.out 4).trans rfl; have hcz126_5 : w125.cell? ⟨gb401, 5, none⟩ = some (.slice A0_5 l0_5.length c0_5) := (bC BK401.out 5).trans rfl; have hfz126_0 := bF BK401.out 0; have hfz126_1 := bF BK401.out 1; have hfz126_2 := bF BK401.out 2; have hfz126_3 := bF BK401.out 3; have hfz126_4 := bF BK401.out 4; have hfz126_5 := bF BK401.out 5) | ((with_reducible refine gC (f := 7) rfl ?_); refine gL (some 7) rfl rfl Tryd.func7 (by kernel_rfl) rfl #[.agg #[.int .i64 a0_0, .string a0_1, .bool false, .string a0_3, .int .i64 a0_4, .slice A0_5 l0_5.length c0_5]] rfl (by (try simp only [List.map_toArray, List.map_cons, List.map_nil]); first | done | rfl | (simp only [List.length_drop, List.length_take]; rfl)) ?_; (with_reducible refine (u9Long.calls k a0_0 a0_1 false a0_3 a0_4 _ _ l0_5 false _ ?side1 ?side2 A2.out).mono ?_); (case side1 => repeat (first | exact (Kd.C_below HR0_5.out HB.out) | (with_reducible refine Kd.C_alloc ?_ _) | (with_reducible refine Kd.C_drewN ?_ _) | (with_reducible refine Kd.C_drew ?_))); (case side2 => exact HC0_5.out); rintro e w127 ⟨rfl, hb⟩; refine ⟨_, rfl, ?_⟩; have n0_ := A0_.mk (bB (g := gb401) (o := .cells #[.int .i64 a0_0, .string a0_1, .bool false, .string a0_3, .int .i64 a0_4, .slice A0_5 l0_5.length c0_5] 24 (0, 0)) (by (with_reducible repeat (first | refine bN ?_ _ | refine bD ?_ | refine bA ?_ _)); exact BK401.out) hb); have n1_ := A0_.mk (wT (by repeat (first | (with_reducible first | exact HB.out | apply wA | apply pN | apply wD | refine wS ?_ GE401.out) | exact HB.out)) hb); clear BK401; clear HB; have BK401 := n0_; have HB := n1_; clear n0_ n1_; (try clear hb); (try clear hb2); (try clear hk); (try clear hi); have hcz128_0 : w127.cell? ⟨gb401, 0, none⟩ = some (.int .i64 a0_0) := (bC BK401.out 0).trans rfl; have hcz128_1 : w127.cell? ⟨gb401, 1, none⟩ = some (.string a0_1) := (bC BK401.out 1).trans rfl; have hcz128_2 : w127.cell? ⟨gb401, 2, none⟩ = some (.bool false) := (bC BK401.out 2).trans rfl; have hcz128_3 : w127.cell? ⟨gb401, 3, none⟩ = some (.string a0_3) := (bC BK401.out 3).trans rfl; have hcz128_4 : w127.cell? ⟨gb401, 4, none⟩ = some (.int .i64 a0_4) := (bC BK401.out 4).trans rfl; have hcz128_5 : w127.cell? ⟨gb401, 5, none⟩ = some (.slice A0_5 l0_5.length c0_5) := (bC BK401.out 5).trans rfl; have hfz128_0 := bF BK401.out 0; have hfz128_1 := bF BK401.out 1; have hfz128_2 := bF BK401.out 2; have hfz128_3 := bF BK401.out 3; have hfz128_4 := bF BK401.out 4; have hfz128_5 := bF BK401.out 5) | ((with_reducible refine gC (f := 9) rfl ?_); refine gL (some 11) rfl rfl Tryd.func9 (by kernel_rfl) rfl #[.agg #[.int .i64 a0_0, .string a0_1, .bool false, .string a0_3, .int .i64 a0_4, .slice A0_5 l0_5.length c0_5]] rfl (by (try simp only [List.map_toArray, List.map_cons, List.map_nil]); first | done | rfl | (simp only [List.length_drop, List.length_take]; rfl)) ?_; (with_reducible refine (node_Encode.calls k a0_0 a0_1 false a0_3 a0_4 _ _ l0_5 t404 true _ ?side1 ?side2 A9.out).mono ?_); (case side1 => repeat (first | exact (Kd.C_below HR0_5.out HB.out) | (with_reducible refine Kd.C_alloc ?_ _) | (with_reducible refine Kd.C_drewN ?_ _) | (with_reducible refine Kd.C_drew ?_))); (case side2 => exact HC0_5.out); rintro e w129 ⟨rfl, hb⟩; refine ⟨_, rfl, ?_⟩; have n0_ := A0_.mk (bB (g := gb401) (o := .cells #[.int .i64 a0_0, .string a0_1, .bool false, .string a0_3, .int .i64 a0_4, .slice A0_5 l0_5.length c0_5] 24 (0, 0)) (by (with_reducible repeat (first | refine bN ?_ _ | refine bD ?_ | refine bA ?_ _)); exact BK401.out) hb); have n1_ := A0_.mk (wT (by repeat (first | (with_reducible first | exact HB.out | apply wA | apply pN | apply wD | refine wS ?_ GE401.out) | exact HB.out)) hb); clear BK401; clear HB; have BK401 := n0_; have HB := n1_; clear n0_ n1_; (try clear hb); (try clear hb2); (try clear hk); (try clear hi); have hcz130_0 : w129.cell? ⟨gb401, 0, none⟩ = some (.int .i64 a0_0) := (bC BK401.out 0).trans rfl; have hcz130_1 : w129.cell? ⟨gb401, 1, none⟩ = some (.string a0_1) := (bC BK401.out 1).trans rfl; have hcz130_2 : w129.cell? ⟨gb401, 2, none⟩ = some (.bool false) := (bC BK401.out 2).trans rfl; have hcz130_3 : w129.cell? ⟨gb401, 3, none⟩ = some (.string a0_3) := (bC BK401.out 3).trans rfl; have hcz130_4 : w129.cell? ⟨gb401, 4, none⟩ = some (.int .i64 a0_4) := (bC BK401.out 4).trans rfl; have hcz130_5 : w129.cell? ⟨gb401, 5, none⟩ = some (.slice A0_5 l0_5.length c0_5) := (bC BK401.out 5).trans rfl; have hfz130_0 := bF BK401.out 0; have hfz130_1 := bF BK401.out 1; have hfz130_2 := bF BK401.out 2; have hfz130_3 := bF BK401.out 3; have hfz130_4 := bF BK401.out 4; have hfz130_5 := bF BK401.out 5))
         have n0_ := A0_.mk (bD BK401.out)
         have n1_ := A0_.mk (wD HB.out)
         clear BK401
         clear HB
         have BK401 := n0_
         have HB := n1_
         clear n0_ n1_
         have p121 : 0 ≤ (0 : Int) := (by omega)
         have q121 : 0 < t404.size := (by have : (0 : Int) < (t404.size : Int) := of_decide_eq_true (by first | (with_reducible assumption) | assumption); omega)
         have hx121 : ∀ h : 0 < t404.size, ((t404[0]'h).toNat : Int) = bt t404 0 := bt_at t404 0
         clear p121
         have qi121 : (0 < (t404.size : Int)) = True := eq_true (of_decide_eq_true (by first | (with_reducible assumption) | assumption))
         replace q121 := eq_true q121
         refine start_ (n := 20) (S := fun w' => w'.cell? ⟨gb401, 0, none⟩ = some (.int .i64 a0_0) ∧ w'.cell? ⟨gb401, 1, none⟩ = some (.string a0_1) ∧ w'.cell? ⟨gb401, 2, none⟩ = some (.bool false) ∧ w'.cell? ⟨gb401, 3, none⟩ = some (.string a0_3) ∧ w'.cell? ⟨gb401, 4, none⟩ = some (.int .i64 a0_4) ∧ w'.cell? ⟨gb401, 5, none⟩ = some (.slice A0_5 l0_5.length c0_5)) (ds := []) #[false, false, false, false, false, false, false, false, false, false, false, false, false, false, false, false, false, false, false, false] (by kernel_rfl) rfl rfl ⟨(bC BK401.out 0).trans rfl, (bC BK401.out 1).trans rfl, (bC BK401.out 2).trans rfl, (bC BK401.out 3).trans rfl, (bC BK401.out 4).trans rfl, (bC BK401.out 5).trans rfl⟩ (fun hHeld => ?_); refine with_tabW u9NodeForms.tab12 u9NodeForms.bits12 (fun HT_ HW_ => ?_)
         generalize w129.drew = w131 at BK401 HB hHeld ⊢
         refine pure_ (i := 0) (N := some 52) (v := ?_) (a' := ?_) #[true, false, false, false, false, false, false, false, false, false, false, false, false, false, false, false, false, false, false, false] rfl rfl (any_of HT_.out (by kernel_rfl)) (fun _ _ _ h => h) (Or.inl ⟨by rfl, ?_⟩) ?_ ?_
         rotate_left
         ·intro w'
          go_simp
          with_reducible rfl
         rotate_left
         ·simp only [Act.put, List.setIfInBounds_toArray, List.set_cons_zero, List.set_cons_succ, i64_w, i32_w]
          rfl
         refine pure_ (i := 1) (N := some 53) (v := ?_) (a' := ?_) #[true, true, false, false, false, false, false, false, false, false, false, false, false, false, false, false, false, false, false, false] rfl rfl (any_of HT_.out (by kernel_rfl)) (fun _ _ _ h => h) (Or.inl ⟨by rfl, ?_⟩) ?_ ?_
         rotate_left
         ·intro w'
          go_simp
          with_reducible rfl
         rotate_left
         ·simp only [Act.put, List.setIfInBounds_toArray, List.set_cons_zero, List.set_cons_succ, i64_w, i32_w]
          rfl
         refine pure_ (i := 2) (N := some 54) (v := ?_) (a' := ?_) #[true, true, true, false, false, false, false, false, false, false, false, false, false, false, false, false, false, false, false, false] rfl rfl (any_of HT_.out (by kernel_rfl)) (fun _ _ _ h => h) (Or.inl ⟨by rfl, ?_⟩) ?_ ?_
         rotate_left
         ·intro w'
          go_simp
          with_reducible rfl
         rotate_left
         ·simp only [Act.put, List.setIfInBounds_toArray, List.set_cons_zero, List.set_cons_succ, i64_w, i32_w]
          rfl
         refine pure_ (i := 3) (N := some 55) (v := ?_) (a' := ?_) #[true, true, true, true, false, false, false, false, false, false, false, false, false, false, false, false, false, false, false, false] rfl rfl (any_of HT_.out (by kernel_rfl)) (fun _ _ _ h => h) (Or.inl ⟨by rfl, ?_⟩) ?_ ?_
         rotate_left
         ·intro w'
          go_simp
          with_reducible rfl
         rotate_left
         ·simp only [Act.put, List.setIfInBounds_toArray, List.set_cons_zero, List.set_cons_succ, i64_w, i32_w]
          rfl
         refine pure_ (i := 4) (N := some 56) (v := ?_) (a' := ?_) #[true, true, true, true, true, false, false, false, false, false, false, false, false, false, false, false, false, false, false, false] rfl rfl (any_of HT_.out (by kernel_rfl)) (fun _ _ _ h => h) (Or.inl ⟨by rfl, ?_⟩) ?_ ?_
         rotate_left
         ·intro w'
          go_simp
          with_reducible rfl
         rotate_left
         ·simp only [Act.put, List.setIfInBounds_toArray, List.set_cons_zero, List.set_cons_succ, i64_w, i32_w]
          rfl
         refine pure_ (i := 5) (N := some 57) (v := ?_) (a' := ?_) #[true, true, true, true, true, true, false, false, false, false, false, false, false, false, false, false, false, false, false, false] rfl rfl (any_of HT_.out (by kernel_rfl)) (fun _ _ _ h => h) (Or.inl ⟨by rfl, ?_⟩) ?_ ?_
         rotate_left
         ·intro w'
          go_simp
          with_reducible rfl
         rotate_left
         ·simp only [Act.put, List.setIfInBounds_toArray, List.set_cons_zero, List.set_cons_succ, i64_w, i32_w]
          rfl
         refine pure_ (i := 8) (N := some 60) (v := ?_) (a' := ?_) #[true, true, true, true, true, true, false, false, true, false, false, false, false, false, false, false, false, false, false, false] rfl rfl (any_of HT_.out (by kernel_rfl)) (fun _ _ _ h => h) (Or.inl ⟨by rfl, ?_⟩) ?_ ?_
         rotate_left
         ·intro w'
          go_simp
          with_reducible rfl
         rotate_left
         ·simp only [Act.put, List.setIfInBounds_toArray, List.set_cons_zero, List.set_cons_succ, i64_w, i32_w]
          rfl
         refine take_ (i := 6) (N := some 58) (v := ?_) (a' := ?_) #[true, true, true, true, true, true, true, false, true, false, false, false, false, false, false, false, false, false, false, false] rfl rfl (take_ofW HT_.out HW_.out (by kernel_rfl)) (fun _ _ _ h => h) (Or.inl ⟨by rfl, ?_⟩) hHeld ?_ ?_
         rotate_left
         ·rintro w' ⟨s0, s1, s2, s3, s4, s5⟩
          go_simp
          with_reducible rfl
         rotate_left
         ·simp only [Act.put, List.setIfInBounds_toArray, List.set_cons_zero, List.set_cons_succ, i64_w, i32_w]
          rfl
         refine pure_ (i := 7) (N := some 59) (v := ?_) (a' := ?_) #[true, true, true, true, true, true, true, true, true, false, false, false, false, false, false, false, false, false, false, false] rfl rfl (any_of HT_.out (by kernel_rfl)) (fun _ _ _ h => h) (Or.inl ⟨by rfl, ?_⟩) ?_ ?_
         rotate_left
         ·intro w'
          go_simp
          with_reducible rfl
         rotate_left
         ·simp only [Act.put, List.setIfInBounds_toArray, List.set_cons_zero, List.set_cons_succ, i64_w, i32_w]
          rfl
         refine take_ (i := 9) (N := some 61) (v := ?_) (a' := ?_) #[true, true, true, true, true, true, true, true, true, true, false, false, false, false, false, false, false, false, false, false] rfl rfl (take_ofW HT_.out HW_.out (by kernel_rfl)) (fun _ _ _ h => h) (Or.inl ⟨by rfl, ?_⟩) hHeld ?_ ?_
         rotate_left
         ·rintro w' ⟨s0, s1, s2, s3, s4, s5⟩
          go_simp
          with_reducible rfl
         rotate_left
         ·simp only [Act.put, List.setIfInBounds_toArray, List.set_cons_zero, List.set_cons_succ, i64_w, i32_w]
          rfl
         refine pure_ (i := 10) (N := some 62) (v := ?_) (a' := ?_) #[true, true, true, true, true, true, true, true, true, true, true, false, false, false, false, false, false, false, false, false] rfl rfl (any_of HT_.out (by kernel_rfl)) (fun _ _ _ h => h) (Or.inl ⟨by rfl, ?_⟩) ?_ ?_
         rotate_left
         ·intro w'
          go_simp
          with_reducible rfl
         rotate_left
         ·simp only [Act.put, List.setIfInBounds_toArray, List.set_cons_zero, List.set_cons_succ, i64_w, i32_w]
          rfl
         refine pure_ (i := 11) (N := some 63) (v := ?_) (a' := ?_) #[true, true, true, true, true, true, true, true, true, true, true, true, false, false, false, false, false, false, false, false] rfl rfl (any_of HT_.out (by kernel_rfl)) (fun _ _ _ h => h) (Or.inl ⟨by rfl, ?_⟩) ?_ ?_
         rotate_left
         ·intro w'
          go_simp
          with_reducible rfl
         rotate_left
         ·simp only [Act.put, List.setIfInBounds_toArray, List.set_cons_zero, List.set_cons_succ, i64_w, i32_w]
          rfl
         refine pure_ (i := 12) (N := some 64) (v := ?_) (a' := ?_) #[true, true, true, true, true, true, true, true, true, true, true, true, true, false, false, false, false, false, false, false] rfl rfl (any_of HT_.out (by kernel_rfl)) (fun _ _ _ h => h) (Or.inl ⟨by rfl, ?_⟩) ?_ ?_
         rotate_left
         ·intro w'
          go_simp
          with_reducible rfl
         rotate_left
         ·simp only [Act.put, List.setIfInBounds_toArray, List.set_cons_zero, List.set_cons_succ, i64_w, i32_w]
          rfl
         refine pure_ (i := 13) (N := some 65) (v := ?_) (a' := ?_) #[true, true, true, true, true, true, true, true, true, true, true, true, true, true, false, false, false, false, false, false] rfl rfl (any_of HT_.out (by kernel_rfl)) (fun _ _ _ h => h) (Or.inl ⟨by rfl, ?_⟩) ?_ ?_
         rotate_left
         ·intro w'
          go_simp
          with_reducible rfl
         rotate_left
         ·simp only [Act.put, List.setIfInBounds_toArray, List.set_cons_zero, List.set_cons_succ, i64_w, i32_w]
          rfl
         refine pure_ (i := 14) (N := some 66) (v := ?_) (a' := ?_) #[true, true, true, true, true, true, true, true, true, true, true, true, true, true, true, false, false, false, false, false] rfl rfl (any_of HT_.out (by kernel_rfl)) (fun _ _ _ h => h) (Or.inl ⟨by rfl, ?_⟩) ?_ ?_
         rotate_left
         ·intro w'
          go_simp
          with_reducible rfl
         rotate_left
         ·simp only [Act.put, List.setIfInBounds_toArray, List.set_cons_zero, List.set_cons_succ, i64_w, i32_w]
          rfl
         refine pure_ (i := 15) (N := some 67) (v := ?_) (a' := ?_) #[true, true, true, true, true, true, true, true, true, true, true, true, true, true, true, true, false, false, false, false] rfl rfl (any_of HT_.out (by kernel_rfl)) (fun _ _ _ h => h) (Or.inl ⟨by rfl, ?_⟩) ?_ ?_
         rotate_left
         ·intro w'
          go_simp
          with_reducible rfl
         rotate_left
         ·simp only [Act.put, List.setIfInBounds_toArray, List.set_cons_zero, List.set_cons_succ, i64_w, i32_w]
          rfl
         refine pure_ (i := 16) (N := some 68) (v := ?_) (a' := ?_) #[true, true, true, true, true, true, true, true, true, true, true, true, true, true, true, true, true, false, false, false] rfl rfl (any_of HT_.out (by kernel_rfl)) (fun _ _ _ h => h) (Or.inl ⟨by rfl, ?_⟩) ?_ ?_
         rotate_left
         ·intro w'
          go_simp
          with_reducible rfl
         rotate_left
         ·simp only [Act.put, List.setIfInBounds_toArray, List.set_cons_zero, List.set_cons_succ, i64_w, i32_w]
          rfl
         refine one_ (i := 17) (N := some 69) #[true, true, true, true, true, true, true, true, true, true, true, true, true, true, true, true, true, true, false, false] rfl rfl (one_of HT_.out (by kernel_rfl)) (by decide) (fun K hK => ?_)
         refine goes_ Tryd.func8 (by kernel_rfl) rfl #[] (by rfl) rfl rfl (by (try simp only [List.map_toArray, List.map_cons, List.map_nil]); first | done | rfl | (simp only [List.length_drop, List.length_take]; rfl)) ?_
         with_reducible refine (u9wakes.calls k  t411 _ ?side1 A124.out).mono ?_
         (case side1 => exact Glob.below HG.out (by repeat (first | (with_reducible first | exact HB.out | apply wA | apply pN | apply wD | refine wS ?_ GE401.out) | exact HB.out)))
         rintro e w132 ⟨rfl, hb⟩
         refine ⟨_, rfl, ?_⟩
         have n0_ := A0_.mk (bB (g := gb401) (o := .cells #[.int .i64 a0_0, .string a0_1, .bool false, .string a0_3, .int .i64 a0_4, .slice A0_5 l0_5.length c0_5] 24 (0, 0)) (by (with_reducible repeat (first | refine bN ?_ _ | refine bD ?_ | refine bA ?_ _)); exact BK401.out) hb)
         have n1_ := A0_.mk (wT (by repeat (first | (with_reducible first | exact HB.out | apply wA | apply pN | apply wD | refine wS ?_ GE401.out) | exact HB.out)) hb)
         clear BK401
         clear HB
         have BK401 := n0_
         have HB := n1_
         clear n0_ n1_
         (try clear hb)
         (try clear hb2)
         (try clear hk)
         (try clear hi)
         refine hK.out _ _ ⟨(bC BK401.out 0).trans rfl, (bC BK401.out 1).trans rfl, (bC BK401.out 2).trans rfl, (bC BK401.out 3).trans rfl, (bC BK401.out 4).trans rfl, (bC BK401.out 5).trans rfl⟩ (fun hHeld => ?_)
         clear hK K
         refine norm_ (a' := ?_) ?_ ?_
         rotate_left
         ·show Act.put _ (some 69) _ = _
          simp only [Act.put, List.setIfInBounds_toArray, List.set_cons_zero, List.set_cons_succ, i64_w, i32_w]
          rfl
         refine pure_ (i := 18) (N := some 70) (v := ?_) (a' := ?_) #[true, true, true, true, true, true, true, true, true, true, true, true, true, true, true, true, true, true, true, false] rfl rfl (any_of HT_.out (by kernel_rfl)) (fun _ _ _ h => h) (Or.inl ⟨by rfl, ?_⟩) ?_ ?_
         rotate_left
         ·intro w'
          go_simp
          with_reducible rfl
         rotate_left
         ·simp only [Act.put, List.setIfInBounds_toArray, List.set_cons_zero, List.set_cons_succ, i64_w, i32_w]
          rfl
         refine pure_ (i := 19) (N := some 2) (v := ?_) (a' := ?_) #[true, true, true, true, true, true, true, true, true, true, true, true, true, true, true, true, true, true, true, true] rfl rfl (any_of HT_.out (by kernel_rfl)) (fun _ _ _ h => h) (Or.inl ⟨by rfl, ?_⟩) ?_ ?_
         rotate_left
         ·intro w'
          go_simp
          with_reducible rfl
         rotate_left
         ·simp only [Act.put, List.setIfInBounds_toArray, List.set_cons_zero, List.set_cons_succ, i64_w, i32_w]
          rfl
         refine done_ (done_of HT_.out (by kernel_rfl)) ?_
         try go_wp2
         go_ret
         exact ⟨by first | rfl | (simp [errW_none, errW_some] <;> rfl) | (simp [*, errW_none, errW_some] <;> rfl), by repeat (first | (with_reducible first | exact HB.out | apply wA | apply pN | apply wD | refine wS ?_ GE401.out) | exact HB.out)⟩
        ·rw [if_neg c123] at H
         exact absurd H (by simp)
       ·rw [if_neg c122] at H
        exact absurd H (by simp)
      ·rw [if_neg c120] at H
       exact absurd H (by simp)
     ·rw [if_neg c119] at H
      exact absurd H (by simp)
  ·replace c10 := Bool.eq_false_iff.mpr c10
   subst c10
   have H1 : (if t404.toList = ([] : List UInt8) then ((node_Good.f k a0_0 a0_1 a0_2 a0_3 a0_4 l0_5).bind fun t406 => (if t406 = true then (none) else ((u9wakes.f k).bind fun t407 => (some t407)))) else (none)) = some r := by rw [if_neg (show ¬ (false = true) by decide)] at H; exact H
   clear H
   have H := H1
   clear H1
   by_cases c154 : t404.toList = ([] : List UInt8)
   ·rw [if_pos c154] at H
    have c154b0 : (t404.toList == ([] : List UInt8)) = true := beq_iff_eq.mpr c154
    have c154b1 : (t404.toList != ([] : List UInt8)) = false := bne_eq_false_iff_eq.mpr c154
    clear c154
    replace H := Option.bind_eq_some_iff.mp H
    obtain ⟨t406, A1550, H⟩ := H
    replace H : (if t406 = true then (none) else ((u9wakes.f k).bind fun t407 => (some t407))) = some r := H
    have A155 := A0_.mk A1550
    clear A1550
    by_cases c156 : t406 = true
    ·subst c156
     have H1 : (none) = some r := by rw [if_pos rfl] at H; exact H
     exact absurd H1 (by simp)
    ·replace c156 := Bool.eq_false_iff.mpr c156
     subst c156
     have H1 : ((u9wakes.f k).bind fun t407 => (some t407)) = some r := by rw [if_neg (show ¬ (false = true) by decide)] at H; exact H
     clear H
     have H := H1
     clear H1
     replace H := Option.bind_eq_some_iff.mp H
     obtain ⟨t407, A1640, H⟩ := H
     replace H : (some t407) = some r := H
     have A164 := A0_.mk A1640
     clear A1640
     obtain rfl := Option.some.inj H
     go_enter Tryd.func5, Tryd.ntmps5
     go_wp2_with (first | ((with_reducible refine gD (N := 1) rfl ?_); refine xE ?hg (N := 1) ?hd (cs := #[.int .i64 a0_0, .string a0_1, .bool a0_2, .string a0_3, .int .i64 a0_4, .slice A0_5 l0_5.length c0_5]) (t := 24) ?hr ?_; (case hd => rfl); (case hg => rfl); (case hr => first | (go_simp; done) | (go_simp; rfl)); intro gb401 hg w165 hbox hb; have n0_ := A0_.mk (wT (by repeat (first | (with_reducible first | exact HB.out | apply wA | apply pN | apply wD) | exact HB.out)) hb); have n1_ := A0_.mk (hbox); have n2_ := A0_.mk ((by rw [hg]; exact (wZ (by repeat (first | (with_reducible first | exact HB.out | apply wA | apply pN | apply wD) | exact HB.out))) : w.heap.size ≤ gb401)); have n3_ := A0_.mk ((by rw [hg]; exact (wZ (by repeat (first | (with_reducible first | exact HB.out | apply wA | apply pN | apply wD) | exact HB.out))) : w.heap.size ≤ gb401)); clear HB; have HB := n0_; have BK401 := n1_; have GW401 := n2_; have GE401 := n3_; clear n0_ n1_ n2_ n3_; clear hb hbox hg; have hcz166_0 : w165.cell? ⟨gb401, 0, none⟩ = some (.int .i64 a0_0) := (bC BK401.out 0).trans rfl; have hcz166_1 : w165.cell? ⟨gb401, 1, none⟩ = some (.string a0_1) := (bC BK401.out 1).trans rfl; have hcz166_2 : w165.cell? ⟨gb401, 2, none⟩ = some (.bool a0_2) := (bC BK401.out 2).trans rfl; have hcz166_3 : w165.cell? ⟨gb401, 3, none⟩ = some (.string a0_3) := (bC BK401.out 3).trans rfl; have hcz166_4 : w165.cell? ⟨gb401, 4, none⟩ = some (.int .i64 a0_4) := (bC BK401.out 4).trans rfl; have hcz166_5 : w165.cell? ⟨gb401, 5, none⟩ = some (.slice A0_5 l0_5.length c0_5) := (bC BK401.out 5).trans rfl; have hfz166_0 := bF BK401.out 0; have hfz166_1 := bF BK401.out 1; have hfz166_2 := bF BK401.out 2; have hfz166_3 := bF BK401.out 3; have hfz166_4 := bF BK401.out 4; have hfz166_5 := bF BK401.out 5) | ((with_reducible refine gC (f := 7) rfl ?_); refine gL (some 7) rfl rfl Tryd.func7 (by kernel_rfl) rfl #[.agg #[.int .i64 a0_0, .string a0_1, .bool a0_2, .string a0_3, .int .i64 a0_4, .slice A0_5 l0_5.length c0_5]] rfl (by (try simp only [List.map_toArray, List.map_cons, List.map_nil]); first | done | rfl | (simp only [List.length_drop, List.length_take]; rfl)) ?_; (with_reducible refine (u9Long.calls k a0_0 a0_1 a0_2 a0_3 a0_4 _ _ l0_5 false _ ?side1 ?side2 A2.out).mono ?_); (case side1 => repeat (first | exact (Kd.C_below HR0_5.out HB.out) | (with_reducible refine Kd.C_alloc ?_ _) | (with_reducible refine Kd.C_drewN ?_ _) | (with_reducible refine Kd.C_drew ?_))); (case side2 => exact HC0_5.out); rintro e w167 ⟨rfl, hb⟩; refine ⟨_, rfl, ?_⟩; have n0_ := A0_.mk (bB (g := gb401) (o := .cells #[.int .i64 a0_0, .string a0_1, .bool a0_2, .string a0_3, .int .i64 a0_4, .slice A0_5 l0_5.length c0_5] 24 (0, 0)) (by (with_reducible repeat (first | refine bN ?_ _ | refine bD ?_ | refine bA ?_ _)); exact BK401.out) hb); have n1_ := A0_.mk (wT (by repeat (first | (with_reducible first | exact HB.out | apply wA | apply pN | apply wD | refine wS ?_ GE401.out) | exact HB.out)) hb); clear BK401; clear HB; have BK401 := n0_; have HB := n1_; clear n0_ n1_; (try clear hb); (try clear hb2); (try clear hk); (try clear hi); have hcz168_0 : w167.cell? ⟨gb401, 0, none⟩ = some (.int .i64 a0_0) := (bC BK401.out 0).trans rfl; have hcz168_1 : w167.cell? ⟨gb401, 1, none⟩ = some (.string a0_1) := (bC BK401.out 1).trans rfl; have hcz168_2 : w167.cell? ⟨gb401, 2, none⟩ = some (.bool a0_2) := (bC BK401.out 2).trans rfl; have hcz168_3 : w167.cell? ⟨gb401, 3, none⟩ = some (.string a0_3) := (bC BK401.out 3).trans rfl; have hcz168_4 : w167.cell? ⟨gb401, 4, none⟩ = some (.int .i64 a0_4) := (bC BK401.out 4).trans rfl; have hcz168_5 : w167.cell? ⟨gb401, 5, none⟩ = some (.slice A0_5 l0_5.length c0_5) := (bC BK401.out 5).trans rfl; have hfz168_0 := bF BK401.out 0; have hfz168_1 := bF BK401.out 1; have hfz168_2 := bF BK401.out 2; have hfz168_3 := bF BK401.out 3; have hfz168_4 := bF BK401.out 4; have hfz168_5 := bF BK401.out 5) | ((with_reducible refine gC (f := 9) rfl ?_); refine gL (some 11) rfl rfl Tryd.func9 (by kernel_rfl) rfl #[.agg #[.int .i64 a0_0, .string a0_1, .bool a0_2, .string a0_3, .int .i64 a0_4, .slice A0_5 l0_5.length c0_5]] rfl (by (try simp only [List.map_toArray, List.map_cons, List.map_nil]); first | done | rfl | (simp only [List.length_drop, List.length_take]; rfl)) ?_; (with_reducible refine (node_Encode.calls k a0_0 a0_1 a0_2 a0_3 a0_4 _ _ l0_5 t404 false _ ?side1 ?side2 A9.out).mono ?_); (case side1 => repeat (first | exact (Kd.C_below HR0_5.out HB.out) | (with_reducible refine Kd.C_alloc ?_ _) | (with_reducible refine Kd.C_drewN ?_ _) | (with_reducible refine Kd.C_drew ?_))); (case side2 => exact HC0_5.out); rintro e w169 ⟨rfl, hb⟩; refine ⟨_, rfl, ?_⟩; have n0_ := A0_.mk (bB (g := gb401) (o := .cells #[.int .i64 a0_0, .string a0_1, .bool a0_2, .string a0_3, .int .i64 a0_4, .slice A0_5 l0_5.length c0_5] 24 (0, 0)) (by (with_reducible repeat (first | refine bN ?_ _ | refine bD ?_ | refine bA ?_ _)); exact BK401.out) hb); have n1_ := A0_.mk (wT (by repeat (first | (with_reducible first | exact HB.out | apply wA | apply pN | apply wD | refine wS ?_ GE401.out) | exact HB.out)) hb); clear BK401; clear HB; have BK401 := n0_; have HB := n1_; clear n0_ n1_; (try clear hb); (try clear hb2); (try clear hk); (try clear hi); have hcz170_0 : w169.cell? ⟨gb401, 0, none⟩ = some (.int .i64 a0_0) := (bC BK401.out 0).trans rfl; have hcz170_1 : w169.cell? ⟨gb401, 1, none⟩ = some (.string a0_1) := (bC BK401.out 1).trans rfl; have hcz170_2 : w169.cell? ⟨gb401, 2, none⟩ = some (.bool a0_2) := (bC BK401.out 2).trans rfl; have hcz170_3 : w169.cell? ⟨gb401, 3, none⟩ = some (.string a0_3) := (bC BK401.out 3).trans rfl; have hcz170_4 : w169.cell? ⟨gb401, 4, none⟩ = some (.int .i64 a0_4) := (bC BK401.out 4).trans rfl; have hcz170_5 : w169.cell? ⟨gb401, 5, none⟩ = some (.slice A0_5 l0_5.length c0_5) := (bC BK401.out 5).trans rfl; have hfz170_0 := bF BK401.out 0; have hfz170_1 := bF BK401.out 1; have hfz170_2 := bF BK401.out 2; have hfz170_3 := bF BK401.out 3; have hfz170_4 := bF BK401.out 4; have hfz170_5 := bF BK401.out 5) | (go_at_call 13; (with_reducible refine (node_Good.calls k a0_0 a0_1 a0_2 a0_3 a0_4 _ _ l0_5 false _ ?side1 ?side2 A155.out).mono ?_); (case side1 => repeat (first | exact (Kd.C_below HR0_5.out HB.out) | (with_reducible refine Kd.C_alloc ?_ _) | (with_reducible refine Kd.C_drewN ?_ _) | (with_reducible refine Kd.C_drew ?_))); (case side2 => exact HC0_5.out); rintro e w171 ⟨rfl, hb⟩; have n0_ := A0_.mk (bB (g := gb401) (o := .cells #[.int .i64 a0_0, .string a0_1, .bool a0_2, .string a0_3, .int .i64 a0_4, .slice A0_5 l0_5.length c0_5] 24 (0, 0)) (by (with_reducible repeat (first | refine bN ?_ _ | refine bD ?_ | refine bA ?_ _)); exact BK401.out) hb); have n1_ := A0_.mk (wT (by repeat (first | (with_reducible first | exact HB.out | apply wA | apply pN | apply wD | refine wS ?_ GE401.out) | exact HB.out)) hb); clear BK401; clear HB; have BK401 := n0_; have HB := n1_; clear n0_ n1_; (try clear hb); (try clear hb2); (try clear hk); (try clear hi)) | (go_at_call 8; (with_reducible refine (u9wakes.calls k  t407 _ ?side1 A164.out).mono ?_); (case side1 => exact Glob.below HG.out (by repeat (first | (with_reducible first | exact HB.out | apply wA | apply pN | apply wD | refine wS ?_ GE401.out) | exact HB.out))); rintro e w172 ⟨rfl, hb⟩; have n0_ := A0_.mk (bB (g := gb401) (o := .cells #[.int .i64 a0_0, .string a0_1, .bool a0_2, .string a0_3, .int .i64 a0_4, .slice A0_5 l0_5.length c0_5] 24 (0, 0)) (by (with_reducible repeat (first | refine bN ?_ _ | refine bD ?_ | refine bA ?_ _)); exact BK401.out) hb); have n1_ := A0_.mk (wT (by repeat (first | (with_reducible first | exact HB.out | apply wA | apply pN | apply wD | refine wS ?_ GE401.out) | exact HB.out)) hb); clear BK401; clear HB; have BK401 := n0_; have HB := n1_; clear n0_ n1_; (try clear hb); (try clear hb2); (try clear hk); (try clear hi)))
     go_ret
     exact ⟨by first | rfl | (simp [errW_none, errW_some] <;> rfl) | (simp [*, errW_none, errW_some] <;> rfl), by repeat (first | (with_reducible first | exact HB.out | apply wA | apply pN | apply wD | refine wS ?_ GE401.out) | exact HB.out)⟩
   ·rw [if_neg c154] at H
    exact absurd H (by simp)

end Go.Proofs.YtklakmooaffjpaaDoor.PNod
