-- Written by a program of this session for this seat. Not trusted: Lean checks it.
import Derived.Test.YtklakmooaffjpaaDoorPNodx1
import Derived.Test.YtklakmooaffjpaaDoorPNodx4
import Derived.Test.YtklakmooaffjpaaDoorPNodx6
import Derived.Test.YtklakmooaffjpaaDoorPNodx8
import Derived.Test.YtklakmooaffjpaaDoorPNodx14
namespace Go.Proofs.YtklakmooaffjpaaDoor.PNod
open Go.RowKit Go.Proofs.YtklakmooaffjpaaDoorW.PrintWords Go.Proofs.YtklakmooaffjpaaDoorW.PrintLast Go.Proofs.YtklakmooaffjpaaDoorW.PrintMore
attribute [local go_sem] max2_int min2_int max_two min_two max_three min_three max_four min_four   -- for this text's walks alone
set_option linter.unusedVariables false
set_option linter.unusedSimpArgs false
open Go.Proofs.YtklakmooaffjpaaDoor.HW Go.Proofs.YtklakmooaffjpaaDoor.DgsB

/-! ### u9NodeUnlike: function 6 -/
mutual
def u9NodeUnlike.j0 : Nat → ByteArray → Int → Bool → Int → ByteArray → Bool → ByteArray → Int → List ByteArray → Option (Bool)
 | 0, _, _, _, _, _, _, _, _, _ => none
 | k + 1, x1, x2, x18, x413000, x413001, x413002, x413003, x413004, x413005 => if x18 = true then ((u9wakes.f k).bind fun t414 => (some t414)) else ((some (([] : List ByteArray) : List ByteArray)).bind fun y415 => (if y415.length + x413005.length < 8796093022208 then ((some (y415 ++ x413005 : List ByteArray)).bind fun y418 => (if (Int.tmod x2 3) = 0 then (u9NodeUnlike.j1 k x413000 x413001 x413002 x413003 x413004 x413005 x413000 x413001 x413002 x1 x413004 y418) else (if (Int.tmod x2 3) = 1 then (if (y418.length : Int) > 0 then ((u9Hash.f k x2).bind fun t422 => (if 0 < (y418.length : Int) then (u9NodeUnlike.j1 k x413000 x413001 x413002 x413003 x413004 x413005 x413000 x413001 x413002 x413003 x413004 (y418.set (0 : Int).toNat t422)) else (none))) else (if x413001.size + 1 ≤ 9223372036854775807 then (u9NodeUnlike.j1 k x413000 x413001 x413002 x413003 x413004 x413005 x413000 (x413001 ++ (⟨#[1]⟩ : ByteArray)) x413002 x413003 x413004 y418) else (none))) else (if x413001.size + 1 ≤ 9223372036854775807 then (u9NodeUnlike.j1 k x413000 x413001 x413002 x413003 x413004 x413005 x413000 (x413001 ++ (⟨#[1]⟩ : ByteArray)) x413002 x413003 x413004 y418) else (none))))) else (none)))
def u9NodeUnlike.j1 : Nat → Int → ByteArray → Bool → ByteArray → Int → List ByteArray → Int → ByteArray → Bool → ByteArray → Int → List ByteArray → Option (Bool)
 | 0, _, _, _, _, _, _, _, _, _, _, _, _ => none
 | k + 1, x413000, x413001, x413002, x413003, x413004, x413005, x422000, x422001, x422002, x422003, x422004, x422005 => (node_Encode.f k x413000 x413001 x413002 x413003 x413004 x413005).bind fun bt424 => ((node_Encode.f k x422000 x422001 x422002 x422003 x422004 x422005).bind fun bt426 => (if bt424.2 = true then (if bt426.2 = true then ((k9Item.f k x413000 x413001 x413002 x413003 x413004 x413005 x422000 x422001 x422002 x422003 x422004 x422005).bind fun t428 => (if ((bt424.1.toList == bt426.1.toList) == t428) = true then ((r9Good.f k x413000 x413001 x413002 x413003 x413004 x413005).bind fun t429 => (if (bt424.2 == t429) = true then ((r9Good.f k x422000 x422001 x422002 x422003 x422004 x422005).bind fun t430 => (if (bt426.2 == t430) = true then ((u9wakes.f k).bind fun t431 => (some t431)) else (none))) else (none))) else (none))) else ((r9Good.f k x413000 x413001 x413002 x413003 x413004 x413005).bind fun t432 => (if (bt424.2 == t432) = true then ((r9Good.f k x422000 x422001 x422002 x422003 x422004 x422005).bind fun t433 => (if (bt426.2 == t433) = true then ((u9wakes.f k).bind fun t434 => (some t434)) else (none))) else (none)))) else ((r9Good.f k x413000 x413001 x413002 x413003 x413004 x413005).bind fun t435 => (if (bt424.2 == t435) = true then ((r9Good.f k x422000 x422001 x422002 x422003 x422004 x422005).bind fun t436 => (if (bt426.2 == t436) = true then ((u9wakes.f k).bind fun t437 => (some t437)) else (none))) else (none)))))
end
def u9NodeUnlike.f (k : Nat) (a0_0 : Int) (a0_1 : ByteArray) (a0_2 : Bool) (a0_3 : ByteArray) (a0_4 : Int) (l0_5 : List ByteArray) (a1 : ByteArray) (a2 : Int) : Option (Bool) := (u9Long.f k a0_0 a0_1 a0_2 a0_3 a0_4 l0_5).bind fun t413 => (if t413 = true then (u9NodeUnlike.j0 k a1 a2 true a0_0 a0_1 a0_2 a0_3 a0_4 l0_5) else (u9NodeUnlike.j0 k a1 a2 (decide ((a1.size : Int) > 100)) a0_0 a0_1 a0_2 a0_3 a0_4 l0_5))
def u9NodeUnlike.T3 : Bool × List (List Nat × List Nat) := (true, [([], []), ([0], [0]), ([], []), ([2], [2]), ([], []), ([4], [4]), ([], []), ([6], [6]), ([], []), ([8], [8]), ([], []), ([], []), ([11], [11]), ([10, 12], [10, 12]), ([1, 3, 5, 7, 9, 13], [1, 3, 5, 7, 9, 13]), ([], []), ([15, 14, 13, 0, 1, 2, 3, 4, 5, 6, 7, 8, 9, 10, 11, 12, 13, 14, 15], [14, 15])])
def u9NodeUnlike.B3 : List Nat := [0, 1, 0, 4, 0, 16, 0, 64, 0, 256, 0, 0, 2048, 7168, 16383, 0, 65535]
theorem u9NodeUnlike.tab3 : rtab .any (opsOf Tryd.f6 3) = u9NodeUnlike.T3 := by kernel_rfl
theorem u9NodeUnlike.bits3 : waitsOk u9NodeUnlike.T3.2 u9NodeUnlike.B3 = true := by kernel_rfl
set_option maxHeartbeats 8000000 in
set_option maxRecDepth 100000 in
theorem u9NodeUnlike.calls (k : Nat) (a0_0 : Int) (a0_1 : ByteArray) (a0_2 : Bool) (a0_3 : ByteArray) (a0_4 : Int) (A0_5 : Option Addr) (c0_5 : Nat) (l0_5 : List ByteArray) (a1 : ByteArray) (a2 : Int) (r : Bool) (w : World) (hr0_5 : Kd.C Kd.string w A0_5 l0_5.length l0_5) (hc0_5 : l0_5.length ≤ c0_5) (hG : Glob w) (h : u9NodeUnlike.f k a0_0 a0_1 a0_2 a0_3 a0_4 l0_5 a1 a2 = some r) :
  Calls Tryd.prog 6 #[.agg #[.int .i64 a0_0, .string a0_1, .bool a0_2, .string a0_3, .int .i64 a0_4, .slice A0_5 l0_5.length c0_5], .string a1, .int .u8 a2] w fun e w' => e = .returned (.bool r) ∧ Below w.heap.size w w' := by
 have hu24 := Tryd.underlying24
 have HR0_5 := A0_.mk hr0_5
 have HC0_5 := A0_.mk hc0_5
 clear hr0_5 hc0_5
 have HG := A0_.mk hG
 clear hG
 have HB := A0_.mk (Below.refl w.heap.size w)
 have H : ((u9Long.f k a0_0 a0_1 a0_2 a0_3 a0_4 l0_5).bind fun t413 => (if t413 = true then (u9NodeUnlike.j0 k a1 a2 true a0_0 a0_1 a0_2 a0_3 a0_4 l0_5) else (u9NodeUnlike.j0 k a1 a2 (decide ((a1.size : Int) > 100)) a0_0 a0_1 a0_2 a0_3 a0_4 l0_5))) = some r := h
 clear h
 have HC4 := A0_.mk H
 clear H
 go_enter Tryd.func6, Tryd.ntmps6
 go_upto_region 1 with (first | ((with_reducible refine gD (N := 3) rfl ?_); (try (refine gG (by rfl) ?_; dsimp only)); refine xE ?hg (N := 3) ?hd (cs := #[.int .i64 a0_0, .string a0_1, .bool a0_2, .string a0_3, .int .i64 a0_4, .slice A0_5 l0_5.length c0_5]) (t := 24) ?hr ?_; (case hd => rfl); (case hg => rfl); (case hr => first | (go_simp; done) | (go_simp; rfl)); intro gb412 hg w5 hbox hb; have n0_ := A0_.mk (wT (by repeat (first | (with_reducible first | exact HB.out | apply wA | apply pN | apply wD) | exact HB.out)) hb); have n1_ := A0_.mk (hbox); have n2_ := A0_.mk ((by rw [hg]; exact (wZ (by repeat (first | (with_reducible first | exact HB.out | apply wA | apply pN | apply wD) | exact HB.out))) : w.heap.size ≤ gb412)); have n3_ := A0_.mk ((by rw [hg]; exact (wZ (by repeat (first | (with_reducible first | exact HB.out | apply wA | apply pN | apply wD) | exact HB.out))) : w.heap.size ≤ gb412)); clear HB; have HB := n0_; have BK412 := n1_; have GW412 := n2_; have GE412 := n3_; clear n0_ n1_ n2_ n3_; clear hb hbox hg))
 (try simp only [Act.put, List.setIfInBounds_toArray, List.set_cons_zero, List.set_cons_succ])
 go_cut [18] (fun v18 wc => ∃ (kq : Nat) (x18_3 : Bool), v18 = .bool x18_3 ∧ A0_ (u9NodeUnlike.j0 kq a1 a2 x18_3 a0_0 a0_1 a0_2 a0_3 a0_4 l0_5 = some r) ∧ A0_ (kq ≤ k) ∧ A0_ (wc.heap[gb412]? = some (.cells #[.int .i64 a0_0, .string a0_1, .bool a0_2, .string a0_3, .int .i64 a0_4, (.slice A0_5 l0_5.length c0_5)] 24 (0, 0))) ∧ A0_ (Below w.heap.size w wc))
 case first =>
  have H := HC4.out
  clear HC4
  replace H := Option.bind_eq_some_iff.mp H
  obtain ⟨t413, A60, H⟩ := H
  replace H : (if t413 = true then (u9NodeUnlike.j0 k a1 a2 true a0_0 a0_1 a0_2 a0_3 a0_4 l0_5) else (u9NodeUnlike.j0 k a1 a2 (decide ((a1.size : Int) > 100)) a0_0 a0_1 a0_2 a0_3 a0_4 l0_5)) = some r := H
  have A6 := A0_.mk A60
  clear A60
  by_cases c7 : t413 = true
  ·subst c7
   have H1 : (u9NodeUnlike.j0 k a1 a2 true a0_0 a0_1 a0_2 a0_3 a0_4 l0_5) = some r := by rw [if_pos rfl] at H; exact H
   clear H
   have H := H1
   clear H1
   have H' := A0_.mk H
   clear H
   have hcz8_0 : w5.cell? ⟨gb412, 0, none⟩ = some (.int .i64 a0_0) := (bC BK412.out 0).trans rfl
   have hcz8_1 : w5.cell? ⟨gb412, 1, none⟩ = some (.string a0_1) := (bC BK412.out 1).trans rfl
   have hcz8_2 : w5.cell? ⟨gb412, 2, none⟩ = some (.bool a0_2) := (bC BK412.out 2).trans rfl
   have hcz8_3 : w5.cell? ⟨gb412, 3, none⟩ = some (.string a0_3) := (bC BK412.out 3).trans rfl
   have hcz8_4 : w5.cell? ⟨gb412, 4, none⟩ = some (.int .i64 a0_4) := (bC BK412.out 4).trans rfl
   have hcz8_5 : w5.cell? ⟨gb412, 5, none⟩ = some (.slice A0_5 l0_5.length c0_5) := (bC BK412.out 5).trans rfl
   have hfz8_0 := bF BK412.out 0
   have hfz8_1 := bF BK412.out 1
   have hfz8_2 := bF BK412.out 2
   have hfz8_3 := bF BK412.out 3
   have hfz8_4 := bF BK412.out 4
   have hfz8_5 := bF BK412.out 5
   go_wp2_with (first | ((with_reducible refine gC (f := 7) rfl ?_); refine gL (some 13) rfl rfl Tryd.func7 (by kernel_rfl) rfl #[.agg #[.int .i64 a0_0, .string a0_1, .bool a0_2, .string a0_3, .int .i64 a0_4, .slice A0_5 l0_5.length c0_5]] rfl (by (try simp only [List.map_toArray, List.map_cons, List.map_nil]); first | done | rfl | (simp only [List.length_drop, List.length_take]; rfl)) ?_; (with_reducible refine (u9Long.calls k a0_0 a0_1 a0_2 a0_3 a0_4 _ _ l0_5 true _ ?side1 ?side2 A6.out).mono ?_); (case side1 => repeat (first | exact (Kd.C_below HR0_5.out HB.out) | (with_reducible refine Kd.C_alloc ?_ _) | (with_reducible refine Kd.C_drewN ?_ _) | (with_reducible refine Kd.C_drew ?_))); (case side2 => exact HC0_5.out); rintro e w9 ⟨rfl, hb⟩; refine ⟨_, rfl, ?_⟩; have n0_ := A0_.mk (bB (g := gb412) (o := .cells #[.int .i64 a0_0, .string a0_1, .bool a0_2, .string a0_3, .int .i64 a0_4, .slice A0_5 l0_5.length c0_5] 24 (0, 0)) (by (with_reducible repeat (first | refine bN ?_ _ | refine bD ?_ | refine bA ?_ _)); exact BK412.out) hb); have n1_ := A0_.mk (wT (by repeat (first | (with_reducible first | exact HB.out | apply wA | apply pN | apply wD | refine wS ?_ GE412.out) | exact HB.out)) hb); clear BK412; clear HB; have BK412 := n0_; have HB := n1_; clear n0_ n1_; (try clear hb); (try clear hb2); (try clear hk); (try clear hi)))
   go_meet
   case rel => exact ⟨_, (true), (by first | rfl | (simp; done) | (simp [*]; done)), H', ⟨by first | omega | exact Nat.le_refl _⟩, ⟨by (with_reducible repeat (first | refine bN ?_ _ | refine bD ?_ | refine bA ?_ _)); exact BK412.out⟩, ⟨by repeat (first | (with_reducible first | exact HB.out | apply wA | apply pN | apply wD | refine wS ?_ GE412.out) | exact HB.out)⟩⟩
  ·replace c7 := Bool.eq_false_iff.mpr c7
   subst c7
   have H1 : (u9NodeUnlike.j0 k a1 a2 (decide ((a1.size : Int) > 100)) a0_0 a0_1 a0_2 a0_3 a0_4 l0_5) = some r := by rw [if_neg (show ¬ (false = true) by decide)] at H; exact H
   clear H
   have H := H1
   clear H1
   have H' := A0_.mk H
   clear H
   have hcz10_0 : w5.cell? ⟨gb412, 0, none⟩ = some (.int .i64 a0_0) := (bC BK412.out 0).trans rfl
   have hcz10_1 : w5.cell? ⟨gb412, 1, none⟩ = some (.string a0_1) := (bC BK412.out 1).trans rfl
   have hcz10_2 : w5.cell? ⟨gb412, 2, none⟩ = some (.bool a0_2) := (bC BK412.out 2).trans rfl
   have hcz10_3 : w5.cell? ⟨gb412, 3, none⟩ = some (.string a0_3) := (bC BK412.out 3).trans rfl
   have hcz10_4 : w5.cell? ⟨gb412, 4, none⟩ = some (.int .i64 a0_4) := (bC BK412.out 4).trans rfl
   have hcz10_5 : w5.cell? ⟨gb412, 5, none⟩ = some (.slice A0_5 l0_5.length c0_5) := (bC BK412.out 5).trans rfl
   have hfz10_0 := bF BK412.out 0
   have hfz10_1 := bF BK412.out 1
   have hfz10_2 := bF BK412.out 2
   have hfz10_3 := bF BK412.out 3
   have hfz10_4 := bF BK412.out 4
   have hfz10_5 := bF BK412.out 5
   go_wp2_with (first | ((with_reducible refine gC (f := 7) rfl ?_); refine gL (some 13) rfl rfl Tryd.func7 (by kernel_rfl) rfl #[.agg #[.int .i64 a0_0, .string a0_1, .bool a0_2, .string a0_3, .int .i64 a0_4, .slice A0_5 l0_5.length c0_5]] rfl (by (try simp only [List.map_toArray, List.map_cons, List.map_nil]); first | done | rfl | (simp only [List.length_drop, List.length_take]; rfl)) ?_; (with_reducible refine (u9Long.calls k a0_0 a0_1 a0_2 a0_3 a0_4 _ _ l0_5 false _ ?side1 ?side2 A6.out).mono ?_); (case side1 => repeat (first | exact (Kd.C_below HR0_5.out HB.out) | (with_reducible refine Kd.C_alloc ?_ _) | (with_reducible refine Kd.C_drewN ?_ _) | (with_reducible refine Kd.C_drew ?_))); (case side2 => exact HC0_5.out); rintro e w11 ⟨rfl, hb⟩; refine ⟨_, rfl, ?_⟩; have n0_ := A0_.mk (bB (g := gb412) (o := .cells #[.int .i64 a0_0, .string a0_1, .bool a0_2, .string a0_3, .int .i64 a0_4, .slice A0_5 l0_5.length c0_5] 24 (0, 0)) (by (with_reducible repeat (first | refine bN ?_ _ | refine bD ?_ | refine bA ?_ _)); exact BK412.out) hb); have n1_ := A0_.mk (wT (by repeat (first | (with_reducible first | exact HB.out | apply wA | apply pN | apply wD | refine wS ?_ GE412.out) | exact HB.out)) hb); clear BK412; clear HB; have BK412 := n0_; have HB := n1_; clear n0_ n1_; (try clear hb); (try clear hb2); (try clear hk); (try clear hi)))
   go_meet
   case rel => exact ⟨_, (decide ((a1.size : Int) > 100)), (by first | rfl | (simp; done) | (simp [*]; done)), H', ⟨by first | omega | exact Nat.le_refl _⟩, ⟨by (with_reducible repeat (first | refine bN ?_ _ | refine bD ?_ | refine bA ?_ _)); exact BK412.out⟩, ⟨by repeat (first | (with_reducible first | exact HB.out | apply wA | apply pN | apply wD | refine wS ?_ GE412.out) | exact HB.out)⟩⟩
 case rest =>
  clear HC4
  try clear p2
  try clear c6
  try clear c7
  try clear hcz10_0
  try clear hcz10_1
  try clear hcz10_2
  try clear hcz10_3
  try clear hcz10_4
  try clear hcz10_5
  try clear hcz8_0
  try clear hcz8_1
  try clear hcz8_2
  try clear hcz8_3
  try clear hcz8_4
  try clear hcz8_5
  try clear hfz10_0
  try clear hfz10_1
  try clear hfz10_2
  try clear hfz10_3
  try clear hfz10_4
  try clear hfz10_5
  try clear hfz8_0
  try clear hfz8_1
  try clear hfz8_2
  try clear hfz8_3
  try clear hfz8_4
  try clear hfz8_5
  obtain ⟨kq, x18_3, rfl, HA, HJ3, BK412, HB⟩ := hcut
  cases kq with
  | zero => exact absurd HA.out (by simp [u9NodeUnlike.j0])
  | succ kj3 =>
   have H := HA.out
   clear HA
   simp only [u9NodeUnlike.j0] at H
   by_cases c12 : x18_3 = true
   ·subst c12
    have H1 : ((u9wakes.f kj3).bind fun t414 => (some t414)) = some r := by rw [if_pos rfl] at H; exact H
    clear H
    have H := H1
    clear H1
    replace H := Option.bind_eq_some_iff.mp H
    obtain ⟨t414, A130, H⟩ := H
    replace H : (some t414) = some r := H
    have A13 := A0_.mk A130
    clear A130
    obtain rfl := Option.some.inj H
    go_wp2_with (first | ((with_reducible refine gC (f := 8) rfl ?_); refine gL (some 19) rfl rfl Tryd.func8 (by kernel_rfl) rfl #[] rfl (by (try simp only [List.map_toArray, List.map_cons, List.map_nil]); first | done | rfl | (simp only [List.length_drop, List.length_take]; rfl)) ?_; (with_reducible refine (u9wakes.calls kj3  t414 _ ?side1 A13.out).mono ?_); (case side1 => exact Glob.below HG.out (by repeat (first | (with_reducible first | exact HB.out | apply wA | apply pN | apply wD | refine wS ?_ GE412.out) | exact HB.out))); rintro e w14 ⟨rfl, hb⟩; refine ⟨_, rfl, ?_⟩; have n0_ := A0_.mk (bB (g := gb412) (o := .cells #[.int .i64 a0_0, .string a0_1, .bool a0_2, .string a0_3, .int .i64 a0_4, .slice A0_5 l0_5.length c0_5] 24 (0, 0)) (by (with_reducible repeat (first | refine bN ?_ _ | refine bD ?_ | refine bA ?_ _)); exact BK412.out) hb); have n1_ := A0_.mk (wT (by repeat (first | (with_reducible first | exact HB.out | apply wA | apply pN | apply wD | refine wS ?_ GE412.out) | exact HB.out)) hb); clear BK412; clear HB; have BK412 := n0_; have HB := n1_; clear n0_ n1_; (try clear hb); (try clear hb2); (try clear hk); (try clear hi)))
    go_ret
    exact ⟨by first | rfl | (simp [errW_none, errW_some] <;> rfl) | (simp [*, errW_none, errW_some] <;> rfl), by repeat (first | (with_reducible first | exact HB.out | apply wA | apply pN | apply wD | refine wS ?_ GE412.out) | exact HB.out)⟩
   ·replace c12 := Bool.eq_false_iff.mpr c12
    subst c12
    have H1 : ((some (([] : List ByteArray) : List ByteArray)).bind fun y415 => (if y415.length + l0_5.length < 8796093022208 then ((some (y415 ++ l0_5 : List ByteArray)).bind fun y418 => (if (Int.tmod a2 3) = 0 then (u9NodeUnlike.j1 kj3 a0_0 a0_1 a0_2 a0_3 a0_4 l0_5 a0_0 a0_1 a0_2 a1 a0_4 y418) else (if (Int.tmod a2 3) = 1 then (if (y418.length : Int) > 0 then ((u9Hash.f kj3 a2).bind fun t422 => (if 0 < (y418.length : Int) then (u9NodeUnlike.j1 kj3 a0_0 a0_1 a0_2 a0_3 a0_4 l0_5 a0_0 a0_1 a0_2 a0_3 a0_4 (y418.set (0 : Int).toNat t422)) else (none))) else (if a0_1.size + 1 ≤ 9223372036854775807 then (u9NodeUnlike.j1 kj3 a0_0 a0_1 a0_2 a0_3 a0_4 l0_5 a0_0 (a0_1 ++ (⟨#[1]⟩ : ByteArray)) a0_2 a0_3 a0_4 y418) else (none))) else (if a0_1.size + 1 ≤ 9223372036854775807 then (u9NodeUnlike.j1 kj3 a0_0 a0_1 a0_2 a0_3 a0_4 l0_5 a0_0 (a0_1 ++ (⟨#[1]⟩ : ByteArray)) a0_2 a0_3 a0_4 y418) else (none))))) else (none))) = some r := by rw [if_neg (show ¬ (false = true) by decide)] at H; exact H
    clear H
    have H := H1
    clear H1
    obtain ⟨y415, hy415⟩ : ∃ y_ : List ByteArray, y_ = (([] : List ByteArray)) := ⟨_, rfl⟩
    replace H : (if y415.length + l0_5.length < 8796093022208 then ((some (y415 ++ l0_5 : List ByteArray)).bind fun y418 => (if (Int.tmod a2 3) = 0 then (u9NodeUnlike.j1 kj3 a0_0 a0_1 a0_2 a0_3 a0_4 l0_5 a0_0 a0_1 a0_2 a1 a0_4 y418) else (if (Int.tmod a2 3) = 1 then (if (y418.length : Int) > 0 then ((u9Hash.f kj3 a2).bind fun t422 => (if 0 < (y418.length : Int) then (u9NodeUnlike.j1 kj3 a0_0 a0_1 a0_2 a0_3 a0_4 l0_5 a0_0 a0_1 a0_2 a0_3 a0_4 (y418.set (0 : Int).toNat t422)) else (none))) else (if a0_1.size + 1 ≤ 9223372036854775807 then (u9NodeUnlike.j1 kj3 a0_0 a0_1 a0_2 a0_3 a0_4 l0_5 a0_0 (a0_1 ++ (⟨#[1]⟩ : ByteArray)) a0_2 a0_3 a0_4 y418) else (none))) else (if a0_1.size + 1 ≤ 9223372036854775807 then (u9NodeUnlike.j1 kj3 a0_0 a0_1 a0_2 a0_3 a0_4 l0_5 a0_0 (a0_1 ++ (⟨#[1]⟩ : ByteArray)) a0_2 a0_3 a0_4 y418) else (none))))) else (none)) = some r := by first | (rw [hy415]; with_reducible exact H) | (have H2_ := (Option.bind_some _ _).symm.trans H; rw [hy415]; with_reducible exact H2_) | (have H2_ := (Option.bind_some _ _).symm.trans H; with_reducible exact H2_) | with_reducible exact H | (rw [hy415]; exact H) | exact H
    have Ny415 := A0_.mk hy415
    clear hy415
    by_cases c15 : y415.length + l0_5.length < 8796093022208
    ·rw [if_pos c15] at H
     have LMc15 := A0_.mk c15
     clear c15
     obtain ⟨y418, hy418⟩ : ∃ y_ : List ByteArray, y_ = (y415 ++ l0_5) := ⟨_, rfl⟩
     replace H : (if (Int.tmod a2 3) = 0 then (u9NodeUnlike.j1 kj3 a0_0 a0_1 a0_2 a0_3 a0_4 l0_5 a0_0 a0_1 a0_2 a1 a0_4 y418) else (if (Int.tmod a2 3) = 1 then (if (y418.length : Int) > 0 then ((u9Hash.f kj3 a2).bind fun t422 => (if 0 < (y418.length : Int) then (u9NodeUnlike.j1 kj3 a0_0 a0_1 a0_2 a0_3 a0_4 l0_5 a0_0 a0_1 a0_2 a0_3 a0_4 (y418.set (0 : Int).toNat t422)) else (none))) else (if a0_1.size + 1 ≤ 9223372036854775807 then (u9NodeUnlike.j1 kj3 a0_0 a0_1 a0_2 a0_3 a0_4 l0_5 a0_0 (a0_1 ++ (⟨#[1]⟩ : ByteArray)) a0_2 a0_3 a0_4 y418) else (none))) else (if a0_1.size + 1 ≤ 9223372036854775807 then (u9NodeUnlike.j1 kj3 a0_0 a0_1 a0_2 a0_3 a0_4 l0_5 a0_0 (a0_1 ++ (⟨#[1]⟩ : ByteArray)) a0_2 a0_3 a0_4 y418) else (none)))) = some r := by first | (rw [hy418]; with_reducible exact H) | (have H2_ := (Option.bind_some _ _).symm.trans H; rw [hy418]; with_reducible exact H2_) | (have H2_ := (Option.bind_some _ _).symm.trans H; with_reducible exact H2_) | with_reducible exact H | (rw [hy418]; exact H) | exact H
     have Ny418 := A0_.mk hy418
     clear hy418
     have HC16 := A0_.mk H
     clear H
     try go_wp2
     have n0_ := A0_.mk (bD BK412.out)
     have n1_ := A0_.mk (wD HB.out)
     clear BK412
     clear HB
     have BK412 := n0_
     have HB := n1_
     clear n0_ n1_
     refine start_ (n := 17) (S := fun w' => w'.cell? ⟨gb412, 0, none⟩ = some (.int .i64 a0_0) ∧ w'.cell? ⟨gb412, 1, none⟩ = some (.string a0_1) ∧ w'.cell? ⟨gb412, 2, none⟩ = some (.bool a0_2) ∧ w'.cell? ⟨gb412, 3, none⟩ = some (.string a0_3) ∧ w'.cell? ⟨gb412, 4, none⟩ = some (.int .i64 a0_4) ∧ w'.cell? ⟨gb412, 5, none⟩ = some (.slice A0_5 l0_5.length c0_5)) (ds := []) #[false, false, false, false, false, false, false, false, false, false, false, false, false, false, false, false, false] (by kernel_rfl) rfl rfl ⟨(bC BK412.out 0).trans rfl, (bC BK412.out 1).trans rfl, (bC BK412.out 2).trans rfl, (bC BK412.out 3).trans rfl, (bC BK412.out 4).trans rfl, (bC BK412.out 5).trans rfl⟩ (fun hHeld => ?_); refine with_tabW u9NodeUnlike.tab3 u9NodeUnlike.bits3 (fun HT_ HW_ => ?_)
     generalize wc.drew = w17 at BK412 HB hHeld ⊢
     refine pure_ (i := 0) (N := some 20) (v := ?_) (a' := ?_) #[true, false, false, false, false, false, false, false, false, false, false, false, false, false, false, false, false] rfl rfl (any_of HT_.out (by kernel_rfl)) (fun _ _ _ h => h) (Or.inl ⟨by rfl, ?_⟩) ?_ ?_
     rotate_left
     ·intro w'
      go_simp
      with_reducible rfl
     rotate_left
     ·simp only [Act.put, List.setIfInBounds_toArray, List.set_cons_zero, List.set_cons_succ, i64_w, i32_w]
      rfl
     refine pure_ (i := 2) (N := some 22) (v := ?_) (a' := ?_) #[true, false, true, false, false, false, false, false, false, false, false, false, false, false, false, false, false] rfl rfl (any_of HT_.out (by kernel_rfl)) (fun _ _ _ h => h) (Or.inl ⟨by rfl, ?_⟩) ?_ ?_
     rotate_left
     ·intro w'
      go_simp
      with_reducible rfl
     rotate_left
     ·simp only [Act.put, List.setIfInBounds_toArray, List.set_cons_zero, List.set_cons_succ, i64_w, i32_w]
      rfl
     refine pure_ (i := 4) (N := some 24) (v := ?_) (a' := ?_) #[true, false, true, false, true, false, false, false, false, false, false, false, false, false, false, false, false] rfl rfl (any_of HT_.out (by kernel_rfl)) (fun _ _ _ h => h) (Or.inl ⟨by rfl, ?_⟩) ?_ ?_
     rotate_left
     ·intro w'
      go_simp
      with_reducible rfl
     rotate_left
     ·simp only [Act.put, List.setIfInBounds_toArray, List.set_cons_zero, List.set_cons_succ, i64_w, i32_w]
      rfl
     refine pure_ (i := 6) (N := some 26) (v := ?_) (a' := ?_) #[true, false, true, false, true, false, true, false, false, false, false, false, false, false, false, false, false] rfl rfl (any_of HT_.out (by kernel_rfl)) (fun _ _ _ h => h) (Or.inl ⟨by rfl, ?_⟩) ?_ ?_
     rotate_left
     ·intro w'
      go_simp
      with_reducible rfl
     rotate_left
     ·simp only [Act.put, List.setIfInBounds_toArray, List.set_cons_zero, List.set_cons_succ, i64_w, i32_w]
      rfl
     refine pure_ (i := 8) (N := some 28) (v := ?_) (a' := ?_) #[true, false, true, false, true, false, true, false, true, false, false, false, false, false, false, false, false] rfl rfl (any_of HT_.out (by kernel_rfl)) (fun _ _ _ h => h) (Or.inl ⟨by rfl, ?_⟩) ?_ ?_
     rotate_left
     ·intro w'
      go_simp
      with_reducible rfl
     rotate_left
     ·simp only [Act.put, List.setIfInBounds_toArray, List.set_cons_zero, List.set_cons_succ, i64_w, i32_w]
      rfl
     refine pure_ (i := 11) (N := some 31) (v := ?_) (a' := ?_) #[true, false, true, false, true, false, true, false, true, false, false, true, false, false, false, false, false] rfl rfl (any_of HT_.out (by kernel_rfl)) (fun _ _ _ h => h) (Or.inl ⟨by rfl, ?_⟩) ?_ ?_
     rotate_left
     ·intro w'
      go_simp
      with_reducible rfl
     rotate_left
     ·simp only [Act.put, List.setIfInBounds_toArray, List.set_cons_zero, List.set_cons_succ, i64_w, i32_w]
      rfl
     refine take_ (i := 1) (N := some 21) (v := ?_) (a' := ?_) #[true, true, true, false, true, false, true, false, true, false, false, true, false, false, false, false, false] rfl rfl (take_ofW HT_.out HW_.out (by kernel_rfl)) (fun _ _ _ h => h) (Or.inl ⟨by rfl, ?_⟩) hHeld ?_ ?_
     rotate_left
     ·rintro w' ⟨s0, s1, s2, s3, s4, s5⟩
      go_simp
      with_reducible rfl
     rotate_left
     ·simp only [Act.put, List.setIfInBounds_toArray, List.set_cons_zero, List.set_cons_succ, i64_w, i32_w]
      rfl
     refine take_ (i := 3) (N := some 23) (v := ?_) (a' := ?_) #[true, true, true, true, true, false, true, false, true, false, false, true, false, false, false, false, false] rfl rfl (take_ofW HT_.out HW_.out (by kernel_rfl)) (fun _ _ _ h => h) (Or.inl ⟨by rfl, ?_⟩) hHeld ?_ ?_
     rotate_left
     ·rintro w' ⟨s0, s1, s2, s3, s4, s5⟩
      go_simp
      with_reducible rfl
     rotate_left
     ·simp only [Act.put, List.setIfInBounds_toArray, List.set_cons_zero, List.set_cons_succ, i64_w, i32_w]
      rfl
     refine take_ (i := 5) (N := some 25) (v := ?_) (a' := ?_) #[true, true, true, true, true, true, true, false, true, false, false, true, false, false, false, false, false] rfl rfl (take_ofW HT_.out HW_.out (by kernel_rfl)) (fun _ _ _ h => h) (Or.inl ⟨by rfl, ?_⟩) hHeld ?_ ?_
     rotate_left
     ·rintro w' ⟨s0, s1, s2, s3, s4, s5⟩
      go_simp
      with_reducible rfl
     rotate_left
     ·simp only [Act.put, List.setIfInBounds_toArray, List.set_cons_zero, List.set_cons_succ, i64_w, i32_w]
      rfl
     refine take_ (i := 7) (N := some 27) (v := ?_) (a' := ?_) #[true, true, true, true, true, true, true, true, true, false, false, true, false, false, false, false, false] rfl rfl (take_ofW HT_.out HW_.out (by kernel_rfl)) (fun _ _ _ h => h) (Or.inl ⟨by rfl, ?_⟩) hHeld ?_ ?_
     rotate_left
     ·rintro w' ⟨s0, s1, s2, s3, s4, s5⟩
      go_simp
      with_reducible rfl
     rotate_left
     ·simp only [Act.put, List.setIfInBounds_toArray, List.set_cons_zero, List.set_cons_succ, i64_w, i32_w]
      rfl
     refine take_ (i := 9) (N := some 29) (v := ?_) (a' := ?_) #[true, true, true, true, true, true, true, true, true, true, false, true, false, false, false, false, false] rfl rfl (take_ofW HT_.out HW_.out (by kernel_rfl)) (fun _ _ _ h => h) (Or.inl ⟨by rfl, ?_⟩) hHeld ?_ ?_
     rotate_left
     ·rintro w' ⟨s0, s1, s2, s3, s4, s5⟩
      go_simp
      with_reducible rfl
     rotate_left
     ·simp only [Act.put, List.setIfInBounds_toArray, List.set_cons_zero, List.set_cons_succ, i64_w, i32_w]
      rfl
     refine take_ (i := 12) (N := some 32) (v := ?_) (a' := ?_) #[true, true, true, true, true, true, true, true, true, true, false, true, true, false, false, false, false] rfl rfl (take_ofW HT_.out HW_.out (by kernel_rfl)) (fun _ _ _ h => h) (Or.inl ⟨by rfl, ?_⟩) hHeld ?_ ?_
     rotate_left
     ·rintro w' ⟨s0, s1, s2, s3, s4, s5⟩
      go_simp
      with_reducible rfl
     rotate_left
     ·simp only [Act.put, List.setIfInBounds_toArray, List.set_cons_zero, List.set_cons_succ, i64_w, i32_w]
      rfl
     refine join_ (σ := Value × Value × Nat) 1 #[true, true, true, true, true, true, true, true, true, true, true, true, true, true, true, true, false] (fun s_ => [(30, s_.1), (33, s_.2.1), (7, .pointer (some ⟨s_.2.2, 0, none⟩)), (34, .agg #[.int .i64 a0_0, .string a0_1, .bool a0_2, .string a0_3, .int .i64 a0_4, s_.2.1])]) (fun s_ w' => (w'.cell? ⟨gb412, 0, none⟩ = some (.int .i64 a0_0) ∧ w'.cell? ⟨gb412, 1, none⟩ = some (.string a0_1) ∧ w'.cell? ⟨gb412, 2, none⟩ = some (.bool a0_2) ∧ w'.cell? ⟨gb412, 3, none⟩ = some (.string a0_3) ∧ w'.cell? ⟨gb412, 4, none⟩ = some (.int .i64 a0_4) ∧ w'.cell? ⟨gb412, 5, none⟩ = some (.slice A0_5 l0_5.length c0_5)) ∧ (Kd.R Kd.string 9 w' w.heap.size (fun _ => True) s_.2.1 y418) ∧ (w'.heap[gb412]? = some (.cells #[.int .i64 a0_0, .string a0_1, .bool a0_2, .string a0_3, .int .i64 a0_4, .slice A0_5 l0_5.length c0_5] 24 (0, 0))) ∧ (w'.heap[s_.2.2]? = some (.cells #[.int .i64 0, .string (⟨#[]⟩ : ByteArray), .bool false, .string (⟨#[]⟩ : ByteArray), .int .i64 0, .slice none 0 0] 24 (0, 0))) ∧ (w.heap.size ≤ s_.2.2) ∧ (w.heap.size ≤ s_.2.2) ∧ (gb412 ≠ s_.2.2) ∧ (s_.2.2 ≠ gb412) ∧ (Below w.heap.size w w')) ?_ ?_
     rotate_left
     ·intro hCont
      refine two_ (i := 10) (j := 15) (Ni := some 30) (Nj := some 7) #[true, true, true, true, true, true, true, true, true, true, true, true, true, false, false, false, false] #[true, true, true, true, true, true, true, true, true, true, false, true, true, false, false, true, false] rfl rfl rfl rfl (two_of HT_.out (by kernel_rfl)) (by decide) (by decide) (fun K hK => ?_) (fun K hK => ?_)
      ·skip
       refine Kd.R_lit_step Kd.string _ 9 ?hg (N := 30) ?hd (xs := ([] : List ByteArray)) (inner := []) (ok := fun _ => True) (okp := fun _ => True) ?hr ?hp (fun _ hk => hk) trivial (Below.refl _ _) (Nat.le_refl _) (by simp) ?_; (case hd => rfl); (case hg => rfl); (case hr => first | (go_simp; done) | (go_simp; rfl)); (case hp => exact (Reps.none _ _))
       intro v416 w18 ho19 hb hg_ hnew_
       clear hg_ hnew_
       (first | rw [← Ny415.out] at ho19 | (simp only [Int.reduceToNat] at ho19; rw [← Ny415.out] at ho19))
       have n0_ := A0_.mk (Kd.R_lower ho19 (wZ (by repeat (first | (with_reducible first | exact HB.out | apply wA | apply pN | apply wD | refine wS ?_ GE412.out) | exact HB.out))))
       have n1_ := A0_.mk (bB (g := gb412) (o := .cells #[.int .i64 a0_0, .string a0_1, .bool a0_2, .string a0_3, .int .i64 a0_4, .slice A0_5 l0_5.length c0_5] 24 (0, 0)) (by (with_reducible repeat (first | refine bN ?_ _ | refine bD ?_ | refine bA ?_ _)); exact BK412.out) hb)
       have n2_ := A0_.mk (wT (by repeat (first | (with_reducible first | exact HB.out | apply wA | apply pN | apply wD | refine wS ?_ GE412.out) | exact HB.out)) hb)
       clear BK412
       clear HB
       have HO417 := n0_
       have BK412 := n1_
       have HB := n2_
       clear n0_ n1_ n2_
       clear hb ho19
       refine hK.out _ _ ⟨(bC BK412.out 0).trans rfl, (bC BK412.out 1).trans rfl, (bC BK412.out 2).trans rfl, (bC BK412.out 3).trans rfl, (bC BK412.out 4).trans rfl, (bC BK412.out 5).trans rfl⟩ (fun hHeld => ?_)
       clear hK K
       refine norm_ (a' := ?_) ?_ ?_
       rotate_left
       ·show Act.put _ (some 30) _ = _
        simp only [Act.put, List.setIfInBounds_toArray, List.set_cons_zero, List.set_cons_succ, i64_w, i32_w]
        rfl
       refine two_ (i := 13) (j := 15) (Ni := some 33) (Nj := some 7) #[true, true, true, true, true, true, true, true, true, true, true, true, true, true, false, false, false] #[true, true, true, true, true, true, true, true, true, true, true, true, true, false, false, true, false] rfl rfl rfl rfl (two_of HT_.out (by kernel_rfl)) (by decide) (by decide) (fun K hK => ?_) (fun K hK => ?_)
       ·skip
        refine Kd.R_append_rows_step Kd.string (w0 := w) w.heap.size (by rfl) (.tmp 30) (.tmp 32) 22 9 (.string ⟨#[]⟩) 16 rfl Tryd.underlying22 info9 rfl (by decide) (by omega) v416 y415 l0_5 _ _ _ (fun _ => True) (fun _ => False) rfl rfl ?aO ?aR (fun _ _ h => h) (fun _ h => h.elim) ?aF ?aB ?aS ?aL ?_
        (case aR => repeat (first | exact (Kd.C_below HR0_5.out HB.out) | (with_reducible refine Kd.C_alloc ?_ _) | (with_reducible refine Kd.C_drewN ?_ _) | (with_reducible refine Kd.C_drew ?_)))
        (case aB => exact (by repeat (first | (with_reducible first | exact HB.out | apply wA | apply pN | apply wD | refine wS ?_ GE412.out) | exact HB.out)))
        (case aF => exact (fun _ _ => trivial))
        (case aO => exact (by (with_reducible repeat (first | apply Kd.R_alloc | apply Kd.R_drewN | apply Kd.R_drew)); exact HO417.out))
        (case aS => exact (wZ (by repeat (first | (with_reducible first | exact HB.out | apply wA | apply pN | apply wD | refine wS ?_ GE412.out) | exact HB.out))))
        (case aL => have := LMc15.out; omega)
        intro v419 w20 ho hb hg hat
        rw [← Ny418.out] at ho
        have n0_ := A0_.mk (blk_grown (g := gb412) (o := .cells #[.int .i64 a0_0, .string a0_1, .bool a0_2, .string a0_3, .int .i64 a0_4, .slice A0_5 l0_5.length c0_5] 24 (0, 0)) (by (with_reducible repeat (first | refine bN ?_ _ | refine bD ?_ | refine bA ?_ _)); exact BK412.out) hg (Kd.R_ne HO417.out BK412.out (by decide)))
        have n1_ := A0_.mk (hb)
        have n2_ := A0_.mk (ho)
        clear BK412
        clear HB
        clear HO417
        have BK412 := n0_
        have HB := n1_
        have HO420 := n2_
        clear n0_ n1_ n2_
        clear ho hb hg hat
        obtain ⟨Ao21, co21, eo21⟩ := Kd.R_slice HO420.out
        (first | subst eo21 | (injection eo21 with f1_ f2_ f3_; have f4_ := f1_.symm; have f5_ := f3_.symm; clear f1_ f2_ f3_; subst f4_; subst f5_))
        refine hK.out _ _ ⟨(bC BK412.out 0).trans rfl, (bC BK412.out 1).trans rfl, (bC BK412.out 2).trans rfl, (bC BK412.out 3).trans rfl, (bC BK412.out 4).trans rfl, (bC BK412.out 5).trans rfl⟩ (fun hHeld => ?_)
        clear hK K
        refine norm_ (a' := ?_) ?_ ?_
        rotate_left
        ·show Act.put _ (some 33) _ = _
         simp only [Act.put, List.setIfInBounds_toArray, List.set_cons_zero, List.set_cons_succ, i64_w, i32_w]
         rfl
        refine pure_ (i := 14) (N := some 34) (v := ?_) (a' := ?_) #[true, true, true, true, true, true, true, true, true, true, true, true, true, true, true, false, false] rfl rfl (any_of HT_.out (by kernel_rfl)) (fun _ _ _ h => h) (Or.inl ⟨by rfl, ?_⟩) ?_ ?_
        rotate_left
        ·intro w'
         go_simp
         with_reducible rfl
        rotate_left
        ·simp only [Act.put, List.setIfInBounds_toArray, List.set_cons_zero, List.set_cons_succ, i64_w, i32_w]
         rfl
        refine one_ (i := 15) (N := some 7) #[true, true, true, true, true, true, true, true, true, true, true, true, true, true, true, true, false] rfl rfl (one_of HT_.out (by kernel_rfl)) (by decide) (fun K hK => ?_)
        refine box_step ?hg (N := 7) ?hd (cs := #[.int .i64 0, .string (⟨#[]⟩ : ByteArray), .bool false, .string (⟨#[]⟩ : ByteArray), .int .i64 0, .slice none 0 0]) (t := 24) ?hr ?_; (case hd => rfl); (case hg => rfl); (case hr => first | (go_simp; done) | (go_simp; rfl))
        intro gb421 hg w22 hbox hb
        have n0_ := A0_.mk (Kd.R_below (by (with_reducible repeat (first | apply Kd.R_alloc | apply Kd.R_drewN | apply Kd.R_drew)); exact HO420.out) hb)
        have n1_ := A0_.mk (bB (g := gb412) (o := .cells #[.int .i64 a0_0, .string a0_1, .bool a0_2, .string a0_3, .int .i64 a0_4, .slice A0_5 l0_5.length c0_5] 24 (0, 0)) (by (with_reducible repeat (first | refine bN ?_ _ | refine bD ?_ | refine bA ?_ _)); exact BK412.out) hb)
        have n2_ := A0_.mk (wT (by repeat (first | (with_reducible first | exact HB.out | apply wA | apply pN | apply wD | refine wS ?_ GE412.out) | exact HB.out)) hb)
        have n3_ := A0_.mk (hbox)
        have n4_ := A0_.mk ((by rw [hg]; exact (wZ (by repeat (first | (with_reducible first | exact HB.out | apply wA | apply pN | apply wD | refine wS ?_ GE412.out) | exact HB.out))) : w.heap.size ≤ gb421))
        have n5_ := A0_.mk ((by rw [hg]; exact (wZ (by repeat (first | (with_reducible first | exact HB.out | apply wA | apply pN | apply wD | refine wS ?_ GE412.out) | exact HB.out))) : w.heap.size ≤ gb421))
        have n6_ := A0_.mk ((by rw [hg]; exact Nat.ne_of_lt (bL (g := gb412) (o := .cells #[.int .i64 a0_0, .string a0_1, .bool a0_2, .string a0_3, .int .i64 a0_4, .slice A0_5 l0_5.length c0_5] 24 (0, 0)) (by (with_reducible repeat (first | refine bN ?_ _ | refine bD ?_ | refine bA ?_ _)); exact BK412.out)) : gb412 ≠ gb421))
        have n7_ := A0_.mk ((by rw [hg]; exact Nat.ne_of_gt (bL (g := gb412) (o := .cells #[.int .i64 a0_0, .string a0_1, .bool a0_2, .string a0_3, .int .i64 a0_4, .slice A0_5 l0_5.length c0_5] 24 (0, 0)) (by (with_reducible repeat (first | refine bN ?_ _ | refine bD ?_ | refine bA ?_ _)); exact BK412.out)) : gb421 ≠ gb412))
        clear HO420
        clear BK412
        clear HB
        have HO420 := n0_
        have BK412 := n1_
        have HB := n2_
        have BK421 := n3_
        have GW421 := n4_
        have GE421 := n5_
        have NB412_421 := n6_
        have NB421_412 := n7_
        clear n0_ n1_ n2_ n3_ n4_ n5_ n6_ n7_
        clear hb hbox hg
        refine hK.out _ _ ⟨(bC BK412.out 0).trans rfl, (bC BK412.out 1).trans rfl, (bC BK412.out 2).trans rfl, (bC BK412.out 3).trans rfl, (bC BK412.out 4).trans rfl, (bC BK412.out 5).trans rfl⟩ (fun hHeld => ?_)
        clear hK K
        refine norm_ (a' := ?_) ?_ ?_
        rotate_left
        ·show Act.put _ (some 7) _ = _
         simp only [Act.put, List.setIfInBounds_toArray, List.set_cons_zero, List.set_cons_succ, i64_w, i32_w]
         rfl
        exact norm_ (by simp only [putAll, Act.put, List.setIfInBounds_toArray, List.set_cons_zero, List.set_cons_succ]) (hCont (v416, .slice Ao21 y418.length co21, gb421) _ ⟨hHeld, (by (with_reducible repeat (first | apply Kd.R_alloc | apply Kd.R_drewN | apply Kd.R_drew)); exact HO420.out), (by (with_reducible repeat (first | refine bN ?_ _ | refine bD ?_ | refine bA ?_ _)); exact BK412.out), (by (with_reducible repeat (first | refine bN ?_ _ | refine bD ?_ | refine bA ?_ _)); exact BK421.out), GW421.out, GE421.out, NB412_421.out, NB421_412.out, (by repeat (first | (with_reducible first | exact HB.out | apply wA | apply pN | apply wD | refine wS ?_ GE412.out | refine wS ?_ GE421.out) | exact HB.out))⟩)
       ·skip
        refine box_step ?hg (N := 7) ?hd (cs := #[.int .i64 0, .string (⟨#[]⟩ : ByteArray), .bool false, .string (⟨#[]⟩ : ByteArray), .int .i64 0, .slice none 0 0]) (t := 24) ?hr ?_; (case hd => rfl); (case hg => rfl); (case hr => first | (go_simp; done) | (go_simp; rfl))
        intro gb421 hg w20 hbox hb
        have n0_ := A0_.mk (Kd.R_below (by (with_reducible repeat (first | apply Kd.R_alloc | apply Kd.R_drewN | apply Kd.R_drew)); exact HO417.out) hb)
        have n1_ := A0_.mk (bB (g := gb412) (o := .cells #[.int .i64 a0_0, .string a0_1, .bool a0_2, .string a0_3, .int .i64 a0_4, .slice A0_5 l0_5.length c0_5] 24 (0, 0)) (by (with_reducible repeat (first | refine bN ?_ _ | refine bD ?_ | refine bA ?_ _)); exact BK412.out) hb)
        have n2_ := A0_.mk (wT (by repeat (first | (with_reducible first | exact HB.out | apply wA | apply pN | apply wD | refine wS ?_ GE412.out) | exact HB.out)) hb)
        have n3_ := A0_.mk (hbox)
        have n4_ := A0_.mk ((by rw [hg]; exact (wZ (by repeat (first | (with_reducible first | exact HB.out | apply wA | apply pN | apply wD | refine wS ?_ GE412.out) | exact HB.out))) : w.heap.size ≤ gb421))
        have n5_ := A0_.mk ((by rw [hg]; exact (wZ (by repeat (first | (with_reducible first | exact HB.out | apply wA | apply pN | apply wD | refine wS ?_ GE412.out) | exact HB.out))) : w.heap.size ≤ gb421))
        have n6_ := A0_.mk ((by rw [hg]; exact Nat.ne_of_lt (bL (g := gb412) (o := .cells #[.int .i64 a0_0, .string a0_1, .bool a0_2, .string a0_3, .int .i64 a0_4, .slice A0_5 l0_5.length c0_5] 24 (0, 0)) (by (with_reducible repeat (first | refine bN ?_ _ | refine bD ?_ | refine bA ?_ _)); exact BK412.out)) : gb412 ≠ gb421))
        have n7_ := A0_.mk ((by rw [hg]; exact Nat.ne_of_gt (bL (g := gb412) (o := .cells #[.int .i64 a0_0, .string a0_1, .bool a0_2, .string a0_3, .int .i64 a0_4, .slice A0_5 l0_5.length c0_5] 24 (0, 0)) (by (with_reducible repeat (first | refine bN ?_ _ | refine bD ?_ | refine bA ?_ _)); exact BK412.out)) : gb421 ≠ gb412))
        clear HO417
        clear BK412
        clear HB
        have HO417 := n0_
        have BK412 := n1_
        have HB := n2_
        have BK421 := n3_
        have GW421 := n4_
        have GE421 := n5_
        have NB412_421 := n6_
        have NB421_412 := n7_
        clear n0_ n1_ n2_ n3_ n4_ n5_ n6_ n7_
        clear hb hbox hg
        refine hK.out _ _ ⟨(bC BK412.out 0).trans rfl, (bC BK412.out 1).trans rfl, (bC BK412.out 2).trans rfl, (bC BK412.out 3).trans rfl, (bC BK412.out 4).trans rfl, (bC BK412.out 5).trans rfl⟩ (fun hHeld => ?_)
        clear hK K
        refine norm_ (a' := ?_) ?_ ?_
        rotate_left
        ·show Act.put _ (some 7) _ = _
         simp only [Act.put, List.setIfInBounds_toArray, List.set_cons_zero, List.set_cons_succ, i64_w, i32_w]
         rfl
        refine one_ (i := 13) (N := some 33) #[true, true, true, true, true, true, true, true, true, true, true, true, true, true, false, true, false] rfl rfl (one_of HT_.out (by kernel_rfl)) (by decide) (fun K hK => ?_)
        refine Kd.R_append_rows_step Kd.string (w0 := w) w.heap.size (by rfl) (.tmp 30) (.tmp 32) 22 9 (.string ⟨#[]⟩) 16 rfl Tryd.underlying22 info9 rfl (by decide) (by omega) v416 y415 l0_5 _ _ _ (fun _ => True) (fun _ => False) rfl rfl ?aO ?aR (fun _ _ h => h) (fun _ h => h.elim) ?aF ?aB ?aS ?aL ?_
        (case aR => repeat (first | exact (Kd.C_below HR0_5.out HB.out) | (with_reducible refine Kd.C_alloc ?_ _) | (with_reducible refine Kd.C_drewN ?_ _) | (with_reducible refine Kd.C_drew ?_)))
        (case aB => exact (by repeat (first | (with_reducible first | exact HB.out | apply wA | apply pN | apply wD | refine wS ?_ GE412.out | refine wS ?_ GE421.out) | exact HB.out)))
        (case aF => exact (fun _ _ => trivial))
        (case aO => exact (by (with_reducible repeat (first | apply Kd.R_alloc | apply Kd.R_drewN | apply Kd.R_drew)); exact HO417.out))
        (case aS => exact (wZ (by repeat (first | (with_reducible first | exact HB.out | apply wA | apply pN | apply wD | refine wS ?_ GE412.out | refine wS ?_ GE421.out) | exact HB.out))))
        (case aL => have := LMc15.out; omega)
        intro v419 w21 ho hb hg hat
        rw [← Ny418.out] at ho
        have n0_ := A0_.mk (blk_grown (g := gb412) (o := .cells #[.int .i64 a0_0, .string a0_1, .bool a0_2, .string a0_3, .int .i64 a0_4, .slice A0_5 l0_5.length c0_5] 24 (0, 0)) (by (with_reducible repeat (first | refine bN ?_ _ | refine bD ?_ | refine bA ?_ _)); exact BK412.out) hg (Kd.R_ne HO417.out BK412.out (by decide)))
        have n1_ := A0_.mk (blk_grown (g := gb421) (o := .cells #[.int .i64 0, .string (⟨#[]⟩ : ByteArray), .bool false, .string (⟨#[]⟩ : ByteArray), .int .i64 0, .slice none 0 0] 24 (0, 0)) (by (with_reducible repeat (first | refine bN ?_ _ | refine bD ?_ | refine bA ?_ _)); exact BK421.out) hg (Kd.R_ne HO417.out BK421.out (by decide)))
        have n2_ := A0_.mk (hb)
        have n3_ := A0_.mk (ho)
        clear BK412
        clear BK421
        clear HB
        clear HO417
        have BK412 := n0_
        have BK421 := n1_
        have HB := n2_
        have HO420 := n3_
        clear n0_ n1_ n2_ n3_
        clear ho hb hg hat
        obtain ⟨Ao22, co22, eo22⟩ := Kd.R_slice HO420.out
        (first | subst eo22 | (injection eo22 with f1_ f2_ f3_; have f4_ := f1_.symm; have f5_ := f3_.symm; clear f1_ f2_ f3_; subst f4_; subst f5_))
        refine hK.out _ _ ⟨(bC BK412.out 0).trans rfl, (bC BK412.out 1).trans rfl, (bC BK412.out 2).trans rfl, (bC BK412.out 3).trans rfl, (bC BK412.out 4).trans rfl, (bC BK412.out 5).trans rfl⟩ (fun hHeld => ?_)
        clear hK K
        refine norm_ (a' := ?_) ?_ ?_
        rotate_left
        ·show Act.put _ (some 33) _ = _
         simp only [Act.put, List.setIfInBounds_toArray, List.set_cons_zero, List.set_cons_succ, i64_w, i32_w]
         rfl
        refine pure_ (i := 14) (N := some 34) (v := ?_) (a' := ?_) #[true, true, true, true, true, true, true, true, true, true, true, true, true, true, true, true, false] rfl rfl (any_of HT_.out (by kernel_rfl)) (fun _ _ _ h => h) (Or.inl ⟨by rfl, ?_⟩) ?_ ?_
        rotate_left
        ·intro w'
         go_simp
         with_reducible rfl
        rotate_left
        ·simp only [Act.put, List.setIfInBounds_toArray, List.set_cons_zero, List.set_cons_succ, i64_w, i32_w]
         rfl
        exact norm_ (by simp only [putAll, Act.put, List.setIfInBounds_toArray, List.set_cons_zero, List.set_cons_succ]) (hCont (v416, .slice Ao22 y418.length co22, gb421) _ ⟨hHeld, (by (with_reducible repeat (first | apply Kd.R_alloc | apply Kd.R_drewN | apply Kd.R_drew)); exact HO420.out), (by (with_reducible repeat (first | refine bN ?_ _ | refine bD ?_ | refine bA ?_ _)); exact BK412.out), (by (with_reducible repeat (first | refine bN ?_ _ | refine bD ?_ | refine bA ?_ _)); exact BK421.out), GW421.out, GE421.out, NB412_421.out, NB421_412.out, (by repeat (first | (with_reducible first | exact HB.out | apply wA | apply pN | apply wD | refine wS ?_ GE412.out | refine wS ?_ GE421.out) | exact HB.out))⟩)
      ·skip
       refine box_step ?hg (N := 7) ?hd (cs := #[.int .i64 0, .string (⟨#[]⟩ : ByteArray), .bool false, .string (⟨#[]⟩ : ByteArray), .int .i64 0, .slice none 0 0]) (t := 24) ?hr ?_; (case hd => rfl); (case hg => rfl); (case hr => first | (go_simp; done) | (go_simp; rfl))
       intro gb421 hg w18 hbox hb
       have n0_ := A0_.mk (bB (g := gb412) (o := .cells #[.int .i64 a0_0, .string a0_1, .bool a0_2, .string a0_3, .int .i64 a0_4, .slice A0_5 l0_5.length c0_5] 24 (0, 0)) (by (with_reducible repeat (first | refine bN ?_ _ | refine bD ?_ | refine bA ?_ _)); exact BK412.out) hb)
       have n1_ := A0_.mk (wT (by repeat (first | (with_reducible first | exact HB.out | apply wA | apply pN | apply wD | refine wS ?_ GE412.out) | exact HB.out)) hb)
       have n2_ := A0_.mk (hbox)
       have n3_ := A0_.mk ((by rw [hg]; exact (wZ (by repeat (first | (with_reducible first | exact HB.out | apply wA | apply pN | apply wD | refine wS ?_ GE412.out) | exact HB.out))) : w.heap.size ≤ gb421))
       have n4_ := A0_.mk ((by rw [hg]; exact (wZ (by repeat (first | (with_reducible first | exact HB.out | apply wA | apply pN | apply wD | refine wS ?_ GE412.out) | exact HB.out))) : w.heap.size ≤ gb421))
       have n5_ := A0_.mk ((by rw [hg]; exact Nat.ne_of_lt (bL (g := gb412) (o := .cells #[.int .i64 a0_0, .string a0_1, .bool a0_2, .string a0_3, .int .i64 a0_4, .slice A0_5 l0_5.length c0_5] 24 (0, 0)) (by (with_reducible repeat (first | refine bN ?_ _ | refine bD ?_ | refine bA ?_ _)); exact BK412.out)) : gb412 ≠ gb421))
       have n6_ := A0_.mk ((by rw [hg]; exact Nat.ne_of_gt (bL (g := gb412) (o := .cells #[.int .i64 a0_0, .string a0_1, .bool a0_2, .string a0_3, .int .i64 a0_4, .slice A0_5 l0_5.length c0_5] 24 (0, 0)) (by (with_reducible repeat (first | refine bN ?_ _ | refine bD ?_ | refine bA ?_ _)); exact BK412.out)) : gb421 ≠ gb412))
       clear BK412
       clear HB
       have BK412 := n0_
       have HB := n1_
       have BK421 := n2_
       have GW421 := n3_
       have GE421 := n4_
       have NB412_421 := n5_
       have NB421_412 := n6_
       clear n0_ n1_ n2_ n3_ n4_ n5_ n6_
       clear hb hbox hg
       refine hK.out _ _ ⟨(bC BK412.out 0).trans rfl, (bC BK412.out 1).trans rfl, (bC BK412.out 2).trans rfl, (bC BK412.out 3).trans rfl, (bC BK412.out 4).trans rfl, (bC BK412.out 5).trans rfl⟩ (fun hHeld => ?_)
       clear hK K
       refine norm_ (a' := ?_) ?_ ?_
       rotate_left
       ·show Act.put _ (some 7) _ = _
        simp only [Act.put, List.setIfInBounds_toArray, List.set_cons_zero, List.set_cons_succ, i64_w, i32_w]
        rfl
       refine one_ (i := 10) (N := some 30) #[true, true, true, true, true, true, true, true, true, true, true, true, true, false, false, true, false] rfl rfl (one_of HT_.out (by kernel_rfl)) (by decide) (fun K hK => ?_)
       refine Kd.R_lit_step Kd.string _ 9 ?hg (N := 30) ?hd (xs := ([] : List ByteArray)) (inner := []) (ok := fun _ => True) (okp := fun _ => True) ?hr ?hp (fun _ hk => hk) trivial (Below.refl _ _) (Nat.le_refl _) (by simp) ?_; (case hd => rfl); (case hg => rfl); (case hr => first | (go_simp; done) | (go_simp; rfl)); (case hp => exact (Reps.none _ _))
       intro v416 w19 ho20 hb hg_ hnew_
       clear hg_ hnew_
       (first | rw [← Ny415.out] at ho20 | (simp only [Int.reduceToNat] at ho20; rw [← Ny415.out] at ho20))
       have n0_ := A0_.mk (Kd.R_lower ho20 (wZ (by repeat (first | (with_reducible first | exact HB.out | apply wA | apply pN | apply wD | refine wS ?_ GE412.out | refine wS ?_ GE421.out) | exact HB.out))))
       have n1_ := A0_.mk (bB (g := gb412) (o := .cells #[.int .i64 a0_0, .string a0_1, .bool a0_2, .string a0_3, .int .i64 a0_4, .slice A0_5 l0_5.length c0_5] 24 (0, 0)) (by (with_reducible repeat (first | refine bN ?_ _ | refine bD ?_ | refine bA ?_ _)); exact BK412.out) hb)
       have n2_ := A0_.mk (bB (g := gb421) (o := .cells #[.int .i64 0, .string (⟨#[]⟩ : ByteArray), .bool false, .string (⟨#[]⟩ : ByteArray), .int .i64 0, .slice none 0 0] 24 (0, 0)) (by (with_reducible repeat (first | refine bN ?_ _ | refine bD ?_ | refine bA ?_ _)); exact BK421.out) hb)
       have n3_ := A0_.mk (wT (by repeat (first | (with_reducible first | exact HB.out | apply wA | apply pN | apply wD | refine wS ?_ GE412.out | refine wS ?_ GE421.out) | exact HB.out)) hb)
       clear BK412
       clear BK421
       clear HB
       have HO417 := n0_
       have BK412 := n1_
       have BK421 := n2_
       have HB := n3_
       clear n0_ n1_ n2_ n3_
       clear hb ho20
       refine hK.out _ _ ⟨(bC BK412.out 0).trans rfl, (bC BK412.out 1).trans rfl, (bC BK412.out 2).trans rfl, (bC BK412.out 3).trans rfl, (bC BK412.out 4).trans rfl, (bC BK412.out 5).trans rfl⟩ (fun hHeld => ?_)
       clear hK K
       refine norm_ (a' := ?_) ?_ ?_
       rotate_left
       ·show Act.put _ (some 30) _ = _
        simp only [Act.put, List.setIfInBounds_toArray, List.set_cons_zero, List.set_cons_succ, i64_w, i32_w]
        rfl
       refine one_ (i := 13) (N := some 33) #[true, true, true, true, true, true, true, true, true, true, true, true, true, true, false, true, false] rfl rfl (one_of HT_.out (by kernel_rfl)) (by decide) (fun K hK => ?_)
       refine Kd.R_append_rows_step Kd.string (w0 := w) w.heap.size (by rfl) (.tmp 30) (.tmp 32) 22 9 (.string ⟨#[]⟩) 16 rfl Tryd.underlying22 info9 rfl (by decide) (by omega) v416 y415 l0_5 _ _ _ (fun _ => True) (fun _ => False) rfl rfl ?aO ?aR (fun _ _ h => h) (fun _ h => h.elim) ?aF ?aB ?aS ?aL ?_
       (case aR => repeat (first | exact (Kd.C_below HR0_5.out HB.out) | (with_reducible refine Kd.C_alloc ?_ _) | (with_reducible refine Kd.C_drewN ?_ _) | (with_reducible refine Kd.C_drew ?_)))
       (case aB => exact (by repeat (first | (with_reducible first | exact HB.out | apply wA | apply pN | apply wD | refine wS ?_ GE412.out | refine wS ?_ GE421.out) | exact HB.out)))
       (case aF => exact (fun _ _ => trivial))
       (case aO => exact (by (with_reducible repeat (first | apply Kd.R_alloc | apply Kd.R_drewN | apply Kd.R_drew)); exact HO417.out))
       (case aS => exact (wZ (by repeat (first | (with_reducible first | exact HB.out | apply wA | apply pN | apply wD | refine wS ?_ GE412.out | refine wS ?_ GE421.out) | exact HB.out))))
       (case aL => have := LMc15.out; omega)
       intro v419 w21 ho hb hg hat
       rw [← Ny418.out] at ho
       have n0_ := A0_.mk (blk_grown (g := gb412) (o := .cells #[.int .i64 a0_0, .string a0_1, .bool a0_2, .string a0_3, .int .i64 a0_4, .slice A0_5 l0_5.length c0_5] 24 (0, 0)) (by (with_reducible repeat (first | refine bN ?_ _ | refine bD ?_ | refine bA ?_ _)); exact BK412.out) hg (Kd.R_ne HO417.out BK412.out (by decide)))
       have n1_ := A0_.mk (blk_grown (g := gb421) (o := .cells #[.int .i64 0, .string (⟨#[]⟩ : ByteArray), .bool false, .string (⟨#[]⟩ : ByteArray), .int .i64 0, .slice none 0 0] 24 (0, 0)) (by (with_reducible repeat (first | refine bN ?_ _ | refine bD ?_ | refine bA ?_ _)); exact BK421.out) hg (Kd.R_ne HO417.out BK421.out (by decide)))
       have n2_ := A0_.mk (hb)
       have n3_ := A0_.mk (ho)
       clear BK412
       clear BK421
       clear HB
       clear HO417
       have BK412 := n0_
       have BK421 := n1_
       have HB := n2_
       have HO420 := n3_
       clear n0_ n1_ n2_ n3_
       clear ho hb hg hat
       obtain ⟨Ao22, co22, eo22⟩ := Kd.R_slice HO420.out
       (first | subst eo22 | (injection eo22 with f1_ f2_ f3_; have f4_ := f1_.symm; have f5_ := f3_.symm; clear f1_ f2_ f3_; subst f4_; subst f5_))
       refine hK.out _ _ ⟨(bC BK412.out 0).trans rfl, (bC BK412.out 1).trans rfl, (bC BK412.out 2).trans rfl, (bC BK412.out 3).trans rfl, (bC BK412.out 4).trans rfl, (bC BK412.out 5).trans rfl⟩ (fun hHeld => ?_)
       clear hK K
       refine norm_ (a' := ?_) ?_ ?_
       rotate_left
       ·show Act.put _ (some 33) _ = _
        simp only [Act.put, List.setIfInBounds_toArray, List.set_cons_zero, List.set_cons_succ, i64_w, i32_w]
        rfl
       refine pure_ (i := 14) (N := some 34) (v := ?_) (a' := ?_) #[true, true, true, true, true, true, true, true, true, true, true, true, true, true, true, true, false] rfl rfl (any_of HT_.out (by kernel_rfl)) (fun _ _ _ h => h) (Or.inl ⟨by rfl, ?_⟩) ?_ ?_
       rotate_left
       ·intro w'
        go_simp
        with_reducible rfl
       rotate_left
       ·simp only [Act.put, List.setIfInBounds_toArray, List.set_cons_zero, List.set_cons_succ, i64_w, i32_w]
        rfl
       exact norm_ (by simp only [putAll, Act.put, List.setIfInBounds_toArray, List.set_cons_zero, List.set_cons_succ]) (hCont (v416, .slice Ao22 y418.length co22, gb421) _ ⟨hHeld, (by (with_reducible repeat (first | apply Kd.R_alloc | apply Kd.R_drewN | apply Kd.R_drew)); exact HO420.out), (by (with_reducible repeat (first | refine bN ?_ _ | refine bD ?_ | refine bA ?_ _)); exact BK412.out), (by (with_reducible repeat (first | refine bN ?_ _ | refine bD ?_ | refine bA ?_ _)); exact BK421.out), GW421.out, GE421.out, NB412_421.out, NB421_412.out, (by repeat (first | (with_reducible first | exact HB.out | apply wA | apply pN | apply wD | refine wS ?_ GE412.out | refine wS ?_ GE421.out) | exact HB.out))⟩)
     rintro ⟨v416, v419, gb421⟩ w23 ⟨hS_, h0_, h1_, h2_, h3_, h4_, h5_, h6_, h7_⟩
     have n0_ : A0_ (Kd.R Kd.string 9 w23 w.heap.size (fun _ => True) v419 y418) := ⟨h0_⟩
     have n1_ : A0_ (w23.heap[gb412]? = some (.cells #[.int .i64 a0_0, .string a0_1, .bool a0_2, .string a0_3, .int .i64 a0_4, .slice A0_5 l0_5.length c0_5] 24 (0, 0))) := ⟨h1_⟩
     have n2_ : A0_ (w23.heap[gb421]? = some (.cells #[.int .i64 0, .string (⟨#[]⟩ : ByteArray), .bool false, .string (⟨#[]⟩ : ByteArray), .int .i64 0, .slice none 0 0] 24 (0, 0))) := ⟨h2_⟩
     have n3_ : A0_ (w.heap.size ≤ gb421) := ⟨h3_⟩
     have n4_ : A0_ (w.heap.size ≤ gb421) := ⟨h4_⟩
     have n5_ : A0_ (gb412 ≠ gb421) := ⟨h5_⟩
     have n6_ : A0_ (gb421 ≠ gb412) := ⟨h6_⟩
     have n7_ : A0_ (Below w.heap.size w w23) := ⟨h7_⟩
     clear BK412
     clear HB
     clear h0_ h1_ h2_ h3_ h4_ h5_ h6_ h7_
     have HO420 := n0_
     have BK412 := n1_
     have BK421 := n2_
     have GW421 := n3_
     have GE421 := n4_
     have NB412_421 := n5_
     have NB421_412 := n6_
     have HB := n7_
     clear n0_ n1_ n2_ n3_ n4_ n5_ n6_ n7_
     have hHeld : w23.cell? ⟨gb412, 0, none⟩ = some (.int .i64 a0_0) ∧ w23.cell? ⟨gb412, 1, none⟩ = some (.string a0_1) ∧ w23.cell? ⟨gb412, 2, none⟩ = some (.bool a0_2) ∧ w23.cell? ⟨gb412, 3, none⟩ = some (.string a0_3) ∧ w23.cell? ⟨gb412, 4, none⟩ = some (.int .i64 a0_4) ∧ w23.cell? ⟨gb412, 5, none⟩ = some (.slice A0_5 l0_5.length c0_5) := hS_
     obtain ⟨Ao24, co24, eo24⟩ := Kd.R_slice HO420.out
     (first | subst eo24 | (injection eo24 with f1_ f2_ f3_; have f4_ := f1_.symm; have f5_ := f3_.symm; clear f1_ f2_ f3_; subst f4_; subst f5_))
     refine norm_ (a' := ?_) ?_ ?_
     rotate_left
     ·simp only [putAll, Act.put, List.setIfInBounds_toArray, List.set_cons_zero, List.set_cons_succ]
      rfl
     refine one_ (i := 16) (N := none) #[true, true, true, true, true, true, true, true, true, true, true, true, true, true, true, true, true] rfl rfl (one_of HT_.out (by kernel_rfl)) (by decide) (fun K hK => ?_)
     have hs25 : w23.cell? ⟨gb421, 0, none⟩ = some (.int .i64 0) := (bC BK421.out 0).trans rfl
     have hfs25 := bF BK421.out 0
     have hns25_0 := NB412_421.out
     have hms25_0 := NB421_412.out
     have hs26 : w23.cell? ⟨gb421, 1, none⟩ = some (.string (⟨#[]⟩ : ByteArray)) := (bC BK421.out 1).trans rfl
     have hfs26 := bF BK421.out 1
     have hns26_0 := NB412_421.out
     have hms26_0 := NB421_412.out
     have hs27 : w23.cell? ⟨gb421, 2, none⟩ = some (.bool false) := (bC BK421.out 2).trans rfl
     have hfs27 := bF BK421.out 2
     have hns27_0 := NB412_421.out
     have hms27_0 := NB421_412.out
     have hs28 : w23.cell? ⟨gb421, 3, none⟩ = some (.string (⟨#[]⟩ : ByteArray)) := (bC BK421.out 3).trans rfl
     have hfs28 := bF BK421.out 3
     have hns28_0 := NB412_421.out
     have hms28_0 := NB421_412.out
     have hs29 : w23.cell? ⟨gb421, 4, none⟩ = some (.int .i64 0) := (bC BK421.out 4).trans rfl
     have hfs29 := bF BK421.out 4
     have hns29_0 := NB412_421.out
     have hms29_0 := NB421_412.out
     have hs30 : w23.cell? ⟨gb421, 5, none⟩ = some (.slice none 0 0) := (bC BK421.out 5).trans rfl
     have hfs30 := bF BK421.out 5
     have hns30_0 := NB412_421.out
     have hms30_0 := NB421_412.out
     refine skip_ (w1 := ?_) (by rfl) rfl ?_ ?_
     rotate_left
     ·go_simp
      rfl
     refine hK.out _ _ ⟨((cell_far (p := ⟨gb421, _, none⟩) NB412_421.out _).trans (((cell_far (p := ⟨gb421, _, none⟩) NB412_421.out _).trans (((cell_far (p := ⟨gb421, _, none⟩) NB412_421.out _).trans (((cell_far (p := ⟨gb421, _, none⟩) NB412_421.out _).trans (((cell_far (p := ⟨gb421, _, none⟩) NB412_421.out _).trans (((cell_far (p := ⟨gb421, _, none⟩) NB412_421.out _).trans (hHeld.1)))))))))))), ((cell_far (p := ⟨gb421, _, none⟩) NB412_421.out _).trans (((cell_far (p := ⟨gb421, _, none⟩) NB412_421.out _).trans (((cell_far (p := ⟨gb421, _, none⟩) NB412_421.out _).trans (((cell_far (p := ⟨gb421, _, none⟩) NB412_421.out _).trans (((cell_far (p := ⟨gb421, _, none⟩) NB412_421.out _).trans (((cell_far (p := ⟨gb421, _, none⟩) NB412_421.out _).trans (hHeld.2.1)))))))))))), ((cell_far (p := ⟨gb421, _, none⟩) NB412_421.out _).trans (((cell_far (p := ⟨gb421, _, none⟩) NB412_421.out _).trans (((cell_far (p := ⟨gb421, _, none⟩) NB412_421.out _).trans (((cell_far (p := ⟨gb421, _, none⟩) NB412_421.out _).trans (((cell_far (p := ⟨gb421, _, none⟩) NB412_421.out _).trans (((cell_far (p := ⟨gb421, _, none⟩) NB412_421.out _).trans (hHeld.2.2.1)))))))))))), ((cell_far (p := ⟨gb421, _, none⟩) NB412_421.out _).trans (((cell_far (p := ⟨gb421, _, none⟩) NB412_421.out _).trans (((cell_far (p := ⟨gb421, _, none⟩) NB412_421.out _).trans (((cell_far (p := ⟨gb421, _, none⟩) NB412_421.out _).trans (((cell_far (p := ⟨gb421, _, none⟩) NB412_421.out _).trans (((cell_far (p := ⟨gb421, _, none⟩) NB412_421.out _).trans (hHeld.2.2.2.1)))))))))))), ((cell_far (p := ⟨gb421, _, none⟩) NB412_421.out _).trans (((cell_far (p := ⟨gb421, _, none⟩) NB412_421.out _).trans (((cell_far (p := ⟨gb421, _, none⟩) NB412_421.out _).trans (((cell_far (p := ⟨gb421, _, none⟩) NB412_421.out _).trans (((cell_far (p := ⟨gb421, _, none⟩) NB412_421.out _).trans (((cell_far (p := ⟨gb421, _, none⟩) NB412_421.out _).trans (hHeld.2.2.2.2.1)))))))))))), ((cell_far (p := ⟨gb421, _, none⟩) NB412_421.out _).trans (((cell_far (p := ⟨gb421, _, none⟩) NB412_421.out _).trans (((cell_far (p := ⟨gb421, _, none⟩) NB412_421.out _).trans (((cell_far (p := ⟨gb421, _, none⟩) NB412_421.out _).trans (((cell_far (p := ⟨gb421, _, none⟩) NB412_421.out _).trans (((cell_far (p := ⟨gb421, _, none⟩) NB412_421.out _).trans (hHeld.2.2.2.2.2))))))))))))⟩ (fun hHeld => ?_)
     clear hK K
     refine done_ (done_of HT_.out (by kernel_rfl)) ?_
     go_upto_block 0 with (fail)
     go_cut [] (fun wc => ∃ (kq : Nat) (x422001_15 : ByteArray) (x422003_15 : ByteArray) (x422005_15 : List ByteArray) (u422005 : Value), A0_ (u9NodeUnlike.j1 kq a0_0 a0_1 a0_2 a0_3 a0_4 l0_5 a0_0 x422001_15 a0_2 x422003_15 a0_4 x422005_15 = some r) ∧ A0_ (kq ≤ kj3) ∧ A0_ (Kd.R Kd.string 9 wc w.heap.size (fun _ => True) u422005 x422005_15) ∧ A0_ (wc.heap[gb412]? = some (.cells #[.int .i64 a0_0, .string a0_1, .bool a0_2, .string a0_3, .int .i64 a0_4, (.slice A0_5 l0_5.length c0_5)] 24 (0, 0))) ∧ A0_ (wc.heap[gb421]? = some (.cells #[.int .i64 a0_0, .string x422001_15, .bool a0_2, .string x422003_15, .int .i64 a0_4, u422005] 24 (0, 0))) ∧ A0_ (Below w.heap.size w wc))
     case first =>
      have H := HC16.out
      clear HC16
      by_cases c31 : (Int.tmod a2 3) = 0
      ·rw [if_pos c31] at H
       have c31b0 : ((Int.tmod a2 3) == 0) = true := beq_iff_eq.mpr c31
       have c31b1 : ((Int.tmod a2 3) != 0) = false := bne_eq_false_iff_eq.mpr c31
       clear c31
       (first | rw [c31b0] | (simp only [i64_w, i32_w]; rw [c31b0]) | skip)
       have H' := A0_.mk H
       clear H
       have hnb32 := NB421_412.out
       have hnc32 := NB412_421.out
       have hcz33_0 : w23.cell? ⟨gb421, 0, none⟩ = some (.int .i64 0) := (bC BK421.out 0).trans rfl
       have hcz33_1 : w23.cell? ⟨gb421, 1, none⟩ = some (.string (⟨#[]⟩ : ByteArray)) := (bC BK421.out 1).trans rfl
       have hcz33_2 : w23.cell? ⟨gb421, 2, none⟩ = some (.bool false) := (bC BK421.out 2).trans rfl
       have hcz33_3 : w23.cell? ⟨gb421, 3, none⟩ = some (.string (⟨#[]⟩ : ByteArray)) := (bC BK421.out 3).trans rfl
       have hcz33_4 : w23.cell? ⟨gb421, 4, none⟩ = some (.int .i64 0) := (bC BK421.out 4).trans rfl
       have hcz33_5 : w23.cell? ⟨gb421, 5, none⟩ = some (.slice none 0 0) := (bC BK421.out 5).trans rfl
       have hfz33_0 := bF BK421.out 0
       have hfz33_1 := bF BK421.out 1
       have hfz33_2 := bF BK421.out 2
       have hfz33_3 := bF BK421.out 3
       have hfz33_4 := bF BK421.out 4
       have hfz33_5 := bF BK421.out 5
       go_wp2
       go_meet
       case rel => exact ⟨_, (a0_1), (a1), (y418), (.slice Ao24 y418.length co24), H', ⟨by have := HJ3.out; first | omega | exact Nat.le_refl _⟩, ⟨by (with_reducible repeat (first | apply Kd.R_alloc | apply Kd.R_drewN | apply Kd.R_drew)); exact Kd.R_mono (Kd.R_far (p := ⟨gb421, 3, none⟩) (Kd.R_far (p := ⟨gb421, 5, none⟩) (Kd.R_far (p := ⟨gb421, 4, none⟩) (Kd.R_far (p := ⟨gb421, 3, none⟩) (Kd.R_far (p := ⟨gb421, 2, none⟩) (Kd.R_far (p := ⟨gb421, 1, none⟩) (Kd.R_far (p := ⟨gb421, 0, none⟩) (Kd.R_types HO420.out BK421.out (by decide)) (fun _ hk => hk.2) (.int .i64 a0_0)) (fun _ hk => hk.2) (.string a0_1)) (fun _ hk => hk.2) (.bool a0_2)) (fun _ hk => hk.2) (.string a0_3)) (fun _ hk => hk.2) (.int .i64 a0_4)) (fun _ hk => hk.2) (.slice Ao24 y418.length co24)) (fun _ hk => hk.2) (.string a1)) (fun _ hk => trivial)⟩, ⟨by (with_reducible repeat (first | refine bN ?_ _ | refine bD ?_ | refine bA ?_ _)); refine bR ?_ NB412_421.out _; (with_reducible repeat (first | refine bN ?_ _ | refine bD ?_ | refine bA ?_ _)); refine bR ?_ NB412_421.out _; (with_reducible repeat (first | refine bN ?_ _ | refine bD ?_ | refine bA ?_ _)); refine bR ?_ NB412_421.out _; (with_reducible repeat (first | refine bN ?_ _ | refine bD ?_ | refine bA ?_ _)); refine bR ?_ NB412_421.out _; (with_reducible repeat (first | refine bN ?_ _ | refine bD ?_ | refine bA ?_ _)); refine bR ?_ NB412_421.out _; (with_reducible repeat (first | refine bN ?_ _ | refine bD ?_ | refine bA ?_ _)); refine bR ?_ NB412_421.out _; (with_reducible repeat (first | refine bN ?_ _ | refine bD ?_ | refine bA ?_ _)); refine bR ?_ NB412_421.out _; (with_reducible repeat (first | refine bN ?_ _ | refine bD ?_ | refine bA ?_ _)); exact BK412.out⟩, ⟨by (with_reducible repeat (first | refine bN ?_ _ | refine bD ?_ | refine bA ?_ _)); refine bP (cs := #[.int .i64 a0_0, .string a0_1, .bool a0_2, .string a0_3, .int .i64 a0_4, .slice Ao24 y418.length co24]) ?_ 3 _ rfl; (with_reducible repeat (first | refine bN ?_ _ | refine bD ?_ | refine bA ?_ _)); refine bP (cs := #[.int .i64 a0_0, .string a0_1, .bool a0_2, .string a0_3, .int .i64 a0_4, .slice none 0 0]) ?_ 5 _ rfl; (with_reducible repeat (first | refine bN ?_ _ | refine bD ?_ | refine bA ?_ _)); refine bP (cs := #[.int .i64 a0_0, .string a0_1, .bool a0_2, .string a0_3, .int .i64 0, .slice none 0 0]) ?_ 4 _ rfl; (with_reducible repeat (first | refine bN ?_ _ | refine bD ?_ | refine bA ?_ _)); refine bP (cs := #[.int .i64 a0_0, .string a0_1, .bool a0_2, .string (⟨#[]⟩ : ByteArray), .int .i64 0, .slice none 0 0]) ?_ 3 _ rfl; (with_reducible repeat (first | refine bN ?_ _ | refine bD ?_ | refine bA ?_ _)); refine bP (cs := #[.int .i64 a0_0, .string a0_1, .bool false, .string (⟨#[]⟩ : ByteArray), .int .i64 0, .slice none 0 0]) ?_ 2 _ rfl; (with_reducible repeat (first | refine bN ?_ _ | refine bD ?_ | refine bA ?_ _)); refine bP (cs := #[.int .i64 a0_0, .string (⟨#[]⟩ : ByteArray), .bool false, .string (⟨#[]⟩ : ByteArray), .int .i64 0, .slice none 0 0]) ?_ 1 _ rfl; (with_reducible repeat (first | refine bN ?_ _ | refine bD ?_ | refine bA ?_ _)); refine bP (cs := #[.int .i64 0, .string (⟨#[]⟩ : ByteArray), .bool false, .string (⟨#[]⟩ : ByteArray), .int .i64 0, .slice none 0 0]) ?_ 0 _ rfl; (with_reducible repeat (first | refine bN ?_ _ | refine bD ?_ | refine bA ?_ _)); exact BK421.out⟩, ⟨by repeat (first | (with_reducible first | exact HB.out | apply wA | apply pN | apply wD | refine wS ?_ GE412.out | refine wS ?_ GE421.out) | exact HB.out)⟩⟩
      ·rw [if_neg c31] at H
       have c31b0 : ((Int.tmod a2 3) == 0) = false := beq_eq_false_iff_ne.mpr c31
       have c31b1 : ((Int.tmod a2 3) != 0) = true := bne_iff_ne.mpr c31
       (first | rw [c31b0] | (simp only [i64_w, i32_w]; rw [c31b0]) | skip)
       by_cases c34 : (Int.tmod a2 3) = 1
       ·rw [if_pos c34] at H
        have c34b0 : ((Int.tmod a2 3) == 1) = true := beq_iff_eq.mpr c34
        have c34b1 : ((Int.tmod a2 3) != 1) = false := bne_eq_false_iff_eq.mpr c34
        clear c34
        by_cases c35 : (y418.length : Int) > 0
        ·rw [if_pos c35] at H
         have c35b0 : decide (0 < (y418.length : Int)) = true := decide_eq_true c35
         have c35b1 : decide (0 < y418.length) = true := decide_eq_true (by omega)
         clear c35
         replace H := Option.bind_eq_some_iff.mp H
         obtain ⟨t422, A360, H⟩ := H
         replace H : (if 0 < (y418.length : Int) then (u9NodeUnlike.j1 kj3 a0_0 a0_1 a0_2 a0_3 a0_4 l0_5 a0_0 a0_1 a0_2 a0_3 a0_4 (y418.set (0 : Int).toNat t422)) else (none)) = some r := H
         have A36 := A0_.mk A360
         clear A360
         by_cases c37 : 0 < (y418.length : Int)
         ·rw [if_pos c37] at H
          have c37b0 : decide (0 < (y418.length : Int)) = true := decide_eq_true c37
          have c37b1 : decide (0 < y418.length) = true := decide_eq_true (by omega)
          clear c37
          obtain ⟨y423, hy423⟩ : ∃ y_ : List ByteArray, y_ = (y418.set (0 : Int).toNat t422) := ⟨_, rfl⟩
          replace H : (u9NodeUnlike.j1 kj3 a0_0 a0_1 a0_2 a0_3 a0_4 l0_5 a0_0 a0_1 a0_2 a0_3 a0_4 y423) = some r := by first | (rw [hy423]; with_reducible exact H) | (have H2_ := (Option.bind_some _ _).symm.trans H; rw [hy423]; with_reducible exact H2_) | (have H2_ := (Option.bind_some _ _).symm.trans H; with_reducible exact H2_) | with_reducible exact H | (rw [hy423]; exact H) | exact H
          have Ny423 := A0_.mk hy423
          clear hy423
          have H' := A0_.mk H
          clear H
          have hnb39 := NB421_412.out
          have hnc39 := NB412_421.out
          have hcz40_0 : w23.cell? ⟨gb421, 0, none⟩ = some (.int .i64 0) := (bC BK421.out 0).trans rfl
          have hcz40_1 : w23.cell? ⟨gb421, 1, none⟩ = some (.string (⟨#[]⟩ : ByteArray)) := (bC BK421.out 1).trans rfl
          have hcz40_2 : w23.cell? ⟨gb421, 2, none⟩ = some (.bool false) := (bC BK421.out 2).trans rfl
          have hcz40_3 : w23.cell? ⟨gb421, 3, none⟩ = some (.string (⟨#[]⟩ : ByteArray)) := (bC BK421.out 3).trans rfl
          have hcz40_4 : w23.cell? ⟨gb421, 4, none⟩ = some (.int .i64 0) := (bC BK421.out 4).trans rfl
          have hcz40_5 : w23.cell? ⟨gb421, 5, none⟩ = some (.slice none 0 0) := (bC BK421.out 5).trans rfl
          have hfz40_0 := bF BK421.out 0
          have hfz40_1 := bF BK421.out 1
          have hfz40_2 := bF BK421.out 2
          have hfz40_3 := bF BK421.out 3
          have hfz40_4 := bF BK421.out 4
          have hfz40_5 := bF BK421.out 5
          try go_wp2
          have n0_ : A0_ (Kd.R Kd.string 9 ((((((w23.setCell ⟨gb421, 0, none⟩ (.int .i64 a0_0)).setCell ⟨gb421, 1, none⟩ (.string a0_1)).setCell ⟨gb421, 2, none⟩ (.bool a0_2)).setCell ⟨gb421, 3, none⟩ (.string a0_3)).setCell ⟨gb421, 4, none⟩ (.int .i64 a0_4)).setCell ⟨gb421, 5, none⟩ (.slice Ao24 y418.length co24)) w.heap.size (fun _ => True) (.slice Ao24 y418.length co24) y418) := ⟨by (with_reducible repeat (first | apply Kd.R_alloc | apply Kd.R_drewN | apply Kd.R_drew)); exact Kd.R_mono (Kd.R_far (p := ⟨gb421, 5, none⟩) (Kd.R_far (p := ⟨gb421, 4, none⟩) (Kd.R_far (p := ⟨gb421, 3, none⟩) (Kd.R_far (p := ⟨gb421, 2, none⟩) (Kd.R_far (p := ⟨gb421, 1, none⟩) (Kd.R_far (p := ⟨gb421, 0, none⟩) (Kd.R_types HO420.out BK421.out (by decide)) (fun _ hk => hk.2) (.int .i64 a0_0)) (fun _ hk => hk.2) (.string a0_1)) (fun _ hk => hk.2) (.bool a0_2)) (fun _ hk => hk.2) (.string a0_3)) (fun _ hk => hk.2) (.int .i64 a0_4)) (fun _ hk => hk.2) (.slice Ao24 y418.length co24)) (fun _ hk => trivial)⟩
          have n1_ : A0_ (((((((w23.setCell ⟨gb421, 0, none⟩ (.int .i64 a0_0)).setCell ⟨gb421, 1, none⟩ (.string a0_1)).setCell ⟨gb421, 2, none⟩ (.bool a0_2)).setCell ⟨gb421, 3, none⟩ (.string a0_3)).setCell ⟨gb421, 4, none⟩ (.int .i64 a0_4)).setCell ⟨gb421, 5, none⟩ (.slice Ao24 y418.length co24)).heap[gb412]? = some (.cells #[.int .i64 a0_0, .string a0_1, .bool a0_2, .string a0_3, .int .i64 a0_4, .slice A0_5 l0_5.length c0_5] 24 (0, 0))) := ⟨by (with_reducible repeat (first | refine bN ?_ _ | refine bD ?_ | refine bA ?_ _)); refine bR ?_ NB412_421.out _; (with_reducible repeat (first | refine bN ?_ _ | refine bD ?_ | refine bA ?_ _)); refine bR ?_ NB412_421.out _; (with_reducible repeat (first | refine bN ?_ _ | refine bD ?_ | refine bA ?_ _)); refine bR ?_ NB412_421.out _; (with_reducible repeat (first | refine bN ?_ _ | refine bD ?_ | refine bA ?_ _)); refine bR ?_ NB412_421.out _; (with_reducible repeat (first | refine bN ?_ _ | refine bD ?_ | refine bA ?_ _)); refine bR ?_ NB412_421.out _; (with_reducible repeat (first | refine bN ?_ _ | refine bD ?_ | refine bA ?_ _)); refine bR ?_ NB412_421.out _; (with_reducible repeat (first | refine bN ?_ _ | refine bD ?_ | refine bA ?_ _)); exact BK412.out⟩
          have n2_ : A0_ (((((((w23.setCell ⟨gb421, 0, none⟩ (.int .i64 a0_0)).setCell ⟨gb421, 1, none⟩ (.string a0_1)).setCell ⟨gb421, 2, none⟩ (.bool a0_2)).setCell ⟨gb421, 3, none⟩ (.string a0_3)).setCell ⟨gb421, 4, none⟩ (.int .i64 a0_4)).setCell ⟨gb421, 5, none⟩ (.slice Ao24 y418.length co24)).heap[gb421]? = some (.cells #[.int .i64 a0_0, .string a0_1, .bool a0_2, .string a0_3, .int .i64 a0_4, .slice Ao24 y418.length co24] 24 (0, 0))) := ⟨by (with_reducible repeat (first | refine bN ?_ _ | refine bD ?_ | refine bA ?_ _)); refine bP (cs := #[.int .i64 a0_0, .string a0_1, .bool a0_2, .string a0_3, .int .i64 a0_4, .slice none 0 0]) ?_ 5 _ rfl; (with_reducible repeat (first | refine bN ?_ _ | refine bD ?_ | refine bA ?_ _)); refine bP (cs := #[.int .i64 a0_0, .string a0_1, .bool a0_2, .string a0_3, .int .i64 0, .slice none 0 0]) ?_ 4 _ rfl; (with_reducible repeat (first | refine bN ?_ _ | refine bD ?_ | refine bA ?_ _)); refine bP (cs := #[.int .i64 a0_0, .string a0_1, .bool a0_2, .string (⟨#[]⟩ : ByteArray), .int .i64 0, .slice none 0 0]) ?_ 3 _ rfl; (with_reducible repeat (first | refine bN ?_ _ | refine bD ?_ | refine bA ?_ _)); refine bP (cs := #[.int .i64 a0_0, .string a0_1, .bool false, .string (⟨#[]⟩ : ByteArray), .int .i64 0, .slice none 0 0]) ?_ 2 _ rfl; (with_reducible repeat (first | refine bN ?_ _ | refine bD ?_ | refine bA ?_ _)); refine bP (cs := #[.int .i64 a0_0, .string (⟨#[]⟩ : ByteArray), .bool false, .string (⟨#[]⟩ : ByteArray), .int .i64 0, .slice none 0 0]) ?_ 1 _ rfl; (with_reducible repeat (first | refine bN ?_ _ | refine bD ?_ | refine bA ?_ _)); refine bP (cs := #[.int .i64 0, .string (⟨#[]⟩ : ByteArray), .bool false, .string (⟨#[]⟩ : ByteArray), .int .i64 0, .slice none 0 0]) ?_ 0 _ rfl; (with_reducible repeat (first | refine bN ?_ _ | refine bD ?_ | refine bA ?_ _)); exact BK421.out⟩
          have n3_ : A0_ (Below w.heap.size w ((((((w23.setCell ⟨gb421, 0, none⟩ (.int .i64 a0_0)).setCell ⟨gb421, 1, none⟩ (.string a0_1)).setCell ⟨gb421, 2, none⟩ (.bool a0_2)).setCell ⟨gb421, 3, none⟩ (.string a0_3)).setCell ⟨gb421, 4, none⟩ (.int .i64 a0_4)).setCell ⟨gb421, 5, none⟩ (.slice Ao24 y418.length co24))) := ⟨by repeat (first | (with_reducible first | exact HB.out | apply wA | apply pN | apply wD | refine wS ?_ GE412.out | refine wS ?_ GE421.out) | exact HB.out)⟩
          (try clear HO420)
          (try clear BK412)
          (try clear BK421)
          (try clear HB)
          generalize ((((((w23.setCell ⟨gb421, 0, none⟩ (.int .i64 a0_0)).setCell ⟨gb421, 1, none⟩ (.string a0_1)).setCell ⟨gb421, 2, none⟩ (.bool a0_2)).setCell ⟨gb421, 3, none⟩ (.string a0_3)).setCell ⟨gb421, 4, none⟩ (.int .i64 a0_4)).setCell ⟨gb421, 5, none⟩ (.slice Ao24 y418.length co24)) = w41 at n0_ n1_ n2_ n3_ ⊢
          have HO420 := n0_
          have BK412 := n1_
          have BK421 := n2_
          have HB := n3_
          clear n0_ n1_ n2_ n3_
          have n0_ := A0_.mk (Kd.R_drew HO420.out)
          have n1_ := A0_.mk (bD BK412.out)
          have n2_ := A0_.mk (bD BK421.out)
          have n3_ := A0_.mk (wD HB.out)
          clear HO420
          clear BK412
          clear BK421
          clear HB
          have HO420 := n0_
          have BK412 := n1_
          have BK421 := n2_
          have HB := n3_
          clear n0_ n1_ n2_ n3_
          refine start_ (n := 6) (S := fun w' => w'.cell? ⟨gb421, 0, none⟩ = some (.int .i64 a0_0) ∧ w'.cell? ⟨gb421, 1, none⟩ = some (.string a0_1) ∧ w'.cell? ⟨gb421, 2, none⟩ = some (.bool a0_2) ∧ w'.cell? ⟨gb421, 3, none⟩ = some (.string a0_3) ∧ w'.cell? ⟨gb421, 4, none⟩ = some (.int .i64 a0_4) ∧ w'.cell? ⟨gb421, 5, none⟩ = some (.slice Ao24 y418.length co24)) (ds := [5]) #[false, false, false, false, false, false] (by kernel_rfl) rfl rfl ⟨(bC BK421.out 0).trans rfl, (bC BK421.out 1).trans rfl, (bC BK421.out 2).trans rfl, (bC BK421.out 3).trans rfl, (bC BK421.out 4).trans rfl, (bC BK421.out 5).trans rfl⟩ (fun hHeld => ?_)
          generalize w41.drew = w42 at HO420 BK412 BK421 HB hHeld ⊢
          refine pure_ (i := 0) (N := some 55) (v := ?_) (a' := ?_) #[true, false, false, false, false, false] rfl rfl (by kernel_rfl) (fun _ _ _ h => h) (Or.inl ⟨by rfl, ?_⟩) ?_ ?_
          rotate_left
          ·intro w'
           go_simp
           with_reducible rfl
          rotate_left
          ·simp only [Act.put, List.setIfInBounds_toArray, List.set_cons_zero, List.set_cons_succ, i64_w, i32_w]
           rfl
          refine pure_ (i := 2) (N := some 57) (v := ?_) (a' := ?_) #[true, false, true, false, false, false] rfl rfl (by kernel_rfl) (fun _ _ _ h => h) (Or.inl ⟨by rfl, ?_⟩) ?_ ?_
          rotate_left
          ·intro w'
           go_simp
           with_reducible rfl
          rotate_left
          ·simp only [Act.put, List.setIfInBounds_toArray, List.set_cons_zero, List.set_cons_succ, i64_w, i32_w]
           rfl
          refine take_ (i := 1) (N := some 56) (v := ?_) (a' := ?_) #[true, true, true, false, false, false] rfl rfl (by kernel_rfl) (fun _ _ _ h => h) (Or.inl ⟨by rfl, ?_⟩) hHeld ?_ ?_
          rotate_left
          ·rintro w' ⟨s0, s1, s2, s3, s4, s5⟩
           go_simp
           with_reducible rfl
          rotate_left
          ·simp only [Act.put, List.setIfInBounds_toArray, List.set_cons_zero, List.set_cons_succ, i64_w, i32_w]
           rfl
          refine one_ (i := 3) (N := some 58) #[true, true, true, true, false, false] rfl rfl (by kernel_rfl) (by decide) (fun K hK => ?_)
          refine goes_ Tryd.func19 (by kernel_rfl) rfl #[.int .u8 a2] (by rfl) rfl rfl (by (try simp only [List.map_toArray, List.map_cons, List.map_nil]); first | done | rfl | (simp only [List.length_drop, List.length_take]; rfl)) ?_
          with_reducible refine (u9Hash.calls kj3 a2 t422 _ A36.out).mono ?_
          rintro e w43 ⟨rfl, hb⟩
          refine ⟨_, rfl, ?_⟩
          have n0_ := A0_.mk (Kd.R_below (by (with_reducible repeat (first | apply Kd.R_alloc | apply Kd.R_drewN | apply Kd.R_drew)); exact HO420.out) hb)
          have n1_ := A0_.mk (bB (g := gb412) (o := .cells #[.int .i64 a0_0, .string a0_1, .bool a0_2, .string a0_3, .int .i64 a0_4, .slice A0_5 l0_5.length c0_5] 24 (0, 0)) (by (with_reducible repeat (first | refine bN ?_ _ | refine bD ?_ | refine bA ?_ _)); exact BK412.out) hb)
          have n2_ := A0_.mk (bB (g := gb421) (o := .cells #[.int .i64 a0_0, .string a0_1, .bool a0_2, .string a0_3, .int .i64 a0_4, .slice Ao24 y418.length co24] 24 (0, 0)) (by (with_reducible repeat (first | refine bN ?_ _ | refine bD ?_ | refine bA ?_ _)); exact BK421.out) hb)
          have n3_ := A0_.mk (wT (by repeat (first | (with_reducible first | exact HB.out | apply wA | apply pN | apply wD | refine wS ?_ GE412.out | refine wS ?_ GE421.out) | exact HB.out)) hb)
          clear HO420
          clear BK412
          clear BK421
          clear HB
          have HO420 := n0_
          have BK412 := n1_
          have BK421 := n2_
          have HB := n3_
          clear n0_ n1_ n2_ n3_
          (try clear hb)
          (try clear hb2)
          (try clear hk)
          (try clear hi)
          have p38 : 0 ≤ (0 : Int) := (by omega)
          have q38 : (0 : Int) < ((y418.length : Int) : Int) := of_decide_eq_true (by first | (with_reducible assumption) | assumption)
          have qi38 : (0 < y418.length) = True := eq_true (by omega)
          obtain ⟨go38, co38, eo38, gb38, gl38, cl38, HG38⟩ := Kd.R_form HO420.out (by omega)
          (first | cases eo38 | (injection eo38 with ea_ en_ ec_; (first | subst ea_ | (injection ea_ with ea_; subst ea_)); subst ec_; clear en_))
          have GB38 := A0_.mk gb38
          have GG38 := A0_.mk HG38
          clear gb38 gl38 HG38
          obtain ⟨hx38_0, hf38_0⟩ := Kd.R_celln (⟨#[]⟩ : ByteArray) HO420.out (0 : Int) p38 q38
          (try rw [show ((0 : Int)).toNat = 0 from rfl] at hx38_0)
          (try simp only [Nat.reduceMul, Nat.zero_mul, Nat.zero_add, Nat.reduceAdd] at hx38_0)
          (try rw [show ((0 : Int)).toNat = 0 from rfl] at hf38_0)
          (try simp only [Nat.reduceMul, Nat.zero_mul, Nat.zero_add, Nat.reduceAdd] at hf38_0)
          replace p38 := eq_true p38
          replace q38 := eq_true q38
          have HP44 := Kd.R_putn HO420.out (0 : Int) t422
          rw [← Ny423.out] at HP44
          have HQ44 := A0_.mk HP44
          clear HP44
          refine hK.out _ _ ⟨(bC BK421.out 0).trans rfl, (bC BK421.out 1).trans rfl, (bC BK421.out 2).trans rfl, (bC BK421.out 3).trans rfl, (bC BK421.out 4).trans rfl, (bC BK421.out 5).trans rfl⟩ (fun hHeld => ?_)
          clear hK K
          refine norm_ (a' := ?_) ?_ ?_
          rotate_left
          ·show Act.put _ (some 58) _ = _
           simp only [Act.put, List.setIfInBounds_toArray, List.set_cons_zero, List.set_cons_succ, i64_w, i32_w]
           rfl
          refine pure_ (i := 4) (N := some 59) (v := ?_) (a' := ?_) #[true, true, true, true, true, false] rfl rfl (by kernel_rfl) (fun _ _ _ h => h) (Or.inl ⟨by rfl, ?_⟩) ?_ ?_
          rotate_left
          ·intro w'
           go_simp
           with_reducible rfl
          rotate_left
          ·simp only [Act.put, List.setIfInBounds_toArray, List.set_cons_zero, List.set_cons_succ, i64_w, i32_w]
           rfl
          refine last_ (i := 5) (N := none) #[true, true, true, true, true, true] rfl rfl (by kernel_rfl) (by decide) (fun K hK => ?_)
          refine skip_ (w1 := ?_) (by rfl) rfl ?_ ?_
          rotate_left
          ·go_simp
           rfl
          refine hK.out _ _ ?_
          clear hK K
          refine done_ (by kernel_rfl) ?_
          try go_wp2
          go_meet
          case rel => exact ⟨_, (a0_1), (a0_3), (y423), (.slice (some ⟨go38, 0, none⟩) y418.length co24), H', ⟨by have := HJ3.out; first | omega | exact Nat.le_refl _⟩, ⟨by (with_reducible repeat (first | apply Kd.R_alloc | apply Kd.R_drewN | apply Kd.R_drew)); exact HQ44.out⟩, ⟨by (with_reducible repeat (first | refine bN ?_ _ | refine bD ?_ | refine bA ?_ _)); refine bR ?_ (by have h_ := Kd.R_ne HO420.out BK412.out (by decide); intro e_; exact h_ (by rw [e_]; rfl)) _; (with_reducible repeat (first | refine bN ?_ _ | refine bD ?_ | refine bA ?_ _)); exact BK412.out⟩, ⟨by (with_reducible repeat (first | refine bN ?_ _ | refine bD ?_ | refine bA ?_ _)); refine bR ?_ (by have h_ := Kd.R_ne HO420.out BK421.out (by decide); intro e_; exact h_ (by rw [e_]; rfl)) _; (with_reducible repeat (first | refine bN ?_ _ | refine bD ?_ | refine bA ?_ _)); exact BK421.out⟩, ⟨by repeat (first | (with_reducible first | exact HB.out | apply wA | apply pN | apply wD | refine wS ?_ GB38.out | refine wS ?_ GE412.out | refine wS ?_ GE421.out) | exact HB.out)⟩⟩
         ·rw [if_neg c37] at H
          exact absurd H (by simp)
        ·rw [if_neg c35] at H
         have c35b0 : decide (0 < (y418.length : Int)) = false := decide_eq_false c35
         have c35b1 : decide (0 < y418.length) = false := decide_eq_false (by omega)
         clear c35
         by_cases c45 : a0_1.size + 1 ≤ 9223372036854775807
         ·rw [if_pos c45] at H
          have c45b0 := eq_true c45
          have c45b1 : decide (a0_1.size + 1 ≤ 9223372036854775807) = true := decide_eq_true c45
          try have c45b2 : (9223372036854775807 < a0_1.size + 1) = False := eq_false (Nat.not_lt.2 c45)
          have H' := A0_.mk H
          clear H
          have hnb46 := NB421_412.out
          have hnc46 := NB412_421.out
          have hcz47_0 : w23.cell? ⟨gb421, 0, none⟩ = some (.int .i64 0) := (bC BK421.out 0).trans rfl
          have hcz47_1 : w23.cell? ⟨gb421, 1, none⟩ = some (.string (⟨#[]⟩ : ByteArray)) := (bC BK421.out 1).trans rfl
          have hcz47_2 : w23.cell? ⟨gb421, 2, none⟩ = some (.bool false) := (bC BK421.out 2).trans rfl
          have hcz47_3 : w23.cell? ⟨gb421, 3, none⟩ = some (.string (⟨#[]⟩ : ByteArray)) := (bC BK421.out 3).trans rfl
          have hcz47_4 : w23.cell? ⟨gb421, 4, none⟩ = some (.int .i64 0) := (bC BK421.out 4).trans rfl
          have hcz47_5 : w23.cell? ⟨gb421, 5, none⟩ = some (.slice none 0 0) := (bC BK421.out 5).trans rfl
          have hfz47_0 := bF BK421.out 0
          have hfz47_1 := bF BK421.out 1
          have hfz47_2 := bF BK421.out 2
          have hfz47_3 := bF BK421.out 3
          have hfz47_4 := bF BK421.out 4
          have hfz47_5 := bF BK421.out 5
          go_wp2
          go_meet
          case rel => exact ⟨_, (a0_1 ++ (⟨#[1]⟩ : ByteArray)), (a0_3), (y418), (.slice Ao24 y418.length co24), H', ⟨by have := HJ3.out; first | omega | exact Nat.le_refl _⟩, ⟨by (with_reducible repeat (first | apply Kd.R_alloc | apply Kd.R_drewN | apply Kd.R_drew)); exact Kd.R_mono (Kd.R_far (p := ⟨gb421, 1, none⟩) (Kd.R_far (p := ⟨gb421, 5, none⟩) (Kd.R_far (p := ⟨gb421, 4, none⟩) (Kd.R_far (p := ⟨gb421, 3, none⟩) (Kd.R_far (p := ⟨gb421, 2, none⟩) (Kd.R_far (p := ⟨gb421, 1, none⟩) (Kd.R_far (p := ⟨gb421, 0, none⟩) (Kd.R_types HO420.out BK421.out (by decide)) (fun _ hk => hk.2) (.int .i64 a0_0)) (fun _ hk => hk.2) (.string a0_1)) (fun _ hk => hk.2) (.bool a0_2)) (fun _ hk => hk.2) (.string a0_3)) (fun _ hk => hk.2) (.int .i64 a0_4)) (fun _ hk => hk.2) (.slice Ao24 y418.length co24)) (fun _ hk => hk.2) (.string (a0_1 ++ (⟨#[1]⟩ : ByteArray)))) (fun _ hk => trivial)⟩, ⟨by (with_reducible repeat (first | refine bN ?_ _ | refine bD ?_ | refine bA ?_ _)); refine bR ?_ NB412_421.out _; (with_reducible repeat (first | refine bN ?_ _ | refine bD ?_ | refine bA ?_ _)); refine bR ?_ NB412_421.out _; (with_reducible repeat (first | refine bN ?_ _ | refine bD ?_ | refine bA ?_ _)); refine bR ?_ NB412_421.out _; (with_reducible repeat (first | refine bN ?_ _ | refine bD ?_ | refine bA ?_ _)); refine bR ?_ NB412_421.out _; (with_reducible repeat (first | refine bN ?_ _ | refine bD ?_ | refine bA ?_ _)); refine bR ?_ NB412_421.out _; (with_reducible repeat (first | refine bN ?_ _ | refine bD ?_ | refine bA ?_ _)); refine bR ?_ NB412_421.out _; (with_reducible repeat (first | refine bN ?_ _ | refine bD ?_ | refine bA ?_ _)); refine bR ?_ NB412_421.out _; (with_reducible repeat (first | refine bN ?_ _ | refine bD ?_ | refine bA ?_ _)); exact BK412.out⟩, ⟨by (with_reducible repeat (first | refine bN ?_ _ | refine bD ?_ | refine bA ?_ _)); refine bP (cs := #[.int .i64 a0_0, .string a0_1, .bool a0_2, .string a0_3, .int .i64 a0_4, .slice Ao24 y418.length co24]) ?_ 1 _ rfl; (with_reducible repeat (first | refine bN ?_ _ | refine bD ?_ | refine bA ?_ _)); refine bP (cs := #[.int .i64 a0_0, .string a0_1, .bool a0_2, .string a0_3, .int .i64 a0_4, .slice none 0 0]) ?_ 5 _ rfl; (with_reducible repeat (first | refine bN ?_ _ | refine bD ?_ | refine bA ?_ _)); refine bP (cs := #[.int .i64 a0_0, .string a0_1, .bool a0_2, .string a0_3, .int .i64 0, .slice none 0 0]) ?_ 4 _ rfl; (with_reducible repeat (first | refine bN ?_ _ | refine bD ?_ | refine bA ?_ _)); refine bP (cs := #[.int .i64 a0_0, .string a0_1, .bool a0_2, .string (⟨#[]⟩ : ByteArray), .int .i64 0, .slice none 0 0]) ?_ 3 _ rfl; (with_reducible repeat (first | refine bN ?_ _ | refine bD ?_ | refine bA ?_ _)); refine bP (cs := #[.int .i64 a0_0, .string a0_1, .bool false, .string (⟨#[]⟩ : ByteArray), .int .i64 0, .slice none 0 0]) ?_ 2 _ rfl; (with_reducible repeat (first | refine bN ?_ _ | refine bD ?_ | refine bA ?_ _)); refine bP (cs := #[.int .i64 a0_0, .string (⟨#[]⟩ : ByteArray), .bool false, .string (⟨#[]⟩ : ByteArray), .int .i64 0, .slice none 0 0]) ?_ 1 _ rfl; (with_reducible repeat (first | refine bN ?_ _ | refine bD ?_ | refine bA ?_ _)); refine bP (cs := #[.int .i64 0, .string (⟨#[]⟩ : ByteArray), .bool false, .string (⟨#[]⟩ : ByteArray), .int .i64 0, .slice none 0 0]) ?_ 0 _ rfl; (with_reducible repeat (first | refine bN ?_ _ | refine bD ?_ | refine bA ?_ _)); exact BK421.out⟩, ⟨by repeat (first | (with_reducible first | exact HB.out | apply wA | apply pN | apply wD | refine wS ?_ GE412.out | refine wS ?_ GE421.out) | exact HB.out)⟩⟩
         ·rw [if_neg c45] at H
          exact absurd H (by simp)
       ·rw [if_neg c34] at H
        have c34b0 : ((Int.tmod a2 3) == 1) = false := beq_eq_false_iff_ne.mpr c34
        have c34b1 : ((Int.tmod a2 3) != 1) = true := bne_iff_ne.mpr c34
        by_cases c48 : a0_1.size + 1 ≤ 9223372036854775807
        ·rw [if_pos c48] at H
         have c48b0 := eq_true c48
         have c48b1 : decide (a0_1.size + 1 ≤ 9223372036854775807) = true := decide_eq_true c48
         try have c48b2 : (9223372036854775807 < a0_1.size + 1) = False := eq_false (Nat.not_lt.2 c48)
         have H' := A0_.mk H
         clear H
         have hnb49 := NB421_412.out
         have hnc49 := NB412_421.out
         have hcz50_0 : w23.cell? ⟨gb421, 0, none⟩ = some (.int .i64 0) := (bC BK421.out 0).trans rfl
         have hcz50_1 : w23.cell? ⟨gb421, 1, none⟩ = some (.string (⟨#[]⟩ : ByteArray)) := (bC BK421.out 1).trans rfl
         have hcz50_2 : w23.cell? ⟨gb421, 2, none⟩ = some (.bool false) := (bC BK421.out 2).trans rfl
         have hcz50_3 : w23.cell? ⟨gb421, 3, none⟩ = some (.string (⟨#[]⟩ : ByteArray)) := (bC BK421.out 3).trans rfl
         have hcz50_4 : w23.cell? ⟨gb421, 4, none⟩ = some (.int .i64 0) := (bC BK421.out 4).trans rfl
         have hcz50_5 : w23.cell? ⟨gb421, 5, none⟩ = some (.slice none 0 0) := (bC BK421.out 5).trans rfl
         have hfz50_0 := bF BK421.out 0
         have hfz50_1 := bF BK421.out 1
         have hfz50_2 := bF BK421.out 2
         have hfz50_3 := bF BK421.out 3
         have hfz50_4 := bF BK421.out 4
         have hfz50_5 := bF BK421.out 5
         go_wp2
         go_meet
         case rel => exact ⟨_, (a0_1 ++ (⟨#[1]⟩ : ByteArray)), (a0_3), (y418), (.slice Ao24 y418.length co24), H', ⟨by have := HJ3.out; first | omega | exact Nat.le_refl _⟩, ⟨by (with_reducible repeat (first | apply Kd.R_alloc | apply Kd.R_drewN | apply Kd.R_drew)); exact Kd.R_mono (Kd.R_far (p := ⟨gb421, 1, none⟩) (Kd.R_far (p := ⟨gb421, 5, none⟩) (Kd.R_far (p := ⟨gb421, 4, none⟩) (Kd.R_far (p := ⟨gb421, 3, none⟩) (Kd.R_far (p := ⟨gb421, 2, none⟩) (Kd.R_far (p := ⟨gb421, 1, none⟩) (Kd.R_far (p := ⟨gb421, 0, none⟩) (Kd.R_types HO420.out BK421.out (by decide)) (fun _ hk => hk.2) (.int .i64 a0_0)) (fun _ hk => hk.2) (.string a0_1)) (fun _ hk => hk.2) (.bool a0_2)) (fun _ hk => hk.2) (.string a0_3)) (fun _ hk => hk.2) (.int .i64 a0_4)) (fun _ hk => hk.2) (.slice Ao24 y418.length co24)) (fun _ hk => hk.2) (.string (a0_1 ++ (⟨#[1]⟩ : ByteArray)))) (fun _ hk => trivial)⟩, ⟨by (with_reducible repeat (first | refine bN ?_ _ | refine bD ?_ | refine bA ?_ _)); refine bR ?_ NB412_421.out _; (with_reducible repeat (first | refine bN ?_ _ | refine bD ?_ | refine bA ?_ _)); refine bR ?_ NB412_421.out _; (with_reducible repeat (first | refine bN ?_ _ | refine bD ?_ | refine bA ?_ _)); refine bR ?_ NB412_421.out _; (with_reducible repeat (first | refine bN ?_ _ | refine bD ?_ | refine bA ?_ _)); refine bR ?_ NB412_421.out _; (with_reducible repeat (first | refine bN ?_ _ | refine bD ?_ | refine bA ?_ _)); refine bR ?_ NB412_421.out _; (with_reducible repeat (first | refine bN ?_ _ | refine bD ?_ | refine bA ?_ _)); refine bR ?_ NB412_421.out _; (with_reducible repeat (first | refine bN ?_ _ | refine bD ?_ | refine bA ?_ _)); refine bR ?_ NB412_421.out _; (with_reducible repeat (first | refine bN ?_ _ | refine bD ?_ | refine bA ?_ _)); exact BK412.out⟩, ⟨by (with_reducible repeat (first | refine bN ?_ _ | refine bD ?_ | refine bA ?_ _)); refine bP (cs := #[.int .i64 a0_0, .string a0_1, .bool a0_2, .string a0_3, .int .i64 a0_4, .slice Ao24 y418.length co24]) ?_ 1 _ rfl; (with_reducible repeat (first | refine bN ?_ _ | refine bD ?_ | refine bA ?_ _)); refine bP (cs := #[.int .i64 a0_0, .string a0_1, .bool a0_2, .string a0_3, .int .i64 a0_4, .slice none 0 0]) ?_ 5 _ rfl; (with_reducible repeat (first | refine bN ?_ _ | refine bD ?_ | refine bA ?_ _)); refine bP (cs := #[.int .i64 a0_0, .string a0_1, .bool a0_2, .string a0_3, .int .i64 0, .slice none 0 0]) ?_ 4 _ rfl; (with_reducible repeat (first | refine bN ?_ _ | refine bD ?_ | refine bA ?_ _)); refine bP (cs := #[.int .i64 a0_0, .string a0_1, .bool a0_2, .string (⟨#[]⟩ : ByteArray), .int .i64 0, .slice none 0 0]) ?_ 3 _ rfl; (with_reducible repeat (first | refine bN ?_ _ | refine bD ?_ | refine bA ?_ _)); refine bP (cs := #[.int .i64 a0_0, .string a0_1, .bool false, .string (⟨#[]⟩ : ByteArray), .int .i64 0, .slice none 0 0]) ?_ 2 _ rfl; (with_reducible repeat (first | refine bN ?_ _ | refine bD ?_ | refine bA ?_ _)); refine bP (cs := #[.int .i64 a0_0, .string (⟨#[]⟩ : ByteArray), .bool false, .string (⟨#[]⟩ : ByteArray), .int .i64 0, .slice none 0 0]) ?_ 1 _ rfl; (with_reducible repeat (first | refine bN ?_ _ | refine bD ?_ | refine bA ?_ _)); refine bP (cs := #[.int .i64 0, .string (⟨#[]⟩ : ByteArray), .bool false, .string (⟨#[]⟩ : ByteArray), .int .i64 0, .slice none 0 0]) ?_ 0 _ rfl; (with_reducible repeat (first | refine bN ?_ _ | refine bD ?_ | refine bA ?_ _)); exact BK421.out⟩, ⟨by repeat (first | (with_reducible first | exact HB.out | apply wA | apply pN | apply wD | refine wS ?_ GE412.out | refine wS ?_ GE421.out) | exact HB.out)⟩⟩
        ·rw [if_neg c48] at H
         exact absurd H (by simp)
     case rest =>
      clear HC16
      try clear c1
      try clear p2
      try clear c3
      try clear p3
      try clear q3
      try clear hx3
      try clear qi3
      try clear hf3
      try clear c4
      try clear c15
      try clear c19
      try clear c31
      try clear c31b0
      try clear c31b1
      try clear c32
      try clear c34
      try clear c34b0
      try clear c34b1
      try clear c35
      try clear c35b0
      try clear c35b1
      try clear c37
      try clear c37b0
      try clear c37b1
      try clear p38
      try clear q38
      try clear hx38
      try clear qi38
      try clear hf38
      try clear c39
      try clear c45
      try clear c45b0
      try clear c45b1
      try clear c45b2
      try clear c46
      try clear c48
      try clear c48b0
      try clear c48b1
      try clear c48b2
      try clear c49
      try clear hcz33_0
      try clear hcz33_1
      try clear hcz33_2
      try clear hcz33_3
      try clear hcz33_4
      try clear hcz33_5
      try clear hcz40_0
      try clear hcz40_1
      try clear hcz40_2
      try clear hcz40_3
      try clear hcz40_4
      try clear hcz40_5
      try clear hcz47_0
      try clear hcz47_1
      try clear hcz47_2
      try clear hcz47_3
      try clear hcz47_4
      try clear hcz47_5
      try clear hcz50_0
      try clear hcz50_1
      try clear hcz50_2
      try clear hcz50_3
      try clear hcz50_4
      try clear hcz50_5
      try clear hfz33_0
      try clear hfz33_1
      try clear hfz33_2
      try clear hfz33_3
      try clear hfz33_4
      try clear hfz33_5
      try clear hfz40_0
      try clear hfz40_1
      try clear hfz40_2
      try clear hfz40_3
      try clear hfz40_4
      try clear hfz40_5
      try clear hfz47_0
      try clear hfz47_1
      try clear hfz47_2
      try clear hfz47_3
      try clear hfz47_4
      try clear hfz47_5
      try clear hfz50_0
      try clear hfz50_1
      try clear hfz50_2
      try clear hfz50_3
      try clear hfz50_4
      try clear hfz50_5
      try clear hx38_0
      try clear p38
      try clear q38
      obtain ⟨kq, x422001_15, x422003_15, x422005_15, u422005, HA, HJ15, HO_422005, BK412, BK421, HB⟩ := hcut
      cases kq with
      | zero => exact absurd HA.out (by simp [u9NodeUnlike.j1])
      | succ kj15 =>
       have H := HA.out
       clear HA
       simp only [u9NodeUnlike.j1] at H
       replace H := Option.bind_eq_some_iff.mp H
       obtain ⟨⟨t424, t425⟩, A510, H⟩ := H
       replace H : ((node_Encode.f kj15 a0_0 x422001_15 a0_2 x422003_15 a0_4 x422005_15).bind fun bt426 => (if t425 = true then (if bt426.2 = true then ((k9Item.f kj15 a0_0 a0_1 a0_2 a0_3 a0_4 l0_5 a0_0 x422001_15 a0_2 x422003_15 a0_4 x422005_15).bind fun t428 => (if ((t424.toList == bt426.1.toList) == t428) = true then ((r9Good.f kj15 a0_0 a0_1 a0_2 a0_3 a0_4 l0_5).bind fun t429 => (if (t425 == t429) = true then ((r9Good.f kj15 a0_0 x422001_15 a0_2 x422003_15 a0_4 x422005_15).bind fun t430 => (if (bt426.2 == t430) = true then ((u9wakes.f kj15).bind fun t431 => (some t431)) else (none))) else (none))) else (none))) else ((r9Good.f kj15 a0_0 a0_1 a0_2 a0_3 a0_4 l0_5).bind fun t432 => (if (t425 == t432) = true then ((r9Good.f kj15 a0_0 x422001_15 a0_2 x422003_15 a0_4 x422005_15).bind fun t433 => (if (bt426.2 == t433) = true then ((u9wakes.f kj15).bind fun t434 => (some t434)) else (none))) else (none)))) else ((r9Good.f kj15 a0_0 a0_1 a0_2 a0_3 a0_4 l0_5).bind fun t435 => (if (t425 == t435) = true then ((r9Good.f kj15 a0_0 x422001_15 a0_2 x422003_15 a0_4 x422005_15).bind fun t436 => (if (bt426.2 == t436) = true then ((u9wakes.f kj15).bind fun t437 => (some t437)) else (none))) else (none))))) = some r := H
       have A51 := A0_.mk A510
       clear A510
       replace H := Option.bind_eq_some_iff.mp H
       obtain ⟨⟨t426, t427⟩, A520, H⟩ := H
       replace H : (if t425 = true then (if t427 = true then ((k9Item.f kj15 a0_0 a0_1 a0_2 a0_3 a0_4 l0_5 a0_0 x422001_15 a0_2 x422003_15 a0_4 x422005_15).bind fun t428 => (if ((t424.toList == t426.toList) == t428) = true then ((r9Good.f kj15 a0_0 a0_1 a0_2 a0_3 a0_4 l0_5).bind fun t429 => (if (t425 == t429) = true then ((r9Good.f kj15 a0_0 x422001_15 a0_2 x422003_15 a0_4 x422005_15).bind fun t430 => (if (t427 == t430) = true then ((u9wakes.f kj15).bind fun t431 => (some t431)) else (none))) else (none))) else (none))) else ((r9Good.f kj15 a0_0 a0_1 a0_2 a0_3 a0_4 l0_5).bind fun t432 => (if (t425 == t432) = true then ((r9Good.f kj15 a0_0 x422001_15 a0_2 x422003_15 a0_4 x422005_15).bind fun t433 => (if (t427 == t433) = true then ((u9wakes.f kj15).bind fun t434 => (some t434)) else (none))) else (none)))) else ((r9Good.f kj15 a0_0 a0_1 a0_2 a0_3 a0_4 l0_5).bind fun t435 => (if (t425 == t435) = true then ((r9Good.f kj15 a0_0 x422001_15 a0_2 x422003_15 a0_4 x422005_15).bind fun t436 => (if (t427 == t436) = true then ((u9wakes.f kj15).bind fun t437 => (some t437)) else (none))) else (none)))) = some r := H
       have A52 := A0_.mk A520
       clear A520
       by_cases c53 : t425 = true
       ·subst c53
        have H1 : (if t427 = true then ((k9Item.f kj15 a0_0 a0_1 a0_2 a0_3 a0_4 l0_5 a0_0 x422001_15 a0_2 x422003_15 a0_4 x422005_15).bind fun t428 => (if ((t424.toList == t426.toList) == t428) = true then ((r9Good.f kj15 a0_0 a0_1 a0_2 a0_3 a0_4 l0_5).bind fun t429 => (if (true == t429) = true then ((r9Good.f kj15 a0_0 x422001_15 a0_2 x422003_15 a0_4 x422005_15).bind fun t430 => (if (t427 == t430) = true then ((u9wakes.f kj15).bind fun t431 => (some t431)) else (none))) else (none))) else (none))) else ((r9Good.f kj15 a0_0 a0_1 a0_2 a0_3 a0_4 l0_5).bind fun t432 => (if (true == t432) = true then ((r9Good.f kj15 a0_0 x422001_15 a0_2 x422003_15 a0_4 x422005_15).bind fun t433 => (if (t427 == t433) = true then ((u9wakes.f kj15).bind fun t434 => (some t434)) else (none))) else (none)))) = some r := by rw [if_pos rfl] at H; exact H
        clear H
        have H := H1
        clear H1
        by_cases c54 : t427 = true
        ·subst c54
         have H1 : ((k9Item.f kj15 a0_0 a0_1 a0_2 a0_3 a0_4 l0_5 a0_0 x422001_15 a0_2 x422003_15 a0_4 x422005_15).bind fun t428 => (if ((t424.toList == t426.toList) == t428) = true then ((r9Good.f kj15 a0_0 a0_1 a0_2 a0_3 a0_4 l0_5).bind fun t429 => (if (true == t429) = true then ((r9Good.f kj15 a0_0 x422001_15 a0_2 x422003_15 a0_4 x422005_15).bind fun t430 => (if (true == t430) = true then ((u9wakes.f kj15).bind fun t431 => (some t431)) else (none))) else (none))) else (none))) = some r := by rw [if_pos rfl] at H; exact H
         clear H
         have H := H1
         clear H1
         replace H := Option.bind_eq_some_iff.mp H
         obtain ⟨t428, A550, H⟩ := H
         replace H : (if ((t424.toList == t426.toList) == t428) = true then ((r9Good.f kj15 a0_0 a0_1 a0_2 a0_3 a0_4 l0_5).bind fun t429 => (if (true == t429) = true then ((r9Good.f kj15 a0_0 x422001_15 a0_2 x422003_15 a0_4 x422005_15).bind fun t430 => (if (true == t430) = true then ((u9wakes.f kj15).bind fun t431 => (some t431)) else (none))) else (none))) else (none)) = some r := H
         have A55 := A0_.mk A550
         clear A550
         by_cases c56 : ((t424.toList == t426.toList) == t428) = true
         ·rw [if_pos c56] at H
          have c56b0 : ((t424.toList == t426.toList) == t428) = true := c56
          (try (have c56b1 : decide ((t424.toList == t426.toList) = t428) = true := by simpa using c56))
          (try (have c56b2 : ((t424.toList == t426.toList) == t428) = true := by simpa using c56))
          clear c56
          replace H := Option.bind_eq_some_iff.mp H
          obtain ⟨t429, A570, H⟩ := H
          replace H : (if (true == t429) = true then ((r9Good.f kj15 a0_0 x422001_15 a0_2 x422003_15 a0_4 x422005_15).bind fun t430 => (if (true == t430) = true then ((u9wakes.f kj15).bind fun t431 => (some t431)) else (none))) else (none)) = some r := H
          have A57 := A0_.mk A570
          clear A570
          by_cases c58 : (true == t429) = true
          ·rw [if_pos c58] at H
           have c58b0 : (true == t429) = true := c58
           (try (have c58b1 : decide (true = t429) = true := by simpa using c58))
           (try (have c58b2 : (true == t429) = true := by simpa using c58))
           clear c58
           replace H := Option.bind_eq_some_iff.mp H
           obtain ⟨t430, A590, H⟩ := H
           replace H : (if (true == t430) = true then ((u9wakes.f kj15).bind fun t431 => (some t431)) else (none)) = some r := H
           have A59 := A0_.mk A590
           clear A590
           by_cases c60 : (true == t430) = true
           ·rw [if_pos c60] at H
            have c60b0 : (true == t430) = true := c60
            (try (have c60b1 : decide (true = t430) = true := by simpa using c60))
            (try (have c60b2 : (true == t430) = true := by simpa using c60))
            clear c60
            replace H := Option.bind_eq_some_iff.mp H
            obtain ⟨t431, A610, H⟩ := H
            replace H : (some t431) = some r := H
            have A61 := A0_.mk A610
            clear A610
            obtain rfl := Option.some.inj H
            have hnb62 := NB412_421.out
            have hnc62 := NB421_412.out
            have hcz63_0 : wc.cell? ⟨gb412, 0, none⟩ = some (.int .i64 a0_0) := (bC BK412.out 0).trans rfl
            have hcz63_1 : wc.cell? ⟨gb412, 1, none⟩ = some (.string a0_1) := (bC BK412.out 1).trans rfl
            have hcz63_2 : wc.cell? ⟨gb412, 2, none⟩ = some (.bool a0_2) := (bC BK412.out 2).trans rfl
            have hcz63_3 : wc.cell? ⟨gb412, 3, none⟩ = some (.string a0_3) := (bC BK412.out 3).trans rfl
            have hcz63_4 : wc.cell? ⟨gb412, 4, none⟩ = some (.int .i64 a0_4) := (bC BK412.out 4).trans rfl
            have hcz63_5 : wc.cell? ⟨gb412, 5, none⟩ = some (.slice A0_5 l0_5.length c0_5) := (bC BK412.out 5).trans rfl
            have hfz63_0 := bF BK412.out 0
            have hfz63_1 := bF BK412.out 1
            have hfz63_2 := bF BK412.out 2
            have hfz63_3 := bF BK412.out 3
            have hfz63_4 := bF BK412.out 4
            have hfz63_5 := bF BK412.out 5
            go_wp2_with (first | ((with_reducible refine gC (f := 9) rfl ?_); refine gL (some 62) rfl rfl Tryd.func9 (by kernel_rfl) rfl #[.agg #[.int .i64 a0_0, .string a0_1, .bool a0_2, .string a0_3, .int .i64 a0_4, .slice A0_5 l0_5.length c0_5]] rfl (by (try simp only [List.map_toArray, List.map_cons, List.map_nil]); first | done | rfl | (simp only [List.length_drop, List.length_take]; rfl)) ?_; (with_reducible refine (node_Encode.calls kj15 a0_0 a0_1 a0_2 a0_3 a0_4 _ _ l0_5 t424 true _ ?side1 ?side2 A51.out).mono ?_); (case side1 => repeat (first | exact (Kd.C_below HR0_5.out HB.out) | (with_reducible refine Kd.C_alloc ?_ _) | (with_reducible refine Kd.C_drewN ?_ _) | (with_reducible refine Kd.C_drew ?_))); (case side2 => exact HC0_5.out); rintro e w64 ⟨rfl, hb⟩; refine ⟨_, rfl, ?_⟩; have n0_ := A0_.mk (Kd.R_below (by (with_reducible repeat (first | apply Kd.R_alloc | apply Kd.R_drewN | apply Kd.R_drew)); exact HO_422005.out) hb); have n1_ := A0_.mk (bB (g := gb412) (o := .cells #[.int .i64 a0_0, .string a0_1, .bool a0_2, .string a0_3, .int .i64 a0_4, .slice A0_5 l0_5.length c0_5] 24 (0, 0)) (by (with_reducible repeat (first | refine bN ?_ _ | refine bD ?_ | refine bA ?_ _)); exact BK412.out) hb); have n2_ := A0_.mk (bB (g := gb421) (o := .cells #[.int .i64 a0_0, .string x422001_15, .bool a0_2, .string x422003_15, .int .i64 a0_4, u422005] 24 (0, 0)) (by (with_reducible repeat (first | refine bN ?_ _ | refine bD ?_ | refine bA ?_ _)); exact BK421.out) hb); have n3_ := A0_.mk (wT (by repeat (first | (with_reducible first | exact HB.out | apply wA | apply pN | apply wD | refine wS ?_ GE412.out | refine wS ?_ GE421.out) | exact HB.out)) hb); clear HO_422005; clear BK412; clear BK421; clear HB; have HO_422005 := n0_; have BK412 := n1_; have BK421 := n2_; have HB := n3_; clear n0_ n1_ n2_ n3_; (try clear hb); (try clear hb2); (try clear hk); (try clear hi); have hcz65_0 : w64.cell? ⟨gb421, 0, none⟩ = some (.int .i64 a0_0) := (bC BK421.out 0).trans rfl; have hcz65_1 : w64.cell? ⟨gb421, 1, none⟩ = some (.string x422001_15) := (bC BK421.out 1).trans rfl; have hcz65_2 : w64.cell? ⟨gb421, 2, none⟩ = some (.bool a0_2) := (bC BK421.out 2).trans rfl; have hcz65_3 : w64.cell? ⟨gb421, 3, none⟩ = some (.string x422003_15) := (bC BK421.out 3).trans rfl; have hcz65_4 : w64.cell? ⟨gb421, 4, none⟩ = some (.int .i64 a0_4) := (bC BK421.out 4).trans rfl; have hcz65_5 : w64.cell? ⟨gb421, 5, none⟩ = some (u422005) := (bC BK421.out 5).trans rfl; have hfz65_0 := bF BK421.out 0; have hfz65_1 := bF BK421.out 1; have hfz65_2 := bF BK421.out 2; have hfz65_3 := bF BK421.out 3; have hfz65_4 := bF BK421.out 4; have hfz65_5 := bF BK421.out 5; obtain ⟨Ao66, co66, eo66⟩ := Kd.R_slice HO_422005.out; subst eo66) | ((with_reducible refine gC (f := 9) rfl ?_); refine gL (some 67) rfl rfl Tryd.func9 (by kernel_rfl) rfl #[.agg #[.int .i64 a0_0, .string x422001_15, .bool a0_2, .string x422003_15, .int .i64 a0_4, .slice Ao66 x422005_15.length co66]] rfl (by (try simp only [List.map_toArray, List.map_cons, List.map_nil]); first | done | rfl | (simp only [List.length_drop, List.length_take]; rfl)) ?_; (with_reducible refine (node_Encode.calls kj15 a0_0 x422001_15 a0_2 x422003_15 a0_4 _ _ x422005_15 t426 true _ ?side1 ?side2 A52.out).mono ?_); (case side1 => repeat (first | exact (Kd.R_reads' HO_422005.out).2.2 | (with_reducible refine Kd.C_alloc ?_ _) | (with_reducible refine Kd.C_drewN ?_ _) | (with_reducible refine Kd.C_drew ?_))); (case side2 => exact (Kd.R_reads' HO_422005.out).2.1); rintro e w67 ⟨rfl, hb⟩; refine ⟨_, rfl, ?_⟩; have n0_ := A0_.mk (Kd.R_below (by (with_reducible repeat (first | apply Kd.R_alloc | apply Kd.R_drewN | apply Kd.R_drew)); exact HO_422005.out) hb); have n1_ := A0_.mk (bB (g := gb412) (o := .cells #[.int .i64 a0_0, .string a0_1, .bool a0_2, .string a0_3, .int .i64 a0_4, .slice A0_5 l0_5.length c0_5] 24 (0, 0)) (by (with_reducible repeat (first | refine bN ?_ _ | refine bD ?_ | refine bA ?_ _)); exact BK412.out) hb); have n2_ := A0_.mk (bB (g := gb421) (o := .cells #[.int .i64 a0_0, .string x422001_15, .bool a0_2, .string x422003_15, .int .i64 a0_4, .slice Ao66 x422005_15.length co66] 24 (0, 0)) (by (with_reducible repeat (first | refine bN ?_ _ | refine bD ?_ | refine bA ?_ _)); exact BK421.out) hb); have n3_ := A0_.mk (wT (by repeat (first | (with_reducible first | exact HB.out | apply wA | apply pN | apply wD | refine wS ?_ GE412.out | refine wS ?_ GE421.out) | exact HB.out)) hb); clear HO_422005; clear BK412; clear BK421; clear HB; have HO_422005 := n0_; have BK412 := n1_; have BK421 := n2_; have HB := n3_; clear n0_ n1_ n2_ n3_; (try clear hb); (try clear hb2); (try clear hk); (try clear hi); have hcz68_0 : w67.cell? ⟨gb412, 0, none⟩ = some (.int .i64 a0_0) := (bC BK412.out 0).trans rfl; have hcz68_1 : w67.cell? ⟨gb412, 1, none⟩ = some (.string a0_1) := (bC BK412.out 1).trans rfl; have hcz68_2 : w67.cell? ⟨gb412, 2, none⟩ = some (.bool a0_2) := (bC BK412.out 2).trans rfl; have hcz68_3 : w67.cell? ⟨gb412, 3, none⟩ = some (.string a0_3) := (bC BK412.out 3).trans rfl; have hcz68_4 : w67.cell? ⟨gb412, 4, none⟩ = some (.int .i64 a0_4) := (bC BK412.out 4).trans rfl; have hcz68_5 : w67.cell? ⟨gb412, 5, none⟩ = some (.slice A0_5 l0_5.length c0_5) := (bC BK412.out 5).trans rfl; have hfz68_0 := bF BK412.out 0; have hfz68_1 := bF BK412.out 1; have hfz68_2 := bF BK412.out 2; have hfz68_3 := bF BK412.out 3; have hfz68_4 := bF BK412.out 4; have hfz68_5 := bF BK412.out 5; have hcz69_0 : w67.cell? ⟨gb421, 0, none⟩ = some (.int .i64 a0_0) := (bC BK421.out 0).trans rfl; have hcz69_1 : w67.cell? ⟨gb421, 1, none⟩ = some (.string x422001_15) := (bC BK421.out 1).trans rfl; have hcz69_2 : w67.cell? ⟨gb421, 2, none⟩ = some (.bool a0_2) := (bC BK421.out 2).trans rfl; have hcz69_3 : w67.cell? ⟨gb421, 3, none⟩ = some (.string x422003_15) := (bC BK421.out 3).trans rfl; have hcz69_4 : w67.cell? ⟨gb421, 4, none⟩ = some (.int .i64 a0_4) := (bC BK421.out 4).trans rfl; have hcz69_5 : w67.cell? ⟨gb421, 5, none⟩ = some (.slice Ao66 x422005_15.length co66) := (bC BK421.out 5).trans rfl; have hfz69_0 := bF BK421.out 0; have hfz69_1 := bF BK421.out 1; have hfz69_2 := bF BK421.out 2; have hfz69_3 := bF BK421.out 3; have hfz69_4 := bF BK421.out 4; have hfz69_5 := bF BK421.out 5) | (go_at_call 17; (with_reducible refine (k9Item.calls kj15 a0_0 a0_1 a0_2 a0_3 a0_4 _ _ l0_5 a0_0 x422001_15 a0_2 x422003_15 a0_4 _ _ x422005_15 t428 _ ?side1 ?side2 ?side3 ?side4 A55.out).mono ?_); (case side1 => repeat (first | exact (Kd.C_below HR0_5.out HB.out) | (with_reducible refine Kd.C_alloc ?_ _) | (with_reducible refine Kd.C_drewN ?_ _) | (with_reducible refine Kd.C_drew ?_))); (case side2 => exact HC0_5.out); (case side3 => repeat (first | exact (Kd.R_reads' HO_422005.out).2.2 | (with_reducible refine Kd.C_alloc ?_ _) | (with_reducible refine Kd.C_drewN ?_ _) | (with_reducible refine Kd.C_drew ?_))); (case side4 => exact (Kd.R_reads' HO_422005.out).2.1); rintro e w70 ⟨rfl, hb⟩; have n0_ := A0_.mk (Kd.R_below (by (with_reducible repeat (first | apply Kd.R_alloc | apply Kd.R_drewN | apply Kd.R_drew)); exact HO_422005.out) hb); have n1_ := A0_.mk (bB (g := gb412) (o := .cells #[.int .i64 a0_0, .string a0_1, .bool a0_2, .string a0_3, .int .i64 a0_4, .slice A0_5 l0_5.length c0_5] 24 (0, 0)) (by (with_reducible repeat (first | refine bN ?_ _ | refine bD ?_ | refine bA ?_ _)); exact BK412.out) hb); have n2_ := A0_.mk (bB (g := gb421) (o := .cells #[.int .i64 a0_0, .string x422001_15, .bool a0_2, .string x422003_15, .int .i64 a0_4, .slice Ao66 x422005_15.length co66] 24 (0, 0)) (by (with_reducible repeat (first | refine bN ?_ _ | refine bD ?_ | refine bA ?_ _)); exact BK421.out) hb); have n3_ := A0_.mk (wT (by repeat (first | (with_reducible first | exact HB.out | apply wA | apply pN | apply wD | refine wS ?_ GE412.out | refine wS ?_ GE421.out) | exact HB.out)) hb); clear HO_422005; clear BK412; clear BK421; clear HB; have HO_422005 := n0_; have BK412 := n1_; have BK421 := n2_; have HB := n3_; clear n0_ n1_ n2_ n3_; (try clear hb); (try clear hb2); (try clear hk); (try clear hi); have hcz71_0 : w70.cell? ⟨gb412, 0, none⟩ = some (.int .i64 a0_0) := (bC BK412.out 0).trans rfl; have hcz71_1 : w70.cell? ⟨gb412, 1, none⟩ = some (.string a0_1) := (bC BK412.out 1).trans rfl; have hcz71_2 : w70.cell? ⟨gb412, 2, none⟩ = some (.bool a0_2) := (bC BK412.out 2).trans rfl; have hcz71_3 : w70.cell? ⟨gb412, 3, none⟩ = some (.string a0_3) := (bC BK412.out 3).trans rfl; have hcz71_4 : w70.cell? ⟨gb412, 4, none⟩ = some (.int .i64 a0_4) := (bC BK412.out 4).trans rfl; have hcz71_5 : w70.cell? ⟨gb412, 5, none⟩ = some (.slice A0_5 l0_5.length c0_5) := (bC BK412.out 5).trans rfl; have hfz71_0 := bF BK412.out 0; have hfz71_1 := bF BK412.out 1; have hfz71_2 := bF BK412.out 2; have hfz71_3 := bF BK412.out 3; have hfz71_4 := bF BK412.out 4; have hfz71_5 := bF BK412.out 5) | (go_at_call 14; (with_reducible refine (r9Good.calls kj15 a0_0 a0_1 a0_2 a0_3 a0_4 _ _ l0_5 t429 _ ?side1 ?side2 A57.out).mono ?_); (case side1 => repeat (first | exact (Kd.C_below HR0_5.out HB.out) | (with_reducible refine Kd.C_alloc ?_ _) | (with_reducible refine Kd.C_drewN ?_ _) | (with_reducible refine Kd.C_drew ?_))); (case side2 => exact HC0_5.out); rintro e w72 ⟨rfl, hb⟩; have n0_ := A0_.mk (Kd.R_below (by (with_reducible repeat (first | apply Kd.R_alloc | apply Kd.R_drewN | apply Kd.R_drew)); exact HO_422005.out) hb); have n1_ := A0_.mk (bB (g := gb412) (o := .cells #[.int .i64 a0_0, .string a0_1, .bool a0_2, .string a0_3, .int .i64 a0_4, .slice A0_5 l0_5.length c0_5] 24 (0, 0)) (by (with_reducible repeat (first | refine bN ?_ _ | refine bD ?_ | refine bA ?_ _)); exact BK412.out) hb); have n2_ := A0_.mk (bB (g := gb421) (o := .cells #[.int .i64 a0_0, .string x422001_15, .bool a0_2, .string x422003_15, .int .i64 a0_4, .slice Ao66 x422005_15.length co66] 24 (0, 0)) (by (with_reducible repeat (first | refine bN ?_ _ | refine bD ?_ | refine bA ?_ _)); exact BK421.out) hb); have n3_ := A0_.mk (wT (by repeat (first | (with_reducible first | exact HB.out | apply wA | apply pN | apply wD | refine wS ?_ GE412.out | refine wS ?_ GE421.out) | exact HB.out)) hb); clear HO_422005; clear BK412; clear BK421; clear HB; have HO_422005 := n0_; have BK412 := n1_; have BK421 := n2_; have HB := n3_; clear n0_ n1_ n2_ n3_; (try clear hb); (try clear hb2); (try clear hk); (try clear hi); have hcz73_0 : w72.cell? ⟨gb421, 0, none⟩ = some (.int .i64 a0_0) := (bC BK421.out 0).trans rfl; have hcz73_1 : w72.cell? ⟨gb421, 1, none⟩ = some (.string x422001_15) := (bC BK421.out 1).trans rfl; have hcz73_2 : w72.cell? ⟨gb421, 2, none⟩ = some (.bool a0_2) := (bC BK421.out 2).trans rfl; have hcz73_3 : w72.cell? ⟨gb421, 3, none⟩ = some (.string x422003_15) := (bC BK421.out 3).trans rfl; have hcz73_4 : w72.cell? ⟨gb421, 4, none⟩ = some (.int .i64 a0_4) := (bC BK421.out 4).trans rfl; have hcz73_5 : w72.cell? ⟨gb421, 5, none⟩ = some (.slice Ao66 x422005_15.length co66) := (bC BK421.out 5).trans rfl; have hfz73_0 := bF BK421.out 0; have hfz73_1 := bF BK421.out 1; have hfz73_2 := bF BK421.out 2; have hfz73_3 := bF BK421.out 3; have hfz73_4 := bF BK421.out 4; have hfz73_5 := bF BK421.out 5) | (go_at_call 14; (with_reducible refine (r9Good.calls kj15 a0_0 x422001_15 a0_2 x422003_15 a0_4 _ _ x422005_15 t430 _ ?side1 ?side2 A59.out).mono ?_); (case side1 => repeat (first | exact (Kd.R_reads' HO_422005.out).2.2 | (with_reducible refine Kd.C_alloc ?_ _) | (with_reducible refine Kd.C_drewN ?_ _) | (with_reducible refine Kd.C_drew ?_))); (case side2 => exact (Kd.R_reads' HO_422005.out).2.1); rintro e w74 ⟨rfl, hb⟩; have n0_ := A0_.mk (Kd.R_below (by (with_reducible repeat (first | apply Kd.R_alloc | apply Kd.R_drewN | apply Kd.R_drew)); exact HO_422005.out) hb); have n1_ := A0_.mk (bB (g := gb412) (o := .cells #[.int .i64 a0_0, .string a0_1, .bool a0_2, .string a0_3, .int .i64 a0_4, .slice A0_5 l0_5.length c0_5] 24 (0, 0)) (by (with_reducible repeat (first | refine bN ?_ _ | refine bD ?_ | refine bA ?_ _)); exact BK412.out) hb); have n2_ := A0_.mk (bB (g := gb421) (o := .cells #[.int .i64 a0_0, .string x422001_15, .bool a0_2, .string x422003_15, .int .i64 a0_4, .slice Ao66 x422005_15.length co66] 24 (0, 0)) (by (with_reducible repeat (first | refine bN ?_ _ | refine bD ?_ | refine bA ?_ _)); exact BK421.out) hb); have n3_ := A0_.mk (wT (by repeat (first | (with_reducible first | exact HB.out | apply wA | apply pN | apply wD | refine wS ?_ GE412.out | refine wS ?_ GE421.out) | exact HB.out)) hb); clear HO_422005; clear BK412; clear BK421; clear HB; have HO_422005 := n0_; have BK412 := n1_; have BK421 := n2_; have HB := n3_; clear n0_ n1_ n2_ n3_; (try clear hb); (try clear hb2); (try clear hk); (try clear hi)) | (go_at_call 8; (with_reducible refine (u9wakes.calls kj15  t431 _ ?side1 A61.out).mono ?_); (case side1 => exact Glob.below HG.out (by repeat (first | (with_reducible first | exact HB.out | apply wA | apply pN | apply wD | refine wS ?_ GE412.out | refine wS ?_ GE421.out) | exact HB.out))); rintro e w75 ⟨rfl, hb⟩; have n0_ := A0_.mk (Kd.R_below (by (with_reducible repeat (first | apply Kd.R_alloc | apply Kd.R_drewN | apply Kd.R_drew)); exact HO_422005.out) hb); have n1_ := A0_.mk (bB (g := gb412) (o := .cells #[.int .i64 a0_0, .string a0_1, .bool a0_2, .string a0_3, .int .i64 a0_4, .slice A0_5 l0_5.length c0_5] 24 (0, 0)) (by (with_reducible repeat (first | refine bN ?_ _ | refine bD ?_ | refine bA ?_ _)); exact BK412.out) hb); have n2_ := A0_.mk (bB (g := gb421) (o := .cells #[.int .i64 a0_0, .string x422001_15, .bool a0_2, .string x422003_15, .int .i64 a0_4, .slice Ao66 x422005_15.length co66] 24 (0, 0)) (by (with_reducible repeat (first | refine bN ?_ _ | refine bD ?_ | refine bA ?_ _)); exact BK421.out) hb); have n3_ := A0_.mk (wT (by repeat (first | (with_reducible first | exact HB.out | apply wA | apply pN | apply wD | refine wS ?_ GE412.out | refine wS ?_ GE421.out) | exact HB.out)) hb); clear HO_422005; clear BK412; clear BK421; clear HB; have HO_422005 := n0_; have BK412 := n1_; have BK421 := n2_; have HB := n3_; clear n0_ n1_ n2_ n3_; (try clear hb); (try clear hb2); (try clear hk); (try clear hi)))
            go_ret
            exact ⟨by first | rfl | (simp [errW_none, errW_some] <;> rfl) | (simp [*, errW_none, errW_some] <;> rfl), by repeat (first | (with_reducible first | exact HB.out | apply wA | apply pN | apply wD | refine wS ?_ GE412.out | refine wS ?_ GE421.out) | exact HB.out)⟩
           ·rw [if_neg c60] at H
            exact absurd H (by simp)
          ·rw [if_neg c58] at H
           exact absurd H (by simp)
         ·rw [if_neg c56] at H
          exact absurd H (by simp)
        ·replace c54 := Bool.eq_false_iff.mpr c54
         subst c54
         have H1 : ((r9Good.f kj15 a0_0 a0_1 a0_2 a0_3 a0_4 l0_5).bind fun t432 => (if (true == t432) = true then ((r9Good.f kj15 a0_0 x422001_15 a0_2 x422003_15 a0_4 x422005_15).bind fun t433 => (if (false == t433) = true then ((u9wakes.f kj15).bind fun t434 => (some t434)) else (none))) else (none))) = some r := by rw [if_neg (show ¬ (false = true) by decide)] at H; exact H
         clear H
         have H := H1
         clear H1
         replace H := Option.bind_eq_some_iff.mp H
         obtain ⟨t432, A1090, H⟩ := H
         replace H : (if (true == t432) = true then ((r9Good.f kj15 a0_0 x422001_15 a0_2 x422003_15 a0_4 x422005_15).bind fun t433 => (if (false == t433) = true then ((u9wakes.f kj15).bind fun t434 => (some t434)) else (none))) else (none)) = some r := H
         have A109 := A0_.mk A1090
         clear A1090
         by_cases c110 : (true == t432) = true
         ·rw [if_pos c110] at H
          have c110b0 : (true == t432) = true := c110
          (try (have c110b1 : decide (true = t432) = true := by simpa using c110))
          (try (have c110b2 : (true == t432) = true := by simpa using c110))
          clear c110
          replace H := Option.bind_eq_some_iff.mp H
          obtain ⟨t433, A1110, H⟩ := H
          replace H : (if (false == t433) = true then ((u9wakes.f kj15).bind fun t434 => (some t434)) else (none)) = some r := H
          have A111 := A0_.mk A1110
          clear A1110
          by_cases c112 : (false == t433) = true
          ·rw [if_pos c112] at H
           have c112b0 : (false == t433) = true := c112
           (try (have c112b1 : decide (false = t433) = true := by simpa using c112))
           (try (have c112b2 : (false == t433) = true := by simpa using c112))
           clear c112
           replace H := Option.bind_eq_some_iff.mp H
           obtain ⟨t434, A1130, H⟩ := H
           replace H : (some t434) = some r := H
           have A113 := A0_.mk A1130
           clear A1130
           obtain rfl := Option.some.inj H
           have hnb114 := NB412_421.out
           have hnc114 := NB421_412.out
           have hcz115_0 : wc.cell? ⟨gb412, 0, none⟩ = some (.int .i64 a0_0) := (bC BK412.out 0).trans rfl
           have hcz115_1 : wc.cell? ⟨gb412, 1, none⟩ = some (.string a0_1) := (bC BK412.out 1).trans rfl
           have hcz115_2 : wc.cell? ⟨gb412, 2, none⟩ = some (.bool a0_2) := (bC BK412.out 2).trans rfl
           have hcz115_3 : wc.cell? ⟨gb412, 3, none⟩ = some (.string a0_3) := (bC BK412.out 3).trans rfl
           have hcz115_4 : wc.cell? ⟨gb412, 4, none⟩ = some (.int .i64 a0_4) := (bC BK412.out 4).trans rfl
           have hcz115_5 : wc.cell? ⟨gb412, 5, none⟩ = some (.slice A0_5 l0_5.length c0_5) := (bC BK412.out 5).trans rfl
           have hfz115_0 := bF BK412.out 0
           have hfz115_1 := bF BK412.out 1
           have hfz115_2 := bF BK412.out 2
           have hfz115_3 := bF BK412.out 3
           have hfz115_4 := bF BK412.out 4
           have hfz115_5 := bF BK412.out 5
           go_wp2_with (first | ((with_reducible refine gC (f := 9) rfl ?_); refine gL (some 62) rfl rfl Tryd.func9 (by kernel_rfl) rfl #[.agg #[.int .i64 a0_0, .string a0_1, .bool a0_2, .string a0_3, .int .i64 a0_4, .slice A0_5 l0_5.length c0_5]] rfl (by (try simp only [List.map_toArray, List.map_cons, List.map_nil]); first | done | rfl | (simp only [List.length_drop, List.length_take]; rfl)) ?_; (with_reducible refine (node_Encode.calls kj15 a0_0 a0_1 a0_2 a0_3 a0_4 _ _ l0_5 t424 true _ ?side1 ?side2 A51.out).mono ?_); (case side1 => repeat (first | exact (Kd.C_below HR0_5.out HB.out) | (with_reducible refine Kd.C_alloc ?_ _) | (with_reducible refine Kd.C_drewN ?_ _) | (with_reducible refine Kd.C_drew ?_))); (case side2 => exact HC0_5.out); rintro e w116 ⟨rfl, hb⟩; refine ⟨_, rfl, ?_⟩; have n0_ := A0_.mk (Kd.R_below (by (with_reducible repeat (first | apply Kd.R_alloc | apply Kd.R_drewN | apply Kd.R_drew)); exact HO_422005.out) hb); have n1_ := A0_.mk (bB (g := gb412) (o := .cells #[.int .i64 a0_0, .string a0_1, .bool a0_2, .string a0_3, .int .i64 a0_4, .slice A0_5 l0_5.length c0_5] 24 (0, 0)) (by (with_reducible repeat (first | refine bN ?_ _ | refine bD ?_ | refine bA ?_ _)); exact BK412.out) hb); have n2_ := A0_.mk (bB (g := gb421) (o := .cells #[.int .i64 a0_0, .string x422001_15, .bool a0_2, .string x422003_15, .int .i64 a0_4, u422005] 24 (0, 0)) (by (with_reducible repeat (first | refine bN ?_ _ | refine bD ?_ | refine bA ?_ _)); exact BK421.out) hb); have n3_ := A0_.mk (wT (by repeat (first | (with_reducible first | exact HB.out | apply wA | apply pN | apply wD | refine wS ?_ GE412.out | refine wS ?_ GE421.out) | exact HB.out)) hb); clear HO_422005; clear BK412; clear BK421; clear HB; have HO_422005 := n0_; have BK412 := n1_; have BK421 := n2_; have HB := n3_; clear n0_ n1_ n2_ n3_; (try clear hb); (try clear hb2); (try clear hk); (try clear hi); have hcz117_0 : w116.cell? ⟨gb421, 0, none⟩ = some (.int .i64 a0_0) := (bC BK421.out 0).trans rfl; have hcz117_1 : w116.cell? ⟨gb421, 1, none⟩ = some (.string x422001_15) := (bC BK421.out 1).trans rfl; have hcz117_2 : w116.cell? ⟨gb421, 2, none⟩ = some (.bool a0_2) := (bC BK421.out 2).trans rfl; have hcz117_3 : w116.cell? ⟨gb421, 3, none⟩ = some (.string x422003_15) := (bC BK421.out 3).trans rfl; have hcz117_4 : w116.cell? ⟨gb421, 4, none⟩ = some (.int .i64 a0_4) := (bC BK421.out 4).trans rfl; have hcz117_5 : w116.cell? ⟨gb421, 5, none⟩ = some (u422005) := (bC BK421.out 5).trans rfl; have hfz117_0 := bF BK421.out 0; have hfz117_1 := bF BK421.out 1; have hfz117_2 := bF BK421.out 2; have hfz117_3 := bF BK421.out 3; have hfz117_4 := bF BK421.out 4; have hfz117_5 := bF BK421.out 5; obtain ⟨Ao118, co118, eo118⟩ := Kd.R_slice HO_422005.out; subst eo118) | ((with_reducible refine gC (f := 9) rfl ?_); refine gL (some 67) rfl rfl Tryd.func9 (by kernel_rfl) rfl #[.agg #[.int .i64 a0_0, .string x422001_15, .bool a0_2, .string x422003_15, .int .i64 a0_4, .slice Ao118 x422005_15.length co118]] rfl (by (try simp only [List.map_toArray, List.map_cons, List.map_nil]); first | done | rfl | (simp only [List.length_drop, List.length_take]; rfl)) ?_; (with_reducible refine (node_Encode.calls kj15 a0_0 x422001_15 a0_2 x422003_15 a0_4 _ _ x422005_15 t426 false _ ?side1 ?side2 A52.out).mono ?_); (case side1 => repeat (first | exact (Kd.R_reads' HO_422005.out).2.2 | (with_reducible refine Kd.C_alloc ?_ _) | (with_reducible refine Kd.C_drewN ?_ _) | (with_reducible refine Kd.C_drew ?_))); (case side2 => exact (Kd.R_reads' HO_422005.out).2.1); rintro e w119 ⟨rfl, hb⟩; refine ⟨_, rfl, ?_⟩; have n0_ := A0_.mk (Kd.R_below (by (with_reducible repeat (first | apply Kd.R_alloc | apply Kd.R_drewN | apply Kd.R_drew)); exact HO_422005.out) hb); have n1_ := A0_.mk (bB (g := gb412) (o := .cells #[.int .i64 a0_0, .string a0_1, .bool a0_2, .string a0_3, .int .i64 a0_4, .slice A0_5 l0_5.length c0_5] 24 (0, 0)) (by (with_reducible repeat (first | refine bN ?_ _ | refine bD ?_ | refine bA ?_ _)); exact BK412.out) hb); have n2_ := A0_.mk (bB (g := gb421) (o := .cells #[.int .i64 a0_0, .string x422001_15, .bool a0_2, .string x422003_15, .int .i64 a0_4, .slice Ao118 x422005_15.length co118] 24 (0, 0)) (by (with_reducible repeat (first | refine bN ?_ _ | refine bD ?_ | refine bA ?_ _)); exact BK421.out) hb); have n3_ := A0_.mk (wT (by repeat (first | (with_reducible first | exact HB.out | apply wA | apply pN | apply wD | refine wS ?_ GE412.out | refine wS ?_ GE421.out) | exact HB.out)) hb); clear HO_422005; clear BK412; clear BK421; clear HB; have HO_422005 := n0_; have BK412 := n1_; have BK421 := n2_; have HB := n3_; clear n0_ n1_ n2_ n3_; (try clear hb); (try clear hb2); (try clear hk); (try clear hi); have hcz120_0 : w119.cell? ⟨gb412, 0, none⟩ = some (.int .i64 a0_0) := (bC BK412.out 0).trans rfl; have hcz120_1 : w119.cell? ⟨gb412, 1, none⟩ = some (.string a0_1) := (bC BK412.out 1).trans rfl; have hcz120_2 : w119.cell? ⟨gb412, 2, none⟩ = some (.bool a0_2) := (bC BK412.out 2).trans rfl; have hcz120_3 : w119.cell? ⟨gb412, 3, none⟩ = some (.string a0_3) := (bC BK412.out 3).trans rfl; have hcz120_4 : w119.cell? ⟨gb412, 4, none⟩ = some (.int .i64 a0_4) := (bC BK412.out 4).trans rfl; have hcz120_5 : w119.cell? ⟨gb412, 5, none⟩ = some (.slice A0_5 l0_5.length c0_5) := (bC BK412.out 5).trans rfl; have hfz120_0 := bF BK412.out 0; have hfz120_1 := bF BK412.out 1; have hfz120_2 := bF BK412.out 2; have hfz120_3 := bF BK412.out 3; have hfz120_4 := bF BK412.out 4; have hfz120_5 := bF BK412.out 5) | (go_at_call 14; (with_reducible refine (r9Good.calls kj15 a0_0 a0_1 a0_2 a0_3 a0_4 _ _ l0_5 t432 _ ?side1 ?side2 A109.out).mono ?_); (case side1 => repeat (first | exact (Kd.C_below HR0_5.out HB.out) | (with_reducible refine Kd.C_alloc ?_ _) | (with_reducible refine Kd.C_drewN ?_ _) | (with_reducible refine Kd.C_drew ?_))); (case side2 => exact HC0_5.out); rintro e w121 ⟨rfl, hb⟩; have n0_ := A0_.mk (Kd.R_below (by (with_reducible repeat (first | apply Kd.R_alloc | apply Kd.R_drewN | apply Kd.R_drew)); exact HO_422005.out) hb); have n1_ := A0_.mk (bB (g := gb412) (o := .cells #[.int .i64 a0_0, .string a0_1, .bool a0_2, .string a0_3, .int .i64 a0_4, .slice A0_5 l0_5.length c0_5] 24 (0, 0)) (by (with_reducible repeat (first | refine bN ?_ _ | refine bD ?_ | refine bA ?_ _)); exact BK412.out) hb); have n2_ := A0_.mk (bB (g := gb421) (o := .cells #[.int .i64 a0_0, .string x422001_15, .bool a0_2, .string x422003_15, .int .i64 a0_4, .slice Ao118 x422005_15.length co118] 24 (0, 0)) (by (with_reducible repeat (first | refine bN ?_ _ | refine bD ?_ | refine bA ?_ _)); exact BK421.out) hb); have n3_ := A0_.mk (wT (by repeat (first | (with_reducible first | exact HB.out | apply wA | apply pN | apply wD | refine wS ?_ GE412.out | refine wS ?_ GE421.out) | exact HB.out)) hb); clear HO_422005; clear BK412; clear BK421; clear HB; have HO_422005 := n0_; have BK412 := n1_; have BK421 := n2_; have HB := n3_; clear n0_ n1_ n2_ n3_; (try clear hb); (try clear hb2); (try clear hk); (try clear hi); have hcz122_0 : w121.cell? ⟨gb421, 0, none⟩ = some (.int .i64 a0_0) := (bC BK421.out 0).trans rfl; have hcz122_1 : w121.cell? ⟨gb421, 1, none⟩ = some (.string x422001_15) := (bC BK421.out 1).trans rfl; have hcz122_2 : w121.cell? ⟨gb421, 2, none⟩ = some (.bool a0_2) := (bC BK421.out 2).trans rfl; have hcz122_3 : w121.cell? ⟨gb421, 3, none⟩ = some (.string x422003_15) := (bC BK421.out 3).trans rfl; have hcz122_4 : w121.cell? ⟨gb421, 4, none⟩ = some (.int .i64 a0_4) := (bC BK421.out 4).trans rfl; have hcz122_5 : w121.cell? ⟨gb421, 5, none⟩ = some (.slice Ao118 x422005_15.length co118) := (bC BK421.out 5).trans rfl; have hfz122_0 := bF BK421.out 0; have hfz122_1 := bF BK421.out 1; have hfz122_2 := bF BK421.out 2; have hfz122_3 := bF BK421.out 3; have hfz122_4 := bF BK421.out 4; have hfz122_5 := bF BK421.out 5) | (go_at_call 14; (with_reducible refine (r9Good.calls kj15 a0_0 x422001_15 a0_2 x422003_15 a0_4 _ _ x422005_15 t433 _ ?side1 ?side2 A111.out).mono ?_); (case side1 => repeat (first | exact (Kd.R_reads' HO_422005.out).2.2 | (with_reducible refine Kd.C_alloc ?_ _) | (with_reducible refine Kd.C_drewN ?_ _) | (with_reducible refine Kd.C_drew ?_))); (case side2 => exact (Kd.R_reads' HO_422005.out).2.1); rintro e w123 ⟨rfl, hb⟩; have n0_ := A0_.mk (Kd.R_below (by (with_reducible repeat (first | apply Kd.R_alloc | apply Kd.R_drewN | apply Kd.R_drew)); exact HO_422005.out) hb); have n1_ := A0_.mk (bB (g := gb412) (o := .cells #[.int .i64 a0_0, .string a0_1, .bool a0_2, .string a0_3, .int .i64 a0_4, .slice A0_5 l0_5.length c0_5] 24 (0, 0)) (by (with_reducible repeat (first | refine bN ?_ _ | refine bD ?_ | refine bA ?_ _)); exact BK412.out) hb); have n2_ := A0_.mk (bB (g := gb421) (o := .cells #[.int .i64 a0_0, .string x422001_15, .bool a0_2, .string x422003_15, .int .i64 a0_4, .slice Ao118 x422005_15.length co118] 24 (0, 0)) (by (with_reducible repeat (first | refine bN ?_ _ | refine bD ?_ | refine bA ?_ _)); exact BK421.out) hb); have n3_ := A0_.mk (wT (by repeat (first | (with_reducible first | exact HB.out | apply wA | apply pN | apply wD | refine wS ?_ GE412.out | refine wS ?_ GE421.out) | exact HB.out)) hb); clear HO_422005; clear BK412; clear BK421; clear HB; have HO_422005 := n0_; have BK412 := n1_; have BK421 := n2_; have HB := n3_; clear n0_ n1_ n2_ n3_; (try clear hb); (try clear hb2); (try clear hk); (try clear hi)) | (go_at_call 8; (with_reducible refine (u9wakes.calls kj15  t434 _ ?side1 A113.out).mono ?_); (case side1 => exact Glob.below HG.out (by repeat (first | (with_reducible first | exact HB.out | apply wA | apply pN | apply wD | refine wS ?_ GE412.out | refine wS ?_ GE421.out) | exact HB.out))); rintro e w124 ⟨rfl, hb⟩; have n0_ := A0_.mk (Kd.R_below (by (with_reducible repeat (first | apply Kd.R_alloc | apply Kd.R_drewN | apply Kd.R_drew)); exact HO_422005.out) hb); have n1_ := A0_.mk (bB (g := gb412) (o := .cells #[.int .i64 a0_0, .string a0_1, .bool a0_2, .string a0_3, .int .i64 a0_4, .slice A0_5 l0_5.length c0_5] 24 (0, 0)) (by (with_reducible repeat (first | refine bN ?_ _ | refine bD ?_ | refine bA ?_ _)); exact BK412.out) hb); have n2_ := A0_.mk (bB (g := gb421) (o := .cells #[.int .i64 a0_0, .string x422001_15, .bool a0_2, .string x422003_15, .int .i64 a0_4, .slice Ao118 x422005_15.length co118] 24 (0, 0)) (by (with_reducible repeat (first | refine bN ?_ _ | refine bD ?_ | refine bA ?_ _)); exact BK421.out) hb); have n3_ := A0_.mk (wT (by repeat (first | (with_reducible first | exact HB.out | apply wA | apply pN | apply wD | refine wS ?_ GE412.out | refine wS ?_ GE421.out) | exact HB.out)) hb); clear HO_422005; clear BK412; clear BK421; clear HB; have HO_422005 := n0_; have BK412 := n1_; have BK421 := n2_; have HB := n3_; clear n0_ n1_ n2_ n3_; (try clear hb); (try clear hb2); (try clear hk); (try clear hi)))
           go_ret
           exact ⟨by first | rfl | (simp [errW_none, errW_some] <;> rfl) | (simp [*, errW_none, errW_some] <;> rfl), by repeat (first | (with_reducible first | exact HB.out | apply wA | apply pN | apply wD | refine wS ?_ GE412.out | refine wS ?_ GE421.out) | exact HB.out)⟩
          ·rw [if_neg c112] at H
           exact absurd H (by simp)
         ·rw [if_neg c110] at H
          exact absurd H (by simp)
       ·replace c53 := Bool.eq_false_iff.mpr c53
        subst c53
        have H1 : ((r9Good.f kj15 a0_0 a0_1 a0_2 a0_3 a0_4 l0_5).bind fun t435 => (if (false == t435) = true then ((r9Good.f kj15 a0_0 x422001_15 a0_2 x422003_15 a0_4 x422005_15).bind fun t436 => (if (t427 == t436) = true then ((u9wakes.f kj15).bind fun t437 => (some t437)) else (none))) else (none))) = some r := by rw [if_neg (show ¬ (false = true) by decide)] at H; exact H
        clear H
        have H := H1
        clear H1
        replace H := Option.bind_eq_some_iff.mp H
        obtain ⟨t435, A1430, H⟩ := H
        replace H : (if (false == t435) = true then ((r9Good.f kj15 a0_0 x422001_15 a0_2 x422003_15 a0_4 x422005_15).bind fun t436 => (if (t427 == t436) = true then ((u9wakes.f kj15).bind fun t437 => (some t437)) else (none))) else (none)) = some r := H
        have A143 := A0_.mk A1430
        clear A1430
        by_cases c144 : (false == t435) = true
        ·rw [if_pos c144] at H
         have c144b0 : (false == t435) = true := c144
         (try (have c144b1 : decide (false = t435) = true := by simpa using c144))
         (try (have c144b2 : (false == t435) = true := by simpa using c144))
         clear c144
         replace H := Option.bind_eq_some_iff.mp H
         obtain ⟨t436, A1450, H⟩ := H
         replace H : (if (t427 == t436) = true then ((u9wakes.f kj15).bind fun t437 => (some t437)) else (none)) = some r := H
         have A145 := A0_.mk A1450
         clear A1450
         by_cases c146 : (t427 == t436) = true
         ·rw [if_pos c146] at H
          have c146b0 : (t427 == t436) = true := c146
          (try (have c146b1 : decide (t427 = t436) = true := by simpa using c146))
          (try (have c146b2 : (t427 == t436) = true := by simpa using c146))
          clear c146
          replace H := Option.bind_eq_some_iff.mp H
          obtain ⟨t437, A1470, H⟩ := H
          replace H : (some t437) = some r := H
          have A147 := A0_.mk A1470
          clear A1470
          obtain rfl := Option.some.inj H
          have hnb148 := NB412_421.out
          have hnc148 := NB421_412.out
          have hcz149_0 : wc.cell? ⟨gb412, 0, none⟩ = some (.int .i64 a0_0) := (bC BK412.out 0).trans rfl
          have hcz149_1 : wc.cell? ⟨gb412, 1, none⟩ = some (.string a0_1) := (bC BK412.out 1).trans rfl
          have hcz149_2 : wc.cell? ⟨gb412, 2, none⟩ = some (.bool a0_2) := (bC BK412.out 2).trans rfl
          have hcz149_3 : wc.cell? ⟨gb412, 3, none⟩ = some (.string a0_3) := (bC BK412.out 3).trans rfl
          have hcz149_4 : wc.cell? ⟨gb412, 4, none⟩ = some (.int .i64 a0_4) := (bC BK412.out 4).trans rfl
          have hcz149_5 : wc.cell? ⟨gb412, 5, none⟩ = some (.slice A0_5 l0_5.length c0_5) := (bC BK412.out 5).trans rfl
          have hfz149_0 := bF BK412.out 0
          have hfz149_1 := bF BK412.out 1
          have hfz149_2 := bF BK412.out 2
          have hfz149_3 := bF BK412.out 3
          have hfz149_4 := bF BK412.out 4
          have hfz149_5 := bF BK412.out 5
          go_wp2_with (first | ((with_reducible refine gC (f := 9) rfl ?_); refine gL (some 62) rfl rfl Tryd.func9 (by kernel_rfl) rfl #[.agg #[.int .i64 a0_0, .string a0_1, .bool a0_2, .string a0_3, .int .i64 a0_4, .slice A0_5 l0_5.length c0_5]] rfl (by (try simp only [List.map_toArray, List.map_cons, List.map_nil]); first | done | rfl | (simp only [List.length_drop, List.length_take]; rfl)) ?_; (with_reducible refine (node_Encode.calls kj15 a0_0 a0_1 a0_2 a0_3 a0_4 _ _ l0_5 t424 false _ ?side1 ?side2 A51.out).mono ?_); (case side1 => repeat (first | exact (Kd.C_below HR0_5.out HB.out) | (with_reducible refine Kd.C_alloc ?_ _) | (with_reducible refine Kd.C_drewN ?_ _) | (with_reducible refine Kd.C_drew ?_))); (case side2 => exact HC0_5.out); rintro e w150 ⟨rfl, hb⟩; refine ⟨_, rfl, ?_⟩; have n0_ := A0_.mk (Kd.R_below (by (with_reducible repeat (first | apply Kd.R_alloc | apply Kd.R_drewN | apply Kd.R_drew)); exact HO_422005.out) hb); have n1_ := A0_.mk (bB (g := gb412) (o := .cells #[.int .i64 a0_0, .string a0_1, .bool a0_2, .string a0_3, .int .i64 a0_4, .slice A0_5 l0_5.length c0_5] 24 (0, 0)) (by (with_reducible repeat (first | refine bN ?_ _ | refine bD ?_ | refine bA ?_ _)); exact BK412.out) hb); have n2_ := A0_.mk (bB (g := gb421) (o := .cells #[.int .i64 a0_0, .string x422001_15, .bool a0_2, .string x422003_15, .int .i64 a0_4, u422005] 24 (0, 0)) (by (with_reducible repeat (first | refine bN ?_ _ | refine bD ?_ | refine bA ?_ _)); exact BK421.out) hb); have n3_ := A0_.mk (wT (by repeat (first | (with_reducible first | exact HB.out | apply wA | apply pN | apply wD | refine wS ?_ GE412.out | refine wS ?_ GE421.out) | exact HB.out)) hb); clear HO_422005; clear BK412; clear BK421; clear HB; have HO_422005 := n0_; have BK412 := n1_; have BK421 := n2_; have HB := n3_; clear n0_ n1_ n2_ n3_; (try clear hb); (try clear hb2); (try clear hk); (try clear hi); have hcz151_0 : w150.cell? ⟨gb421, 0, none⟩ = some (.int .i64 a0_0) := (bC BK421.out 0).trans rfl; have hcz151_1 : w150.cell? ⟨gb421, 1, none⟩ = some (.string x422001_15) := (bC BK421.out 1).trans rfl; have hcz151_2 : w150.cell? ⟨gb421, 2, none⟩ = some (.bool a0_2) := (bC BK421.out 2).trans rfl; have hcz151_3 : w150.cell? ⟨gb421, 3, none⟩ = some (.string x422003_15) := (bC BK421.out 3).trans rfl; have hcz151_4 : w150.cell? ⟨gb421, 4, none⟩ = some (.int .i64 a0_4) := (bC BK421.out 4).trans rfl; have hcz151_5 : w150.cell? ⟨gb421, 5, none⟩ = some (u422005) := (bC BK421.out 5).trans rfl; have hfz151_0 := bF BK421.out 0; have hfz151_1 := bF BK421.out 1; have hfz151_2 := bF BK421.out 2; have hfz151_3 := bF BK421.out 3; have hfz151_4 := bF BK421.out 4; have hfz151_5 := bF BK421.out 5; obtain ⟨Ao152, co152, eo152⟩ := Kd.R_slice HO_422005.out; subst eo152) | ((with_reducible refine gC (f := 9) rfl ?_); refine gL (some 67) rfl rfl Tryd.func9 (by kernel_rfl) rfl #[.agg #[.int .i64 a0_0, .string x422001_15, .bool a0_2, .string x422003_15, .int .i64 a0_4, .slice Ao152 x422005_15.length co152]] rfl (by (try simp only [List.map_toArray, List.map_cons, List.map_nil]); first | done | rfl | (simp only [List.length_drop, List.length_take]; rfl)) ?_; (with_reducible refine (node_Encode.calls kj15 a0_0 x422001_15 a0_2 x422003_15 a0_4 _ _ x422005_15 t426 t427 _ ?side1 ?side2 A52.out).mono ?_); (case side1 => repeat (first | exact (Kd.R_reads' HO_422005.out).2.2 | (with_reducible refine Kd.C_alloc ?_ _) | (with_reducible refine Kd.C_drewN ?_ _) | (with_reducible refine Kd.C_drew ?_))); (case side2 => exact (Kd.R_reads' HO_422005.out).2.1); rintro e w153 ⟨rfl, hb⟩; refine ⟨_, rfl, ?_⟩; have n0_ := A0_.mk (Kd.R_below (by (with_reducible repeat (first | apply Kd.R_alloc | apply Kd.R_drewN | apply Kd.R_drew)); exact HO_422005.out) hb); have n1_ := A0_.mk (bB (g := gb412) (o := .cells #[.int .i64 a0_0, .string a0_1, .bool a0_2, .string a0_3, .int .i64 a0_4, .slice A0_5 l0_5.length c0_5] 24 (0, 0)) (by (with_reducible repeat (first | refine bN ?_ _ | refine bD ?_ | refine bA ?_ _)); exact BK412.out) hb); have n2_ := A0_.mk (bB (g := gb421) (o := .cells #[.int .i64 a0_0, .string x422001_15, .bool a0_2, .string x422003_15, .int .i64 a0_4, .slice Ao152 x422005_15.length co152] 24 (0, 0)) (by (with_reducible repeat (first | refine bN ?_ _ | refine bD ?_ | refine bA ?_ _)); exact BK421.out) hb); have n3_ := A0_.mk (wT (by repeat (first | (with_reducible first | exact HB.out | apply wA | apply pN | apply wD | refine wS ?_ GE412.out | refine wS ?_ GE421.out) | exact HB.out)) hb); clear HO_422005; clear BK412; clear BK421; clear HB; have HO_422005 := n0_; have BK412 := n1_; have BK421 := n2_; have HB := n3_; clear n0_ n1_ n2_ n3_; (try clear hb); (try clear hb2); (try clear hk); (try clear hi); have hcz154_0 : w153.cell? ⟨gb412, 0, none⟩ = some (.int .i64 a0_0) := (bC BK412.out 0).trans rfl; have hcz154_1 : w153.cell? ⟨gb412, 1, none⟩ = some (.string a0_1) := (bC BK412.out 1).trans rfl; have hcz154_2 : w153.cell? ⟨gb412, 2, none⟩ = some (.bool a0_2) := (bC BK412.out 2).trans rfl; have hcz154_3 : w153.cell? ⟨gb412, 3, none⟩ = some (.string a0_3) := (bC BK412.out 3).trans rfl; have hcz154_4 : w153.cell? ⟨gb412, 4, none⟩ = some (.int .i64 a0_4) := (bC BK412.out 4).trans rfl; have hcz154_5 : w153.cell? ⟨gb412, 5, none⟩ = some (.slice A0_5 l0_5.length c0_5) := (bC BK412.out 5).trans rfl; have hfz154_0 := bF BK412.out 0; have hfz154_1 := bF BK412.out 1; have hfz154_2 := bF BK412.out 2; have hfz154_3 := bF BK412.out 3; have hfz154_4 := bF BK412.out 4; have hfz154_5 := bF BK412.out 5) | (go_at_call 14; (with_reducible refine (r9Good.calls kj15 a0_0 a0_1 a0_2 a0_3 a0_4 _ _ l0_5 t435 _ ?side1 ?side2 A143.out).mono ?_); (case side1 => repeat (first | exact (Kd.C_below HR0_5.out HB.out) | (with_reducible refine Kd.C_alloc ?_ _) | (with_reducible refine Kd.C_drewN ?_ _) | (with_reducible refine Kd.C_drew ?_))); (case side2 => exact HC0_5.out); rintro e w155 ⟨rfl, hb⟩; have n0_ := A0_.mk (Kd.R_below (by (with_reducible repeat (first | apply Kd.R_alloc | apply Kd.R_drewN | apply Kd.R_drew)); exact HO_422005.out) hb); have n1_ := A0_.mk (bB (g := gb412) (o := .cells #[.int .i64 a0_0, .string a0_1, .bool a0_2, .string a0_3, .int .i64 a0_4, .slice A0_5 l0_5.length c0_5] 24 (0, 0)) (by (with_reducible repeat (first | refine bN ?_ _ | refine bD ?_ | refine bA ?_ _)); exact BK412.out) hb); have n2_ := A0_.mk (bB (g := gb421) (o := .cells #[.int .i64 a0_0, .string x422001_15, .bool a0_2, .string x422003_15, .int .i64 a0_4, .slice Ao152 x422005_15.length co152] 24 (0, 0)) (by (with_reducible repeat (first | refine bN ?_ _ | refine bD ?_ | refine bA ?_ _)); exact BK421.out) hb); have n3_ := A0_.mk (wT (by repeat (first | (with_reducible first | exact HB.out | apply wA | apply pN | apply wD | refine wS ?_ GE412.out | refine wS ?_ GE421.out) | exact HB.out)) hb); clear HO_422005; clear BK412; clear BK421; clear HB; have HO_422005 := n0_; have BK412 := n1_; have BK421 := n2_; have HB := n3_; clear n0_ n1_ n2_ n3_; (try clear hb); (try clear hb2); (try clear hk); (try clear hi); have hcz156_0 : w155.cell? ⟨gb421, 0, none⟩ = some (.int .i64 a0_0) := (bC BK421.out 0).trans rfl; have hcz156_1 : w155.cell? ⟨gb421, 1, none⟩ = some (.string x422001_15) := (bC BK421.out 1).trans rfl; have hcz156_2 : w155.cell? ⟨gb421, 2, none⟩ = some (.bool a0_2) := (bC BK421.out 2).trans rfl; have hcz156_3 : w155.cell? ⟨gb421, 3, none⟩ = some (.string x422003_15) := (bC BK421.out 3).trans rfl; have hcz156_4 : w155.cell? ⟨gb421, 4, none⟩ = some (.int .i64 a0_4) := (bC BK421.out 4).trans rfl; have hcz156_5 : w155.cell? ⟨gb421, 5, none⟩ = some (.slice Ao152 x422005_15.length co152) := (bC BK421.out 5).trans rfl; have hfz156_0 := bF BK421.out 0; have hfz156_1 := bF BK421.out 1; have hfz156_2 := bF BK421.out 2; have hfz156_3 := bF BK421.out 3; have hfz156_4 := bF BK421.out 4; have hfz156_5 := bF BK421.out 5) | (go_at_call 14; (with_reducible refine (r9Good.calls kj15 a0_0 x422001_15 a0_2 x422003_15 a0_4 _ _ x422005_15 t436 _ ?side1 ?side2 A145.out).mono ?_); (case side1 => repeat (first | exact (Kd.R_reads' HO_422005.out).2.2 | (with_reducible refine Kd.C_alloc ?_ _) | (with_reducible refine Kd.C_drewN ?_ _) | (with_reducible refine Kd.C_drew ?_))); (case side2 => exact (Kd.R_reads' HO_422005.out).2.1); rintro e w157 ⟨rfl, hb⟩; have n0_ := A0_.mk (Kd.R_below (by (with_reducible repeat (first | apply Kd.R_alloc | apply Kd.R_drewN | apply Kd.R_drew)); exact HO_422005.out) hb); have n1_ := A0_.mk (bB (g := gb412) (o := .cells #[.int .i64 a0_0, .string a0_1, .bool a0_2, .string a0_3, .int .i64 a0_4, .slice A0_5 l0_5.length c0_5] 24 (0, 0)) (by (with_reducible repeat (first | refine bN ?_ _ | refine bD ?_ | refine bA ?_ _)); exact BK412.out) hb); have n2_ := A0_.mk (bB (g := gb421) (o := .cells #[.int .i64 a0_0, .string x422001_15, .bool a0_2, .string x422003_15, .int .i64 a0_4, .slice Ao152 x422005_15.length co152] 24 (0, 0)) (by (with_reducible repeat (first | refine bN ?_ _ | refine bD ?_ | refine bA ?_ _)); exact BK421.out) hb); have n3_ := A0_.mk (wT (by repeat (first | (with_reducible first | exact HB.out | apply wA | apply pN | apply wD | refine wS ?_ GE412.out | refine wS ?_ GE421.out) | exact HB.out)) hb); clear HO_422005; clear BK412; clear BK421; clear HB; have HO_422005 := n0_; have BK412 := n1_; have BK421 := n2_; have HB := n3_; clear n0_ n1_ n2_ n3_; (try clear hb); (try clear hb2); (try clear hk); (try clear hi)) | (go_at_call 8; (with_reducible refine (u9wakes.calls kj15  t437 _ ?side1 A147.out).mono ?_); (case side1 => exact Glob.below HG.out (by repeat (first | (with_reducible first | exact HB.out | apply wA | apply pN | apply wD | refine wS ?_ GE412.out | refine wS ?_ GE421.out) | exact HB.out))); rintro e w158 ⟨rfl, hb⟩; have n0_ := A0_.mk (Kd.R_below (by (with_reducible repeat (first | apply Kd.R_alloc | apply Kd.R_drewN | apply Kd.R_drew)); exact HO_422005.out) hb); have n1_ := A0_.mk (bB (g := gb412) (o := .cells #[.int .i64 a0_0, .string a0_1, .bool a0_2, .string a0_3, .int .i64 a0_4, .slice A0_5 l0_5.length c0_5] 24 (0, 0)) (by (with_reducible repeat (first | refine bN ?_ _ | refine bD ?_ | refine bA ?_ _)); exact BK412.out) hb); have n2_ := A0_.mk (bB (g := gb421) (o := .cells #[.int .i64 a0_0, .string x422001_15, .bool a0_2, .string x422003_15, .int .i64 a0_4, .slice Ao152 x422005_15.length co152] 24 (0, 0)) (by (with_reducible repeat (first | refine bN ?_ _ | refine bD ?_ | refine bA ?_ _)); exact BK421.out) hb); have n3_ := A0_.mk (wT (by repeat (first | (with_reducible first | exact HB.out | apply wA | apply pN | apply wD | refine wS ?_ GE412.out | refine wS ?_ GE421.out) | exact HB.out)) hb); clear HO_422005; clear BK412; clear BK421; clear HB; have HO_422005 := n0_; have BK412 := n1_; have BK421 := n2_; have HB := n3_; clear n0_ n1_ n2_ n3_; (try clear hb); (try clear hb2); (try clear hk); (try clear hi)))
          go_ret
          exact ⟨by first | rfl | (simp [errW_none, errW_some] <;> rfl) | (simp [*, errW_none, errW_some] <;> rfl), by repeat (first | (with_reducible first | exact HB.out | apply wA | apply pN | apply wD | refine wS ?_ GE412.out | refine wS ?_ GE421.out) | exact HB.out)⟩
         ·rw [if_neg c146] at H
          exact absurd H (by simp)
        ·rw [if_neg c144] at H
         exact absurd H (by simp)
    ·rw [if_neg c15] at H
     exact absurd H (by simp)

end Go.Proofs.YtklakmooaffjpaaDoor.PNod
