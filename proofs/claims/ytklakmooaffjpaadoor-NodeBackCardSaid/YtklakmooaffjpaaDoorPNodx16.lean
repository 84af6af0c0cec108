-- Written by a program of this session for this seat. Not trusted: Lean checks it.
import Derived.Test.YtklakmooaffjpaaDoorPNodx1
import Derived.Test.YtklakmooaffjpaaDoorPNodx3
import Derived.Test.YtklakmooaffjpaaDoorPNodx4
import Derived.Test.YtklakmooaffjpaaDoorPNodx5
import Derived.Test.YtklakmooaffjpaaDoorPNodx6
import Derived.Test.YtklakmooaffjpaaDoorPNodx14
namespace Go.Proofs.YtklakmooaffjpaaDoor.PNod
open Go.RowKit Go.Proofs.YtklakmooaffjpaaDoorW.PrintWords Go.Proofs.YtklakmooaffjpaaDoorW.PrintLast Go.Proofs.YtklakmooaffjpaaDoorW.PrintMore
attribute [local go_sem] max2_int min2_int max_two min_two max_three min_three max_four min_four   -- for this text's walks alone
set_option linter.unusedVariables false
set_option linter.unusedSimpArgs false
open Go.Proofs.YtklakmooaffjpaaDoor.HW Go.Proofs.YtklakmooaffjpaaDoor.DgsB

/-! ### u9NodeBack: function 4 -/
mutual
def u9NodeBack.j0 : Nat → ByteArray → Bool → Int → ByteArray → Bool → ByteArray → Int → List ByteArray → Int → ByteArray → Bool → ByteArray → Int → List ByteArray → Option (Bool)
 | 0, _, _, _, _, _, _, _, _, _, _, _, _, _, _ => none
 | k + 1, x2, x31, x353000, x353001, x353002, x353003, x353004, x353005, x354000, x354001, x354002, x354003, x354004, x354005 => if x31 = true then ((u9wakes.f k).bind fun t356 => (some t356)) else ((node_Encode.f k x353000 x353001 x353002 x353003 x353004 x353005).bind fun bt357 => ((node_Encode.f k x354000 x354001 x354002 x354003 x354004 x354005).bind fun bt359 => (if bt357.2 = true then ((node_Decode.f k bt357.1).bind fun bt361 => (if bt357.1.size + 1 ≤ 9223372036854775807 then ((node_Decode.f k (bt357.1 ++ (⟨#[0]⟩ : ByteArray))).bind fun bt371 => (if bt361.2.2.2.2.2.2 = true then (if bt371.2.2.2.2.2.2 = true then (u9NodeBack.j1 k x2 bt357.1 bt359.1 bt359.2 true x353000 x353001 x353002 x353003 x353004 x353005 x354000 x354001 x354002 x354003 x354004 x354005) else ((k9Item.f k bt361.1 bt361.2.1 bt361.2.2.1 bt361.2.2.2.1 bt361.2.2.2.2.1 bt361.2.2.2.2.2.1 x353000 x353001 x353002 x353003 x353004 x353005).bind fun t381 => (u9NodeBack.j1 k x2 bt357.1 bt359.1 bt359.2 (!t381) x353000 x353001 x353002 x353003 x353004 x353005 x354000 x354001 x354002 x354003 x354004 x354005))) else (u9NodeBack.j1 k x2 bt357.1 bt359.1 bt359.2 true x353000 x353001 x353002 x353003 x353004 x353005 x354000 x354001 x354002 x354003 x354004 x354005))) else (none))) else (u9NodeBack.j2 k x2))))
def u9NodeBack.j2 : Nat → ByteArray → Option (Bool)
 | 0, _ => none
 | k + 1, x2 => (node_Decode.f k x2).bind fun bt383 => (if bt383.2.2.2.2.2.2 = true then ((node_Encode.f k bt383.1 bt383.2.1 bt383.2.2.1 bt383.2.2.2.1 bt383.2.2.2.2.1 bt383.2.2.2.2.2.1).bind fun bt394 => ((node_Hash.f k bt383.1 bt383.2.1 bt383.2.2.1 bt383.2.2.2.1 bt383.2.2.2.2.1 bt383.2.2.2.2.2.1).bind fun bt396 => (if bt394.2 = true then (if bt394.1.toList = x2.toList then ((node_Good.f k bt383.1 bt383.2.1 bt383.2.2.1 bt383.2.2.2.1 bt383.2.2.2.2.1 bt383.2.2.2.2.2.1).bind fun t398 => (if t398 = true then (if bt396.2 = true then ((digest_Of.f x2).bind fun t399 => (if bt396.1.toList = t399.toList then ((u9wakes.f k).bind fun t400 => (some t400)) else (none))) else (none)) else (none))) else (none)) else (none)))) else (if bt383.1 = 0 then (if (bt383.2.2.2.2.2.1.length : Int) = 0 then ((u9wakes.f k).bind fun t393 => (some t393)) else (none)) else (none)))
def u9NodeBack.j1 : Nat → ByteArray → ByteArray → ByteArray → Bool → Bool → Int → ByteArray → Bool → ByteArray → Int → List ByteArray → Int → ByteArray → Bool → ByteArray → Int → List ByteArray → Option (Bool)
 | 0, _, _, _, _, _, _, _, _, _, _, _, _, _, _, _, _, _ => none
 | k + 1, x2, x7, x9, x10, x65, x353000, x353001, x353002, x353003, x353004, x353005, x354000, x354001, x354002, x354003, x354004, x354005 => if x65 = true then (none) else (if x10 = true then ((k9Item.f k x353000 x353001 x353002 x353003 x353004 x353005 x354000 x354001 x354002 x354003 x354004 x354005).bind fun t382 => (if ((x7.toList == x9.toList) != t382) = true then (none) else (u9NodeBack.j2 k x2))) else (u9NodeBack.j2 k x2))
end
def u9NodeBack.f (k : Nat) (a0_0 : Int) (a0_1 : ByteArray) (a0_2 : Bool) (a0_3 : ByteArray) (a0_4 : Int) (l0_5 : List ByteArray) (a1_0 : Int) (a1_1 : ByteArray) (a1_2 : Bool) (a1_3 : ByteArray) (a1_4 : Int) (l1_5 : List ByteArray) (a2 : ByteArray) : Option (Bool) := (u9Long.f k a0_0 a0_1 a0_2 a0_3 a0_4 l0_5).bind fun t354 => (if t354 = true then (u9NodeBack.j0 k a2 true a0_0 a0_1 a0_2 a0_3 a0_4 l0_5 a1_0 a1_1 a1_2 a1_3 a1_4 l1_5) else ((u9Long.f k a1_0 a1_1 a1_2 a1_3 a1_4 l1_5).bind fun t355 => (if t355 = true then (u9NodeBack.j0 k a2 true a0_0 a0_1 a0_2 a0_3 a0_4 l0_5 a1_0 a1_1 a1_2 a1_3 a1_4 l1_5) else (u9NodeBack.j0 k a2 (decide ((a2.size : Int) > 2000)) a0_0 a0_1 a0_2 a0_3 a0_4 l0_5 a1_0 a1_1 a1_2 a1_3 a1_4 l1_5))))
set_option maxHeartbeats 8000000 in
set_option maxRecDepth 100000 in
theorem u9NodeBack.calls (k : Nat) (a0_0 : Int) (a0_1 : ByteArray) (a0_2 : Bool) (a0_3 : ByteArray) (a0_4 : Int) (A0_5 : Option Addr) (c0_5 : Nat) (l0_5 : List ByteArray) (a1_0 : Int) (a1_1 : ByteArray) (a1_2 : Bool) (a1_3 : ByteArray) (a1_4 : Int) (A1_5 : Option Addr) (c1_5 : Nat) (l1_5 : List ByteArray) (a2 : ByteArray) (r : Bool) (w : World) (hr0_5 : Kd.C Kd.string w A0_5 l0_5.length l0_5) (hc0_5 : l0_5.length ≤ c0_5) (hr1_5 : Kd.C Kd.string w A1_5 l1_5.length l1_5) (hc1_5 : l1_5.length ≤ c1_5) (hG : Glob w) (h : u9NodeBack.f k a0_0 a0_1 a0_2 a0_3 a0_4 l0_5 a1_0 a1_1 a1_2 a1_3 a1_4 l1_5 a2 = some r) :
  Calls Tryd.prog 4 #[.agg #[.int .i64 a0_0, .string a0_1, .bool a0_2, .string a0_3, .int .i64 a0_4, .slice A0_5 l0_5.length c0_5], .agg #[.int .i64 a1_0, .string a1_1, .bool a1_2, .string a1_3, .int .i64 a1_4, .slice A1_5 l1_5.length c1_5], .string a2] w fun e w' => e = .returned (.bool r) ∧ Below w.heap.size w w' := by
 have hu24 := Tryd.underlying24
 have HR0_5 := A0_.mk hr0_5
 have HC0_5 := A0_.mk hc0_5
 clear hr0_5 hc0_5
 have HR1_5 := A0_.mk hr1_5
 have HC1_5 := A0_.mk hc1_5
 clear hr1_5 hc1_5
 have HG := A0_.mk hG
 clear hG
 have HB := A0_.mk (Below.refl w.heap.size w)
 have H : ((u9Long.f k a0_0 a0_1 a0_2 a0_3 a0_4 l0_5).bind fun t354 => (if t354 = true then (u9NodeBack.j0 k a2 true a0_0 a0_1 a0_2 a0_3 a0_4 l0_5 a1_0 a1_1 a1_2 a1_3 a1_4 l1_5) else ((u9Long.f k a1_0 a1_1 a1_2 a1_3 a1_4 l1_5).bind fun t355 => (if t355 = true then (u9NodeBack.j0 k a2 true a0_0 a0_1 a0_2 a0_3 a0_4 l0_5 a1_0 a1_1 a1_2 a1_3 a1_4 l1_5) else (u9NodeBack.j0 k a2 (decide ((a2.size : Int) > 2000)) a0_0 a0_1 a0_2 a0_3 a0_4 l0_5 a1_0 a1_1 a1_2 a1_3 a1_4 l1_5))))) = some r := h
 clear h
 have HC4 := A0_.mk H
 clear H
 go_enter Tryd.func4, Tryd.ntmps4
 go_upto_region 1 with (first | ((with_reducible refine gD (N := 3) rfl ?_); (try (refine gG (by rfl) ?_; dsimp only)); refine xE ?hg (N := 3) ?hd (cs := #[.int .i64 a0_0, .string a0_1, .bool a0_2, .string a0_3, .int .i64 a0_4, .slice A0_5 l0_5.length c0_5]) (t := 24) ?hr ?_; (case hd => rfl); (case hg => rfl); (case hr => first | (go_simp; done) | (go_simp; rfl)); intro gb352 hg w5 hbox hb; have n0_ := A0_.mk (wT (by repeat (first | (with_reducible first | exact HB.out | apply wA | apply pN | apply wD) | exact HB.out)) hb); have n1_ := A0_.mk (hbox); have n2_ := A0_.mk ((by rw [hg]; exact (wZ (by repeat (first | (with_reducible first | exact HB.out | apply wA | apply pN | apply wD) | exact HB.out))) : w.heap.size ≤ gb352)); have n3_ := A0_.mk ((by rw [hg]; exact (wZ (by repeat (first | (with_reducible first | exact HB.out | apply wA | apply pN | apply wD) | exact HB.out))) : w.heap.size ≤ gb352)); clear HB; have HB := n0_; have BK352 := n1_; have GW352 := n2_; have GE352 := n3_; clear n0_ n1_ n2_ n3_; clear hb hbox hg) | ((with_reducible refine gD (N := 4) rfl ?_); (try (refine gG (by rfl) ?_; dsimp only)); refine xE ?hg (N := 4) ?hd (cs := #[.int .i64 a1_0, .string a1_1, .bool a1_2, .string a1_3, .int .i64 a1_4, .slice A1_5 l1_5.length c1_5]) (t := 24) ?hr ?_; (case hd => rfl); (case hg => rfl); (case hr => first | (go_simp; done) | (go_simp; rfl)); intro gb353 hg w6 hbox hb; have n0_ := A0_.mk (bB (g := gb352) (o := .cells #[.int .i64 a0_0, .string a0_1, .bool a0_2, .string a0_3, .int .i64 a0_4, .slice A0_5 l0_5.length c0_5] 24 (0, 0)) (by (with_reducible repeat (first | refine bN ?_ _ | refine bD ?_ | refine bA ?_ _)); exact BK352.out) hb); have n1_ := A0_.mk (wT (by repeat (first | (with_reducible first | exact HB.out | apply wA | apply pN | apply wD | refine wS ?_ GE352.out) | exact HB.out)) hb); have n2_ := A0_.mk (hbox); have n3_ := A0_.mk ((by rw [hg]; exact (wZ (by repeat (first | (with_reducible first | exact HB.out | apply wA | apply pN | apply wD | refine wS ?_ GE352.out) | exact HB.out))) : w.heap.size ≤ gb353)); have n4_ := A0_.mk ((by rw [hg]; exact (wZ (by repeat (first | (with_reducible first | exact HB.out | apply wA | apply pN | apply wD | refine wS ?_ GE352.out) | exact HB.out))) : w.heap.size ≤ gb353)); have n5_ := A0_.mk ((by rw [hg]; exact Nat.ne_of_lt (bL (g := gb352) (o := .cells #[.int .i64 a0_0, .string a0_1, .bool a0_2, .string a0_3, .int .i64 a0_4, .slice A0_5 l0_5.length c0_5] 24 (0, 0)) (by (with_reducible repeat (first | refine bN ?_ _ | refine bD ?_ | refine bA ?_ _)); exact BK352.out)) : gb352 ≠ gb353)); have n6_ := A0_.mk ((by rw [hg]; exact Nat.ne_of_gt (bL (g := gb352) (o := .cells #[.int .i64 a0_0, .string a0_1, .bool a0_2, .string a0_3, .int .i64 a0_4, .slice A0_5 l0_5.length c0_5] 24 (0, 0)) (by (with_reducible repeat (first | refine bN ?_ _ | refine bD ?_ | refine bA ?_ _)); exact BK352.out)) : gb353 ≠ gb352)); clear BK352; clear HB; have BK352 := n0_; have HB := n1_; have BK353 := n2_; have GW353 := n3_; have GE353 := n4_; have NB352_353 := n5_; have NB353_352 := n6_; clear n0_ n1_ n2_ n3_ n4_ n5_ n6_; clear hb hbox hg))
 (try simp only [Act.put, List.setIfInBounds_toArray, List.set_cons_zero, List.set_cons_succ])
 go_cut [31] (fun v31 wc => ∃ (kq : Nat) (x31_3 : Bool), v31 = .bool x31_3 ∧ A0_ (u9NodeBack.j0 kq a2 x31_3 a0_0 a0_1 a0_2 a0_3 a0_4 l0_5 a1_0 a1_1 a1_2 a1_3 a1_4 l1_5 = some r) ∧ A0_ (kq ≤ k) ∧ A0_ (wc.heap[gb352]? = some (.cells #[.int .i64 a0_0, .string a0_1, .bool a0_2, .string a0_3, .int .i64 a0_4, (.slice A0_5 l0_5.length c0_5)] 24 (0, 0))) ∧ A0_ (wc.heap[gb353]? = some (.cells #[.int .i64 a1_0, .string a1_1, .bool a1_2, .string a1_3, .int .i64 a1_4, (.slice A1_5 l1_5.length c1_5)] 24 (0, 0))) ∧ A0_ (Below w.heap.size w wc))
 case first =>
  have H := HC4.out
  clear HC4
  replace H := Option.bind_eq_some_iff.mp H
  obtain ⟨t354, A70, H⟩ := H
  replace H : (if t354 = true then (u9NodeBack.j0 k a2 true a0_0 a0_1 a0_2 a0_3 a0_4 l0_5 a1_0 a1_1 a1_2 a1_3 a1_4 l1_5) else ((u9Long.f k a1_0 a1_1 a1_2 a1_3 a1_4 l1_5).bind fun t355 => (if t355 = true then (u9NodeBack.j0 k a2 true a0_0 a0_1 a0_2 a0_3 a0_4 l0_5 a1_0 a1_1 a1_2 a1_3 a1_4 l1_5) else (u9NodeBack.j0 k a2 (decide ((a2.size : Int) > 2000)) a0_0 a0_1 a0_2 a0_3 a0_4 l0_5 a1_0 a1_1 a1_2 a1_3 a1_4 l1_5)))) = some r := H
  have A7 := A0_.mk A70
  clear A70
  by_cases c8 : t354 = true
  ·subst c8
   have H1 : (u9NodeBack.j0 k a2 true a0_0 a0_1 a0_2 a0_3 a0_4 l0_5 a1_0 a1_1 a1_2 a1_3 a1_4 l1_5) = some r := by rw [if_pos rfl] at H; exact H
   clear H
   have H := H1
   clear H1
   have H' := A0_.mk H
   clear H
   have hnb9 := NB352_353.out
   have hnc9 := NB353_352.out
   have hcz10_0 : w6.cell? ⟨gb352, 0, none⟩ = some (.int .i64 a0_0) := (bC BK352.out 0).trans rfl
   have hcz10_1 : w6.cell? ⟨gb352, 1, none⟩ = some (.string a0_1) := (bC BK352.out 1).trans rfl
   have hcz10_2 : w6.cell? ⟨gb352, 2, none⟩ = some (.bool a0_2) := (bC BK352.out 2).trans rfl
   have hcz10_3 : w6.cell? ⟨gb352, 3, none⟩ = some (.string a0_3) := (bC BK352.out 3).trans rfl
   have hcz10_4 : w6.cell? ⟨gb352, 4, none⟩ = some (.int .i64 a0_4) := (bC BK352.out 4).trans rfl
   have hcz10_5 : w6.cell? ⟨gb352, 5, none⟩ = some (.slice A0_5 l0_5.length c0_5) := (bC BK352.out 5).trans rfl
   have hfz10_0 := bF BK352.out 0
   have hfz10_1 := bF BK352.out 1
   have hfz10_2 := bF BK352.out 2
   have hfz10_3 := bF BK352.out 3
   have hfz10_4 := bF BK352.out 4
   have hfz10_5 := bF BK352.out 5
   go_wp2_with (first | ((with_reducible refine gC (f := 7) rfl ?_); refine gL (some 22) rfl rfl Tryd.func7 (by kernel_rfl) rfl #[.agg #[.int .i64 a0_0, .string a0_1, .bool a0_2, .string a0_3, .int .i64 a0_4, .slice A0_5 l0_5.length c0_5]] rfl (by (try simp only [List.map_toArray, List.map_cons, List.map_nil]); first | done | rfl | (simp only [List.length_drop, List.length_take]; rfl)) ?_; (with_reducible refine (u9Long.calls k a0_0 a0_1 a0_2 a0_3 a0_4 _ _ l0_5 true _ ?side1 ?side2 A7.out).mono ?_); (case side1 => repeat (first | exact (Kd.C_below HR0_5.out HB.out) | (with_reducible refine Kd.C_alloc ?_ _) | (with_reducible refine Kd.C_drewN ?_ _) | (with_reducible refine Kd.C_drew ?_))); (case side2 => exact HC0_5.out); rintro e w11 ⟨rfl, hb⟩; refine ⟨_, rfl, ?_⟩; have n0_ := A0_.mk (bB (g := gb352) (o := .cells #[.int .i64 a0_0, .string a0_1, .bool a0_2, .string a0_3, .int .i64 a0_4, .slice A0_5 l0_5.length c0_5] 24 (0, 0)) (by (with_reducible repeat (first | refine bN ?_ _ | refine bD ?_ | refine bA ?_ _)); exact BK352.out) hb); have n1_ := A0_.mk (bB (g := gb353) (o := .cells #[.int .i64 a1_0, .string a1_1, .bool a1_2, .string a1_3, .int .i64 a1_4, .slice A1_5 l1_5.length c1_5] 24 (0, 0)) (by (with_reducible repeat (first | refine bN ?_ _ | refine bD ?_ | refine bA ?_ _)); exact BK353.out) hb); have n2_ := A0_.mk (wT (by repeat (first | (with_reducible first | exact HB.out | apply wA | apply pN | apply wD | refine wS ?_ GE352.out | refine wS ?_ GE353.out) | exact HB.out)) hb); clear BK352; clear BK353; clear HB; have BK352 := n0_; have BK353 := n1_; have HB := n2_; clear n0_ n1_ n2_; (try clear hb); (try clear hb2); (try clear hk); (try clear hi)))
   go_meet
   case rel => exact ⟨_, (true), (by first | rfl | (simp; done) | (simp [*]; done)), H', ⟨by first | omega | exact Nat.le_refl _⟩, ⟨by (with_reducible repeat (first | refine bN ?_ _ | refine bD ?_ | refine bA ?_ _)); exact BK352.out⟩, ⟨by (with_reducible repeat (first | refine bN ?_ _ | refine bD ?_ | refine bA ?_ _)); exact BK353.out⟩, ⟨by repeat (first | (with_reducible first | exact HB.out | apply wA | apply pN | apply wD | refine wS ?_ GE352.out | refine wS ?_ GE353.out) | exact HB.out)⟩⟩
  ·replace c8 := Bool.eq_false_iff.mpr c8
   subst c8
   have H1 : ((u9Long.f k a1_0 a1_1 a1_2 a1_3 a1_4 l1_5).bind fun t355 => (if t355 = true then (u9NodeBack.j0 k a2 true a0_0 a0_1 a0_2 a0_3 a0_4 l0_5 a1_0 a1_1 a1_2 a1_3 a1_4 l1_5) else (u9NodeBack.j0 k a2 (decide ((a2.size : Int) > 2000)) a0_0 a0_1 a0_2 a0_3 a0_4 l0_5 a1_0 a1_1 a1_2 a1_3 a1_4 l1_5))) = some r := by rw [if_neg (show ¬ (false = true) by decide)] at H; exact H
   clear H
   have H := H1
   clear H1
   replace H := Option.bind_eq_some_iff.mp H
   obtain ⟨t355, A120, H⟩ := H
   replace H : (if t355 = true then (u9NodeBack.j0 k a2 true a0_0 a0_1 a0_2 a0_3 a0_4 l0_5 a1_0 a1_1 a1_2 a1_3 a1_4 l1_5) else (u9NodeBack.j0 k a2 (decide ((a2.size : Int) > 2000)) a0_0 a0_1 a0_2 a0_3 a0_4 l0_5 a1_0 a1_1 a1_2 a1_3 a1_4 l1_5)) = some r := H
   have A12 := A0_.mk A120
   clear A120
   by_cases c13 : t355 = true
   ·subst c13
    have H1 : (u9NodeBack.j0 k a2 true a0_0 a0_1 a0_2 a0_3 a0_4 l0_5 a1_0 a1_1 a1_2 a1_3 a1_4 l1_5) = some r := by rw [if_pos rfl] at H; exact H
    clear H
    have H := H1
    clear H1
    have H' := A0_.mk H
    clear H
    have hnb14 := NB352_353.out
    have hnc14 := NB353_352.out
    have hcz15_0 : w6.cell? ⟨gb352, 0, none⟩ = some (.int .i64 a0_0) := (bC BK352.out 0).trans rfl
    have hcz15_1 : w6.cell? ⟨gb352, 1, none⟩ = some (.string a0_1) := (bC BK352.out 1).trans rfl
    have hcz15_2 : w6.cell? ⟨gb352, 2, none⟩ = some (.bool a0_2) := (bC BK352.out 2).trans rfl
    have hcz15_3 : w6.cell? ⟨gb352, 3, none⟩ = some (.string a0_3) := (bC BK352.out 3).trans rfl
    have hcz15_4 : w6.cell? ⟨gb352, 4, none⟩ = some (.int .i64 a0_4) := (bC BK352.out 4).trans rfl
    have hcz15_5 : w6.cell? ⟨gb352, 5, none⟩ = some (.slice A0_5 l0_5.length c0_5) := (bC BK352.out 5).trans rfl
    have hfz15_0 := bF BK352.out 0
    have hfz15_1 := bF BK352.out 1
    have hfz15_2 := bF BK352.out 2
    have hfz15_3 := bF BK352.out 3
    have hfz15_4 := bF BK352.out 4
    have hfz15_5 := bF BK352.out 5
    go_wp2_with (first | ((with_reducible refine gC (f := 7) rfl ?_); refine gL (some 22) rfl rfl Tryd.func7 (by kernel_rfl) rfl #[.agg #[.int .i64 a0_0, .string a0_1, .bool a0_2, .string a0_3, .int .i64 a0_4, .slice A0_5 l0_5.length c0_5]] rfl (by (try simp only [List.map_toArray, List.map_cons, List.map_nil]); first | done | rfl | (simp only [List.length_drop, List.length_take]; rfl)) ?_; (with_reducible refine (u9Long.calls k a0_0 a0_1 a0_2 a0_3 a0_4 _ _ l0_5 false _ ?side1 ?side2 A7.out).mono ?_); (case side1 => repeat (first | exact (Kd.C_below HR0_5.out HB.out) | (with_reducible refine Kd.C_alloc ?_ _) | (with_reducible refine Kd.C_drewN ?_ _) | (with_reducible refine Kd.C_drew ?_))); (case side2 => exact HC0_5.out); rintro e w16 ⟨rfl, hb⟩; refine ⟨_, rfl, ?_⟩; have n0_ := A0_.mk (bB (g := gb352) (o := .cells #[.int .i64 a0_0, .string a0_1, .bool a0_2, .string a0_3, .int .i64 a0_4, .slice A0_5 l0_5.length c0_5] 24 (0, 0)) (by (with_reducible repeat (first | refine bN ?_ _ | refine bD ?_ | refine bA ?_ _)); exact BK352.out) hb); have n1_ := A0_.mk (bB (g := gb353) (o := .cells #[.int .i64 a1_0, .string a1_1, .bool a1_2, .string a1_3, .int .i64 a1_4, .slice A1_5 l1_5.length c1_5] 24 (0, 0)) (by (with_reducible repeat (first | refine bN ?_ _ | refine bD ?_ | refine bA ?_ _)); exact BK353.out) hb); have n2_ := A0_.mk (wT (by repeat (first | (with_reducible first | exact HB.out | apply wA | apply pN | apply wD | refine wS ?_ GE352.out | refine wS ?_ GE353.out) | exact HB.out)) hb); clear BK352; clear BK353; clear HB; have BK352 := n0_; have BK353 := n1_; have HB := n2_; clear n0_ n1_ n2_; (try clear hb); (try clear hb2); (try clear hk); (try clear hi); have hcz17_0 : w16.cell? ⟨gb353, 0, none⟩ = some (.int .i64 a1_0) := (bC BK353.out 0).trans rfl; have hcz17_1 : w16.cell? ⟨gb353, 1, none⟩ = some (.string a1_1) := (bC BK353.out 1).trans rfl; have hcz17_2 : w16.cell? ⟨gb353, 2, none⟩ = some (.bool a1_2) := (bC BK353.out 2).trans rfl; have hcz17_3 : w16.cell? ⟨gb353, 3, none⟩ = some (.string a1_3) := (bC BK353.out 3).trans rfl; have hcz17_4 : w16.cell? ⟨gb353, 4, none⟩ = some (.int .i64 a1_4) := (bC BK353.out 4).trans rfl; have hcz17_5 : w16.cell? ⟨gb353, 5, none⟩ = some (.slice A1_5 l1_5.length c1_5) := (bC BK353.out 5).trans rfl; have hfz17_0 := bF BK353.out 0; have hfz17_1 := bF BK353.out 1; have hfz17_2 := bF BK353.out 2; have hfz17_3 := bF BK353.out 3; have hfz17_4 := bF BK353.out 4; have hfz17_5 := bF BK353.out 5) | (go_at_call 7; (with_reducible refine (u9Long.calls k a1_0 a1_1 a1_2 a1_3 a1_4 _ _ l1_5 true _ ?side1 ?side2 A12.out).mono ?_); (case side1 => repeat (first | exact (Kd.C_below HR1_5.out HB.out) | (with_reducible refine Kd.C_alloc ?_ _) | (with_reducible refine Kd.C_drewN ?_ _) | (with_reducible refine Kd.C_drew ?_))); (case side2 => exact HC1_5.out); rintro e w18 ⟨rfl, hb⟩; have n0_ := A0_.mk (bB (g := gb352) (o := .cells #[.int .i64 a0_0, .string a0_1, .bool a0_2, .string a0_3, .int .i64 a0_4, .slice A0_5 l0_5.length c0_5] 24 (0, 0)) (by (with_reducible repeat (first | refine bN ?_ _ | refine bD ?_ | refine bA ?_ _)); exact BK352.out) hb); have n1_ := A0_.mk (bB (g := gb353) (o := .cells #[.int .i64 a1_0, .string a1_1, .bool a1_2, .string a1_3, .int .i64 a1_4, .slice A1_5 l1_5.length c1_5] 24 (0, 0)) (by (with_reducible repeat (first | refine bN ?_ _ | refine bD ?_ | refine bA ?_ _)); exact BK353.out) hb); have n2_ := A0_.mk (wT (by repeat (first | (with_reducible first | exact HB.out | apply wA | apply pN | apply wD | refine wS ?_ GE352.out | refine wS ?_ GE353.out) | exact HB.out)) hb); clear BK352; clear BK353; clear HB; have BK352 := n0_; have BK353 := n1_; have HB := n2_; clear n0_ n1_ n2_; (try clear hb); (try clear hb2); (try clear hk); (try clear hi)))
    go_meet
    case rel => exact ⟨_, (true), (by first | rfl | (simp; done) | (simp [*]; done)), H', ⟨by first | omega | exact Nat.le_refl _⟩, ⟨by (with_reducible repeat (first | refine bN ?_ _ | refine bD ?_ | refine bA ?_ _)); exact BK352.out⟩, ⟨by (with_reducible repeat (first | refine bN ?_ _ | refine bD ?_ | refine bA ?_ _)); exact BK353.out⟩, ⟨by repeat (first | (with_reducible first | exact HB.out | apply wA | apply pN | apply wD | refine wS ?_ GE352.out | refine wS ?_ GE353.out) | exact HB.out)⟩⟩
   ·replace c13 := Bool.eq_false_iff.mpr c13
    subst c13
    have H1 : (u9NodeBack.j0 k a2 (decide ((a2.size : Int) > 2000)) a0_0 a0_1 a0_2 a0_3 a0_4 l0_5 a1_0 a1_1 a1_2 a1_3 a1_4 l1_5) = some r := by rw [if_neg (show ¬ (false = true) by decide)] at H; exact H
    clear H
    have H := H1
    clear H1
    have H' := A0_.mk H
    clear H
    have hnb19 := NB352_353.out
    have hnc19 := NB353_352.out
    have hcz20_0 : w6.cell? ⟨gb352, 0, none⟩ = some (.int .i64 a0_0) := (bC BK352.out 0).trans rfl
    have hcz20_1 : w6.cell? ⟨gb352, 1, none⟩ = some (.string a0_1) := (bC BK352.out 1).trans rfl
    have hcz20_2 : w6.cell? ⟨gb352, 2, none⟩ = some (.bool a0_2) := (bC BK352.out 2).trans rfl
    have hcz20_3 : w6.cell? ⟨gb352, 3, none⟩ = some (.string a0_3) := (bC BK352.out 3).trans rfl
    have hcz20_4 : w6.cell? ⟨gb352, 4, none⟩ = some (.int .i64 a0_4) := (bC BK352.out 4).trans rfl
    have hcz20_5 : w6.cell? ⟨gb352, 5, none⟩ = some (.slice A0_5 l0_5.length c0_5) := (bC BK352.out 5).trans rfl
    have hfz20_0 := bF BK352.out 0
    have hfz20_1 := bF BK352.out 1
    have hfz20_2 := bF BK352.out 2
    have hfz20_3 := bF BK352.out 3
    have hfz20_4 := bF BK352.out 4
    have hfz20_5 := bF BK352.out 5
    go_wp2_with (first | ((with_reducible refine gC (f := 7) rfl ?_); refine gL (some 22) rfl rfl Tryd.func7 (by kernel_rfl) rfl #[.agg #[.int .i64 a0_0, .string a0_1, .bool a0_2, .string a0_3, .int .i64 a0_4, .slice A0_5 l0_5.length c0_5]] rfl (by (try simp only [List.map_toArray, List.map_cons, List.map_nil]); first | done | rfl | (simp only [List.length_drop, List.length_take]; rfl)) ?_; (with_reducible refine (u9Long.calls k a0_0 a0_1 a0_2 a0_3 a0_4 _ _ l0_5 false _ ?side1 ?side2 A7.out).mono ?_); (case side1 => repeat (first | exact (Kd.C_below HR0_5.out HB.out) | (with_reducible refine Kd.C_alloc ?_ _) | (with_reducible refine Kd.C_drewN ?_ _) | (with_reducible refine Kd.C_drew ?_))); (case side2 => exact HC0_5.out); rintro e w21 ⟨rfl, hb⟩; refine ⟨_, rfl, ?_⟩; have n0_ := A0_.mk (bB (g := gb352) (o := .cells #[.int .i64 a0_0, .string a0_1, .bool a0_2, .string a0_3, .int .i64 a0_4, .slice A0_5 l0_5.length c0_5] 24 (0, 0)) (by (with_reducible repeat (first | refine bN ?_ _ | refine bD ?_ | refine bA ?_ _)); exact BK352.out) hb); have n1_ := A0_.mk (bB (g := gb353) (o := .cells #[.int .i64 a1_0, .string a1_1, .bool a1_2, .string a1_3, .int .i64 a1_4, .slice A1_5 l1_5.length c1_5] 24 (0, 0)) (by (with_reducible repeat (first | refine bN ?_ _ | refine bD ?_ | refine bA ?_ _)); exact BK353.out) hb); have n2_ := A0_.mk (wT (by repeat (first | (with_reducible first | exact HB.out | apply wA | apply pN | apply wD | refine wS ?_ GE352.out | refine wS ?_ GE353.out) | exact HB.out)) hb); clear BK352; clear BK353; clear HB; have BK352 := n0_; have BK353 := n1_; have HB := n2_; clear n0_ n1_ n2_; (try clear hb); (try clear hb2); (try clear hk); (try clear hi); have hcz22_0 : w21.cell? ⟨gb353, 0, none⟩ = some (.int .i64 a1_0) := (bC BK353.out 0).trans rfl; have hcz22_1 : w21.cell? ⟨gb353, 1, none⟩ = some (.string a1_1) := (bC BK353.out 1).trans rfl; have hcz22_2 : w21.cell? ⟨gb353, 2, none⟩ = some (.bool a1_2) := (bC BK353.out 2).trans rfl; have hcz22_3 : w21.cell? ⟨gb353, 3, none⟩ = some (.string a1_3) := (bC BK353.out 3).trans rfl; have hcz22_4 : w21.cell? ⟨gb353, 4, none⟩ = some (.int .i64 a1_4) := (bC BK353.out 4).trans rfl; have hcz22_5 : w21.cell? ⟨gb353, 5, none⟩ = some (.slice A1_5 l1_5.length c1_5) := (bC BK353.out 5).trans rfl; have hfz22_0 := bF BK353.out 0; have hfz22_1 := bF BK353.out 1; have hfz22_2 := bF BK353.out 2; have hfz22_3 := bF BK353.out 3; have hfz22_4 := bF BK353.out 4; have hfz22_5 := bF BK353.out 5) | (go_at_call 7; (with_reducible refine (u9Long.calls k a1_0 a1_1 a1_2 a1_3 a1_4 _ _ l1_5 false _ ?side1 ?side2 A12.out).mono ?_); (case side1 => repeat (first | exact (Kd.C_below HR1_5.out HB.out) | (with_reducible refine Kd.C_alloc ?_ _) | (with_reducible refine Kd.C_drewN ?_ _) | (with_reducible refine Kd.C_drew ?_))); (case side2 => exact HC1_5.out); rintro e w23 ⟨rfl, hb⟩; have n0_ := A0_.mk (bB (g := gb352) (o := .cells #[.int .i64 a0_0, .string a0_1, .bool a0_2, .string a0_3, .int .i64 a0_4, .slice A0_5 l0_5.length c0_5] 24 (0, 0)) (by (with_reducible repeat (first | refine bN ?_ _ | refine bD ?_ | refine bA ?_ _)); exact BK352.out) hb); have n1_ := A0_.mk (bB (g := gb353) (o := .cells #[.int .i64 a1_0, .string a1_1, .bool a1_2, .string a1_3, .int .i64 a1_4, .slice A1_5 l1_5.length c1_5] 24 (0, 0)) (by (with_reducible repeat (first | refine bN ?_ _ | refine bD ?_ | refine bA ?_ _)); exact BK353.out) hb); have n2_ := A0_.mk (wT (by repeat (first | (with_reducible first | exact HB.out | apply wA | apply pN | apply wD | refine wS ?_ GE352.out | refine wS ?_ GE353.out) | exact HB.out)) hb); clear BK352; clear BK353; clear HB; have BK352 := n0_; have BK353 := n1_; have HB := n2_; clear n0_ n1_ n2_; (try clear hb); (try clear hb2); (try clear hk); (try clear hi)))
    go_meet
    case rel => exact ⟨_, (decide ((a2.size : Int) > 2000)), (by first | rfl | (simp; done) | (simp [*]; done)), H', ⟨by first | omega | exact Nat.le_refl _⟩, ⟨by (with_reducible repeat (first | refine bN ?_ _ | refine bD ?_ | refine bA ?_ _)); exact BK352.out⟩, ⟨by (with_reducible repeat (first | refine bN ?_ _ | refine bD ?_ | refine bA ?_ _)); exact BK353.out⟩, ⟨by repeat (first | (with_reducible first | exact HB.out | apply wA | apply pN | apply wD | refine wS ?_ GE352.out | refine wS ?_ GE353.out) | exact HB.out)⟩⟩
 case rest =>
  clear HC4
  try clear c1
  try clear p2
  try clear c4
  try clear c7
  try clear c8
  try clear c9
  try clear c13
  try clear c14
  try clear c19
  try clear hcz10_0
  try clear hcz10_1
  try clear hcz10_2
  try clear hcz10_3
  try clear hcz10_4
  try clear hcz10_5
  try clear hcz15_0
  try clear hcz15_1
  try clear hcz15_2
  try clear hcz15_3
  try clear hcz15_4
  try clear hcz15_5
  try clear hcz17_0
  try clear hcz17_1
  try clear hcz17_2
  try clear hcz17_3
  try clear hcz17_4
  try clear hcz17_5
  try clear hcz20_0
  try clear hcz20_1
  try clear hcz20_2
  try clear hcz20_3
  try clear hcz20_4
  try clear hcz20_5
  try clear hcz22_0
  try clear hcz22_1
  try clear hcz22_2
  try clear hcz22_3
  try clear hcz22_4
  try clear hcz22_5
  try clear hfz10_0
  try clear hfz10_1
  try clear hfz10_2
  try clear hfz10_3
  try clear hfz10_4
  try clear hfz10_5
  try clear hfz15_0
  try clear hfz15_1
  try clear hfz15_2
  try clear hfz15_3
  try clear hfz15_4
  try clear hfz15_5
  try clear hfz17_0
  try clear hfz17_1
  try clear hfz17_2
  try clear hfz17_3
  try clear hfz17_4
  try clear hfz17_5
  try clear hfz20_0
  try clear hfz20_1
  try clear hfz20_2
  try clear hfz20_3
  try clear hfz20_4
  try clear hfz20_5
  try clear hfz22_0
  try clear hfz22_1
  try clear hfz22_2
  try clear hfz22_3
  try clear hfz22_4
  try clear hfz22_5
  obtain ⟨kq, x31_3, rfl, HA, HJ3, BK352, BK353, HB⟩ := hcut
  cases kq with
  | zero => exact absurd HA.out (by simp [u9NodeBack.j0])
  | succ kj3 =>
   have H := HA.out
   clear HA
   simp only [u9NodeBack.j0] at H
   by_cases c24 : x31_3 = true
   ·subst c24
    have H1 : ((u9wakes.f kj3).bind fun t356 => (some t356)) = some r := by rw [if_pos rfl] at H; exact H
    clear H
    have H := H1
    clear H1
    replace H := Option.bind_eq_some_iff.mp H
    obtain ⟨t356, A250, H⟩ := H
    replace H : (some t356) = some r := H
    have A25 := A0_.mk A250
    clear A250
    obtain rfl := Option.some.inj H
    go_wp2_with (first | ((with_reducible refine gC (f := 8) rfl ?_); refine gL (some 32) rfl rfl Tryd.func8 (by kernel_rfl) rfl #[] rfl (by (try simp only [List.map_toArray, List.map_cons, List.map_nil]); first | done | rfl | (simp only [List.length_drop, List.length_take]; rfl)) ?_; (with_reducible refine (u9wakes.calls kj3  t356 _ ?side1 A25.out).mono ?_); (case side1 => exact Glob.below HG.out (by repeat (first | (with_reducible first | exact HB.out | apply wA | apply pN | apply wD | refine wS ?_ GE352.out | refine wS ?_ GE353.out) | exact HB.out))); rintro e w26 ⟨rfl, hb⟩; refine ⟨_, rfl, ?_⟩; have n0_ := A0_.mk (bB (g := gb352) (o := .cells #[.int .i64 a0_0, .string a0_1, .bool a0_2, .string a0_3, .int .i64 a0_4, .slice A0_5 l0_5.length c0_5] 24 (0, 0)) (by (with_reducible repeat (first | refine bN ?_ _ | refine bD ?_ | refine bA ?_ _)); exact BK352.out) hb); have n1_ := A0_.mk (bB (g := gb353) (o := .cells #[.int .i64 a1_0, .string a1_1, .bool a1_2, .string a1_3, .int .i64 a1_4, .slice A1_5 l1_5.length c1_5] 24 (0, 0)) (by (with_reducible repeat (first | refine bN ?_ _ | refine bD ?_ | refine bA ?_ _)); exact BK353.out) hb); have n2_ := A0_.mk (wT (by repeat (first | (with_reducible first | exact HB.out | apply wA | apply pN | apply wD | refine wS ?_ GE352.out | refine wS ?_ GE353.out) | exact HB.out)) hb); clear BK352; clear BK353; clear HB; have BK352 := n0_; have BK353 := n1_; have HB := n2_; clear n0_ n1_ n2_; (try clear hb); (try clear hb2); (try clear hk); (try clear hi)))
    go_ret
    exact ⟨by first | rfl | (simp [errW_none, errW_some] <;> rfl) | (simp [*, errW_none, errW_some] <;> rfl), by repeat (first | (with_reducible first | exact HB.out | apply wA | apply pN | apply wD | refine wS ?_ GE352.out | refine wS ?_ GE353.out) | exact HB.out)⟩
   ·replace c24 := Bool.eq_false_iff.mpr c24
    subst c24
    have H1 : ((node_Encode.f kj3 a0_0 a0_1 a0_2 a0_3 a0_4 l0_5).bind fun bt357 => ((node_Encode.f kj3 a1_0 a1_1 a1_2 a1_3 a1_4 l1_5).bind fun bt359 => (if bt357.2 = true then ((node_Decode.f kj3 bt357.1).bind fun bt361 => (if bt357.1.size + 1 ≤ 9223372036854775807 then ((node_Decode.f kj3 (bt357.1 ++ (⟨#[0]⟩ : ByteArray))).bind fun bt371 => (if bt361.2.2.2.2.2.2 = true then (if bt371.2.2.2.2.2.2 = true then (u9NodeBack.j1 kj3 a2 bt357.1 bt359.1 bt359.2 true a0_0 a0_1 a0_2 a0_3 a0_4 l0_5 a1_0 a1_1 a1_2 a1_3 a1_4 l1_5) else ((k9Item.f kj3 bt361.1 bt361.2.1 bt361.2.2.1 bt361.2.2.2.1 bt361.2.2.2.2.1 bt361.2.2.2.2.2.1 a0_0 a0_1 a0_2 a0_3 a0_4 l0_5).bind fun t381 => (u9NodeBack.j1 kj3 a2 bt357.1 bt359.1 bt359.2 (!t381) a0_0 a0_1 a0_2 a0_3 a0_4 l0_5 a1_0 a1_1 a1_2 a1_3 a1_4 l1_5))) else (u9NodeBack.j1 kj3 a2 bt357.1 bt359.1 bt359.2 true a0_0 a0_1 a0_2 a0_3 a0_4 l0_5 a1_0 a1_1 a1_2 a1_3 a1_4 l1_5))) else (none))) else (u9NodeBack.j2 kj3 a2)))) = some r := by rw [if_neg (show ¬ (false = true) by decide)] at H; exact H
    clear H
    have H := H1
    clear H1
    replace H := Option.bind_eq_some_iff.mp H
    obtain ⟨⟨t357, t358⟩, A270, H⟩ := H
    replace H : ((node_Encode.f kj3 a1_0 a1_1 a1_2 a1_3 a1_4 l1_5).bind fun bt359 => (if t358 = true then ((node_Decode.f kj3 t357).bind fun bt361 => (if t357.size + 1 ≤ 9223372036854775807 then ((node_Decode.f kj3 (t357 ++ (⟨#[0]⟩ : ByteArray))).bind fun bt371 => (if bt361.2.2.2.2.2.2 = true then (if bt371.2.2.2.2.2.2 = true then (u9NodeBack.j1 kj3 a2 t357 bt359.1 bt359.2 true a0_0 a0_1 a0_2 a0_3 a0_4 l0_5 a1_0 a1_1 a1_2 a1_3 a1_4 l1_5) else ((k9Item.f kj3 bt361.1 bt361.2.1 bt361.2.2.1 bt361.2.2.2.1 bt361.2.2.2.2.1 bt361.2.2.2.2.2.1 a0_0 a0_1 a0_2 a0_3 a0_4 l0_5).bind fun t381 => (u9NodeBack.j1 kj3 a2 t357 bt359.1 bt359.2 (!t381) a0_0 a0_1 a0_2 a0_3 a0_4 l0_5 a1_0 a1_1 a1_2 a1_3 a1_4 l1_5))) else (u9NodeBack.j1 kj3 a2 t357 bt359.1 bt359.2 true a0_0 a0_1 a0_2 a0_3 a0_4 l0_5 a1_0 a1_1 a1_2 a1_3 a1_4 l1_5))) else (none))) else (u9NodeBack.j2 kj3 a2))) = some r := H
    have A27 := A0_.mk A270
    clear A270
    replace H := Option.bind_eq_some_iff.mp H
    obtain ⟨⟨t359, t360⟩, A280, H⟩ := H
    replace H : (if t358 = true then ((node_Decode.f kj3 t357).bind fun bt361 => (if t357.size + 1 ≤ 9223372036854775807 then ((node_Decode.f kj3 (t357 ++ (⟨#[0]⟩ : ByteArray))).bind fun bt371 => (if bt361.2.2.2.2.2.2 = true then (if bt371.2.2.2.2.2.2 = true then (u9NodeBack.j1 kj3 a2 t357 t359 t360 true a0_0 a0_1 a0_2 a0_3 a0_4 l0_5 a1_0 a1_1 a1_2 a1_3 a1_4 l1_5) else ((k9Item.f kj3 bt361.1 bt361.2.1 bt361.2.2.1 bt361.2.2.2.1 bt361.2.2.2.2.1 bt361.2.2.2.2.2.1 a0_0 a0_1 a0_2 a0_3 a0_4 l0_5).bind fun t381 => (u9NodeBack.j1 kj3 a2 t357 t359 t360 (!t381) a0_0 a0_1 a0_2 a0_3 a0_4 l0_5 a1_0 a1_1 a1_2 a1_3 a1_4 l1_5))) else (u9NodeBack.j1 kj3 a2 t357 t359 t360 true a0_0 a0_1 a0_2 a0_3 a0_4 l0_5 a1_0 a1_1 a1_2 a1_3 a1_4 l1_5))) else (none))) else (u9NodeBack.j2 kj3 a2)) = some r := H
    have A28 := A0_.mk A280
    clear A280
    have HC29 := A0_.mk H
    clear H
    have hnb30 := NB352_353.out
    have hnc30 := NB353_352.out
    have hcz31_0 : wc.cell? ⟨gb352, 0, none⟩ = some (.int .i64 a0_0) := (bC BK352.out 0).trans rfl
    have hcz31_1 : wc.cell? ⟨gb352, 1, none⟩ = some (.string a0_1) := (bC BK352.out 1).trans rfl
    have hcz31_2 : wc.cell? ⟨gb352, 2, none⟩ = some (.bool a0_2) := (bC BK352.out 2).trans rfl
    have hcz31_3 : wc.cell? ⟨gb352, 3, none⟩ = some (.string a0_3) := (bC BK352.out 3).trans rfl
    have hcz31_4 : wc.cell? ⟨gb352, 4, none⟩ = some (.int .i64 a0_4) := (bC BK352.out 4).trans rfl
    have hcz31_5 : wc.cell? ⟨gb352, 5, none⟩ = some (.slice A0_5 l0_5.length c0_5) := (bC BK352.out 5).trans rfl
    have hfz31_0 := bF BK352.out 0
    have hfz31_1 := bF BK352.out 1
    have hfz31_2 := bF BK352.out 2
    have hfz31_3 := bF BK352.out 3
    have hfz31_4 := bF BK352.out 4
    have hfz31_5 := bF BK352.out 5
    go_upto_if 43 with (first | ((with_reducible refine gC (f := 9) rfl ?_); refine gL (some 35) rfl rfl Tryd.func9 (by kernel_rfl) rfl #[.agg #[.int .i64 a0_0, .string a0_1, .bool a0_2, .string a0_3, .int .i64 a0_4, .slice A0_5 l0_5.length c0_5]] rfl (by (try simp only [List.map_toArray, List.map_cons, List.map_nil]); first | done | rfl | (simp only [List.length_drop, List.length_take]; rfl)) ?_; (with_reducible refine (node_Encode.calls kj3 a0_0 a0_1 a0_2 a0_3 a0_4 _ _ l0_5 t357 t358 _ ?side1 ?side2 A27.out).mono ?_); (case side1 => repeat (first | exact (Kd.C_below HR0_5.out HB.out) | (with_reducible refine Kd.C_alloc ?_ _) | (with_reducible refine Kd.C_drewN ?_ _) | (with_reducible refine Kd.C_drew ?_))); (case side2 => exact HC0_5.out); rintro e w32 ⟨rfl, hb⟩; refine ⟨_, rfl, ?_⟩; have n0_ := A0_.mk (bB (g := gb352) (o := .cells #[.int .i64 a0_0, .string a0_1, .bool a0_2, .string a0_3, .int .i64 a0_4, .slice A0_5 l0_5.length c0_5] 24 (0, 0)) (by (with_reducible repeat (first | refine bN ?_ _ | refine bD ?_ | refine bA ?_ _)); exact BK352.out) hb); have n1_ := A0_.mk (bB (g := gb353) (o := .cells #[.int .i64 a1_0, .string a1_1, .bool a1_2, .string a1_3, .int .i64 a1_4, .slice A1_5 l1_5.length c1_5] 24 (0, 0)) (by (with_reducible repeat (first | refine bN ?_ _ | refine bD ?_ | refine bA ?_ _)); exact BK353.out) hb); have n2_ := A0_.mk (wT (by repeat (first | (with_reducible first | exact HB.out | apply wA | apply pN | apply wD | refine wS ?_ GE352.out | refine wS ?_ GE353.out) | exact HB.out)) hb); clear BK352; clear BK353; clear HB; have BK352 := n0_; have BK353 := n1_; have HB := n2_; clear n0_ n1_ n2_; (try clear hb); (try clear hb2); (try clear hk); (try clear hi); have hcz33_0 : w32.cell? ⟨gb353, 0, none⟩ = some (.int .i64 a1_0) := (bC BK353.out 0).trans rfl; have hcz33_1 : w32.cell? ⟨gb353, 1, none⟩ = some (.string a1_1) := (bC BK353.out 1).trans rfl; have hcz33_2 : w32.cell? ⟨gb353, 2, none⟩ = some (.bool a1_2) := (bC BK353.out 2).trans rfl; have hcz33_3 : w32.cell? ⟨gb353, 3, none⟩ = some (.string a1_3) := (bC BK353.out 3).trans rfl; have hcz33_4 : w32.cell? ⟨gb353, 4, none⟩ = some (.int .i64 a1_4) := (bC BK353.out 4).trans rfl; have hcz33_5 : w32.cell? ⟨gb353, 5, none⟩ = some (.slice A1_5 l1_5.length c1_5) := (bC BK353.out 5).trans rfl; have hfz33_0 := bF BK353.out 0; have hfz33_1 := bF BK353.out 1; have hfz33_2 := bF BK353.out 2; have hfz33_3 := bF BK353.out 3; have hfz33_4 := bF BK353.out 4; have hfz33_5 := bF BK353.out 5) | ((with_reducible refine gC (f := 9) rfl ?_); refine gL (some 40) rfl rfl Tryd.func9 (by kernel_rfl) rfl #[.agg #[.int .i64 a1_0, .string a1_1, .bool a1_2, .string a1_3, .int .i64 a1_4, .slice A1_5 l1_5.length c1_5]] rfl (by (try simp only [List.map_toArray, List.map_cons, List.map_nil]); first | done | rfl | (simp only [List.length_drop, List.length_take]; rfl)) ?_; (with_reducible refine (node_Encode.calls kj3 a1_0 a1_1 a1_2 a1_3 a1_4 _ _ l1_5 t359 t360 _ ?side1 ?side2 A28.out).mono ?_); (case side1 => repeat (first | exact (Kd.C_below HR1_5.out HB.out) | (with_reducible refine Kd.C_alloc ?_ _) | (with_reducible refine Kd.C_drewN ?_ _) | (with_reducible refine Kd.C_drew ?_))); (case side2 => exact HC1_5.out); rintro e w34 ⟨rfl, hb⟩; refine ⟨_, rfl, ?_⟩; have n0_ := A0_.mk (bB (g := gb352) (o := .cells #[.int .i64 a0_0, .string a0_1, .bool a0_2, .string a0_3, .int .i64 a0_4, .slice A0_5 l0_5.length c0_5] 24 (0, 0)) (by (with_reducible repeat (first | refine bN ?_ _ | refine bD ?_ | refine bA ?_ _)); exact BK352.out) hb); have n1_ := A0_.mk (bB (g := gb353) (o := .cells #[.int .i64 a1_0, .string a1_1, .bool a1_2, .string a1_3, .int .i64 a1_4, .slice A1_5 l1_5.length c1_5] 24 (0, 0)) (by (with_reducible repeat (first | refine bN ?_ _ | refine bD ?_ | refine bA ?_ _)); exact BK353.out) hb); have n2_ := A0_.mk (wT (by repeat (first | (with_reducible first | exact HB.out | apply wA | apply pN | apply wD | refine wS ?_ GE352.out | refine wS ?_ GE353.out) | exact HB.out)) hb); clear BK352; clear BK353; clear HB; have BK352 := n0_; have BK353 := n1_; have HB := n2_; clear n0_ n1_ n2_; (try clear hb); (try clear hb2); (try clear hk); (try clear hi)))
    (try simp only [Act.put, List.setIfInBounds_toArray, List.set_cons_zero, List.set_cons_succ])
    go_cut [] (fun wc => ∃ (kq : Nat), A0_ (u9NodeBack.j2 kq a2 = some r) ∧ A0_ (kq ≤ kj3) ∧ A0_ (wc.heap[gb352]? = some (.cells #[.int .i64 a0_0, .string a0_1, .bool a0_2, .string a0_3, .int .i64 a0_4, (.slice A0_5 l0_5.length c0_5)] 24 (0, 0))) ∧ A0_ (wc.heap[gb353]? = some (.cells #[.int .i64 a1_0, .string a1_1, .bool a1_2, .string a1_3, .int .i64 a1_4, (.slice A1_5 l1_5.length c1_5)] 24 (0, 0))) ∧ A0_ (Below w.heap.size w wc))
    case first =>
     have H := HC29.out
     clear HC29
     by_cases c35 : t358 = true
     ·subst c35
      have H1 : ((node_Decode.f kj3 t357).bind fun bt361 => (if t357.size + 1 ≤ 9223372036854775807 then ((node_Decode.f kj3 (t357 ++ (⟨#[0]⟩ : ByteArray))).bind fun bt371 => (if bt361.2.2.2.2.2.2 = true then (if bt371.2.2.2.2.2.2 = true then (u9NodeBack.j1 kj3 a2 t357 t359 t360 true a0_0 a0_1 a0_2 a0_3 a0_4 l0_5 a1_0 a1_1 a1_2 a1_3 a1_4 l1_5) else ((k9Item.f kj3 bt361.1 bt361.2.1 bt361.2.2.1 bt361.2.2.2.1 bt361.2.2.2.2.1 bt361.2.2.2.2.2.1 a0_0 a0_1 a0_2 a0_3 a0_4 l0_5).bind fun t381 => (u9NodeBack.j1 kj3 a2 t357 t359 t360 (!t381) a0_0 a0_1 a0_2 a0_3 a0_4 l0_5 a1_0 a1_1 a1_2 a1_3 a1_4 l1_5))) else (u9NodeBack.j1 kj3 a2 t357 t359 t360 true a0_0 a0_1 a0_2 a0_3 a0_4 l0_5 a1_0 a1_1 a1_2 a1_3 a1_4 l1_5))) else (none))) = some r := by rw [if_pos rfl] at H; exact H
      clear H
      have H := H1
      clear H1
      replace H := Option.bind_eq_some_iff.mp H
      obtain ⟨⟨t361, t362, t363, t364, t365, t366, t369⟩, A360, H⟩ := H
      replace H : (if t357.size + 1 ≤ 9223372036854775807 then ((node_Decode.f kj3 (t357 ++ (⟨#[0]⟩ : ByteArray))).bind fun bt371 => (if t369 = true then (if bt371.2.2.2.2.2.2 = true then (u9NodeBack.j1 kj3 a2 t357 t359 t360 true a0_0 a0_1 a0_2 a0_3 a0_4 l0_5 a1_0 a1_1 a1_2 a1_3 a1_4 l1_5) else ((k9Item.f kj3 t361 t362 t363 t364 t365 t366 a0_0 a0_1 a0_2 a0_3 a0_4 l0_5).bind fun t381 => (u9NodeBack.j1 kj3 a2 t357 t359 t360 (!t381) a0_0 a0_1 a0_2 a0_3 a0_4 l0_5 a1_0 a1_1 a1_2 a1_3 a1_4 l1_5))) else (u9NodeBack.j1 kj3 a2 t357 t359 t360 true a0_0 a0_1 a0_2 a0_3 a0_4 l0_5 a1_0 a1_1 a1_2 a1_3 a1_4 l1_5))) else (none)) = some r := H
      have A36 := A0_.mk A360
      clear A360
      by_cases c37 : t357.size + 1 ≤ 9223372036854775807
      ·rw [if_pos c37] at H
       have c37b0 := eq_true c37
       have c37b1 : decide (t357.size + 1 ≤ 9223372036854775807) = true := decide_eq_true c37
       try have c37b2 : (9223372036854775807 < t357.size + 1) = False := eq_false (Nat.not_lt.2 c37)
       replace H := Option.bind_eq_some_iff.mp H
       obtain ⟨⟨t371, t372, t373, t374, t375, t376, t379⟩, A380, H⟩ := H
       replace H : (if t369 = true then (if t379 = true then (u9NodeBack.j1 kj3 a2 t357 t359 t360 true a0_0 a0_1 a0_2 a0_3 a0_4 l0_5 a1_0 a1_1 a1_2 a1_3 a1_4 l1_5) else ((k9Item.f kj3 t361 t362 t363 t364 t365 t366 a0_0 a0_1 a0_2 a0_3 a0_4 l0_5).bind fun t381 => (u9NodeBack.j1 kj3 a2 t357 t359 t360 (!t381) a0_0 a0_1 a0_2 a0_3 a0_4 l0_5 a1_0 a1_1 a1_2 a1_3 a1_4 l1_5))) else (u9NodeBack.j1 kj3 a2 t357 t359 t360 true a0_0 a0_1 a0_2 a0_3 a0_4 l0_5 a1_0 a1_1 a1_2 a1_3 a1_4 l1_5)) = some r := H
       have A38 := A0_.mk A380
       clear A380
       have HC39 := A0_.mk H
       clear H
       go_upto_region 8 with (first | ((with_reducible refine gC (f := 11) rfl ?_); refine gL (some 46) rfl rfl Tryd.func11 (by kernel_rfl) rfl #[.string t357] rfl (by (try simp only [List.map_toArray, List.map_cons, List.map_nil]); first | done | rfl | (simp only [List.length_drop, List.length_take]; rfl)) ?_; (with_reducible refine (node_Decode.calls kj3 t357 t361 t362 t363 t364 t365 t366 t369 _ A36.out).mono ?_); rintro e w40 ⟨v367, rfl, ho0, hb⟩; refine ⟨_, rfl, ?_⟩; have n0_ := A0_.mk (Kd.R_lower ho0 (wZ (by repeat (first | (with_reducible first | exact HB.out | apply wA | apply pN | apply wD | refine wS ?_ GE352.out | refine wS ?_ GE353.out) | exact HB.out)))); have n1_ := A0_.mk (bB (g := gb352) (o := .cells #[.int .i64 a0_0, .string a0_1, .bool a0_2, .string a0_3, .int .i64 a0_4, .slice A0_5 l0_5.length c0_5] 24 (0, 0)) (by (with_reducible repeat (first | refine bN ?_ _ | refine bD ?_ | refine bA ?_ _)); exact BK352.out) hb); have n2_ := A0_.mk (bB (g := gb353) (o := .cells #[.int .i64 a1_0, .string a1_1, .bool a1_2, .string a1_3, .int .i64 a1_4, .slice A1_5 l1_5.length c1_5] 24 (0, 0)) (by (with_reducible repeat (first | refine bN ?_ _ | refine bD ?_ | refine bA ?_ _)); exact BK353.out) hb); have n3_ := A0_.mk (wT (by repeat (first | (with_reducible first | exact HB.out | apply wA | apply pN | apply wD | refine wS ?_ GE352.out | refine wS ?_ GE353.out) | exact HB.out)) hb); clear BK352; clear BK353; clear HB; have HO368 := n0_; have BK352 := n1_; have BK353 := n2_; have HB := n3_; clear n0_ n1_ n2_ n3_; (try clear hb); (try clear hb2); (try clear hk); (try clear hi); (try clear ho0)) | ((with_reducible refine gD (N := 11) rfl ?_); (try (refine gG (by rfl) ?_; dsimp only)); refine xE ?hg (N := 11) ?hd (cs := #[.int .i64 0, .string (⟨#[]⟩ : ByteArray), .bool false, .string (⟨#[]⟩ : ByteArray), .int .i64 0, .slice none 0 0]) (t := 24) ?hr ?_; (case hd => rfl); (case hg => rfl); (case hr => first | (go_simp; done) | (go_simp; rfl)); intro gb370 hg w41 hbox hb; have n0_ := A0_.mk (Kd.R_below (by (with_reducible repeat (first | apply Kd.R_alloc | apply Kd.R_drewN | apply Kd.R_drew)); exact HO368.out) hb); have n1_ := A0_.mk (bB (g := gb352) (o := .cells #[.int .i64 a0_0, .string a0_1, .bool a0_2, .string a0_3, .int .i64 a0_4, .slice A0_5 l0_5.length c0_5] 24 (0, 0)) (by (with_reducible repeat (first | refine bN ?_ _ | refine bD ?_ | refine bA ?_ _)); exact BK352.out) hb); have n2_ := A0_.mk (bB (g := gb353) (o := .cells #[.int .i64 a1_0, .string a1_1, .bool a1_2, .string a1_3, .int .i64 a1_4, .slice A1_5 l1_5.length c1_5] 24 (0, 0)) (by (with_reducible repeat (first | refine bN ?_ _ | refine bD ?_ | refine bA ?_ _)); exact BK353.out) hb); have n3_ := A0_.mk (wT (by repeat (first | (with_reducible first | exact HB.out | apply wA | apply pN | apply wD | refine wS ?_ GE352.out | refine wS ?_ GE353.out) | exact HB.out)) hb); have n4_ := A0_.mk (hbox); have n5_ := A0_.mk ((by rw [hg]; exact (wZ (by repeat (first | (with_reducible first | exact HB.out | apply wA | apply pN | apply wD | refine wS ?_ GE352.out | refine wS ?_ GE353.out) | exact HB.out))) : w.heap.size ≤ gb370)); have n6_ := A0_.mk ((by rw [hg]; exact (wZ (by repeat (first | (with_reducible first | exact HB.out | apply wA | apply pN | apply wD | refine wS ?_ GE352.out | refine wS ?_ GE353.out) | exact HB.out))) : w.heap.size ≤ gb370)); have n7_ := A0_.mk ((by rw [hg]; exact Nat.ne_of_lt (bL (g := gb352) (o := .cells #[.int .i64 a0_0, .string a0_1, .bool a0_2, .string a0_3, .int .i64 a0_4, .slice A0_5 l0_5.length c0_5] 24 (0, 0)) (by (with_reducible repeat (first | refine bN ?_ _ | refine bD ?_ | refine bA ?_ _)); exact BK352.out)) : gb352 ≠ gb370)); have n8_ := A0_.mk ((by rw [hg]; exact Nat.ne_of_gt (bL (g := gb352) (o := .cells #[.int .i64 a0_0, .string a0_1, .bool a0_2, .string a0_3, .int .i64 a0_4, .slice A0_5 l0_5.length c0_5] 24 (0, 0)) (by (with_reducible repeat (first | refine bN ?_ _ | refine bD ?_ | refine bA ?_ _)); exact BK352.out)) : gb370 ≠ gb352)); have n9_ := A0_.mk ((by rw [hg]; exact Nat.ne_of_lt (bL (g := gb353) (o := .cells #[.int .i64 a1_0, .string a1_1, .bool a1_2, .string a1_3, .int .i64 a1_4, .slice A1_5 l1_5.length c1_5] 24 (0, 0)) (by (with_reducible repeat (first | refine bN ?_ _ | refine bD ?_ | refine bA ?_ _)); exact BK353.out)) : gb353 ≠ gb370)); have n10_ := A0_.mk ((by rw [hg]; exact Nat.ne_of_gt (bL (g := gb353) (o := .cells #[.int .i64 a1_0, .string a1_1, .bool a1_2, .string a1_3, .int .i64 a1_4, .slice A1_5 l1_5.length c1_5] 24 (0, 0)) (by (with_reducible repeat (first | refine bN ?_ _ | refine bD ?_ | refine bA ?_ _)); exact BK353.out)) : gb370 ≠ gb353)); clear HO368; clear BK352; clear BK353; clear HB; have HO368 := n0_; have BK352 := n1_; have BK353 := n2_; have HB := n3_; have BK370 := n4_; have GW370 := n5_; have GE370 := n6_; have NB352_370 := n7_; have NB370_352 := n8_; have NB353_370 := n9_; have NB370_353 := n10_; clear n0_ n1_ n2_ n3_ n4_ n5_ n6_ n7_ n8_ n9_ n10_; clear hb hbox hg; have hnb42 := NB370_352.out; have hnc42 := NB352_370.out; have hnb43 := NB370_353.out; have hnc43 := NB353_370.out; have hcz44_0 : w41.cell? ⟨gb370, 0, none⟩ = some (.int .i64 0) := (bC BK370.out 0).trans rfl; have hcz44_1 : w41.cell? ⟨gb370, 1, none⟩ = some (.string (⟨#[]⟩ : ByteArray)) := (bC BK370.out 1).trans rfl; have hcz44_2 : w41.cell? ⟨gb370, 2, none⟩ = some (.bool false) := (bC BK370.out 2).trans rfl; have hcz44_3 : w41.cell? ⟨gb370, 3, none⟩ = some (.string (⟨#[]⟩ : ByteArray)) := (bC BK370.out 3).trans rfl; have hcz44_4 : w41.cell? ⟨gb370, 4, none⟩ = some (.int .i64 0) := (bC BK370.out 4).trans rfl; have hcz44_5 : w41.cell? ⟨gb370, 5, none⟩ = some (.slice none 0 0) := (bC BK370.out 5).trans rfl; have hfz44_0 := bF BK370.out 0; have hfz44_1 := bF BK370.out 1; have hfz44_2 := bF BK370.out 2; have hfz44_3 := bF BK370.out 3; have hfz44_4 := bF BK370.out 4; have hfz44_5 := bF BK370.out 5; obtain ⟨Ao45, co45, eo45⟩ := Kd.R_slice HO368.out; subst eo45) | ((with_reducible refine gC (f := 11) rfl ?_); refine gL (some 52) rfl rfl Tryd.func11 (by kernel_rfl) rfl #[.string (t357 ++ (⟨#[0]⟩ : ByteArray))] rfl (by (try simp only [List.map_toArray, List.map_cons, List.map_nil]); first | done | rfl | (simp only [List.length_drop, List.length_take]; rfl)) ?_; (with_reducible refine (node_Decode.calls kj3 (t357 ++ (⟨#[0]⟩ : ByteArray)) t371 t372 t373 t374 t375 t376 t379 _ A38.out).mono ?_); rintro e w46 ⟨v377, rfl, ho0, hb⟩; refine ⟨_, rfl, ?_⟩; have n0_ := A0_.mk (Kd.R_elder' (by (with_reducible repeat (first | apply Kd.R_alloc | apply Kd.R_drewN | apply Kd.R_drew)); exact (Kd.R_mono (Kd.R_far (p := ⟨gb370, 5, none⟩) (Kd.R_far (p := ⟨gb370, 4, none⟩) (Kd.R_far (p := ⟨gb370, 3, none⟩) (Kd.R_far (p := ⟨gb370, 2, none⟩) (Kd.R_far (p := ⟨gb370, 1, none⟩) (Kd.R_far (p := ⟨gb370, 0, none⟩) (Kd.R_types HO368.out BK370.out (by decide)) (fun _ hk => hk.2) (.int .i64 t361)) (fun _ hk => hk.2) (.string t362)) (fun _ hk => hk.2) (.bool t363)) (fun _ hk => hk.2) (.string t364)) (fun _ hk => hk.2) (.int .i64 t365)) (fun _ hk => hk.2) (.slice Ao45 t366.length co45)) (fun _ h_ => h_.1))) (Kd.R_base ho0) hb); have n1_ := A0_.mk (Kd.R_lower (Kd.R_new' ho0 (Kd.R_lt (by (with_reducible repeat (first | apply Kd.R_alloc | apply Kd.R_drewN | apply Kd.R_drew)); exact (Kd.R_mono (Kd.R_far (p := ⟨gb370, 5, none⟩) (Kd.R_far (p := ⟨gb370, 4, none⟩) (Kd.R_far (p := ⟨gb370, 3, none⟩) (Kd.R_far (p := ⟨gb370, 2, none⟩) (Kd.R_far (p := ⟨gb370, 1, none⟩) (Kd.R_far (p := ⟨gb370, 0, none⟩) (Kd.R_types HO368.out BK370.out (by decide)) (fun _ hk => hk.2) (.int .i64 t361)) (fun _ hk => hk.2) (.string t362)) (fun _ hk => hk.2) (.bool t363)) (fun _ hk => hk.2) (.string t364)) (fun _ hk => hk.2) (.int .i64 t365)) (fun _ hk => hk.2) (.slice Ao45 t366.length co45)) (fun _ h_ => h_.1))))) (wZ (by repeat (first | (with_reducible first | exact HB.out | apply wA | apply pN | apply wD | refine wS ?_ GE352.out | refine wS ?_ GE353.out | refine wS ?_ GE370.out) | exact HB.out)))); have n2_ := A0_.mk (bB (g := gb352) (o := .cells #[.int .i64 a0_0, .string a0_1, .bool a0_2, .string a0_3, .int .i64 a0_4, .slice A0_5 l0_5.length c0_5] 24 (0, 0)) (by (with_reducible repeat (first | refine bN ?_ _ | refine bD ?_ | refine bA ?_ _)); refine bR ?_ NB352_370.out _; (with_reducible repeat (first | refine bN ?_ _ | refine bD ?_ | refine bA ?_ _)); refine bR ?_ NB352_370.out _; (with_reducible repeat (first | refine bN ?_ _ | refine bD ?_ | refine bA ?_ _)); refine bR ?_ NB352_370.out _; (with_reducible repeat (first | refine bN ?_ _ | refine bD ?_ | refine bA ?_ _)); refine bR ?_ NB352_370.out _; (with_reducible repeat (first | refine bN ?_ _ | refine bD ?_ | refine bA ?_ _)); refine bR ?_ NB352_370.out _; (with_reducible repeat (first | refine bN ?_ _ | refine bD ?_ | refine bA ?_ _)); refine bR ?_ NB352_370.out _; (with_reducible repeat (first | refine bN ?_ _ | refine bD ?_ | refine bA ?_ _)); exact BK352.out) hb); have n3_ := A0_.mk (bB (g := gb353) (o := .cells #[.int .i64 a1_0, .string a1_1, .bool a1_2, .string a1_3, .int .i64 a1_4, .slice A1_5 l1_5.length c1_5] 24 (0, 0)) (by (with_reducible repeat (first | refine bN ?_ _ | refine bD ?_ | refine bA ?_ _)); refine bR ?_ NB353_370.out _; (with_reducible repeat (first | refine bN ?_ _ | refine bD ?_ | refine bA ?_ _)); refine bR ?_ NB353_370.out _; (with_reducible repeat (first | refine bN ?_ _ | refine bD ?_ | refine bA ?_ _)); refine bR ?_ NB353_370.out _; (with_reducible repeat (first | refine bN ?_ _ | refine bD ?_ | refine bA ?_ _)); refine bR ?_ NB353_370.out _; (with_reducible repeat (first | refine bN ?_ _ | refine bD ?_ | refine bA ?_ _)); refine bR ?_ NB353_370.out _; (with_reducible repeat (first | refine bN ?_ _ | refine bD ?_ | refine bA ?_ _)); refine bR ?_ NB353_370.out _; (with_reducible repeat (first | refine bN ?_ _ | refine bD ?_ | refine bA ?_ _)); exact BK353.out) hb); have n4_ := A0_.mk (bB (g := gb370) (o := .cells #[.int .i64 t361, .string t362, .bool t363, .string t364, .int .i64 t365, .slice Ao45 t366.length co45] 24 (0, 0)) (by (with_reducible repeat (first | refine bN ?_ _ | refine bD ?_ | refine bA ?_ _)); refine bP (cs := #[.int .i64 t361, .string t362, .bool t363, .string t364, .int .i64 t365, .slice none 0 0]) ?_ 5 _ rfl; (with_reducible repeat (first | refine bN ?_ _ | refine bD ?_ | refine bA ?_ _)); refine bP (cs := #[.int .i64 t361, .string t362, .bool t363, .string t364, .int .i64 0, .slice none 0 0]) ?_ 4 _ rfl; (with_reducible repeat (first | refine bN ?_ _ | refine bD ?_ | refine bA ?_ _)); refine bP (cs := #[.int .i64 t361, .string t362, .bool t363, .string (⟨#[]⟩ : ByteArray), .int .i64 0, .slice none 0 0]) ?_ 3 _ rfl; (with_reducible repeat (first | refine bN ?_ _ | refine bD ?_ | refine bA ?_ _)); refine bP (cs := #[.int .i64 t361, .string t362, .bool false, .string (⟨#[]⟩ : ByteArray), .int .i64 0, .slice none 0 0]) ?_ 2 _ rfl; (with_reducible repeat (first | refine bN ?_ _ | refine bD ?_ | refine bA ?_ _)); refine bP (cs := #[.int .i64 t361, .string (⟨#[]⟩ : ByteArray), .bool false, .string (⟨#[]⟩ : ByteArray), .int .i64 0, .slice none 0 0]) ?_ 1 _ rfl; (with_reducible repeat (first | refine bN ?_ _ | refine bD ?_ | refine bA ?_ _)); refine bP (cs := #[.int .i64 0, .string (⟨#[]⟩ : ByteArray), .bool false, .string (⟨#[]⟩ : ByteArray), .int .i64 0, .slice none 0 0]) ?_ 0 _ rfl; (with_reducible repeat (first | refine bN ?_ _ | refine bD ?_ | refine bA ?_ _)); exact BK370.out) hb); have n5_ := A0_.mk (wT (by repeat (first | (with_reducible first | exact HB.out | apply wA | apply pN | apply wD | refine wS ?_ GE352.out | refine wS ?_ GE353.out | refine wS ?_ GE370.out) | exact HB.out)) hb); clear HO368; clear BK352; clear BK353; clear BK370; clear HB; have HO368 := n0_; have HO378 := n1_; have BK352 := n2_; have BK353 := n3_; have BK370 := n4_; have HB := n5_; clear n0_ n1_ n2_ n3_ n4_ n5_; (try clear hb); (try clear hb2); (try clear hk); (try clear hi); (try clear ho0)) | ((with_reducible refine gD (N := 13) rfl ?_); (try (refine gG (by rfl) ?_; dsimp only)); refine xE ?hg (N := 13) ?hd (cs := #[.int .i64 0, .string (⟨#[]⟩ : ByteArray), .bool false, .string (⟨#[]⟩ : ByteArray), .int .i64 0, .slice none 0 0]) (t := 24) ?hr ?_; (case hd => rfl); (case hg => rfl); (case hr => first | (go_simp; done) | (go_simp; rfl)); intro gb380 hg w47 hbox hb; have n0_ := A0_.mk (Kd.R_below (by (with_reducible repeat (first | apply Kd.R_alloc | apply Kd.R_drewN | apply Kd.R_drew)); exact HO368.out) hb); have n1_ := A0_.mk (Kd.R_below (by (with_reducible repeat (first | apply Kd.R_alloc | apply Kd.R_drewN | apply Kd.R_drew)); exact HO378.out) hb); have n2_ := A0_.mk (bB (g := gb352) (o := .cells #[.int .i64 a0_0, .string a0_1, .bool a0_2, .string a0_3, .int .i64 a0_4, .slice A0_5 l0_5.length c0_5] 24 (0, 0)) (by (with_reducible repeat (first | refine bN ?_ _ | refine bD ?_ | refine bA ?_ _)); exact BK352.out) hb); have n3_ := A0_.mk (bB (g := gb353) (o := .cells #[.int .i64 a1_0, .string a1_1, .bool a1_2, .string a1_3, .int .i64 a1_4, .slice A1_5 l1_5.length c1_5] 24 (0, 0)) (by (with_reducible repeat (first | refine bN ?_ _ | refine bD ?_ | refine bA ?_ _)); exact BK353.out) hb); have n4_ := A0_.mk (bB (g := gb370) (o := .cells #[.int .i64 t361, .string t362, .bool t363, .string t364, .int .i64 t365, .slice Ao45 t366.length co45] 24 (0, 0)) (by (with_reducible repeat (first | refine bN ?_ _ | refine bD ?_ | refine bA ?_ _)); exact BK370.out) hb); have n5_ := A0_.mk (wT (by repeat (first | (with_reducible first | exact HB.out | apply wA | apply pN | apply wD | refine wS ?_ GE352.out | refine wS ?_ GE353.out | refine wS ?_ GE370.out) | exact HB.out)) hb); have n6_ := A0_.mk (hbox); have n7_ := A0_.mk ((by rw [hg]; exact (wZ (by repeat (first | (with_reducible first | exact HB.out | apply wA | apply pN | apply wD | refine wS ?_ GE352.out | refine wS ?_ GE353.out | refine wS ?_ GE370.out) | exact HB.out))) : w.heap.size ≤ gb380)); have n8_ := A0_.mk ((by rw [hg]; exact (wZ (by repeat (first | (with_reducible first | exact HB.out | apply wA | apply pN | apply wD | refine wS ?_ GE352.out | refine wS ?_ GE353.out | refine wS ?_ GE370.out) | exact HB.out))) : w.heap.size ≤ gb380)); have n9_ := A0_.mk ((by rw [hg]; exact Nat.ne_of_lt (bL (g := gb352) (o := .cells #[.int .i64 a0_0, .string a0_1, .bool a0_2, .string a0_3, .int .i64 a0_4, .slice A0_5 l0_5.length c0_5] 24 (0, 0)) (by (with_reducible repeat (first | refine bN ?_ _ | refine bD ?_ | refine bA ?_ _)); exact BK352.out)) : gb352 ≠ gb380)); have n10_ := A0_.mk ((by rw [hg]; exact Nat.ne_of_gt (bL (g := gb352) (o := .cells #[.int .i64 a0_0, .string a0_1, .bool a0_2, .string a0_3, .int .i64 a0_4, .slice A0_5 l0_5.length c0_5] 24 (0, 0)) (by (with_reducible repeat (first | refine bN ?_ _ | refine bD ?_ | refine bA ?_ _)); exact BK352.out)) : gb380 ≠ gb352)); have n11_ := A0_.mk ((by rw [hg]; exact Nat.ne_of_lt (bL (g := gb353) (o := .cells #[.int .i64 a1_0, .string a1_1, .bool a1_2, .string a1_3, .int .i64 a1_4, .slice A1_5 l1_5.length c1_5] 24 (0, 0)) (by (with_reducible repeat (first | refine bN ?_ _ | refine bD ?_ | refine bA ?_ _)); exact BK353.out)) : gb353 ≠ gb380)); have n12_ := A0_.mk ((by rw [hg]; exact Nat.ne_of_gt (bL (g := gb353) (o := .cells #[.int .i64 a1_0, .string a1_1, .bool a1_2, .string a1_3, .int .i64 a1_4, .slice A1_5 l1_5.length c1_5] 24 (0, 0)) (by (with_reducible repeat (first | refine bN ?_ _ | refine bD ?_ | refine bA ?_ _)); exact BK353.out)) : gb380 ≠ gb353)); have n13_ := A0_.mk ((by rw [hg]; exact Nat.ne_of_lt (bL (g := gb370) (o := .cells #[.int .i64 t361, .string t362, .bool t363, .string t364, .int .i64 t365, .slice Ao45 t366.length co45] 24 (0, 0)) (by (with_reducible repeat (first | refine bN ?_ _ | refine bD ?_ | refine bA ?_ _)); exact BK370.out)) : gb370 ≠ gb380)); have n14_ := A0_.mk ((by rw [hg]; exact Nat.ne_of_gt (bL (g := gb370) (o := .cells #[.int .i64 t361, .string t362, .bool t363, .string t364, .int .i64 t365, .slice Ao45 t366.length co45] 24 (0, 0)) (by (with_reducible repeat (first | refine bN ?_ _ | refine bD ?_ | refine bA ?_ _)); exact BK370.out)) : gb380 ≠ gb370)); clear HO368; clear HO378; clear BK352; clear BK353; clear BK370; clear HB; have HO368 := n0_; have HO378 := n1_; have BK352 := n2_; have BK353 := n3_; have BK370 := n4_; have HB := n5_; have BK380 := n6_; have GW380 := n7_; have GE380 := n8_; have NB352_380 := n9_; have NB380_352 := n10_; have NB353_380 := n11_; have NB380_353 := n12_; have NB370_380 := n13_; have NB380_370 := n14_; clear n0_ n1_ n2_ n3_ n4_ n5_ n6_ n7_ n8_ n9_ n10_ n11_ n12_ n13_ n14_; clear hb hbox hg; have hnb48 := NB380_352.out; have hnc48 := NB352_380.out; have hnb49 := NB380_353.out; have hnc49 := NB353_380.out; have hnb50 := NB380_370.out; have hnc50 := NB370_380.out; have hcz51_0 : w47.cell? ⟨gb380, 0, none⟩ = some (.int .i64 0) := (bC BK380.out 0).trans rfl; have hcz51_1 : w47.cell? ⟨gb380, 1, none⟩ = some (.string (⟨#[]⟩ : ByteArray)) := (bC BK380.out 1).trans rfl; have hcz51_2 : w47.cell? ⟨gb380, 2, none⟩ = some (.bool false) := (bC BK380.out 2).trans rfl; have hcz51_3 : w47.cell? ⟨gb380, 3, none⟩ = some (.string (⟨#[]⟩ : ByteArray)) := (bC BK380.out 3).trans rfl; have hcz51_4 : w47.cell? ⟨gb380, 4, none⟩ = some (.int .i64 0) := (bC BK380.out 4).trans rfl; have hcz51_5 : w47.cell? ⟨gb380, 5, none⟩ = some (.slice none 0 0) := (bC BK380.out 5).trans rfl; have hfz51_0 := bF BK380.out 0; have hfz51_1 := bF BK380.out 1; have hfz51_2 := bF BK380.out 2; have hfz51_3 := bF BK380.out 3; have hfz51_4 := bF BK380.out 4; have hfz51_5 := bF BK380.out 5; obtain ⟨Ao52, co52, eo52⟩ := Kd.R_slice HO378.out; subst eo52))
       (try simp only [Act.put, List.setIfInBounds_toArray, List.set_cons_zero, List.set_cons_succ])
       go_cut [65] (fun v65 wc => ∃ (kq : Nat) (x65_38 : Bool), v65 = .bool x65_38 ∧ A0_ (u9NodeBack.j1 kq a2 t357 t359 t360 x65_38 a0_0 a0_1 a0_2 a0_3 a0_4 l0_5 a1_0 a1_1 a1_2 a1_3 a1_4 l1_5 = some r) ∧ A0_ (kq ≤ kj3) ∧ A0_ (Kd.R Kd.string 9 wc w.heap.size (fun k_ => some k_ ≠ ((.slice Ao52 t376.length co52) : Value).ownBlock) (.slice Ao45 t366.length co45) t366) ∧ A0_ (Kd.R Kd.string 9 wc w.heap.size (fun k_ => some k_ ≠ ((.slice Ao45 t366.length co45) : Value).ownBlock) (.slice Ao52 t376.length co52) t376) ∧ A0_ (wc.heap[gb352]? = some (.cells #[.int .i64 a0_0, .string a0_1, .bool a0_2, .string a0_3, .int .i64 a0_4, (.slice A0_5 l0_5.length c0_5)] 24 (0, 0))) ∧ A0_ (wc.heap[gb353]? = some (.cells #[.int .i64 a1_0, .string a1_1, .bool a1_2, .string a1_3, .int .i64 a1_4, (.slice A1_5 l1_5.length c1_5)] 24 (0, 0))) ∧ A0_ (wc.heap[gb370]? = some (.cells #[.int .i64 t361, .string t362, .bool t363, .string t364, .int .i64 t365, (.slice Ao45 t366.length co45)] 24 (0, 0))) ∧ A0_ (wc.heap[gb380]? = some (.cells #[.int .i64 t371, .string t372, .bool t373, .string t374, .int .i64 t375, (.slice Ao52 t376.length co52)] 24 (0, 0))) ∧ A0_ (Below w.heap.size w wc))
       case first =>
        have H := HC39.out
        clear HC39
        by_cases c53 : t369 = true
        ·subst c53
         have H1 : (if t379 = true then (u9NodeBack.j1 kj3 a2 t357 t359 t360 true a0_0 a0_1 a0_2 a0_3 a0_4 l0_5 a1_0 a1_1 a1_2 a1_3 a1_4 l1_5) else ((k9Item.f kj3 t361 t362 t363 t364 t365 t366 a0_0 a0_1 a0_2 a0_3 a0_4 l0_5).bind fun t381 => (u9NodeBack.j1 kj3 a2 t357 t359 t360 (!t381) a0_0 a0_1 a0_2 a0_3 a0_4 l0_5 a1_0 a1_1 a1_2 a1_3 a1_4 l1_5))) = some r := by rw [if_pos rfl] at H; exact H
         clear H
         have H := H1
         clear H1
         by_cases c54 : t379 = true
         ·subst c54
          have H1 : (u9NodeBack.j1 kj3 a2 t357 t359 t360 true a0_0 a0_1 a0_2 a0_3 a0_4 l0_5 a1_0 a1_1 a1_2 a1_3 a1_4 l1_5) = some r := by rw [if_pos rfl] at H; exact H
          clear H
          have H := H1
          clear H1
          have H' := A0_.mk H
          clear H
          go_wp2
          go_meet
          case rel => exact ⟨_, (true), (by first | rfl | (simp; done) | (simp [*]; done)), H', ⟨by have := HJ3.out; first | omega | exact Nat.le_refl _⟩, ⟨by (with_reducible repeat (first | apply Kd.R_alloc | apply Kd.R_drewN | apply Kd.R_drew)); exact Kd.R_mono (Kd.R_far (p := ⟨gb380, 5, none⟩) (Kd.R_far (p := ⟨gb380, 4, none⟩) (Kd.R_far (p := ⟨gb380, 3, none⟩) (Kd.R_far (p := ⟨gb380, 2, none⟩) (Kd.R_far (p := ⟨gb380, 1, none⟩) (Kd.R_far (p := ⟨gb380, 0, none⟩) (Kd.R_types HO368.out BK380.out (by decide)) (fun _ hk => hk.2) (.int .i64 t371)) (fun _ hk => hk.2) (.string t372)) (fun _ hk => hk.2) (.bool t373)) (fun _ hk => hk.2) (.string t374)) (fun _ hk => hk.2) (.int .i64 t375)) (fun _ hk => hk.2) (.slice Ao52 t376.length co52)) (fun _ hk => hk.1.2)⟩, ⟨by (with_reducible repeat (first | apply Kd.R_alloc | apply Kd.R_drewN | apply Kd.R_drew)); exact Kd.R_mono (Kd.R_far (p := ⟨gb380, 5, none⟩) (Kd.R_far (p := ⟨gb380, 4, none⟩) (Kd.R_far (p := ⟨gb380, 3, none⟩) (Kd.R_far (p := ⟨gb380, 2, none⟩) (Kd.R_far (p := ⟨gb380, 1, none⟩) (Kd.R_far (p := ⟨gb380, 0, none⟩) (Kd.R_types HO378.out BK380.out (by decide)) (fun _ hk => hk.2) (.int .i64 t371)) (fun _ hk => hk.2) (.string t372)) (fun _ hk => hk.2) (.bool t373)) (fun _ hk => hk.2) (.string t374)) (fun _ hk => hk.2) (.int .i64 t375)) (fun _ hk => hk.2) (.slice Ao52 t376.length co52)) (fun _ hk => hk.1.2)⟩, ⟨by (with_reducible repeat (first | refine bN ?_ _ | refine bD ?_ | refine bA ?_ _)); refine bR ?_ NB352_380.out _; (with_reducible repeat (first | refine bN ?_ _ | refine bD ?_ | refine bA ?_ _)); refine bR ?_ NB352_380.out _; (with_reducible repeat (first | refine bN ?_ _ | refine bD ?_ | refine bA ?_ _)); refine bR ?_ NB352_380.out _; (with_reducible repeat (first | refine bN ?_ _ | refine bD ?_ | refine bA ?_ _)); refine bR ?_ NB352_380.out _; (with_reducible repeat (first | refine bN ?_ _ | refine bD ?_ | refine bA ?_ _)); refine bR ?_ NB352_380.out _; (with_reducible repeat (first | refine bN ?_ _ | refine bD ?_ | refine bA ?_ _)); refine bR ?_ NB352_380.out _; (with_reducible repeat (first | refine bN ?_ _ | refine bD ?_ | refine bA ?_ _)); exact BK352.out⟩, ⟨by (with_reducible repeat (first | refine bN ?_ _ | refine bD ?_ | refine bA ?_ _)); refine bR ?_ NB353_380.out _; (with_reducible repeat (first | refine bN ?_ _ | refine bD ?_ | refine bA ?_ _)); refine bR ?_ NB353_380.out _; (with_reducible repeat (first | refine bN ?_ _ | refine bD ?_ | refine bA ?_ _)); refine bR ?_ NB353_380.out _; (with_reducible repeat (first | refine bN ?_ _ | refine bD ?_ | refine bA ?_ _)); refine bR ?_ NB353_380.out _; (with_reducible repeat (first | refine bN ?_ _ | refine bD ?_ | refine bA ?_ _)); refine bR ?_ NB353_380.out _; (with_reducible repeat (first | refine bN ?_ _ | refine bD ?_ | refine bA ?_ _)); refine bR ?_ NB353_380.out _; (with_reducible repeat (first | refine bN ?_ _ | refine bD ?_ | refine bA ?_ _)); exact BK353.out⟩, ⟨by (with_reducible repeat (first | refine bN ?_ _ | refine bD ?_ | refine bA ?_ _)); refine bR ?_ NB370_380.out _; (with_reducible repeat (first | refine bN ?_ _ | refine bD ?_ | refine bA ?_ _)); refine bR ?_ NB370_380.out _; (with_reducible repeat (first | refine bN ?_ _ | refine bD ?_ | refine bA ?_ _)); refine bR ?_ NB370_380.out _; (with_reducible repeat (first | refine bN ?_ _ | refine bD ?_ | refine bA ?_ _)); refine bR ?_ NB370_380.out _; (with_reducible repeat (first | refine bN ?_ _ | refine bD ?_ | refine bA ?_ _)); refine bR ?_ NB370_380.out _; (with_reducible repeat (first | refine bN ?_ _ | refine bD ?_ | refine bA ?_ _)); refine bR ?_ NB370_380.out _; (with_reducible repeat (first | refine bN ?_ _ | refine bD ?_ | refine bA ?_ _)); exact BK370.out⟩, ⟨by (with_reducible repeat (first | refine bN ?_ _ | refine bD ?_ | refine bA ?_ _)); refine bP (cs := #[.int .i64 t371, .string t372, .bool t373, .string t374, .int .i64 t375, .slice none 0 0]) ?_ 5 _ rfl; (with_reducible repeat (first | refine bN ?_ _ | refine bD ?_ | refine bA ?_ _)); refine bP (cs := #[.int .i64 t371, .string t372, .bool t373, .string t374, .int .i64 0, .slice none 0 0]) ?_ 4 _ rfl; (with_reducible repeat (first | refine bN ?_ _ | refine bD ?_ | refine bA ?_ _)); refine bP (cs := #[.int .i64 t371, .string t372, .bool t373, .string (⟨#[]⟩ : ByteArray), .int .i64 0, .slice none 0 0]) ?_ 3 _ rfl; (with_reducible repeat (first | refine bN ?_ _ | refine bD ?_ | refine bA ?_ _)); refine bP (cs := #[.int .i64 t371, .string t372, .bool false, .string (⟨#[]⟩ : ByteArray), .int .i64 0, .slice none 0 0]) ?_ 2 _ rfl; (with_reducible repeat (first | refine bN ?_ _ | refine bD ?_ | refine bA ?_ _)); refine bP (cs := #[.int .i64 t371, .string (⟨#[]⟩ : ByteArray), .bool false, .string (⟨#[]⟩ : ByteArray), .int .i64 0, .slice none 0 0]) ?_ 1 _ rfl; (with_reducible repeat (first | refine bN ?_ _ | refine bD ?_ | refine bA ?_ _)); refine bP (cs := #[.int .i64 0, .string (⟨#[]⟩ : ByteArray), .bool false, .string (⟨#[]⟩ : ByteArray), .int .i64 0, .slice none 0 0]) ?_ 0 _ rfl; (with_reducible repeat (first | refine bN ?_ _ | refine bD ?_ | refine bA ?_ _)); exact BK380.out⟩, ⟨by repeat (first | (with_reducible first | exact HB.out | apply wA | apply pN | apply wD | refine wS ?_ GE352.out | refine wS ?_ GE353.out | refine wS ?_ GE370.out | refine wS ?_ GE380.out) | exact HB.out)⟩⟩
         ·replace c54 := Bool.eq_false_iff.mpr c54
          subst c54
          have H1 : ((k9Item.f kj3 t361 t362 t363 t364 t365 t366 a0_0 a0_1 a0_2 a0_3 a0_4 l0_5).bind fun t381 => (u9NodeBack.j1 kj3 a2 t357 t359 t360 (!t381) a0_0 a0_1 a0_2 a0_3 a0_4 l0_5 a1_0 a1_1 a1_2 a1_3 a1_4 l1_5)) = some r := by rw [if_neg (show ¬ (false = true) by decide)] at H; exact H
          clear H
          have H := H1
          clear H1
          replace H := Option.bind_eq_some_iff.mp H
          obtain ⟨t381, A550, H⟩ := H
          replace H : (u9NodeBack.j1 kj3 a2 t357 t359 t360 (!t381) a0_0 a0_1 a0_2 a0_3 a0_4 l0_5 a1_0 a1_1 a1_2 a1_3 a1_4 l1_5) = some r := H
          have A55 := A0_.mk A550
          clear A550
          have H' := A0_.mk H
          clear H
          have hnb56 := NB370_352.out
          have hnc56 := NB352_370.out
          have hnb57 := NB370_353.out
          have hnc57 := NB353_370.out
          have hnb58 := NB370_380.out
          have hnc58 := NB380_370.out
          have hcz59_0 : w47.cell? ⟨gb370, 0, none⟩ = some (.int .i64 t361) := (bC BK370.out 0).trans rfl
          have hcz59_1 : w47.cell? ⟨gb370, 1, none⟩ = some (.string t362) := (bC BK370.out 1).trans rfl
          have hcz59_2 : w47.cell? ⟨gb370, 2, none⟩ = some (.bool t363) := (bC BK370.out 2).trans rfl
          have hcz59_3 : w47.cell? ⟨gb370, 3, none⟩ = some (.string t364) := (bC BK370.out 3).trans rfl
          have hcz59_4 : w47.cell? ⟨gb370, 4, none⟩ = some (.int .i64 t365) := (bC BK370.out 4).trans rfl
          have hcz59_5 : w47.cell? ⟨gb370, 5, none⟩ = some (.slice Ao45 t366.length co45) := (bC BK370.out 5).trans rfl
          have hfz59_0 := bF BK370.out 0
          have hfz59_1 := bF BK370.out 1
          have hfz59_2 := bF BK370.out 2
          have hfz59_3 := bF BK370.out 3
          have hfz59_4 := bF BK370.out 4
          have hfz59_5 := bF BK370.out 5
          have hnb60 := NB352_353.out
          have hnc60 := NB353_352.out
          have hnb61 := NB352_380.out
          have hnc61 := NB380_352.out
          have hcz62_0 : w47.cell? ⟨gb352, 0, none⟩ = some (.int .i64 a0_0) := (bC BK352.out 0).trans rfl
          have hcz62_1 : w47.cell? ⟨gb352, 1, none⟩ = some (.string a0_1) := (bC BK352.out 1).trans rfl
          have hcz62_2 : w47.cell? ⟨gb352, 2, none⟩ = some (.bool a0_2) := (bC BK352.out 2).trans rfl
          have hcz62_3 : w47.cell? ⟨gb352, 3, none⟩ = some (.string a0_3) := (bC BK352.out 3).trans rfl
          have hcz62_4 : w47.cell? ⟨gb352, 4, none⟩ = some (.int .i64 a0_4) := (bC BK352.out 4).trans rfl
          have hcz62_5 : w47.cell? ⟨gb352, 5, none⟩ = some (.slice A0_5 l0_5.length c0_5) := (bC BK352.out 5).trans rfl
          have hfz62_0 := bF BK352.out 0
          have hfz62_1 := bF BK352.out 1
          have hfz62_2 := bF BK352.out 2
          have hfz62_3 := bF BK352.out 3
          have hfz62_4 := bF BK352.out 4
          have hfz62_5 := bF BK352.out 5
          go_wp2_with (first | (go_at_call 17; (with_reducible refine (k9Item.calls kj3 t361 t362 t363 t364 t365 _ _ t366 a0_0 a0_1 a0_2 a0_3 a0_4 _ _ l0_5 t381 _ ?side1 ?side2 ?side3 ?side4 A55.out).mono ?_); (case side1 => refine (Kd.R_reads' (e := 9) (base := w.heap.size) (ok := fun k_ => (True ∧ some k_ ≠ (.slice Ao52 t376.length co52 : Value).ownBlock)) (n := t366.length) (c := co45) ?_).2.2; exact (by (with_reducible repeat (first | apply Kd.R_alloc | apply Kd.R_drewN | apply Kd.R_drew)); exact (Kd.R_mono (Kd.R_far (p := ⟨gb380, 5, none⟩) (Kd.R_far (p := ⟨gb380, 4, none⟩) (Kd.R_far (p := ⟨gb380, 3, none⟩) (Kd.R_far (p := ⟨gb380, 2, none⟩) (Kd.R_far (p := ⟨gb380, 1, none⟩) (Kd.R_far (p := ⟨gb380, 0, none⟩) (Kd.R_types HO368.out BK380.out (by decide)) (fun _ hk => hk.2) (.int .i64 t371)) (fun _ hk => hk.2) (.string t372)) (fun _ hk => hk.2) (.bool t373)) (fun _ hk => hk.2) (.string t374)) (fun _ hk => hk.2) (.int .i64 t375)) (fun _ hk => hk.2) (.slice Ao52 t376.length co52)) (fun _ h_ => h_.1)))); (case side2 => exact (Kd.R_reads' HO368.out).2.1); (case side3 => exact Kd.C_below HR0_5.out (by repeat (first | (with_reducible first | exact HB.out | apply wA | apply pN | apply wD | refine wS ?_ GE352.out | refine wS ?_ GE353.out | refine wS ?_ GE370.out | refine wS ?_ GE380.out) | exact HB.out))); (case side4 => exact HC0_5.out); rintro e w63 ⟨rfl, hb⟩; have n0_ := A0_.mk (Kd.R_below (by (with_reducible repeat (first | apply Kd.R_alloc | apply Kd.R_drewN | apply Kd.R_drew)); exact (Kd.R_mono (Kd.R_far (p := ⟨gb380, 5, none⟩) (Kd.R_far (p := ⟨gb380, 4, none⟩) (Kd.R_far (p := ⟨gb380, 3, none⟩) (Kd.R_far (p := ⟨gb380, 2, none⟩) (Kd.R_far (p := ⟨gb380, 1, none⟩) (Kd.R_far (p := ⟨gb380, 0, none⟩) (Kd.R_types HO368.out BK380.out (by decide)) (fun _ hk => hk.2) (.int .i64 t371)) (fun _ hk => hk.2) (.string t372)) (fun _ hk => hk.2) (.bool t373)) (fun _ hk => hk.2) (.string t374)) (fun _ hk => hk.2) (.int .i64 t375)) (fun _ hk => hk.2) (.slice Ao52 t376.length co52)) (fun _ h_ => h_.1))) hb); have n1_ := A0_.mk (Kd.R_below (by (with_reducible repeat (first | apply Kd.R_alloc | apply Kd.R_drewN | apply Kd.R_drew)); exact (Kd.R_mono (Kd.R_far (p := ⟨gb380, 5, none⟩) (Kd.R_far (p := ⟨gb380, 4, none⟩) (Kd.R_far (p := ⟨gb380, 3, none⟩) (Kd.R_far (p := ⟨gb380, 2, none⟩) (Kd.R_far (p := ⟨gb380, 1, none⟩) (Kd.R_far (p := ⟨gb380, 0, none⟩) (Kd.R_types HO378.out BK380.out (by decide)) (fun _ hk => hk.2) (.int .i64 t371)) (fun _ hk => hk.2) (.string t372)) (fun _ hk => hk.2) (.bool t373)) (fun _ hk => hk.2) (.string t374)) (fun _ hk => hk.2) (.int .i64 t375)) (fun _ hk => hk.2) (.slice Ao52 t376.length co52)) (fun _ h_ => h_.1))) hb); have n2_ := A0_.mk (bB (g := gb352) (o := .cells #[.int .i64 a0_0, .string a0_1, .bool a0_2, .string a0_3, .int .i64 a0_4, .slice A0_5 l0_5.length c0_5] 24 (0, 0)) (by (with_reducible repeat (first | refine bN ?_ _ | refine bD ?_ | refine bA ?_ _)); refine bR ?_ NB352_380.out _; (with_reducible repeat (first | refine bN ?_ _ | refine bD ?_ | refine bA ?_ _)); refine bR ?_ NB352_380.out _; (with_reducible repeat (first | refine bN ?_ _ | refine bD ?_ | refine bA ?_ _)); refine bR ?_ NB352_380.out _; (with_reducible repeat (first | refine bN ?_ _ | refine bD ?_ | refine bA ?_ _)); refine bR ?_ NB352_380.out _; (with_reducible repeat (first | refine bN ?_ _ | refine bD ?_ | refine bA ?_ _)); refine bR ?_ NB352_380.out _; (with_reducible repeat (first | refine bN ?_ _ | refine bD ?_ | refine bA ?_ _)); refine bR ?_ NB352_380.out _; (with_reducible repeat (first | refine bN ?_ _ | refine bD ?_ | refine bA ?_ _)); exact BK352.out) hb); have n3_ := A0_.mk (bB (g := gb353) (o := .cells #[.int .i64 a1_0, .string a1_1, .bool a1_2, .string a1_3, .int .i64 a1_4, .slice A1_5 l1_5.length c1_5] 24 (0, 0)) (by (with_reducible repeat (first | refine bN ?_ _ | refine bD ?_ | refine bA ?_ _)); refine bR ?_ NB353_380.out _; (with_reducible repeat (first | refine bN ?_ _ | refine bD ?_ | refine bA ?_ _)); refine bR ?_ NB353_380.out _; (with_reducible repeat (first | refine bN ?_ _ | refine bD ?_ | refine bA ?_ _)); refine bR ?_ NB353_380.out _; (with_reducible repeat (first | refine bN ?_ _ | refine bD ?_ | refine bA ?_ _)); refine bR ?_ NB353_380.out _; (with_reducible repeat (first | refine bN ?_ _ | refine bD ?_ | refine bA ?_ _)); refine bR ?_ NB353_380.out _; (with_reducible repeat (first | refine bN ?_ _ | refine bD ?_ | refine bA ?_ _)); refine bR ?_ NB353_380.out _; (with_reducible repeat (first | refine bN ?_ _ | refine bD ?_ | refine bA ?_ _)); exact BK353.out) hb); have n4_ := A0_.mk (bB (g := gb370) (o := .cells #[.int .i64 t361, .string t362, .bool t363, .string t364, .int .i64 t365, .slice Ao45 t366.length co45] 24 (0, 0)) (by (with_reducible repeat (first | refine bN ?_ _ | refine bD ?_ | refine bA ?_ _)); refine bR ?_ NB370_380.out _; (with_reducible repeat (first | refine bN ?_ _ | refine bD ?_ | refine bA ?_ _)); refine bR ?_ NB370_380.out _; (with_reducible repeat (first | refine bN ?_ _ | refine bD ?_ | refine bA ?_ _)); refine bR ?_ NB370_380.out _; (with_reducible repeat (first | refine bN ?_ _ | refine bD ?_ | refine bA ?_ _)); refine bR ?_ NB370_380.out _; (with_reducible repeat (first | refine bN ?_ _ | refine bD ?_ | refine bA ?_ _)); refine bR ?_ NB370_380.out _; (with_reducible repeat (first | refine bN ?_ _ | refine bD ?_ | refine bA ?_ _)); refine bR ?_ NB370_380.out _; (with_reducible repeat (first | refine bN ?_ _ | refine bD ?_ | refine bA ?_ _)); exact BK370.out) hb); have n5_ := A0_.mk (bB (g := gb380) (o := .cells #[.int .i64 t371, .string t372, .bool t373, .string t374, .int .i64 t375, .slice Ao52 t376.length co52] 24 (0, 0)) (by (with_reducible repeat (first | refine bN ?_ _ | refine bD ?_ | refine bA ?_ _)); refine bP (cs := #[.int .i64 t371, .string t372, .bool t373, .string t374, .int .i64 t375, .slice none 0 0]) ?_ 5 _ rfl; (with_reducible repeat (first | refine bN ?_ _ | refine bD ?_ | refine bA ?_ _)); refine bP (cs := #[.int .i64 t371, .string t372, .bool t373, .string t374, .int .i64 0, .slice none 0 0]) ?_ 4 _ rfl; (with_reducible repeat (first | refine bN ?_ _ | refine bD ?_ | refine bA ?_ _)); refine bP (cs := #[.int .i64 t371, .string t372, .bool t373, .string (⟨#[]⟩ : ByteArray), .int .i64 0, .slice none 0 0]) ?_ 3 _ rfl; (with_reducible repeat (first | refine bN ?_ _ | refine bD ?_ | refine bA ?_ _)); refine bP (cs := #[.int .i64 t371, .string t372, .bool false, .string (⟨#[]⟩ : ByteArray), .int .i64 0, .slice none 0 0]) ?_ 2 _ rfl; (with_reducible repeat (first | refine bN ?_ _ | refine bD ?_ | refine bA ?_ _)); refine bP (cs := #[.int .i64 t371, .string (⟨#[]⟩ : ByteArray), .bool false, .string (⟨#[]⟩ : ByteArray), .int .i64 0, .slice none 0 0]) ?_ 1 _ rfl; (with_reducible repeat (first | refine bN ?_ _ | refine bD ?_ | refine bA ?_ _)); refine bP (cs := #[.int .i64 0, .string (⟨#[]⟩ : ByteArray), .bool false, .string (⟨#[]⟩ : ByteArray), .int .i64 0, .slice none 0 0]) ?_ 0 _ rfl; (with_reducible repeat (first | refine bN ?_ _ | refine bD ?_ | refine bA ?_ _)); exact BK380.out) hb); have n6_ := A0_.mk (wT (by repeat (first | (with_reducible first | exact HB.out | apply wA | apply pN | apply wD | refine wS ?_ GE352.out | refine wS ?_ GE353.out | refine wS ?_ GE370.out | refine wS ?_ GE380.out) | exact HB.out)) hb); clear HO368; clear HO378; clear BK352; clear BK353; clear BK370; clear BK380; clear HB; have HO368 := n0_; have HO378 := n1_; have BK352 := n2_; have BK353 := n3_; have BK370 := n4_; have BK380 := n5_; have HB := n6_; clear n0_ n1_ n2_ n3_ n4_ n5_ n6_; (try clear hb); (try clear hb2); (try clear hk); (try clear hi)))
          go_meet
          case rel => exact ⟨_, (!t381), (by first | rfl | (simp; done) | (simp [*]; done)), H', ⟨by have := HJ3.out; first | omega | exact Nat.le_refl _⟩, ⟨by (with_reducible repeat (first | apply Kd.R_alloc | apply Kd.R_drewN | apply Kd.R_drew)); exact Kd.R_mono HO368.out (fun _ hk => hk.2)⟩, ⟨by (with_reducible repeat (first | apply Kd.R_alloc | apply Kd.R_drewN | apply Kd.R_drew)); exact Kd.R_mono HO378.out (fun _ hk => hk.2)⟩, ⟨by (with_reducible repeat (first | refine bN ?_ _ | refine bD ?_ | refine bA ?_ _)); exact BK352.out⟩, ⟨by (with_reducible repeat (first | refine bN ?_ _ | refine bD ?_ | refine bA ?_ _)); exact BK353.out⟩, ⟨by (with_reducible repeat (first | refine bN ?_ _ | refine bD ?_ | refine bA ?_ _)); exact BK370.out⟩, ⟨by (with_reducible repeat (first | refine bN ?_ _ | refine bD ?_ | refine bA ?_ _)); exact BK380.out⟩, ⟨by repeat (first | (with_reducible first | exact HB.out | apply wA | apply pN | apply wD | refine wS ?_ GE352.out | refine wS ?_ GE353.out | refine wS ?_ GE370.out | refine wS ?_ GE380.out) | exact HB.out)⟩⟩
        ·replace c53 := Bool.eq_false_iff.mpr c53
         subst c53
         have H1 : (u9NodeBack.j1 kj3 a2 t357 t359 t360 true a0_0 a0_1 a0_2 a0_3 a0_4 l0_5 a1_0 a1_1 a1_2 a1_3 a1_4 l1_5) = some r := by rw [if_neg (show ¬ (false = true) by decide)] at H; exact H
         clear H
         have H := H1
         clear H1
         have H' := A0_.mk H
         clear H
         go_wp2
         go_meet
         case rel => exact ⟨_, (true), (by first | rfl | (simp; done) | (simp [*]; done)), H', ⟨by have := HJ3.out; first | omega | exact Nat.le_refl _⟩, ⟨by (with_reducible repeat (first | apply Kd.R_alloc | apply Kd.R_drewN | apply Kd.R_drew)); exact Kd.R_mono (Kd.R_far (p := ⟨gb380, 5, none⟩) (Kd.R_far (p := ⟨gb380, 4, none⟩) (Kd.R_far (p := ⟨gb380, 3, none⟩) (Kd.R_far (p := ⟨gb380, 2, none⟩) (Kd.R_far (p := ⟨gb380, 1, none⟩) (Kd.R_far (p := ⟨gb380, 0, none⟩) (Kd.R_types HO368.out BK380.out (by decide)) (fun _ hk => hk.2) (.int .i64 t371)) (fun _ hk => hk.2) (.string t372)) (fun _ hk => hk.2) (.bool t373)) (fun _ hk => hk.2) (.string t374)) (fun _ hk => hk.2) (.int .i64 t375)) (fun _ hk => hk.2) (.slice Ao52 t376.length co52)) (fun _ hk => hk.1.2)⟩, ⟨by (with_reducible repeat (first | apply Kd.R_alloc | apply Kd.R_drewN | apply Kd.R_drew)); exact Kd.R_mono (Kd.R_far (p := ⟨gb380, 5, none⟩) (Kd.R_far (p := ⟨gb380, 4, none⟩) (Kd.R_far (p := ⟨gb380, 3, none⟩) (Kd.R_far (p := ⟨gb380, 2, none⟩) (Kd.R_far (p := ⟨gb380, 1, none⟩) (Kd.R_far (p := ⟨gb380, 0, none⟩) (Kd.R_types HO378.out BK380.out (by decide)) (fun _ hk => hk.2) (.int .i64 t371)) (fun _ hk => hk.2) (.string t372)) (fun _ hk => hk.2) (.bool t373)) (fun _ hk => hk.2) (.string t374)) (fun _ hk => hk.2) (.int .i64 t375)) (fun _ hk => hk.2) (.slice Ao52 t376.length co52)) (fun _ hk => hk.1.2)⟩, ⟨by (with_reducible repeat (first | refine bN ?_ _ | refine bD ?_ | refine bA ?_ _)); refine bR ?_ NB352_380.out _; (with_reducible repeat (first | refine bN ?_ _ | refine bD ?_ | refine bA ?_ _)); refine bR ?_ NB352_380.out _; (with_reducible repeat (first | refine bN ?_ _ | refine bD ?_ | refine bA ?_ _)); refine bR ?_ NB352_380.out _; (with_reducible repeat (first | refine bN ?_ _ | refine bD ?_ | refine bA ?_ _)); refine bR ?_ NB352_380.out _; (with_reducible repeat (first | refine bN ?_ _ | refine bD ?_ | refine bA ?_ _)); refine bR ?_ NB352_380.out _; (with_reducible repeat (first | refine bN ?_ _ | refine bD ?_ | refine bA ?_ _)); refine bR ?_ NB352_380.out _; (with_reducible repeat (first | refine bN ?_ _ | refine bD ?_ | refine bA ?_ _)); exact BK352.out⟩, ⟨by (with_reducible repeat (first | refine bN ?_ _ | refine bD ?_ | refine bA ?_ _)); refine bR ?_ NB353_380.out _; (with_reducible repeat (first | refine bN ?_ _ | refine bD ?_ | refine bA ?_ _)); refine bR ?_ NB353_380.out _; (with_reducible repeat (first | refine bN ?_ _ | refine bD ?_ | refine bA ?_ _)); refine bR ?_ NB353_380.out _; (with_reducible repeat (first | refine bN ?_ _ | refine bD ?_ | refine bA ?_ _)); refine bR ?_ NB353_380.out _; (with_reducible repeat (first | refine bN ?_ _ | refine bD ?_ | refine bA ?_ _)); refine bR ?_ NB353_380.out _; (with_reducible repeat (first | refine bN ?_ _ | refine bD ?_ | refine bA ?_ _)); refine bR ?_ NB353_380.out _; (with_reducible repeat (first | refine bN ?_ _ | refine bD ?_ | refine bA ?_ _)); exact BK353.out⟩, ⟨by (with_reducible repeat (first | refine bN ?_ _ | refine bD ?_ | refine bA ?_ _)); refine bR ?_ NB370_380.out _; (with_reducible repeat (first | refine bN ?_ _ | refine bD ?_ | refine bA ?_ _)); refine bR ?_ NB370_380.out _; (with_reducible repeat (first | refine bN ?_ _ | refine bD ?_ | refine bA ?_ _)); refine bR ?_ NB370_380.out _; (with_reducible repeat (first | refine bN ?_ _ | refine bD ?_ | refine bA ?_ _)); refine bR ?_ NB370_380.out _; (with_reducible repeat (first | refine bN ?_ _ | refine bD ?_ | refine bA ?_ _)); refine bR ?_ NB370_380.out _; (with_reducible repeat (first | refine bN ?_ _ | refine bD ?_ | refine bA ?_ _)); refine bR ?_ NB370_380.out _; (with_reducible repeat (first | refine bN ?_ _ | refine bD ?_ | refine bA ?_ _)); exact BK370.out⟩, ⟨by (with_reducible repeat (first | refine bN ?_ _ | refine bD ?_ | refine bA ?_ _)); refine bP (cs := #[.int .i64 t371, .string t372, .bool t373, .string t374, .int .i64 t375, .slice none 0 0]) ?_ 5 _ rfl; (with_reducible repeat (first | refine bN ?_ _ | refine bD ?_ | refine bA ?_ _)); refine bP (cs := #[.int .i64 t371, .string t372, .bool t373, .string t374, .int .i64 0, .slice none 0 0]) ?_ 4 _ rfl; (with_reducible repeat (first | refine bN ?_ _ | refine bD ?_ | refine bA ?_ _)); refine bP (cs := #[.int .i64 t371, .string t372, .bool t373, .string (⟨#[]⟩ : ByteArray), .int .i64 0, .slice none 0 0]) ?_ 3 _ rfl; (with_reducible repeat (first | refine bN ?_ _ | refine bD ?_ | refine bA ?_ _)); refine bP (cs := #[.int .i64 t371, .string t372, .bool false, .string (⟨#[]⟩ : ByteArray), .int .i64 0, .slice none 0 0]) ?_ 2 _ rfl; (with_reducible repeat (first | refine bN ?_ _ | refine bD ?_ | refine bA ?_ _)); refine bP (cs := #[.int .i64 t371, .string (⟨#[]⟩ : ByteArray), .bool false, .string (⟨#[]⟩ : ByteArray), .int .i64 0, .slice none 0 0]) ?_ 1 _ rfl; (with_reducible repeat (first | refine bN ?_ _ | refine bD ?_ | refine bA ?_ _)); refine bP (cs := #[.int .i64 0, .string (⟨#[]⟩ : ByteArray), .bool false, .string (⟨#[]⟩ : ByteArray), .int .i64 0, .slice none 0 0]) ?_ 0 _ rfl; (with_reducible repeat (first | refine bN ?_ _ | refine bD ?_ | refine bA ?_ _)); exact BK380.out⟩, ⟨by repeat (first | (with_reducible first | exact HB.out | apply wA | apply pN | apply wD | refine wS ?_ GE352.out | refine wS ?_ GE353.out | refine wS ?_ GE370.out | refine wS ?_ GE380.out) | exact HB.out)⟩⟩
       case rest =>
        clear HC39
        try clear c1
        try clear c2
        try clear p2
        try clear c3
        try clear c4
        try clear c5
        try clear c6
        try clear c7
        try clear c8
        try clear c9
        try clear c11
        try clear c13
        try clear c14
        try clear c19
        try clear c24
        try clear c30
        try clear c35
        try clear c37
        try clear c37b0
        try clear c37b1
        try clear c37b2
        try clear c42
        try clear c43
        try clear c48
        try clear c49
        try clear c50
        try clear c53
        try clear c54
        try clear c56
        try clear c57
        try clear c58
        try clear c60
        try clear c61
        try clear hcz10_0
        try clear hcz10_1
        try clear hcz10_2
        try clear hcz10_3
        try clear hcz10_4
        try clear hcz10_5
        try clear hcz15_0
        try clear hcz15_1
        try clear hcz15_2
        try clear hcz15_3
        try clear hcz15_4
        try clear hcz15_5
        try clear hcz17_0
        try clear hcz17_1
        try clear hcz17_2
        try clear hcz17_3
        try clear hcz17_4
        try clear hcz17_5
        try clear hcz20_0
        try clear hcz20_1
        try clear hcz20_2
        try clear hcz20_3
        try clear hcz20_4
        try clear hcz20_5
        try clear hcz22_0
        try clear hcz22_1
        try clear hcz22_2
        try clear hcz22_3
        try clear hcz22_4
        try clear hcz22_5
        try clear hcz31_0
        try clear hcz31_1
        try clear hcz31_2
        try clear hcz31_3
        try clear hcz31_4
        try clear hcz31_5
        try clear hcz33_0
        try clear hcz33_1
        try clear hcz33_2
        try clear hcz33_3
        try clear hcz33_4
        try clear hcz33_5
        try clear hcz44_0
        try clear hcz44_1
        try clear hcz44_2
        try clear hcz44_3
        try clear hcz44_4
        try clear hcz44_5
        try clear hcz51_0
        try clear hcz51_1
        try clear hcz51_2
        try clear hcz51_3
        try clear hcz51_4
        try clear hcz51_5
        try clear hcz59_0
        try clear hcz59_1
        try clear hcz59_2
        try clear hcz59_3
        try clear hcz59_4
        try clear hcz59_5
        try clear hcz62_0
        try clear hcz62_1
        try clear hcz62_2
        try clear hcz62_3
        try clear hcz62_4
        try clear hcz62_5
        try clear hfz10_0
        try clear hfz10_1
        try clear hfz10_2
        try clear hfz10_3
        try clear hfz10_4
        try clear hfz10_5
        try clear hfz15_0
        try clear hfz15_1
        try clear hfz15_2
        try clear hfz15_3
        try clear hfz15_4
        try clear hfz15_5
        try clear hfz17_0
        try clear hfz17_1
        try clear hfz17_2
        try clear hfz17_3
        try clear hfz17_4
        try clear hfz17_5
        try clear hfz20_0
        try clear hfz20_1
        try clear hfz20_2
        try clear hfz20_3
        try clear hfz20_4
        try clear hfz20_5
        try clear hfz22_0
        try clear hfz22_1
        try clear hfz22_2
        try clear hfz22_3
        try clear hfz22_4
        try clear hfz22_5
        try clear hfz31_0
        try clear hfz31_1
        try clear hfz31_2
        try clear hfz31_3
        try clear hfz31_4
        try clear hfz31_5
        try clear hfz33_0
        try clear hfz33_1
        try clear hfz33_2
        try clear hfz33_3
        try clear hfz33_4
        try clear hfz33_5
        try clear hfz44_0
        try clear hfz44_1
        try clear hfz44_2
        try clear hfz44_3
        try clear hfz44_4
        try clear hfz44_5
        try clear hfz51_0
        try clear hfz51_1
        try clear hfz51_2
        try clear hfz51_3
        try clear hfz51_4
        try clear hfz51_5
        try clear hfz59_0
        try clear hfz59_1
        try clear hfz59_2
        try clear hfz59_3
        try clear hfz59_4
        try clear hfz59_5
        try clear hfz62_0
        try clear hfz62_1
        try clear hfz62_2
        try clear hfz62_3
        try clear hfz62_4
        try clear hfz62_5
        try clear p2
        obtain ⟨kq, x65_38, rfl, HA, HJ38, HO_371005, HO_381005, BK352, BK353, BK370, BK380, HB⟩ := hcut
        cases kq with
        | zero => exact absurd HA.out (by simp [u9NodeBack.j1])
        | succ kj38 =>
         have H := HA.out
         clear HA
         simp only [u9NodeBack.j1] at H
         by_cases c64 : x65_38 = true
         ·subst c64
          have H1 : (none) = some r := by rw [if_pos rfl] at H; exact H
          exact absurd H1 (by simp)
         ·replace c64 := Bool.eq_false_iff.mpr c64
          subst c64
          have H1 : (if t360 = true then ((k9Item.f kj38 a0_0 a0_1 a0_2 a0_3 a0_4 l0_5 a1_0 a1_1 a1_2 a1_3 a1_4 l1_5).bind fun t382 => (if ((t357.toList == t359.toList) != t382) = true then (none) else (u9NodeBack.j2 kj38 a2))) else (u9NodeBack.j2 kj38 a2)) = some r := by rw [if_neg (show ¬ (false = true) by decide)] at H; exact H
          clear H
          have H := H1
          clear H1
          by_cases c65 : t360 = true
          ·subst c65
           have H1 : ((k9Item.f kj38 a0_0 a0_1 a0_2 a0_3 a0_4 l0_5 a1_0 a1_1 a1_2 a1_3 a1_4 l1_5).bind fun t382 => (if ((t357.toList == t359.toList) != t382) = true then (none) else (u9NodeBack.j2 kj38 a2))) = some r := by rw [if_pos rfl] at H; exact H
           clear H
           have H := H1
           clear H1
           replace H := Option.bind_eq_some_iff.mp H
           obtain ⟨t382, A660, H⟩ := H
           replace H : (if ((t357.toList == t359.toList) != t382) = true then (none) else (u9NodeBack.j2 kj38 a2)) = some r := H
           have A66 := A0_.mk A660
           clear A660
           by_cases c67 : ((t357.toList == t359.toList) != t382) = true
           ·rw [if_pos c67] at H
            exact absurd H (by simp)
           ·rw [if_neg c67] at H
            have c67b0 : ((t357.toList == t359.toList) != t382) = false := by simpa using c67
            (try (have c67b1 : decide ((t357.toList == t359.toList) = t382) = true := by simpa using c67))
            (try (have c67b2 : ((t357.toList == t359.toList) == t382) = true := by simpa using c67))
            clear c67
            have H' := A0_.mk H
            clear H
            have hnb76 := NB352_353.out
            have hnc76 := NB353_352.out
            have hnb77 := NB352_370.out
            have hnc77 := NB370_352.out
            have hnb78 := NB352_380.out
            have hnc78 := NB380_352.out
            have hcz79_0 : wc.cell? ⟨gb352, 0, none⟩ = some (.int .i64 a0_0) := (bC BK352.out 0).trans rfl
            have hcz79_1 : wc.cell? ⟨gb352, 1, none⟩ = some (.string a0_1) := (bC BK352.out 1).trans rfl
            have hcz79_2 : wc.cell? ⟨gb352, 2, none⟩ = some (.bool a0_2) := (bC BK352.out 2).trans rfl
            have hcz79_3 : wc.cell? ⟨gb352, 3, none⟩ = some (.string a0_3) := (bC BK352.out 3).trans rfl
            have hcz79_4 : wc.cell? ⟨gb352, 4, none⟩ = some (.int .i64 a0_4) := (bC BK352.out 4).trans rfl
            have hcz79_5 : wc.cell? ⟨gb352, 5, none⟩ = some (.slice A0_5 l0_5.length c0_5) := (bC BK352.out 5).trans rfl
            have hfz79_0 := bF BK352.out 0
            have hfz79_1 := bF BK352.out 1
            have hfz79_2 := bF BK352.out 2
            have hfz79_3 := bF BK352.out 3
            have hfz79_4 := bF BK352.out 4
            have hfz79_5 := bF BK352.out 5
            have hnb80 := NB353_370.out
            have hnc80 := NB370_353.out
            have hnb81 := NB353_380.out
            have hnc81 := NB380_353.out
            have hcz82_0 : wc.cell? ⟨gb353, 0, none⟩ = some (.int .i64 a1_0) := (bC BK353.out 0).trans rfl
            have hcz82_1 : wc.cell? ⟨gb353, 1, none⟩ = some (.string a1_1) := (bC BK353.out 1).trans rfl
            have hcz82_2 : wc.cell? ⟨gb353, 2, none⟩ = some (.bool a1_2) := (bC BK353.out 2).trans rfl
            have hcz82_3 : wc.cell? ⟨gb353, 3, none⟩ = some (.string a1_3) := (bC BK353.out 3).trans rfl
            have hcz82_4 : wc.cell? ⟨gb353, 4, none⟩ = some (.int .i64 a1_4) := (bC BK353.out 4).trans rfl
            have hcz82_5 : wc.cell? ⟨gb353, 5, none⟩ = some (.slice A1_5 l1_5.length c1_5) := (bC BK353.out 5).trans rfl
            have hfz82_0 := bF BK353.out 0
            have hfz82_1 := bF BK353.out 1
            have hfz82_2 := bF BK353.out 2
            have hfz82_3 := bF BK353.out 3
            have hfz82_4 := bF BK353.out 4
            have hfz82_5 := bF BK353.out 5
            go_wp2_with (first | (go_at_call 17; (with_reducible refine (k9Item.calls kj38 a0_0 a0_1 a0_2 a0_3 a0_4 _ _ l0_5 a1_0 a1_1 a1_2 a1_3 a1_4 _ _ l1_5 t382 _ ?side1 ?side2 ?side3 ?side4 A66.out).mono ?_); (case side1 => repeat (first | exact (Kd.C_below HR0_5.out HB.out) | (with_reducible refine Kd.C_alloc ?_ _) | (with_reducible refine Kd.C_drewN ?_ _) | (with_reducible refine Kd.C_drew ?_))); (case side2 => exact HC0_5.out); (case side3 => repeat (first | exact (Kd.C_below HR1_5.out HB.out) | (with_reducible refine Kd.C_alloc ?_ _) | (with_reducible refine Kd.C_drewN ?_ _) | (with_reducible refine Kd.C_drew ?_))); (case side4 => exact HC1_5.out); rintro e w83 ⟨rfl, hb⟩; have n0_ := A0_.mk (Kd.R_below (by (with_reducible repeat (first | apply Kd.R_alloc | apply Kd.R_drewN | apply Kd.R_drew)); exact HO_371005.out) hb); have n1_ := A0_.mk (Kd.R_below (by (with_reducible repeat (first | apply Kd.R_alloc | apply Kd.R_drewN | apply Kd.R_drew)); exact HO_381005.out) hb); have n2_ := A0_.mk (bB (g := gb352) (o := .cells #[.int .i64 a0_0, .string a0_1, .bool a0_2, .string a0_3, .int .i64 a0_4, .slice A0_5 l0_5.length c0_5] 24 (0, 0)) (by (with_reducible repeat (first | refine bN ?_ _ | refine bD ?_ | refine bA ?_ _)); exact BK352.out) hb); have n3_ := A0_.mk (bB (g := gb353) (o := .cells #[.int .i64 a1_0, .string a1_1, .bool a1_2, .string a1_3, .int .i64 a1_4, .slice A1_5 l1_5.length c1_5] 24 (0, 0)) (by (with_reducible repeat (first | refine bN ?_ _ | refine bD ?_ | refine bA ?_ _)); exact BK353.out) hb); have n4_ := A0_.mk (bB (g := gb370) (o := .cells #[.int .i64 t361, .string t362, .bool t363, .string t364, .int .i64 t365, .slice Ao45 t366.length co45] 24 (0, 0)) (by (with_reducible repeat (first | refine bN ?_ _ | refine bD ?_ | refine bA ?_ _)); exact BK370.out) hb); have n5_ := A0_.mk (bB (g := gb380) (o := .cells #[.int .i64 t371, .string t372, .bool t373, .string t374, .int .i64 t375, .slice Ao52 t376.length co52] 24 (0, 0)) (by (with_reducible repeat (first | refine bN ?_ _ | refine bD ?_ | refine bA ?_ _)); exact BK380.out) hb); have n6_ := A0_.mk (wT (by repeat (first | (with_reducible first | exact HB.out | apply wA | apply pN | apply wD | refine wS ?_ GE352.out | refine wS ?_ GE353.out | refine wS ?_ GE370.out | refine wS ?_ GE380.out) | exact HB.out)) hb); clear HO_371005; clear HO_381005; clear BK352; clear BK353; clear BK370; clear BK380; clear HB; have HO_371005 := n0_; have HO_381005 := n1_; have BK352 := n2_; have BK353 := n3_; have BK370 := n4_; have BK380 := n5_; have HB := n6_; clear n0_ n1_ n2_ n3_ n4_ n5_ n6_; (try clear hb); (try clear hb2); (try clear hk); (try clear hi)))
            go_meet
            case rel => exact ⟨_, H', ⟨by have := HJ3.out; have := HJ38.out; first | omega | exact Nat.le_refl _⟩, ⟨by (with_reducible repeat (first | refine bN ?_ _ | refine bD ?_ | refine bA ?_ _)); exact BK352.out⟩, ⟨by (with_reducible repeat (first | refine bN ?_ _ | refine bD ?_ | refine bA ?_ _)); exact BK353.out⟩, ⟨by repeat (first | (with_reducible first | exact HB.out | apply wA | apply pN | apply wD | refine wS ?_ GE352.out | refine wS ?_ GE353.out | refine wS ?_ GE370.out | refine wS ?_ GE380.out) | exact HB.out)⟩⟩
          ·replace c65 := Bool.eq_false_iff.mpr c65
           subst c65
           have H1 : (u9NodeBack.j2 kj38 a2) = some r := by rw [if_neg (show ¬ (false = true) by decide)] at H; exact H
           clear H
           have H := H1
           clear H1
           have H' := A0_.mk H
           clear H
           go_wp2
           go_meet
           case rel => exact ⟨_, H', ⟨by have := HJ3.out; have := HJ38.out; first | omega | exact Nat.le_refl _⟩, ⟨by (with_reducible repeat (first | refine bN ?_ _ | refine bD ?_ | refine bA ?_ _)); exact BK352.out⟩, ⟨by (with_reducible repeat (first | refine bN ?_ _ | refine bD ?_ | refine bA ?_ _)); exact BK353.out⟩, ⟨by repeat (first | (with_reducible first | exact HB.out | apply wA | apply pN | apply wD | refine wS ?_ GE352.out | refine wS ?_ GE353.out | refine wS ?_ GE370.out | refine wS ?_ GE380.out) | exact HB.out)⟩⟩
      ·rw [if_neg c37] at H
       exact absurd H (by simp)
     ·replace c35 := Bool.eq_false_iff.mpr c35
      subst c35
      have H1 : (u9NodeBack.j2 kj3 a2) = some r := by rw [if_neg (show ¬ (false = true) by decide)] at H; exact H
      clear H
      have H := H1
      clear H1
      have H' := A0_.mk H
      clear H
      go_wp2
      go_meet
      case rel => exact ⟨_, H', ⟨by have := HJ3.out; first | omega | exact Nat.le_refl _⟩, ⟨by (with_reducible repeat (first | refine bN ?_ _ | refine bD ?_ | refine bA ?_ _)); exact BK352.out⟩, ⟨by (with_reducible repeat (first | refine bN ?_ _ | refine bD ?_ | refine bA ?_ _)); exact BK353.out⟩, ⟨by repeat (first | (with_reducible first | exact HB.out | apply wA | apply pN | apply wD | refine wS ?_ GE352.out | refine wS ?_ GE353.out) | exact HB.out)⟩⟩
    case rest =>
     clear HC29
     try clear c1
     try clear c2
     try clear p2
     try clear c3
     try clear c4
     try clear c5
     try clear c6
     try clear c7
     try clear c8
     try clear c9
     try clear c11
     try clear c13
     try clear c14
     try clear c19
     try clear c24
     try clear c30
     try clear c35
     try clear c37
     try clear c37b0
     try clear c37b1
     try clear c37b2
     try clear c42
     try clear c43
     try clear c48
     try clear c49
     try clear c50
     try clear c53
     try clear c54
     try clear c56
     try clear c57
     try clear c58
     try clear c60
     try clear c61
     try clear c64
     try clear c65
     try clear c67
     try clear c67b0
     try clear c67b1
     try clear c67b2
     try clear c68
     try clear c69
     try clear c70
     try clear c72
     try clear c73
     try clear c76
     try clear c77
     try clear c78
     try clear c80
     try clear c81
     try clear hcz10_0
     try clear hcz10_1
     try clear hcz10_2
     try clear hcz10_3
     try clear hcz10_4
     try clear hcz10_5
     try clear hcz15_0
     try clear hcz15_1
     try clear hcz15_2
     try clear hcz15_3
     try clear hcz15_4
     try clear hcz15_5
     try clear hcz17_0
     try clear hcz17_1
     try clear hcz17_2
     try clear hcz17_3
     try clear hcz17_4
     try clear hcz17_5
     try clear hcz20_0
     try clear hcz20_1
     try clear hcz20_2
     try clear hcz20_3
     try clear hcz20_4
     try clear hcz20_5
     try clear hcz22_0
     try clear hcz22_1
     try clear hcz22_2
     try clear hcz22_3
     try clear hcz22_4
     try clear hcz22_5
     try clear hcz31_0
     try clear hcz31_1
     try clear hcz31_2
     try clear hcz31_3
     try clear hcz31_4
     try clear hcz31_5
     try clear hcz33_0
     try clear hcz33_1
     try clear hcz33_2
     try clear hcz33_3
     try clear hcz33_4
     try clear hcz33_5
     try clear hcz44_0
     try clear hcz44_1
     try clear hcz44_2
     try clear hcz44_3
     try clear hcz44_4
     try clear hcz44_5
     try clear hcz51_0
     try clear hcz51_1
     try clear hcz51_2
     try clear hcz51_3
     try clear hcz51_4
     try clear hcz51_5
     try clear hcz59_0
     try clear hcz59_1
     try clear hcz59_2
     try clear hcz59_3
     try clear hcz59_4
     try clear hcz59_5
     try clear hcz62_0
     try clear hcz62_1
     try clear hcz62_2
     try clear hcz62_3
     try clear hcz62_4
     try clear hcz62_5
     try clear hcz71_0
     try clear hcz71_1
     try clear hcz71_2
     try clear hcz71_3
     try clear hcz71_4
     try clear hcz71_5
     try clear hcz74_0
     try clear hcz74_1
     try clear hcz74_2
     try clear hcz74_3
     try clear hcz74_4
     try clear hcz74_5
     try clear hcz79_0
     try clear hcz79_1
     try clear hcz79_2
     try clear hcz79_3
     try clear hcz79_4
     try clear hcz79_5
     try clear hcz82_0
     try clear hcz82_1
     try clear hcz82_2
     try clear hcz82_3
     try clear hcz82_4
     try clear hcz82_5
     try clear hfz10_0
     try clear hfz10_1
     try clear hfz10_2
     try clear hfz10_3
     try clear hfz10_4
     try clear hfz10_5
     try clear hfz15_0
     try clear hfz15_1
     try clear hfz15_2
     try clear hfz15_3
     try clear hfz15_4
     try clear hfz15_5
     try clear hfz17_0
     try clear hfz17_1
     try clear hfz17_2
     try clear hfz17_3
     try clear hfz17_4
     try clear hfz17_5
     try clear hfz20_0
     try clear hfz20_1
     try clear hfz20_2
     try clear hfz20_3
     try clear hfz20_4
     try clear hfz20_5
     try clear hfz22_0
     try clear hfz22_1
     try clear hfz22_2
     try clear hfz22_3
     try clear hfz22_4
     try clear hfz22_5
     try clear hfz31_0
     try clear hfz31_1
     try clear hfz31_2
     try clear hfz31_3
     try clear hfz31_4
     try clear hfz31_5
     try clear hfz33_0
     try clear hfz33_1
     try clear hfz33_2
     try clear hfz33_3
     try clear hfz33_4
     try clear hfz33_5
     try clear hfz44_0
     try clear hfz44_1
     try clear hfz44_2
     try clear hfz44_3
     try clear hfz44_4
     try clear hfz44_5
     try clear hfz51_0
     try clear hfz51_1
     try clear hfz51_2
     try clear hfz51_3
     try clear hfz51_4
     try clear hfz51_5
     try clear hfz59_0
     try clear hfz59_1
     try clear hfz59_2
     try clear hfz59_3
     try clear hfz59_4
     try clear hfz59_5
     try clear hfz62_0
     try clear hfz62_1
     try clear hfz62_2
     try clear hfz62_3
     try clear hfz62_4
     try clear hfz62_5
     try clear hfz71_0
     try clear hfz71_1
     try clear hfz71_2
     try clear hfz71_3
     try clear hfz71_4
     try clear hfz71_5
     try clear hfz74_0
     try clear hfz74_1
     try clear hfz74_2
     try clear hfz74_3
     try clear hfz74_4
     try clear hfz74_5
     try clear hfz79_0
     try clear hfz79_1
     try clear hfz79_2
     try clear hfz79_3
     try clear hfz79_4
     try clear hfz79_5
     try clear hfz82_0
     try clear hfz82_1
     try clear hfz82_2
     try clear hfz82_3
     try clear hfz82_4
     try clear hfz82_5
     try clear p2
     obtain ⟨kq, HA, HJ28, BK352, BK353, HB⟩ := hcut
     cases kq with
     | zero => exact absurd HA.out (by simp [u9NodeBack.j2])
     | succ kj28 =>
      have H := HA.out
      clear HA
      simp only [u9NodeBack.j2] at H
      replace H := Option.bind_eq_some_iff.mp H
      obtain ⟨⟨t383, t384, t385, t386, t387, t388, t391⟩, A840, H⟩ := H
      replace H : (if t391 = true then ((node_Encode.f kj28 t383 t384 t385 t386 t387 t388).bind fun bt394 => ((node_Hash.f kj28 t383 t384 t385 t386 t387 t388).bind fun bt396 => (if bt394.2 = true then (if bt394.1.toList = a2.toList then ((node_Good.f kj28 t383 t384 t385 t386 t387 t388).bind fun t398 => (if t398 = true then (if bt396.2 = true then ((digest_Of.f a2).bind fun t399 => (if bt396.1.toList = t399.toList then ((u9wakes.f kj28).bind fun t400 => (some t400)) else (none))) else (none)) else (none))) else (none)) else (none)))) else (if t383 = 0 then (if (t388.length : Int) = 0 then ((u9wakes.f kj28).bind fun t393 => (some t393)) else (none)) else (none))) = some r := H
      have A84 := A0_.mk A840
      clear A840
      by_cases c85 : t391 = true
      ·subst c85
       have H1 : ((node_Encode.f kj28 t383 t384 t385 t386 t387 t388).bind fun bt394 => ((node_Hash.f kj28 t383 t384 t385 t386 t387 t388).bind fun bt396 => (if bt394.2 = true then (if bt394.1.toList = a2.toList then ((node_Good.f kj28 t383 t384 t385 t386 t387 t388).bind fun t398 => (if t398 = true then (if bt396.2 = true then ((digest_Of.f a2).bind fun t399 => (if bt396.1.toList = t399.toList then ((u9wakes.f kj28).bind fun t400 => (some t400)) else (none))) else (none)) else (none))) else (none)) else (none)))) = some r := by rw [if_pos rfl] at H; exact H
       clear H
       have H := H1
       clear H1
       replace H := Option.bind_eq_some_iff.mp H
       obtain ⟨⟨t394, t395⟩, A860, H⟩ := H
       replace H : ((node_Hash.f kj28 t383 t384 t385 t386 t387 t388).bind fun bt396 => (if t395 = true then (if t394.toList = a2.toList then ((node_Good.f kj28 t383 t384 t385 t386 t387 t388).bind fun t398 => (if t398 = true then (if bt396.2 = true then ((digest_Of.f a2).bind fun t399 => (if bt396.1.toList = t399.toList then ((u9wakes.f kj28).bind fun t400 => (some t400)) else (none))) else (none)) else (none))) else (none)) else (none))) = some r := H
       have A86 := A0_.mk A860
       clear A860
       replace H := Option.bind_eq_some_iff.mp H
       obtain ⟨⟨t396, t397⟩, A870, H⟩ := H
       replace H : (if t395 = true then (if t394.toList = a2.toList then ((node_Good.f kj28 t383 t384 t385 t386 t387 t388).bind fun t398 => (if t398 = true then (if t397 = true then ((digest_Of.f a2).bind fun t399 => (if t396.toList = t399.toList then ((u9wakes.f kj28).bind fun t400 => (some t400)) else (none))) else (none)) else (none))) else (none)) else (none)) = some r := H
       have A87 := A0_.mk A870
       clear A870
       by_cases c88 : t395 = true
       ·subst c88
        have H1 : (if t394.toList = a2.toList then ((node_Good.f kj28 t383 t384 t385 t386 t387 t388).bind fun t398 => (if t398 = true then (if t397 = true then ((digest_Of.f a2).bind fun t399 => (if t396.toList = t399.toList then ((u9wakes.f kj28).bind fun t400 => (some t400)) else (none))) else (none)) else (none))) else (none)) = some r := by rw [if_pos rfl] at H; exact H
        clear H
        have H := H1
        clear H1
        by_cases c89 : t394.toList = a2.toList
        ·rw [if_pos c89] at H
         have c89b0 : (t394.toList == a2.toList) = true := beq_iff_eq.mpr c89
         have c89b1 : (t394.toList != a2.toList) = false := bne_eq_false_iff_eq.mpr c89
         clear c89
         replace H := Option.bind_eq_some_iff.mp H
         obtain ⟨t398, A900, H⟩ := H
         replace H : (if t398 = true then (if t397 = true then ((digest_Of.f a2).bind fun t399 => (if t396.toList = t399.toList then ((u9wakes.f kj28).bind fun t400 => (some t400)) else (none))) else (none)) else (none)) = some r := H
         have A90 := A0_.mk A900
         clear A900
         by_cases c91 : t398 = true
         ·subst c91
          have H1 : (if t397 = true then ((digest_Of.f a2).bind fun t399 => (if t396.toList = t399.toList then ((u9wakes.f kj28).bind fun t400 => (some t400)) else (none))) else (none)) = some r := by rw [if_pos rfl] at H; exact H
          clear H
          have H := H1
          clear H1
          by_cases c92 : t397 = true
          ·subst c92
           have H1 : ((digest_Of.f a2).bind fun t399 => (if t396.toList = t399.toList then ((u9wakes.f kj28).bind fun t400 => (some t400)) else (none))) = some r := by rw [if_pos rfl] at H; exact H
           clear H
           have H := H1
           clear H1
           replace H := Option.bind_eq_some_iff.mp H
           obtain ⟨t399, A930, H⟩ := H
           replace H : (if t396.toList = t399.toList then ((u9wakes.f kj28).bind fun t400 => (some t400)) else (none)) = some r := H
           have A93 := A0_.mk A930
           clear A930
           by_cases c94 : t396.toList = t399.toList
           ·rw [if_pos c94] at H
            have c94b0 : (t396.toList == t399.toList) = true := beq_iff_eq.mpr c94
            have c94b1 : (t396.toList != t399.toList) = false := bne_eq_false_iff_eq.mpr c94
            clear c94
            replace H := Option.bind_eq_some_iff.mp H
            obtain ⟨t400, A950, H⟩ := H
            replace H : (some t400) = some r := H
            have A95 := A0_.mk A950
            clear A950
            obtain rfl := Option.some.inj H
            go_wp2_with (first | ((with_reducible refine gC (f := 11) rfl ?_); refine gL (some 78) rfl rfl Tryd.func11 (by kernel_rfl) rfl #[.string a2] rfl (by (try simp only [List.map_toArray, List.map_cons, List.map_nil]); first | done | rfl | (simp only [List.length_drop, List.length_take]; rfl)) ?_; (with_reducible refine (node_Decode.calls kj28 a2 t383 t384 t385 t386 t387 t388 true _ A84.out).mono ?_); rintro e w96 ⟨v389, rfl, ho0, hb⟩; refine ⟨_, rfl, ?_⟩; have n0_ := A0_.mk (Kd.R_lower ho0 (wZ (by repeat (first | (with_reducible first | exact HB.out | apply wA | apply pN | apply wD | refine wS ?_ GE352.out | refine wS ?_ GE353.out) | exact HB.out)))); have n1_ := A0_.mk (bB (g := gb352) (o := .cells #[.int .i64 a0_0, .string a0_1, .bool a0_2, .string a0_3, .int .i64 a0_4, .slice A0_5 l0_5.length c0_5] 24 (0, 0)) (by (with_reducible repeat (first | refine bN ?_ _ | refine bD ?_ | refine bA ?_ _)); exact BK352.out) hb); have n2_ := A0_.mk (bB (g := gb353) (o := .cells #[.int .i64 a1_0, .string a1_1, .bool a1_2, .string a1_3, .int .i64 a1_4, .slice A1_5 l1_5.length c1_5] 24 (0, 0)) (by (with_reducible repeat (first | refine bN ?_ _ | refine bD ?_ | refine bA ?_ _)); exact BK353.out) hb); have n3_ := A0_.mk (wT (by repeat (first | (with_reducible first | exact HB.out | apply wA | apply pN | apply wD | refine wS ?_ GE352.out | refine wS ?_ GE353.out) | exact HB.out)) hb); clear BK352; clear BK353; clear HB; have HO390 := n0_; have BK352 := n1_; have BK353 := n2_; have HB := n3_; clear n0_ n1_ n2_ n3_; (try clear hb); (try clear hb2); (try clear hk); (try clear hi); (try clear ho0)) | ((with_reducible refine gD (N := 15) rfl ?_); (try (refine gG (by rfl) ?_; dsimp only)); refine xE ?hg (N := 15) ?hd (cs := #[.int .i64 0, .string (⟨#[]⟩ : ByteArray), .bool false, .string (⟨#[]⟩ : ByteArray), .int .i64 0, .slice none 0 0]) (t := 24) ?hr ?_; (case hd => rfl); (case hg => rfl); (case hr => first | (go_simp; done) | (go_simp; rfl)); intro gb392 hg w97 hbox hb; have n0_ := A0_.mk (Kd.R_below (by (with_reducible repeat (first | apply Kd.R_alloc | apply Kd.R_drewN | apply Kd.R_drew)); exact HO390.out) hb); have n1_ := A0_.mk (bB (g := gb352) (o := .cells #[.int .i64 a0_0, .string a0_1, .bool a0_2, .string a0_3, .int .i64 a0_4, .slice A0_5 l0_5.length c0_5] 24 (0, 0)) (by (with_reducible repeat (first | refine bN ?_ _ | refine bD ?_ | refine bA ?_ _)); exact BK352.out) hb); have n2_ := A0_.mk (bB (g := gb353) (o := .cells #[.int .i64 a1_0, .string a1_1, .bool a1_2, .string a1_3, .int .i64 a1_4, .slice A1_5 l1_5.length c1_5] 24 (0, 0)) (by (with_reducible repeat (first | refine bN ?_ _ | refine bD ?_ | refine bA ?_ _)); exact BK353.out) hb); have n3_ := A0_.mk (wT (by repeat (first | (with_reducible first | exact HB.out | apply wA | apply pN | apply wD | refine wS ?_ GE352.out | refine wS ?_ GE353.out) | exact HB.out)) hb); have n4_ := A0_.mk (hbox); have n5_ := A0_.mk ((by rw [hg]; exact (wZ (by repeat (first | (with_reducible first | exact HB.out | apply wA | apply pN | apply wD | refine wS ?_ GE352.out | refine wS ?_ GE353.out) | exact HB.out))) : w.heap.size ≤ gb392)); have n6_ := A0_.mk ((by rw [hg]; exact (wZ (by repeat (first | (with_reducible first | exact HB.out | apply wA | apply pN | apply wD | refine wS ?_ GE352.out | refine wS ?_ GE353.out) | exact HB.out))) : w.heap.size ≤ gb392)); have n7_ := A0_.mk ((by rw [hg]; exact Nat.ne_of_lt (bL (g := gb352) (o := .cells #[.int .i64 a0_0, .string a0_1, .bool a0_2, .string a0_3, .int .i64 a0_4, .slice A0_5 l0_5.length c0_5] 24 (0, 0)) (by (with_reducible repeat (first | refine bN ?_ _ | refine bD ?_ | refine bA ?_ _)); exact BK352.out)) : gb352 ≠ gb392)); have n8_ := A0_.mk ((by rw [hg]; exact Nat.ne_of_gt (bL (g := gb352) (o := .cells #[.int .i64 a0_0, .string a0_1, .bool a0_2, .string a0_3, .int .i64 a0_4, .slice A0_5 l0_5.length c0_5] 24 (0, 0)) (by (with_reducible repeat (first | refine bN ?_ _ | refine bD ?_ | refine bA ?_ _)); exact BK352.out)) : gb392 ≠ gb352)); have n9_ := A0_.mk ((by rw [hg]; exact Nat.ne_of_lt (bL (g := gb353) (o := .cells #[.int .i64 a1_0, .string a1_1, .bool a1_2, .string a1_3, .int .i64 a1_4, .slice A1_5 l1_5.length c1_5] 24 (0, 0)) (by (with_reducible repeat (first | refine bN ?_ _ | refine bD ?_ | refine bA ?_ _)); exact BK353.out)) : gb353 ≠ gb392)); have n10_ := A0_.mk ((by rw [hg]; exact Nat.ne_of_gt (bL (g := gb353) (o := .cells #[.int .i64 a1_0, .string a1_1, .bool a1_2, .string a1_3, .int .i64 a1_4, .slice A1_5 l1_5.length c1_5] 24 (0, 0)) (by (with_reducible repeat (first | refine bN ?_ _ | refine bD ?_ | refine bA ?_ _)); exact BK353.out)) : gb392 ≠ gb353)); clear HO390; clear BK352; clear BK353; clear HB; have HO390 := n0_; have BK352 := n1_; have BK353 := n2_; have HB := n3_; have BK392 := n4_; have GW392 := n5_; have GE392 := n6_; have NB352_392 := n7_; have NB392_352 := n8_; have NB353_392 := n9_; have NB392_353 := n10_; clear n0_ n1_ n2_ n3_ n4_ n5_ n6_ n7_ n8_ n9_ n10_; clear hb hbox hg; have hnb98 := NB392_352.out; have hnc98 := NB352_392.out; have hnb99 := NB392_353.out; have hnc99 := NB353_392.out; have hcz100_0 : w97.cell? ⟨gb392, 0, none⟩ = some (.int .i64 0) := (bC BK392.out 0).trans rfl; have hcz100_1 : w97.cell? ⟨gb392, 1, none⟩ = some (.string (⟨#[]⟩ : ByteArray)) := (bC BK392.out 1).trans rfl; have hcz100_2 : w97.cell? ⟨gb392, 2, none⟩ = some (.bool false) := (bC BK392.out 2).trans rfl; have hcz100_3 : w97.cell? ⟨gb392, 3, none⟩ = some (.string (⟨#[]⟩ : ByteArray)) := (bC BK392.out 3).trans rfl; have hcz100_4 : w97.cell? ⟨gb392, 4, none⟩ = some (.int .i64 0) := (bC BK392.out 4).trans rfl; have hcz100_5 : w97.cell? ⟨gb392, 5, none⟩ = some (.slice none 0 0) := (bC BK392.out 5).trans rfl; have hfz100_0 := bF BK392.out 0; have hfz100_1 := bF BK392.out 1; have hfz100_2 := bF BK392.out 2; have hfz100_3 := bF BK392.out 3; have hfz100_4 := bF BK392.out 4; have hfz100_5 := bF BK392.out 5; obtain ⟨Ao101, co101, eo101⟩ := Kd.R_slice HO390.out; subst eo101) | ((with_reducible refine gC (f := 9) rfl ?_); refine gL (some 97) rfl rfl Tryd.func9 (by kernel_rfl) rfl #[.agg #[.int .i64 t383, .string t384, .bool t385, .string t386, .int .i64 t387, .slice Ao101 t388.length co101]] rfl (by (try simp only [List.map_toArray, List.map_cons, List.map_nil]); first | done | rfl | (simp only [List.length_drop, List.length_take]; rfl)) ?_; (with_reducible refine (node_Encode.calls kj28 t383 t384 t385 t386 t387 _ _ t388 t394 true _ ?side1 ?side2 A86.out).mono ?_); (case side1 => refine (Kd.R_reads' (e := 9) (base := w.heap.size) (ok := fun k_ => True) (n := t388.length) (c := co101) ?_).2.2; exact (by (with_reducible repeat (first | apply Kd.R_alloc | apply Kd.R_drewN | apply Kd.R_drew)); exact (Kd.R_mono (Kd.R_far (p := ⟨gb392, 5, none⟩) (Kd.R_far (p := ⟨gb392, 4, none⟩) (Kd.R_far (p := ⟨gb392, 3, none⟩) (Kd.R_far (p := ⟨gb392, 2, none⟩) (Kd.R_far (p := ⟨gb392, 1, none⟩) (Kd.R_far (p := ⟨gb392, 0, none⟩) (Kd.R_types HO390.out BK392.out (by decide)) (fun _ hk => hk.2) (.int .i64 t383)) (fun _ hk => hk.2) (.string t384)) (fun _ hk => hk.2) (.bool t385)) (fun _ hk => hk.2) (.string t386)) (fun _ hk => hk.2) (.int .i64 t387)) (fun _ hk => hk.2) (.slice Ao101 t388.length co101)) (fun _ h_ => h_.1)))); (case side2 => exact (Kd.R_reads' HO390.out).2.1); rintro e w102 ⟨rfl, hb⟩; refine ⟨_, rfl, ?_⟩; have n0_ := A0_.mk (Kd.R_below (by (with_reducible repeat (first | apply Kd.R_alloc | apply Kd.R_drewN | apply Kd.R_drew)); exact (Kd.R_mono (Kd.R_far (p := ⟨gb392, 5, none⟩) (Kd.R_far (p := ⟨gb392, 4, none⟩) (Kd.R_far (p := ⟨gb392, 3, none⟩) (Kd.R_far (p := ⟨gb392, 2, none⟩) (Kd.R_far (p := ⟨gb392, 1, none⟩) (Kd.R_far (p := ⟨gb392, 0, none⟩) (Kd.R_types HO390.out BK392.out (by decide)) (fun _ hk => hk.2) (.int .i64 t383)) (fun _ hk => hk.2) (.string t384)) (fun _ hk => hk.2) (.bool t385)) (fun _ hk => hk.2) (.string t386)) (fun _ hk => hk.2) (.int .i64 t387)) (fun _ hk => hk.2) (.slice Ao101 t388.length co101)) (fun _ h_ => h_.1))) hb); have n1_ := A0_.mk (bB (g := gb352) (o := .cells #[.int .i64 a0_0, .string a0_1, .bool a0_2, .string a0_3, .int .i64 a0_4, .slice A0_5 l0_5.length c0_5] 24 (0, 0)) (by (with_reducible repeat (first | refine bN ?_ _ | refine bD ?_ | refine bA ?_ _)); refine bR ?_ NB352_392.out _; (with_reducible repeat (first | refine bN ?_ _ | refine bD ?_ | refine bA ?_ _)); refine bR ?_ NB352_392.out _; (with_reducible repeat (first | refine bN ?_ _ | refine bD ?_ | refine bA ?_ _)); refine bR ?_ NB352_392.out _; (with_reducible repeat (first | refine bN ?_ _ | refine bD ?_ | refine bA ?_ _)); refine bR ?_ NB352_392.out _; (with_reducible repeat (first | refine bN ?_ _ | refine bD ?_ | refine bA ?_ _)); refine bR ?_ NB352_392.out _; (with_reducible repeat (first | refine bN ?_ _ | refine bD ?_ | refine bA ?_ _)); refine bR ?_ NB352_392.out _; (with_reducible repeat (first | refine bN ?_ _ | refine bD ?_ | refine bA ?_ _)); exact BK352.out) hb); have n2_ := A0_.mk (bB (g := gb353) (o := .cells #[.int .i64 a1_0, .string a1_1, .bool a1_2, .string a1_3, .int .i64 a1_4, .slice A1_5 l1_5.length c1_5] 24 (0, 0)) (by (with_reducible repeat (first | refine bN ?_ _ | refine bD ?_ | refine bA ?_ _)); refine bR ?_ NB353_392.out _; (with_reducible repeat (first | refine bN ?_ _ | refine bD ?_ | refine bA ?_ _)); refine bR ?_ NB353_392.out _; (with_reducible repeat (first | refine bN ?_ _ | refine bD ?_ | refine bA ?_ _)); refine bR ?_ NB353_392.out _; (with_reducible repeat (first | refine bN ?_ _ | refine bD ?_ | refine bA ?_ _)); refine bR ?_ NB353_392.out _; (with_reducible repeat (first | refine bN ?_ _ | refine bD ?_ | refine bA ?_ _)); refine bR ?_ NB353_392.out _; (with_reducible repeat (first | refine bN ?_ _ | refine bD ?_ | refine bA ?_ _)); refine bR ?_ NB353_392.out _; (with_reducible repeat (first | refine bN ?_ _ | refine bD ?_ | refine bA ?_ _)); exact BK353.out) hb); have n3_ := A0_.mk (bB (g := gb392) (o := .cells #[.int .i64 t383, .string t384, .bool t385, .string t386, .int .i64 t387, .slice Ao101 t388.length co101] 24 (0, 0)) (by (with_reducible repeat (first | refine bN ?_ _ | refine bD ?_ | refine bA ?_ _)); refine bP (cs := #[.int .i64 t383, .string t384, .bool t385, .string t386, .int .i64 t387, .slice none 0 0]) ?_ 5 _ rfl; (with_reducible repeat (first | refine bN ?_ _ | refine bD ?_ | refine bA ?_ _)); refine bP (cs := #[.int .i64 t383, .string t384, .bool t385, .string t386, .int .i64 0, .slice none 0 0]) ?_ 4 _ rfl; (with_reducible repeat (first | refine bN ?_ _ | refine bD ?_ | refine bA ?_ _)); refine bP (cs := #[.int .i64 t383, .string t384, .bool t385, .string (⟨#[]⟩ : ByteArray), .int .i64 0, .slice none 0 0]) ?_ 3 _ rfl; (with_reducible repeat (first | refine bN ?_ _ | refine bD ?_ | refine bA ?_ _)); refine bP (cs := #[.int .i64 t383, .string t384, .bool false, .string (⟨#[]⟩ : ByteArray), .int .i64 0, .slice none 0 0]) ?_ 2 _ rfl; (with_reducible repeat (first | refine bN ?_ _ | refine bD ?_ | refine bA ?_ _)); refine bP (cs := #[.int .i64 t383, .string (⟨#[]⟩ : ByteArray), .bool false, .string (⟨#[]⟩ : ByteArray), .int .i64 0, .slice none 0 0]) ?_ 1 _ rfl; (with_reducible repeat (first | refine bN ?_ _ | refine bD ?_ | refine bA ?_ _)); refine bP (cs := #[.int .i64 0, .string (⟨#[]⟩ : ByteArray), .bool false, .string (⟨#[]⟩ : ByteArray), .int .i64 0, .slice none 0 0]) ?_ 0 _ rfl; (with_reducible repeat (first | refine bN ?_ _ | refine bD ?_ | refine bA ?_ _)); exact BK392.out) hb); have n4_ := A0_.mk (wT (by repeat (first | (with_reducible first | exact HB.out | apply wA | apply pN | apply wD | refine wS ?_ GE352.out | refine wS ?_ GE353.out | refine wS ?_ GE392.out) | exact HB.out)) hb); clear HO390; clear BK352; clear BK353; clear BK392; clear HB; have HO390 := n0_; have BK352 := n1_; have BK353 := n2_; have BK392 := n3_; have HB := n4_; clear n0_ n1_ n2_ n3_ n4_; (try clear hb); (try clear hb2); (try clear hk); (try clear hi); have hcz103_0 : w102.cell? ⟨gb392, 0, none⟩ = some (.int .i64 t383) := (bC BK392.out 0).trans rfl; have hcz103_1 : w102.cell? ⟨gb392, 1, none⟩ = some (.string t384) := (bC BK392.out 1).trans rfl; have hcz103_2 : w102.cell? ⟨gb392, 2, none⟩ = some (.bool t385) := (bC BK392.out 2).trans rfl; have hcz103_3 : w102.cell? ⟨gb392, 3, none⟩ = some (.string t386) := (bC BK392.out 3).trans rfl; have hcz103_4 : w102.cell? ⟨gb392, 4, none⟩ = some (.int .i64 t387) := (bC BK392.out 4).trans rfl; have hcz103_5 : w102.cell? ⟨gb392, 5, none⟩ = some (.slice Ao101 t388.length co101) := (bC BK392.out 5).trans rfl; have hfz103_0 := bF BK392.out 0; have hfz103_1 := bF BK392.out 1; have hfz103_2 := bF BK392.out 2; have hfz103_3 := bF BK392.out 3; have hfz103_4 := bF BK392.out 4; have hfz103_5 := bF BK392.out 5) | ((with_reducible refine gC (f := 10) rfl ?_); refine gL (some 102) rfl rfl Tryd.func10 (by kernel_rfl) rfl #[.agg #[.int .i64 t383, .string t384, .bool t385, .string t386, .int .i64 t387, .slice Ao101 t388.length co101]] rfl (by (try simp only [List.map_toArray, List.map_cons, List.map_nil]); first | done | rfl | (simp only [List.length_drop, List.length_take]; rfl)) ?_; (with_reducible refine (node_Hash.calls kj28 t383 t384 t385 t386 t387 _ _ t388 t396 true _ ?side1 ?side2 ?side3 A87.out).mono ?_); (case side1 => repeat (first | exact (Kd.R_reads' HO390.out).2.2 | (with_reducible refine Kd.C_alloc ?_ _) | (with_reducible refine Kd.C_drewN ?_ _) | (with_reducible refine Kd.C_drew ?_))); (case side2 => exact (Kd.R_reads' HO390.out).2.1); (case side3 => exact Glob.below HG.out (by repeat (first | (with_reducible first | exact HB.out | apply wA | apply pN | apply wD | refine wS ?_ GE352.out | refine wS ?_ GE353.out | refine wS ?_ GE392.out) | exact HB.out))); rintro e w104 ⟨rfl, hb⟩; refine ⟨_, rfl, ?_⟩; have n0_ := A0_.mk (Kd.R_below (by (with_reducible repeat (first | apply Kd.R_alloc | apply Kd.R_drewN | apply Kd.R_drew)); exact HO390.out) hb); have n1_ := A0_.mk (bB (g := gb352) (o := .cells #[.int .i64 a0_0, .string a0_1, .bool a0_2, .string a0_3, .int .i64 a0_4, .slice A0_5 l0_5.length c0_5] 24 (0, 0)) (by (with_reducible repeat (first | refine bN ?_ _ | refine bD ?_ | refine bA ?_ _)); exact BK352.out) hb); have n2_ := A0_.mk (bB (g := gb353) (o := .cells #[.int .i64 a1_0, .string a1_1, .bool a1_2, .string a1_3, .int .i64 a1_4, .slice A1_5 l1_5.length c1_5] 24 (0, 0)) (by (with_reducible repeat (first | refine bN ?_ _ | refine bD ?_ | refine bA ?_ _)); exact BK353.out) hb); have n3_ := A0_.mk (bB (g := gb392) (o := .cells #[.int .i64 t383, .string t384, .bool t385, .string t386, .int .i64 t387, .slice Ao101 t388.length co101] 24 (0, 0)) (by (with_reducible repeat (first | refine bN ?_ _ | refine bD ?_ | refine bA ?_ _)); exact BK392.out) hb); have n4_ := A0_.mk (wT (by repeat (first | (with_reducible first | exact HB.out | apply wA | apply pN | apply wD | refine wS ?_ GE352.out | refine wS ?_ GE353.out | refine wS ?_ GE392.out) | exact HB.out)) hb); clear HO390; clear BK352; clear BK353; clear BK392; clear HB; have HO390 := n0_; have BK352 := n1_; have BK353 := n2_; have BK392 := n3_; have HB := n4_; clear n0_ n1_ n2_ n3_ n4_; (try clear hb); (try clear hb2); (try clear hk); (try clear hi); have hcz105_0 : w104.cell? ⟨gb392, 0, none⟩ = some (.int .i64 t383) := (bC BK392.out 0).trans rfl; have hcz105_1 : w104.cell? ⟨gb392, 1, none⟩ = some (.string t384) := (bC BK392.out 1).trans rfl; have hcz105_2 : w104.cell? ⟨gb392, 2, none⟩ = some (.bool t385) := (bC BK392.out 2).trans rfl; have hcz105_3 : w104.cell? ⟨gb392, 3, none⟩ = some (.string t386) := (bC BK392.out 3).trans rfl; have hcz105_4 : w104.cell? ⟨gb392, 4, none⟩ = some (.int .i64 t387) := (bC BK392.out 4).trans rfl; have hcz105_5 : w104.cell? ⟨gb392, 5, none⟩ = some (.slice Ao101 t388.length co101) := (bC BK392.out 5).trans rfl; have hfz105_0 := bF BK392.out 0; have hfz105_1 := bF BK392.out 1; have hfz105_2 := bF BK392.out 2; have hfz105_3 := bF BK392.out 3; have hfz105_4 := bF BK392.out 4; have hfz105_5 := bF BK392.out 5) | (go_at_call 13; (with_reducible refine (node_Good.calls kj28 t383 t384 t385 t386 t387 _ _ t388 true _ ?side1 ?side2 A90.out).mono ?_); (case side1 => repeat (first | exact (Kd.R_reads' HO390.out).2.2 | (with_reducible refine Kd.C_alloc ?_ _) | (with_reducible refine Kd.C_drewN ?_ _) | (with_reducible refine Kd.C_drew ?_))); (case side2 => exact (Kd.R_reads' HO390.out).2.1); rintro e w106 ⟨rfl, hb⟩; have n0_ := A0_.mk (Kd.R_below (by (with_reducible repeat (first | apply Kd.R_alloc | apply Kd.R_drewN | apply Kd.R_drew)); exact HO390.out) hb); have n1_ := A0_.mk (bB (g := gb352) (o := .cells #[.int .i64 a0_0, .string a0_1, .bool a0_2, .string a0_3, .int .i64 a0_4, .slice A0_5 l0_5.length c0_5] 24 (0, 0)) (by (with_reducible repeat (first | refine bN ?_ _ | refine bD ?_ | refine bA ?_ _)); exact BK352.out) hb); have n2_ := A0_.mk (bB (g := gb353) (o := .cells #[.int .i64 a1_0, .string a1_1, .bool a1_2, .string a1_3, .int .i64 a1_4, .slice A1_5 l1_5.length c1_5] 24 (0, 0)) (by (with_reducible repeat (first | refine bN ?_ _ | refine bD ?_ | refine bA ?_ _)); exact BK353.out) hb); have n3_ := A0_.mk (bB (g := gb392) (o := .cells #[.int .i64 t383, .string t384, .bool t385, .string t386, .int .i64 t387, .slice Ao101 t388.length co101] 24 (0, 0)) (by (with_reducible repeat (first | refine bN ?_ _ | refine bD ?_ | refine bA ?_ _)); exact BK392.out) hb); have n4_ := A0_.mk (wT (by repeat (first | (with_reducible first | exact HB.out | apply wA | apply pN | apply wD | refine wS ?_ GE352.out | refine wS ?_ GE353.out | refine wS ?_ GE392.out) | exact HB.out)) hb); clear HO390; clear BK352; clear BK353; clear BK392; clear HB; have HO390 := n0_; have BK352 := n1_; have BK353 := n2_; have BK392 := n3_; have HB := n4_; clear n0_ n1_ n2_ n3_ n4_; (try clear hb); (try clear hb2); (try clear hk); (try clear hi)) | (go_at_call 18; (with_reducible refine (digest_Of.calls a2 t399 _ ?side1 A93.out).mono ?_); (case side1 => exact Glob.below HG.out (by repeat (first | (with_reducible first | exact HB.out | apply wA | apply pN | apply wD | refine wS ?_ GE352.out | refine wS ?_ GE353.out | refine wS ?_ GE392.out) | exact HB.out))); rintro e w107 ⟨rfl, hb⟩; have n0_ := A0_.mk (Kd.R_below (by (with_reducible repeat (first | apply Kd.R_alloc | apply Kd.R_drewN | apply Kd.R_drew)); exact HO390.out) hb); have n1_ := A0_.mk (bB (g := gb352) (o := .cells #[.int .i64 a0_0, .string a0_1, .bool a0_2, .string a0_3, .int .i64 a0_4, .slice A0_5 l0_5.length c0_5] 24 (0, 0)) (by (with_reducible repeat (first | refine bN ?_ _ | refine bD ?_ | refine bA ?_ _)); exact BK352.out) hb); have n2_ := A0_.mk (bB (g := gb353) (o := .cells #[.int .i64 a1_0, .string a1_1, .bool a1_2, .string a1_3, .int .i64 a1_4, .slice A1_5 l1_5.length c1_5] 24 (0, 0)) (by (with_reducible repeat (first | refine bN ?_ _ | refine bD ?_ | refine bA ?_ _)); exact BK353.out) hb); have n3_ := A0_.mk (bB (g := gb392) (o := .cells #[.int .i64 t383, .string t384, .bool t385, .string t386, .int .i64 t387, .slice Ao101 t388.length co101] 24 (0, 0)) (by (with_reducible repeat (first | refine bN ?_ _ | refine bD ?_ | refine bA ?_ _)); exact BK392.out) hb); have n4_ := A0_.mk (wT (by repeat (first | (with_reducible first | exact HB.out | apply wA | apply pN | apply wD | refine wS ?_ GE352.out | refine wS ?_ GE353.out | refine wS ?_ GE392.out) | exact HB.out)) hb); clear HO390; clear BK352; clear BK353; clear BK392; clear HB; have HO390 := n0_; have BK352 := n1_; have BK353 := n2_; have BK392 := n3_; have HB := n4_; clear n0_ n1_ n2_ n3_ n4_; (try clear hb); (try clear hb2); (try clear hk); (try clear hi)) | (go_at_call 8; (with_reducible refine (u9wakes.calls kj28  t400 _ ?side1 A95.out).mono ?_); (case side1 => exact Glob.below HG.out (by repeat (first | (with_reducible first | exact HB.out | apply wA | apply pN | apply wD | refine wS ?_ GE352.out | refine wS ?_ GE353.out | refine wS ?_ GE392.out) | exact HB.out))); rintro e w108 ⟨rfl, hb⟩; have n0_ := A0_.mk (Kd.R_below (by (with_reducible repeat (first | apply Kd.R_alloc | apply Kd.R_drewN | apply Kd.R_drew)); exact HO390.out) hb); have n1_ := A0_.mk (bB (g := gb352) (o := .cells #[.int .i64 a0_0, .string a0_1, .bool a0_2, .string a0_3, .int .i64 a0_4, .slice A0_5 l0_5.length c0_5] 24 (0, 0)) (by (with_reducible repeat (first | refine bN ?_ _ | refine bD ?_ | refine bA ?_ _)); exact BK352.out) hb); have n2_ := A0_.mk (bB (g := gb353) (o := .cells #[.int .i64 a1_0, .string a1_1, .bool a1_2, .string a1_3, .int .i64 a1_4, .slice A1_5 l1_5.length c1_5] 24 (0, 0)) (by (with_reducible repeat (first | refine bN ?_ _ | refine bD ?_ | refine bA ?_ _)); exact BK353.out) hb); have n3_ := A0_.mk (bB (g := gb392) (o := .cells #[.int .i64 t383, .string t384, .bool t385, .string t386, .int .i64 t387, .slice Ao101 t388.length co101] 24 (0, 0)) (by (with_reducible repeat (first | refine bN ?_ _ | refine bD ?_ | refine bA ?_ _)); exact BK392.out) hb); have n4_ := A0_.mk (wT (by repeat (first | (with_reducible first | exact HB.out | apply wA | apply pN | apply wD | refine wS ?_ GE352.out | refine wS ?_ GE353.out | refine wS ?_ GE392.out) | exact HB.out)) hb); clear HO390; clear BK352; clear BK353; clear BK392; clear HB; have HO390 := n0_; have BK352 := n1_; have BK353 := n2_; have BK392 := n3_; have HB := n4_; clear n0_ n1_ n2_ n3_ n4_; (try clear hb); (try clear hb2); (try clear hk); (try clear hi)))
            go_ret
            exact ⟨by first | rfl | (simp [errW_none, errW_some] <;> rfl) | (simp [*, errW_none, errW_some] <;> rfl), by repeat (first | (with_reducible first | exact HB.out | apply wA | apply pN | apply wD | refine wS ?_ GE352.out | refine wS ?_ GE353.out | refine wS ?_ GE392.out) | exact HB.out)⟩
           ·rw [if_neg c94] at H
            exact absurd H (by simp)
          ·replace c92 := Bool.eq_false_iff.mpr c92
           subst c92
           have H1 : (none) = some r := by rw [if_neg (show ¬ (false = true) by decide)] at H; exact H
           exact absurd H1 (by simp)
         ·replace c91 := Bool.eq_false_iff.mpr c91
          subst c91
          have H1 : (none) = some r := by rw [if_neg (show ¬ (false = true) by decide)] at H; exact H
          exact absurd H1 (by simp)
        ·rw [if_neg c89] at H
         exact absurd H (by simp)
       ·replace c88 := Bool.eq_false_iff.mpr c88
        subst c88
        have H1 : (none) = some r := by rw [if_neg (show ¬ (false = true) by decide)] at H; exact H
        exact absurd H1 (by simp)
      ·replace c85 := Bool.eq_false_iff.mpr c85
       subst c85
       have H1 : (if t383 = 0 then (if (t388.length : Int) = 0 then ((u9wakes.f kj28).bind fun t393 => (some t393)) else (none)) else (none)) = some r := by rw [if_neg (show ¬ (false = true) by decide)] at H; exact H
       clear H
       have H := H1
       clear H1
       by_cases c161 : t383 = 0
       ·rw [if_pos c161] at H
        have c161b0 : (t383 == 0) = true := beq_iff_eq.mpr c161
        have c161b1 : (t383 != 0) = false := bne_eq_false_iff_eq.mpr c161
        clear c161
        by_cases c162 : (t388.length : Int) = 0
        ·rw [if_pos c162] at H
         have c162b0 : ((t388.length : Int) == 0) = true := beq_iff_eq.mpr c162
         have c162b1 : ((t388.length : Int) != 0) = false := bne_eq_false_iff_eq.mpr c162
         clear c162
         replace H := Option.bind_eq_some_iff.mp H
         obtain ⟨t393, A1630, H⟩ := H
         replace H : (some t393) = some r := H
         have A163 := A0_.mk A1630
         clear A1630
         obtain rfl := Option.some.inj H
         go_wp2_with (first | ((with_reducible refine gC (f := 11) rfl ?_); refine gL (some 78) rfl rfl Tryd.func11 (by kernel_rfl) rfl #[.string a2] rfl (by (try simp only [List.map_toArray, List.map_cons, List.map_nil]); first | done | rfl | (simp only [List.length_drop, List.length_take]; rfl)) ?_; (with_reducible refine (node_Decode.calls kj28 a2 t383 t384 t385 t386 t387 t388 false _ A84.out).mono ?_); rintro e w164 ⟨v389, rfl, ho0, hb⟩; refine ⟨_, rfl, ?_⟩; have n0_ := A0_.mk (Kd.R_lower ho0 (wZ (by repeat (first | (with_reducible first | exact HB.out | apply wA | apply pN | apply wD | refine wS ?_ GE352.out | refine wS ?_ GE353.out) | exact HB.out)))); have n1_ := A0_.mk (bB (g := gb352) (o := .cells #[.int .i64 a0_0, .string a0_1, .bool a0_2, .string a0_3, .int .i64 a0_4, .slice A0_5 l0_5.length c0_5] 24 (0, 0)) (by (with_reducible repeat (first | refine bN ?_ _ | refine bD ?_ | refine bA ?_ _)); exact BK352.out) hb); have n2_ := A0_.mk (bB (g := gb353) (o := .cells #[.int .i64 a1_0, .string a1_1, .bool a1_2, .string a1_3, .int .i64 a1_4, .slice A1_5 l1_5.length c1_5] 24 (0, 0)) (by (with_reducible repeat (first | refine bN ?_ _ | refine bD ?_ | refine bA ?_ _)); exact BK353.out) hb); have n3_ := A0_.mk (wT (by repeat (first | (with_reducible first | exact HB.out | apply wA | apply pN | apply wD | refine wS ?_ GE352.out | refine wS ?_ GE353.out) | exact HB.out)) hb); clear BK352; clear BK353; clear HB; have HO390 := n0_; have BK352 := n1_; have BK353 := n2_; have HB := n3_; clear n0_ n1_ n2_ n3_; (try clear hb); (try clear hb2); (try clear hk); (try clear hi); (try clear ho0)) | ((with_reducible refine gD (N := 15) rfl ?_); (try (refine gG (by rfl) ?_; dsimp only)); refine xE ?hg (N := 15) ?hd (cs := #[.int .i64 0, .string (⟨#[]⟩ : ByteArray), .bool false, .string (⟨#[]⟩ : ByteArray), .int .i64 0, .slice none 0 0]) (t := 24) ?hr ?_; (case hd => rfl); (case hg => rfl); (case hr => first | (go_simp; done) | (go_simp; rfl)); intro gb392 hg w165 hbox hb; have n0_ := A0_.mk (Kd.R_below (by (with_reducible repeat (first | apply Kd.R_alloc | apply Kd.R_drewN | apply Kd.R_drew)); exact HO390.out) hb); have n1_ := A0_.mk (bB (g := gb352) (o := .cells #[.int .i64 a0_0, .string a0_1, .bool a0_2, .string a0_3, .int .i64 a0_4, .slice A0_5 l0_5.length c0_5] 24 (0, 0)) (by (with_reducible repeat (first | refine bN ?_ _ | refine bD ?_ | refine bA ?_ _)); exact BK352.out) hb); have n2_ := A0_.mk (bB (g := gb353) (o := .cells #[.int .i64 a1_0, .string a1_1, .bool a1_2, .string a1_3, .int .i64 a1_4, .slice A1_5 l1_5.length c1_5] 24 (0, 0)) (by (with_reducible repeat (first | refine bN ?_ _ | refine bD ?_ | refine bA ?_ _)); exact BK353.out) hb); have n3_ := A0_.mk (wT (by repeat (first | (with_reducible first | exact HB.out | apply wA | apply pN | apply wD | refine wS ?_ GE352.out | refine wS ?_ GE353.out) | exact HB.out)) hb); have n4_ := A0_.mk (hbox); have n5_ := A0_.mk ((by rw [hg]; exact (wZ (by repeat (first | (with_reducible first | exact HB.out | apply wA | apply pN | apply wD | refine wS ?_ GE352.out | refine wS ?_ GE353.out) | exact HB.out))) : w.heap.size ≤ gb392)); have n6_ := A0_.mk ((by rw [hg]; exact (wZ (by repeat (first | (with_reducible first | exact HB.out | apply wA | apply pN | apply wD | refine wS ?_ GE352.out | refine wS ?_ GE353.out) | exact HB.out))) : w.heap.size ≤ gb392)); have n7_ := A0_.mk ((by rw [hg]; exact Nat.ne_of_lt (bL (g := gb352) (o := .cells #[.int .i64 a0_0, .string a0_1, .bool a0_2, .string a0_3, .int .i64 a0_4, .slice A0_5 l0_5.length c0_5] 24 (0, 0)) (by (with_reducible repeat (first | refine bN ?_ _ | refine bD ?_ | refine bA ?_ _)); exact BK352.out)) : gb352 ≠ gb392)); have n8_ := A0_.mk ((by rw [hg]; exact Nat.ne_of_gt (bL (g := gb352) (o := .cells #[.int .i64 a0_0, .string a0_1, .bool a0_2, .string a0_3, .int .i64 a0_4, .slice A0_5 l0_5.length c0_5] 24 (0, 0)) (by (with_reducible repeat (first | refine bN ?_ _ | refine bD ?_ | refine bA ?_ _)); exact BK352.out)) : gb392 ≠ gb352)); have n9_ := A0_.mk ((by rw [hg]; exact Nat.ne_of_lt (bL (g := gb353) (o := .cells #[.int .i64 a1_0, .string a1_1, .bool a1_2, .string a1_3, .int .i64 a1_4, .slice A1_5 l1_5.length c1_5] 24 (0, 0)) (by (with_reducible repeat (first | refine bN ?_ _ | refine bD ?_ | refine bA ?_ _)); exact BK353.out)) : gb353 ≠ gb392)); have n10_ := A0_.mk ((by rw [hg]; exact Nat.ne_of_gt (bL (g := gb353) (o := .cells #[.int .i64 a1_0, .string a1_1, .bool a1_2, .string a1_3, .int .i64 a1_4, .slice A1_5 l1_5.length c1_5] 24 (0, 0)) (by (with_reducible repeat (first | refine bN ?_ _ | refine bD ?_ | refine bA ?_ _)); exact BK353.out)) : gb392 ≠ gb353)); clear HO390; clear BK352; clear BK353; clear HB; have HO390 := n0_; have BK352 := n1_; have BK353 := n2_; have HB := n3_; have BK392 := n4_; have GW392 := n5_; have GE392 := n6_; have NB352_392 := n7_; have NB392_352 := n8_; have NB353_392 := n9_; have NB392_353 := n10_; clear n0_ n1_ n2_ n3_ n4_ n5_ n6_ n7_ n8_ n9_ n10_; clear hb hbox hg; have hnb166 := NB392_352.out; have hnc166 := NB352_392.out; have hnb167 := NB392_353.out; have hnc167 := NB353_392.out; have hcz168_0 : w165.cell? ⟨gb392, 0, none⟩ = some (.int .i64 0) := (bC BK392.out 0).trans rfl; have hcz168_1 : w165.cell? ⟨gb392, 1, none⟩ = some (.string (⟨#[]⟩ : ByteArray)) := (bC BK392.out 1).trans rfl; have hcz168_2 : w165.cell? ⟨gb392, 2, none⟩ = some (.bool false) := (bC BK392.out 2).trans rfl; have hcz168_3 : w165.cell? ⟨gb392, 3, none⟩ = some (.string (⟨#[]⟩ : ByteArray)) := (bC BK392.out 3).trans rfl; have hcz168_4 : w165.cell? ⟨gb392, 4, none⟩ = some (.int .i64 0) := (bC BK392.out 4).trans rfl; have hcz168_5 : w165.cell? ⟨gb392, 5, none⟩ = some (.slice none 0 0) := (bC BK392.out 5).trans rfl; have hfz168_0 := bF BK392.out 0; have hfz168_1 := bF BK392.out 1; have hfz168_2 := bF BK392.out 2; have hfz168_3 := bF BK392.out 3; have hfz168_4 := bF BK392.out 4; have hfz168_5 := bF BK392.out 5; obtain ⟨Ao169, co169, eo169⟩ := Kd.R_slice HO390.out; subst eo169) | (go_at_call 8; (with_reducible refine (u9wakes.calls kj28  t393 _ ?side1 A163.out).mono ?_); (case side1 => exact Glob.below HG.out (by repeat (first | (with_reducible first | exact HB.out | apply wA | apply pN | apply wD | refine wS ?_ GE352.out | refine wS ?_ GE353.out | refine wS ?_ GE392.out) | exact HB.out))); rintro e w170 ⟨rfl, hb⟩; have n0_ := A0_.mk (Kd.R_below (by (with_reducible repeat (first | apply Kd.R_alloc | apply Kd.R_drewN | apply Kd.R_drew)); exact (Kd.R_mono (Kd.R_far (p := ⟨gb392, 5, none⟩) (Kd.R_far (p := ⟨gb392, 4, none⟩) (Kd.R_far (p := ⟨gb392, 3, none⟩) (Kd.R_far (p := ⟨gb392, 2, none⟩) (Kd.R_far (p := ⟨gb392, 1, none⟩) (Kd.R_far (p := ⟨gb392, 0, none⟩) (Kd.R_types HO390.out BK392.out (by decide)) (fun _ hk => hk.2) (.int .i64 t383)) (fun _ hk => hk.2) (.string t384)) (fun _ hk => hk.2) (.bool t385)) (fun _ hk => hk.2) (.string t386)) (fun _ hk => hk.2) (.int .i64 t387)) (fun _ hk => hk.2) (.slice Ao169 t388.length co169)) (fun _ h_ => h_.1))) hb); have n1_ := A0_.mk (bB (g := gb352) (o := .cells #[.int .i64 a0_0, .string a0_1, .bool a0_2, .string a0_3, .int .i64 a0_4, .slice A0_5 l0_5.length c0_5] 24 (0, 0)) (by (with_reducible repeat (first | refine bN ?_ _ | refine bD ?_ | refine bA ?_ _)); refine bR ?_ NB352_392.out _; (with_reducible repeat (first | refine bN ?_ _ | refine bD ?_ | refine bA ?_ _)); refine bR ?_ NB352_392.out _; (with_reducible repeat (first | refine bN ?_ _ | refine bD ?_ | refine bA ?_ _)); refine bR ?_ NB352_392.out _; (with_reducible repeat (first | refine bN ?_ _ | refine bD ?_ | refine bA ?_ _)); refine bR ?_ NB352_392.out _; (with_reducible repeat (first | refine bN ?_ _ | refine bD ?_ | refine bA ?_ _)); refine bR ?_ NB352_392.out _; (with_reducible repeat (first | refine bN ?_ _ | refine bD ?_ | refine bA ?_ _)); refine bR ?_ NB352_392.out _; (with_reducible repeat (first | refine bN ?_ _ | refine bD ?_ | refine bA ?_ _)); exact BK352.out) hb); have n2_ := A0_.mk (bB (g := gb353) (o := .cells #[.int .i64 a1_0, .string a1_1, .bool a1_2, .string a1_3, .int .i64 a1_4, .slice A1_5 l1_5.length c1_5] 24 (0, 0)) (by (with_reducible repeat (first | refine bN ?_ _ | refine bD ?_ | refine bA ?_ _)); refine bR ?_ NB353_392.out _; (with_reducible repeat (first | refine bN ?_ _ | refine bD ?_ | refine bA ?_ _)); refine bR ?_ NB353_392.out _; (with_reducible repeat (first | refine bN ?_ _ | refine bD ?_ | refine bA ?_ _)); refine bR ?_ NB353_392.out _; (with_reducible repeat (first | refine bN ?_ _ | refine bD ?_ | refine bA ?_ _)); refine bR ?_ NB353_392.out _; (with_reducible repeat (first | refine bN ?_ _ | refine bD ?_ | refine bA ?_ _)); refine bR ?_ NB353_392.out _; (with_reducible repeat (first | refine bN ?_ _ | refine bD ?_ | refine bA ?_ _)); refine bR ?_ NB353_392.out _; (with_reducible repeat (first | refine bN ?_ _ | refine bD ?_ | refine bA ?_ _)); exact BK353.out) hb); have n3_ := A0_.mk (bB (g := gb392) (o := .cells #[.int .i64 t383, .string t384, .bool t385, .string t386, .int .i64 t387, .slice Ao169 t388.length co169] 24 (0, 0)) (by (with_reducible repeat (first | refine bN ?_ _ | refine bD ?_ | refine bA ?_ _)); refine bP (cs := #[.int .i64 t383, .string t384, .bool t385, .string t386, .int .i64 t387, .slice none 0 0]) ?_ 5 _ rfl; (with_reducible repeat (first | refine bN ?_ _ | refine bD ?_ | refine bA ?_ _)); refine bP (cs := #[.int .i64 t383, .string t384, .bool t385, .string t386, .int .i64 0, .slice none 0 0]) ?_ 4 _ rfl; (with_reducible repeat (first | refine bN ?_ _ | refine bD ?_ | refine bA ?_ _)); refine bP (cs := #[.int .i64 t383, .string t384, .bool t385, .string (⟨#[]⟩ : ByteArray), .int .i64 0, .slice none 0 0]) ?_ 3 _ rfl; (with_reducible repeat (first | refine bN ?_ _ | refine bD ?_ | refine bA ?_ _)); refine bP (cs := #[.int .i64 t383, .string t384, .bool false, .string (⟨#[]⟩ : ByteArray), .int .i64 0, .slice none 0 0]) ?_ 2 _ rfl; (with_reducible repeat (first | refine bN ?_ _ | refine bD ?_ | refine bA ?_ _)); refine bP (cs := #[.int .i64 t383, .string (⟨#[]⟩ : ByteArray), .bool false, .string (⟨#[]⟩ : ByteArray), .int .i64 0, .slice none 0 0]) ?_ 1 _ rfl; (with_reducible repeat (first | refine bN ?_ _ | refine bD ?_ | refine bA ?_ _)); refine bP (cs := #[.int .i64 0, .string (⟨#[]⟩ : ByteArray), .bool false, .string (⟨#[]⟩ : ByteArray), .int .i64 0, .slice none 0 0]) ?_ 0 _ rfl; (with_reducible repeat (first | refine bN ?_ _ | refine bD ?_ | refine bA ?_ _)); exact BK392.out) hb); have n4_ := A0_.mk (wT (by repeat (first | (with_reducible first | exact HB.out | apply wA | apply pN | apply wD | refine wS ?_ GE352.out | refine wS ?_ GE353.out | refine wS ?_ GE392.out) | exact HB.out)) hb); clear HO390; clear BK352; clear BK353; clear BK392; clear HB; have HO390 := n0_; have BK352 := n1_; have BK353 := n2_; have BK392 := n3_; have HB := n4_; clear n0_ n1_ n2_ n3_ n4_; (try clear hb); (try clear hb2); (try clear hk); (try clear hi)))
         go_ret
         exact ⟨by first | rfl | (simp [errW_none, errW_some] <;> rfl) | (simp [*, errW_none, errW_some] <;> rfl), by repeat (first | (with_reducible first | exact HB.out | apply wA | apply pN | apply wD | refine wS ?_ GE352.out | refine wS ?_ GE353.out | refine wS ?_ GE392.out) | exact HB.out)⟩
        ·rw [if_neg c162] at H
         exact absurd H (by simp)
       ·rw [if_neg c161] at H
        exact absurd H (by simp)

end Go.Proofs.YtklakmooaffjpaaDoor.PNod
