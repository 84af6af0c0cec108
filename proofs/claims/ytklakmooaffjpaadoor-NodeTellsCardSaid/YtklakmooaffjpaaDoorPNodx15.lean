-- Written by a program of this session for this seat. Not trusted: Lean checks it.
import Derived.Test.YtklakmooaffjpaaDoorSQ
import Derived.Test.YtklakmooaffjpaaDoorPNodx0
import Derived.Test.YtklakmooaffjpaaDoorPNodx1
import Derived.Test.YtklakmooaffjpaaDoorPNodx3
import Derived.Test.YtklakmooaffjpaaDoorPNodx4
import Derived.Test.YtklakmooaffjpaaDoorPNodx5
import Derived.Test.YtklakmooaffjpaaDoorPNodx6
import Derived.Test.YtklakmooaffjpaaDoorPNodx8
import Derived.Test.YtklakmooaffjpaaDoorPNodx10
import Derived.Test.YtklakmooaffjpaaDoorPNodx12
import Derived.Test.YtklakmooaffjpaaDoorPNodx14
namespace Go.Proofs.YtklakmooaffjpaaDoor.PNod
open Go.RowKit Go.Proofs.YtklakmooaffjpaaDoorW.PrintWords Go.Proofs.YtklakmooaffjpaaDoorW.PrintLast Go.Proofs.YtklakmooaffjpaaDoorW.PrintMore
attribute [local go_sem] max2_int min2_int max_two min_two max_three min_three max_four min_four   -- for this text's walks alone
set_option linter.unusedVariables false
set_option linter.unusedSimpArgs false
open Go.Proofs.YtklakmooaffjpaaDoor.HW Go.Proofs.YtklakmooaffjpaaDoor.DgsB

/-! ### u9NodeTells: function 3 -/
def u9NodeTells.j0 : Nat → ByteArray → Bool → Int → ByteArray → Bool → ByteArray → Int → List ByteArray → Option (Bool)
 | 0, _, _, _, _, _, _, _, _ => none
 | k + 1, x1, x19, x310000, x310001, x310002, x310003, x310004, x310005 => if x19 = true then ((u9wakes.f k).bind fun t311 => (some t311)) else ((some (([] : List ByteArray) : List ByteArray)).bind fun y312 => (if y312.length + x310005.length < 8796093022208 then ((some (y312 ++ x310005 : List ByteArray)).bind fun y315 => ((node_Encode.f k x310000 x310001 x310002 x310003 x310004 y315).bind fun bt319 => ((node_Hash.f k x310000 x310001 x310002 x310003 x310004 y315).bind fun bt321 => ((node_Decode.f k x1).bind fun bt323 => ((r9Decode.f k x1).bind fun bt333 => ((node_Good.f k x310000 x310001 x310002 x310003 x310004 y315).bind fun t343 => ((r9Good.f k x310000 x310001 x310002 x310003 x310004 x310005).bind fun t344 => (if (t343 == t344) = true then ((r9Encode.f k x310000 x310001 x310002 x310003 x310004 x310005).bind fun t345 => (if bt319.1.toList = t345.toList then ((r9Good.f k x310000 x310001 x310002 x310003 x310004 x310005).bind fun t346 => (if (bt319.2 == t346) = true then ((r9Hash.f k x310000 x310001 x310002 x310003 x310004 x310005).bind fun t347 => (if bt321.1.toList = t347.toList then ((r9Good.f k x310000 x310001 x310002 x310003 x310004 x310005).bind fun t348 => (if (bt321.2 == t348) = true then ((k9Item.f k bt323.1 bt323.2.1 bt323.2.2.1 bt323.2.2.2.1 bt323.2.2.2.2.1 bt323.2.2.2.2.2.1 bt333.1 bt333.2.1 bt333.2.2.1 bt333.2.2.2.1 bt333.2.2.2.2.1 bt333.2.2.2.2.2.1).bind fun t349 => (if t349 = true then (if (bt323.2.2.2.2.2.2 == bt333.2.2.2.2.2.2) = true then ((k9Item.f k x310000 x310001 x310002 x310003 x310004 y315 x310000 x310001 x310002 x310003 x310004 x310005).bind fun t350 => (if t350 = true then ((u9wakes.f k).bind fun t351 => (some t351)) else (none))) else (none)) else (none))) else (none))) else (none))) else (none))) else (none))) else (none))))))))) else (none)))
def u9NodeTells.f (k : Nat) (a0_0 : Int) (a0_1 : ByteArray) (a0_2 : Bool) (a0_3 : ByteArray) (a0_4 : Int) (l0_5 : List ByteArray) (a1 : ByteArray) : Option (Bool) := (u9Long.f k a0_0 a0_1 a0_2 a0_3 a0_4 l0_5).bind fun t310 => (if t310 = true then (u9NodeTells.j0 k a1 true a0_0 a0_1 a0_2 a0_3 a0_4 l0_5) else (u9NodeTells.j0 k a1 (decide ((a1.size : Int) > 2000)) a0_0 a0_1 a0_2 a0_3 a0_4 l0_5))
def u9NodeTells.T3 : Bool × List (List Nat × List Nat) := (true, [([], []), ([0], [0]), ([], []), ([2], [2]), ([], []), ([4], [4]), ([], []), ([6], [6]), ([], []), ([8], [8]), ([], []), ([], []), ([11], [11]), ([10, 12], [10, 12]), ([1, 3, 5, 7, 9, 13], [1, 3, 5, 7, 9, 13]), ([], []), ([15, 14, 13, 0, 1, 2, 3, 4, 5, 6, 7, 8, 9, 10, 11, 12, 13, 14, 15], [14, 15])])
def u9NodeTells.B3 : List Nat := [0, 1, 0, 4, 0, 16, 0, 64, 0, 256, 0, 0, 2048, 7168, 16383, 0, 65535]
theorem u9NodeTells.tab3 : rtab .any (opsOf Tryd.f3 3) = u9NodeTells.T3 := by kernel_rfl
theorem u9NodeTells.bits3 : waitsOk u9NodeTells.T3.2 u9NodeTells.B3 = true := by kernel_rfl
def u9NodeTells.T8 : Bool × List (List Nat × List Nat) := (true, [([], []), ([0], [0]), ([], []), ([2, 1], [2]), ([1, 3], [1, 3]), ([4, 3], [4]), ([5], [5]), ([5], [5]), ([7, 5, 5], [5, 7]), ([6, 8, 5], [5, 6, 8]), ([5, 9], [5, 9]), ([10, 8], [10]), ([11], [11]), ([11], [11]), ([13, 11, 11], [11, 13]), ([12, 14, 11], [11, 12, 14]), ([11, 15], [11, 15]), ([16, 14], [16]), ([17], [17]), ([17], [17]), ([19, 17, 17], [17, 19]), ([18, 20, 17], [17, 18, 20]), ([17, 21], [17, 21]), ([22, 20], [22]), ([23], [23]), ([23], [23]), ([25, 23, 23], [23, 25]), ([24, 26, 23], [23, 24, 26]), ([23, 27], [23, 27]), ([28, 26], [28]), ([29], [29]), ([29], [29]), ([31, 29], [29, 31]), ([30, 32, 29, 29], [29, 30, 32]), ([29, 33], [29, 33]), ([34, 33], [34]), ([35], [35]), ([35], [35]), ([37, 35], [35, 37]), ([36, 38, 35], [35, 36, 38]), ([35, 39], [35, 39]), ([40, 35], [40]), ([41], [41]), ([41], [41]), ([42, 43, 41, 41], [41, 42, 43]), ([41, 44], [41, 44]), ([45, 44], [45]), ([46, 46], [46]), ([46, 47], [46, 47]), ([48, 47, 0, 1, 2, 3, 4, 5, 6, 7, 8, 9, 10, 11, 12, 13, 14, 15, 16, 17, 18, 19, 20, 21, 22, 23, 24, 25, 26, 27, 28, 29, 30, 31, 32, 33, 34, 35, 36, 37, 38, 39, 40, 41, 42, 43, 44, 45, 46, 47, 48], [48])])
def u9NodeTells.B8 : List Nat := [0, 1, 0, 7, 15, 31, 63, 63, 191, 511, 1023, 2047, 4095, 4095, 12287, 32767, 65535, 131071, 262143, 262143, 786431, 2097151, 4194303, 8388607, 16777215, 16777215, 50331647, 134217727, 268435455, 536870911, 1073741823, 1073741823, 3221225471, 8589934591, 17179869183, 34359738367, 68719476735, 68719476735, 206158430207, 549755813887, 1099511627775, 2199023255551, 4398046511103, 4398046511103, 17592186044415, 35184372088831, 70368744177663, 140737488355327, 281474976710655, 562949953421311]
theorem u9NodeTells.tab8 : rtab .any (opsOf Tryd.f3 8) = u9NodeTells.T8 := by kernel_rfl
theorem u9NodeTells.bits8 : waitsOk u9NodeTells.T8.2 u9NodeTells.B8 = true := by kernel_rfl
set_option maxHeartbeats 8000000 in
set_option maxRecDepth 100000 in
theorem u9NodeTells.calls (k : Nat) (a0_0 : Int) (a0_1 : ByteArray) (a0_2 : Bool) (a0_3 : ByteArray) (a0_4 : Int) (A0_5 : Option Addr) (c0_5 : Nat) (l0_5 : List ByteArray) (a1 : ByteArray) (r : Bool) (w : World) (hr0_5 : Kd.C Kd.string w A0_5 l0_5.length l0_5) (hc0_5 : l0_5.length ≤ c0_5) (hG : Glob w) (h : u9NodeTells.f k a0_0 a0_1 a0_2 a0_3 a0_4 l0_5 a1 = some r) :
  Calls Tryd.prog 3 #[.agg #[.int .i64 a0_0, .string a0_1, .bool a0_2, .string a0_3, .int .i64 a0_4, .slice A0_5 l0_5.length c0_5], .string a1] w fun e w' => e = .returned (.bool r) ∧ Below w.heap.size w w' := by
 have hu24 := Tryd.underlying24
 have hu32 := Tryd.underlying32
 have HR0_5 := A0_.mk hr0_5
 have HC0_5 := A0_.mk hc0_5
 clear hr0_5 hc0_5
 have HG := A0_.mk hG
 clear hG
 have HB := A0_.mk (Below.refl w.heap.size w)
 have H : ((u9Long.f k a0_0 a0_1 a0_2 a0_3 a0_4 l0_5).bind fun t310 => (if t310 = true then (u9NodeTells.j0 k a1 true a0_0 a0_1 a0_2 a0_3 a0_4 l0_5) else (u9NodeTells.j0 k a1 (decide ((a1.size : Int) > 2000)) a0_0 a0_1 a0_2 a0_3 a0_4 l0_5))) = some r := h
 clear h
 have HC3 := A0_.mk H
 clear H
 go_enter Tryd.func3, Tryd.ntmps3
 go_upto_region 1 with (first | ((with_reducible refine gD (N := 2) rfl ?_); (try (refine gG (by rfl) ?_; dsimp only)); refine xE ?hg (N := 2) ?hd (cs := #[.int .i64 a0_0, .string a0_1, .bool a0_2, .string a0_3, .int .i64 a0_4, .slice A0_5 l0_5.length c0_5]) (t := 24) ?hr ?_; (case hd => rfl); (case hg => rfl); (case hr => first | (go_simp; done) | (go_simp; rfl)); intro gb309 hg w4 hbox hb; have BK309 := A0_.mk (hbox); have GW309 := A0_.mk ((by rw [hg]; exact (wZ SQ.bw) : w.heap.size ≤ gb309)); have GE309 := A0_.mk ((by rw [hg]; exact (wZ SQ.bw) : w.heap.size ≤ gb309)); replace HB := A0_.mk (wT SQ.bw hb); clear hb hbox hg))
 (try simp only [Act.put, List.setIfInBounds_toArray, List.set_cons_zero, List.set_cons_succ])
 go_cut [19] (fun v19 wc => ∃ (kq : Nat) (x19_2 : Bool), v19 = .bool x19_2 ∧ A0_ (u9NodeTells.j0 kq a1 x19_2 a0_0 a0_1 a0_2 a0_3 a0_4 l0_5 = some r) ∧ A0_ (kq ≤ k) ∧ A0_ (wc.heap[gb309]? = some (.cells #[.int .i64 a0_0, .string a0_1, .bool a0_2, .string a0_3, .int .i64 a0_4, (.slice A0_5 l0_5.length c0_5)] 24 (0, 0))) ∧ A0_ (Below w.heap.size w wc))
 case first =>
  have H := HC3.out
  clear HC3
  replace H := Option.bind_eq_some_iff.mp H
  obtain ⟨t310, A50, H⟩ := H
  try dsimp only at H
  have A5 := A0_.mk A50
  clear A50
  by_cases c6 : t310 = true
  ·subst c6
   rw [if_pos rfl] at H
   have H' := A0_.mk H
   clear H
   obtain ⟨hcz7_0, hcz7_1, hcz7_2, hcz7_3, hcz7_4, hcz7_5, hfz7_0, hfz7_1, hfz7_2, hfz7_3, hfz7_4, hfz7_5⟩ := SQ.cs6 BK309.out
   go_wp2_with (first | ((with_reducible refine gC (f := 7) rfl ?_); refine gL (some 14) rfl rfl Tryd.func7 (by kernel_rfl) rfl #[.agg #[.int .i64 a0_0, .string a0_1, .bool a0_2, .string a0_3, .int .i64 a0_4, .slice A0_5 l0_5.length c0_5]] rfl SQ.sm ?_; (with_reducible refine (u9Long.calls k a0_0 a0_1 a0_2 a0_3 a0_4 _ _ l0_5 true _ ?side1 ?side2 A5.out).mono ?_); (case side1 => repeat (first | exact (Kd.C_below HR0_5.out HB.out) | (with_reducible refine Kd.C_alloc ?_ _) | (with_reducible refine Kd.C_drewN ?_ _) | (with_reducible refine Kd.C_drew ?_))); (case side2 => exact HC0_5.out); rintro e w8 ⟨rfl, hb⟩; refine ⟨_, rfl, ?_⟩; replace BK309 := A0_.mk (bB (g := gb309) SQ.kw hb); replace HB := A0_.mk (wT SQ.bw hb); clear hb))
   go_meet
   case rel => exact ⟨_, (true), (by first | rfl | (simp; done) | (simp [*]; done)), H', ⟨by first | omega | exact Nat.le_refl _⟩, ⟨SQ.kw⟩, ⟨SQ.bw⟩⟩
  ·replace c6 := Bool.eq_false_iff.mpr c6
   subst c6
   rw [if_neg (show ¬ (false = true) by decide)] at H
   have H' := A0_.mk H
   clear H
   obtain ⟨hcz9_0, hcz9_1, hcz9_2, hcz9_3, hcz9_4, hcz9_5, hfz9_0, hfz9_1, hfz9_2, hfz9_3, hfz9_4, hfz9_5⟩ := SQ.cs6 BK309.out
   go_wp2_with (first | ((with_reducible refine gC (f := 7) rfl ?_); refine gL (some 14) rfl rfl Tryd.func7 (by kernel_rfl) rfl #[.agg #[.int .i64 a0_0, .string a0_1, .bool a0_2, .string a0_3, .int .i64 a0_4, .slice A0_5 l0_5.length c0_5]] rfl SQ.sm ?_; (with_reducible refine (u9Long.calls k a0_0 a0_1 a0_2 a0_3 a0_4 _ _ l0_5 false _ ?side1 ?side2 A5.out).mono ?_); (case side1 => repeat (first | exact (Kd.C_below HR0_5.out HB.out) | (with_reducible refine Kd.C_alloc ?_ _) | (with_reducible refine Kd.C_drewN ?_ _) | (with_reducible refine Kd.C_drew ?_))); (case side2 => exact HC0_5.out); rintro e w10 ⟨rfl, hb⟩; refine ⟨_, rfl, ?_⟩; replace BK309 := A0_.mk (bB (g := gb309) SQ.kw hb); replace HB := A0_.mk (wT SQ.bw hb); clear hb))
   go_meet
   case rel => exact ⟨_, (decide ((a1.size : Int) > 2000)), (by first | rfl | (simp; done) | (simp [*]; done)), H', ⟨by first | omega | exact Nat.le_refl _⟩, ⟨SQ.kw⟩, ⟨SQ.bw⟩⟩
 case rest =>
  clear HC3
  try clear p2
  try clear c3
  try clear c6
  try clear c7
  try clear hcz7_0
  try clear hcz7_1
  try clear hcz7_2
  try clear hcz7_3
  try clear hcz7_4
  try clear hcz7_5
  try clear hcz9_0
  try clear hcz9_1
  try clear hcz9_2
  try clear hcz9_3
  try clear hcz9_4
  try clear hcz9_5
  try clear hfz7_0
  try clear hfz7_1
  try clear hfz7_2
  try clear hfz7_3
  try clear hfz7_4
  try clear hfz7_5
  try clear hfz9_0
  try clear hfz9_1
  try clear hfz9_2
  try clear hfz9_3
  try clear hfz9_4
  try clear hfz9_5
  obtain ⟨kq, x19_2, rfl, HA, HJ2, BK309, HB⟩ := hcut
  cases kq with
  | zero => exact absurd HA.out (by simp [u9NodeTells.j0])
  | succ kj2 =>
   have H := HA.out
   clear HA
   simp only [u9NodeTells.j0] at H
   by_cases c11 : x19_2 = true
   ·subst c11
    rw [if_pos rfl] at H
    replace H := Option.bind_eq_some_iff.mp H
    obtain ⟨t311, A120, H⟩ := H
    try dsimp only at H
    have A12 := A0_.mk A120
    clear A120
    obtain rfl := Option.some.inj H
    go_wp2_with (first | ((with_reducible refine gC (f := 8) rfl ?_); refine gL (some 20) rfl rfl Tryd.func8 (by kernel_rfl) rfl #[] rfl SQ.sm ?_; (with_reducible refine (u9wakes.calls kj2  t311 _ ?side1 A12.out).mono ?_); (case side1 => exact Glob.below HG.out SQ.bw); rintro e w13 ⟨rfl, hb⟩; refine ⟨_, rfl, ?_⟩; replace BK309 := A0_.mk (bB (g := gb309) SQ.kw hb); replace HB := A0_.mk (wT SQ.bw hb); clear hb))
    go_ret
    exact ⟨SQ.er, SQ.bw⟩
   ·replace c11 := Bool.eq_false_iff.mpr c11
    subst c11
    rw [if_neg (show ¬ (false = true) by decide)] at H
    obtain ⟨y312, hy312⟩ : ∃ y_ : List ByteArray, y_ = (([] : List ByteArray)) := ⟨_, rfl⟩
    replace H : (if y312.length + l0_5.length < 8796093022208 then ((some (y312 ++ l0_5 : List ByteArray)).bind fun y315 => ((node_Encode.f kj2 a0_0 a0_1 a0_2 a0_3 a0_4 y315).bind fun bt319 => ((node_Hash.f kj2 a0_0 a0_1 a0_2 a0_3 a0_4 y315).bind fun bt321 => ((node_Decode.f kj2 a1).bind fun bt323 => ((r9Decode.f kj2 a1).bind fun bt333 => ((node_Good.f kj2 a0_0 a0_1 a0_2 a0_3 a0_4 y315).bind fun t343 => ((r9Good.f kj2 a0_0 a0_1 a0_2 a0_3 a0_4 l0_5).bind fun t344 => (if (t343 == t344) = true then ((r9Encode.f kj2 a0_0 a0_1 a0_2 a0_3 a0_4 l0_5).bind fun t345 => (if bt319.1.toList = t345.toList then ((r9Good.f kj2 a0_0 a0_1 a0_2 a0_3 a0_4 l0_5).bind fun t346 => (if (bt319.2 == t346) = true then ((r9Hash.f kj2 a0_0 a0_1 a0_2 a0_3 a0_4 l0_5).bind fun t347 => (if bt321.1.toList = t347.toList then ((r9Good.f kj2 a0_0 a0_1 a0_2 a0_3 a0_4 l0_5).bind fun t348 => (if (bt321.2 == t348) = true then ((k9Item.f kj2 bt323.1 bt323.2.1 bt323.2.2.1 bt323.2.2.2.1 bt323.2.2.2.2.1 bt323.2.2.2.2.2.1 bt333.1 bt333.2.1 bt333.2.2.1 bt333.2.2.2.1 bt333.2.2.2.2.1 bt333.2.2.2.2.2.1).bind fun t349 => (if t349 = true then (if (bt323.2.2.2.2.2.2 == bt333.2.2.2.2.2.2) = true then ((k9Item.f kj2 a0_0 a0_1 a0_2 a0_3 a0_4 y315 a0_0 a0_1 a0_2 a0_3 a0_4 l0_5).bind fun t350 => (if t350 = true then ((u9wakes.f kj2).bind fun t351 => (some t351)) else (none))) else (none)) else (none))) else (none))) else (none))) else (none))) else (none))) else (none))))))))) else (none)) = some r := by first | (rw [hy312]; with_reducible exact H) | (have H2_ := (Option.bind_some _ _).symm.trans H; rw [hy312]; with_reducible exact H2_) | (have H2_ := (Option.bind_some _ _).symm.trans H; with_reducible exact H2_) | with_reducible exact H | (rw [hy312]; exact H) | exact H
    have Ny312 := A0_.mk hy312
    clear hy312
    by_cases c14 : y312.length + l0_5.length < 8796093022208
    rotate_left
    ·rw [if_neg c14] at H
     exact absurd H (by simp)
    rw [if_pos c14] at H
    have LMc14 := A0_.mk c14
    clear c14
    obtain ⟨y315, hy315⟩ : ∃ y_ : List ByteArray, y_ = (y312 ++ l0_5) := ⟨_, rfl⟩
    replace H : ((node_Encode.f kj2 a0_0 a0_1 a0_2 a0_3 a0_4 y315).bind fun bt319 => ((node_Hash.f kj2 a0_0 a0_1 a0_2 a0_3 a0_4 y315).bind fun bt321 => ((node_Decode.f kj2 a1).bind fun bt323 => ((r9Decode.f kj2 a1).bind fun bt333 => ((node_Good.f kj2 a0_0 a0_1 a0_2 a0_3 a0_4 y315).bind fun t343 => ((r9Good.f kj2 a0_0 a0_1 a0_2 a0_3 a0_4 l0_5).bind fun t344 => (if (t343 == t344) = true then ((r9Encode.f kj2 a0_0 a0_1 a0_2 a0_3 a0_4 l0_5).bind fun t345 => (if bt319.1.toList = t345.toList then ((r9Good.f kj2 a0_0 a0_1 a0_2 a0_3 a0_4 l0_5).bind fun t346 => (if (bt319.2 == t346) = true then ((r9Hash.f kj2 a0_0 a0_1 a0_2 a0_3 a0_4 l0_5).bind fun t347 => (if bt321.1.toList = t347.toList then ((r9Good.f kj2 a0_0 a0_1 a0_2 a0_3 a0_4 l0_5).bind fun t348 => (if (bt321.2 == t348) = true then ((k9Item.f kj2 bt323.1 bt323.2.1 bt323.2.2.1 bt323.2.2.2.1 bt323.2.2.2.2.1 bt323.2.2.2.2.2.1 bt333.1 bt333.2.1 bt333.2.2.1 bt333.2.2.2.1 bt333.2.2.2.2.1 bt333.2.2.2.2.2.1).bind fun t349 => (if t349 = true then (if (bt323.2.2.2.2.2.2 == bt333.2.2.2.2.2.2) = true then ((k9Item.f kj2 a0_0 a0_1 a0_2 a0_3 a0_4 y315 a0_0 a0_1 a0_2 a0_3 a0_4 l0_5).bind fun t350 => (if t350 = true then ((u9wakes.f kj2).bind fun t351 => (some t351)) else (none))) else (none)) else (none))) else (none))) else (none))) else (none))) else (none))) else (none)))))))) = some r := by first | (rw [hy315]; with_reducible exact H) | (have H2_ := (Option.bind_some _ _).symm.trans H; rw [hy315]; with_reducible exact H2_) | (have H2_ := (Option.bind_some _ _).symm.trans H; with_reducible exact H2_) | with_reducible exact H | (rw [hy315]; exact H) | exact H
    have Ny315 := A0_.mk hy315
    clear hy315
    replace H := Option.bind_eq_some_iff.mp H
    obtain ⟨⟨t319, t320⟩, A150, H⟩ := H
    try dsimp only at H
    have A15 := A0_.mk A150
    clear A150
    replace H := Option.bind_eq_some_iff.mp H
    obtain ⟨⟨t321, t322⟩, A160, H⟩ := H
    try dsimp only at H
    have A16 := A0_.mk A160
    clear A160
    replace H := Option.bind_eq_some_iff.mp H
    obtain ⟨⟨t323, t324, t325, t326, t327, t328, t331⟩, A170, H⟩ := H
    try dsimp only at H
    have A17 := A0_.mk A170
    clear A170
    replace H := Option.bind_eq_some_iff.mp H
    obtain ⟨⟨t333, t334, t335, t336, t337, t338, t341⟩, A180, H⟩ := H
    try dsimp only at H
    have A18 := A0_.mk A180
    clear A180
    replace H := Option.bind_eq_some_iff.mp H
    obtain ⟨t343, A190, H⟩ := H
    try dsimp only at H
    have A19 := A0_.mk A190
    clear A190
    replace H := Option.bind_eq_some_iff.mp H
    obtain ⟨t344, A200, H⟩ := H
    try dsimp only at H
    have A20 := A0_.mk A200
    clear A200
    by_cases c21 : (t343 == t344) = true
    rotate_left
    ·rw [if_neg c21] at H
     exact absurd H (by simp)
    rw [if_pos c21] at H
    have c21b0 : (t343 == t344) = true := c21
    (try (have c21b1 : decide (t343 = t344) = true := by simpa using c21))
    (try (have c21b2 : (t343 == t344) = true := by simpa using c21))
    clear c21
    replace H := Option.bind_eq_some_iff.mp H
    obtain ⟨t345, A220, H⟩ := H
    try dsimp only at H
    have A22 := A0_.mk A220
    clear A220
    by_cases c23 : t319.toList = t345.toList
    rotate_left
    ·rw [if_neg c23] at H
     exact absurd H (by simp)
    rw [if_pos c23] at H
    have c23b0 : (t319.toList == t345.toList) = true := beq_iff_eq.mpr c23
    have c23b1 : (t319.toList != t345.toList) = false := bne_eq_false_iff_eq.mpr c23
    clear c23
    replace H := Option.bind_eq_some_iff.mp H
    obtain ⟨t346, A240, H⟩ := H
    try dsimp only at H
    have A24 := A0_.mk A240
    clear A240
    by_cases c25 : (t320 == t346) = true
    rotate_left
    ·rw [if_neg c25] at H
     exact absurd H (by simp)
    rw [if_pos c25] at H
    have c25b0 : (t320 == t346) = true := c25
    (try (have c25b1 : decide (t320 = t346) = true := by simpa using c25))
    (try (have c25b2 : (t320 == t346) = true := by simpa using c25))
    clear c25
    replace H := Option.bind_eq_some_iff.mp H
    obtain ⟨t347, A260, H⟩ := H
    try dsimp only at H
    have A26 := A0_.mk A260
    clear A260
    by_cases c27 : t321.toList = t347.toList
    rotate_left
    ·rw [if_neg c27] at H
     exact absurd H (by simp)
    rw [if_pos c27] at H
    have c27b0 : (t321.toList == t347.toList) = true := beq_iff_eq.mpr c27
    have c27b1 : (t321.toList != t347.toList) = false := bne_eq_false_iff_eq.mpr c27
    clear c27
    replace H := Option.bind_eq_some_iff.mp H
    obtain ⟨t348, A280, H⟩ := H
    try dsimp only at H
    have A28 := A0_.mk A280
    clear A280
    by_cases c29 : (t322 == t348) = true
    rotate_left
    ·rw [if_neg c29] at H
     exact absurd H (by simp)
    rw [if_pos c29] at H
    have c29b0 : (t322 == t348) = true := c29
    (try (have c29b1 : decide (t322 = t348) = true := by simpa using c29))
    (try (have c29b2 : (t322 == t348) = true := by simpa using c29))
    clear c29
    replace H := Option.bind_eq_some_iff.mp H
    obtain ⟨t349, A300, H⟩ := H
    try dsimp only at H
    have A30 := A0_.mk A300
    clear A300
    by_cases c31 : t349 = true
    rotate_left
    ·replace c31 := Bool.eq_false_iff.mpr c31
     subst c31
     have H1 : (none) = some r := by rw [if_neg (show ¬ (false = true) by decide)] at H; exact H
     exact absurd H1 (by simp)
    subst c31
    rw [if_pos rfl] at H
    by_cases c32 : (t331 == t341) = true
    rotate_left
    ·rw [if_neg c32] at H
     exact absurd H (by simp)
    rw [if_pos c32] at H
    have c32b0 : (t331 == t341) = true := c32
    (try (have c32b1 : decide (t331 = t341) = true := by simpa using c32))
    (try (have c32b2 : (t331 == t341) = true := by simpa using c32))
    clear c32
    replace H := Option.bind_eq_some_iff.mp H
    obtain ⟨t350, A330, H⟩ := H
    try dsimp only at H
    have A33 := A0_.mk A330
    clear A330
    by_cases c34 : t350 = true
    rotate_left
    ·replace c34 := Bool.eq_false_iff.mpr c34
     subst c34
     have H1 : (none) = some r := by rw [if_neg (show ¬ (false = true) by decide)] at H; exact H
     exact absurd H1 (by simp)
    subst c34
    rw [if_pos rfl] at H
    replace H := Option.bind_eq_some_iff.mp H
    obtain ⟨t351, A350, H⟩ := H
    try dsimp only at H
    have A35 := A0_.mk A350
    clear A350
    obtain rfl := Option.some.inj H
    try go_wp2
    replace BK309 := A0_.mk (bD BK309.out)
    replace HB := A0_.mk (wD HB.out)
    refine start_ (n := 17) (S := fun w' => w'.cell? ⟨gb309, 0, none⟩ = some (.int .i64 a0_0) ∧ w'.cell? ⟨gb309, 1, none⟩ = some (.string a0_1) ∧ w'.cell? ⟨gb309, 2, none⟩ = some (.bool a0_2) ∧ w'.cell? ⟨gb309, 3, none⟩ = some (.string a0_3) ∧ w'.cell? ⟨gb309, 4, none⟩ = some (.int .i64 a0_4) ∧ w'.cell? ⟨gb309, 5, none⟩ = some (.slice A0_5 l0_5.length c0_5)) (ds := []) #[false, false, false, false, false, false, false, false, false, false, false, false, false, false, false, false, false] (by kernel_rfl) rfl rfl ⟨(bC BK309.out 0).trans rfl, (bC BK309.out 1).trans rfl, (bC BK309.out 2).trans rfl, (bC BK309.out 3).trans rfl, (bC BK309.out 4).trans rfl, (bC BK309.out 5).trans rfl⟩ (fun hHeld => ?_); refine with_tabW u9NodeTells.tab3 u9NodeTells.bits3 (fun HT_ HW_ => ?_)
    generalize wc.drew = w36 at BK309 HB hHeld ⊢
    refine pure_ (i := 0) (N := some 21) (v := ?_) (a' := ?_) #[true, false, false, false, false, false, false, false, false, false, false, false, false, false, false, false, false] rfl rfl (any_of HT_.out (by kernel_rfl)) (fun _ _ _ h => h) (Or.inl ⟨by rfl, ?_⟩) ?_ ?_
    rotate_left
    ·intro w'
     go_simp
     with_reducible rfl
    rotate_left
    ·simp only [Act.put, List.setIfInBounds_toArray, List.set_cons_zero, List.set_cons_succ, i64_w, i32_w]
     rfl
    refine pure_ (i := 2) (N := some 23) (v := ?_) (a' := ?_) #[true, false, true, false, false, false, false, false, false, false, false, false, false, false, false, false, false] rfl rfl (any_of HT_.out (by kernel_rfl)) (fun _ _ _ h => h) (Or.inl ⟨by rfl, ?_⟩) ?_ ?_
    rotate_left
    ·intro w'
     go_simp
     with_reducible rfl
    rotate_left
    ·simp only [Act.put, List.setIfInBounds_toArray, List.set_cons_zero, List.set_cons_succ, i64_w, i32_w]
     rfl
    refine pure_ (i := 4) (N := some 25) (v := ?_) (a' := ?_) #[true, false, true, false, true, false, false, false, false, false, false, false, false, false, false, false, false] rfl rfl (any_of HT_.out (by kernel_rfl)) (fun _ _ _ h => h) (Or.inl ⟨by rfl, ?_⟩) ?_ ?_
    rotate_left
    ·intro w'
     go_simp
     with_reducible rfl
    rotate_left
    ·simp only [Act.put, List.setIfInBounds_toArray, List.set_cons_zero, List.set_cons_succ, i64_w, i32_w]
     rfl
    refine pure_ (i := 6) (N := some 27) (v := ?_) (a' := ?_) #[true, false, true, false, true, false, true, false, false, false, false, false, false, false, false, false, false] rfl rfl (any_of HT_.out (by kernel_rfl)) (fun _ _ _ h => h) (Or.inl ⟨by rfl, ?_⟩) ?_ ?_
    rotate_left
    ·intro w'
     go_simp
     with_reducible rfl
    rotate_left
    ·simp only [Act.put, List.setIfInBounds_toArray, List.set_cons_zero, List.set_cons_succ, i64_w, i32_w]
     rfl
    refine pure_ (i := 8) (N := some 29) (v := ?_) (a' := ?_) #[true, false, true, false, true, false, true, false, true, false, false, false, false, false, false, false, false] rfl rfl (any_of HT_.out (by kernel_rfl)) (fun _ _ _ h => h) (Or.inl ⟨by rfl, ?_⟩) ?_ ?_
    rotate_left
    ·intro w'
     go_simp
     with_reducible rfl
    rotate_left
    ·simp only [Act.put, List.setIfInBounds_toArray, List.set_cons_zero, List.set_cons_succ, i64_w, i32_w]
     rfl
    refine pure_ (i := 11) (N := some 32) (v := ?_) (a' := ?_) #[true, false, true, false, true, false, true, false, true, false, false, true, false, false, false, false, false] rfl rfl (any_of HT_.out (by kernel_rfl)) (fun _ _ _ h => h) (Or.inl ⟨by rfl, ?_⟩) ?_ ?_
    rotate_left
    ·intro w'
     go_simp
     with_reducible rfl
    rotate_left
    ·simp only [Act.put, List.setIfInBounds_toArray, List.set_cons_zero, List.set_cons_succ, i64_w, i32_w]
     rfl
    refine take_ (i := 1) (N := some 22) (v := ?_) (a' := ?_) #[true, true, true, false, true, false, true, false, true, false, false, true, false, false, false, false, false] rfl rfl (take_ofW HT_.out HW_.out (by kernel_rfl)) (fun _ _ _ h => h) (Or.inl ⟨by rfl, ?_⟩) hHeld ?_ ?_
    rotate_left
    ·rintro w' ⟨s0, s1, s2, s3, s4, s5⟩
     go_simp
     with_reducible rfl
    rotate_left
    ·simp only [Act.put, List.setIfInBounds_toArray, List.set_cons_zero, List.set_cons_succ, i64_w, i32_w]
     rfl
    refine take_ (i := 3) (N := some 24) (v := ?_) (a' := ?_) #[true, true, true, true, true, false, true, false, true, false, false, true, false, false, false, false, false] rfl rfl (take_ofW HT_.out HW_.out (by kernel_rfl)) (fun _ _ _ h => h) (Or.inl ⟨by rfl, ?_⟩) hHeld ?_ ?_
    rotate_left
    ·rintro w' ⟨s0, s1, s2, s3, s4, s5⟩
     go_simp
     with_reducible rfl
    rotate_left
    ·simp only [Act.put, List.setIfInBounds_toArray, List.set_cons_zero, List.set_cons_succ, i64_w, i32_w]
     rfl
    refine take_ (i := 5) (N := some 26) (v := ?_) (a' := ?_) #[true, true, true, true, true, true, true, false, true, false, false, true, false, false, false, false, false] rfl rfl (take_ofW HT_.out HW_.out (by kernel_rfl)) (fun _ _ _ h => h) (Or.inl ⟨by rfl, ?_⟩) hHeld ?_ ?_
    rotate_left
    ·rintro w' ⟨s0, s1, s2, s3, s4, s5⟩
     go_simp
     with_reducible rfl
    rotate_left
    ·simp only [Act.put, List.setIfInBounds_toArray, List.set_cons_zero, List.set_cons_succ, i64_w, i32_w]
     rfl
    refine take_ (i := 7) (N := some 28) (v := ?_) (a' := ?_) #[true, true, true, true, true, true, true, true, true, false, false, true, false, false, false, false, false] rfl rfl (take_ofW HT_.out HW_.out (by kernel_rfl)) (fun _ _ _ h => h) (Or.inl ⟨by rfl, ?_⟩) hHeld ?_ ?_
    rotate_left
    ·rintro w' ⟨s0, s1, s2, s3, s4, s5⟩
     go_simp
     with_reducible rfl
    rotate_left
    ·simp only [Act.put, List.setIfInBounds_toArray, List.set_cons_zero, List.set_cons_succ, i64_w, i32_w]
     rfl
    refine take_ (i := 9) (N := some 30) (v := ?_) (a' := ?_) #[true, true, true, true, true, true, true, true, true, true, false, true, false, false, false, false, false] rfl rfl (take_ofW HT_.out HW_.out (by kernel_rfl)) (fun _ _ _ h => h) (Or.inl ⟨by rfl, ?_⟩) hHeld ?_ ?_
    rotate_left
    ·rintro w' ⟨s0, s1, s2, s3, s4, s5⟩
     go_simp
     with_reducible rfl
    rotate_left
    ·simp only [Act.put, List.setIfInBounds_toArray, List.set_cons_zero, List.set_cons_succ, i64_w, i32_w]
     rfl
    refine take_ (i := 12) (N := some 33) (v := ?_) (a' := ?_) #[true, true, true, true, true, true, true, true, true, true, false, true, true, false, false, false, false] rfl rfl (take_ofW HT_.out HW_.out (by kernel_rfl)) (fun _ _ _ h => h) (Or.inl ⟨by rfl, ?_⟩) hHeld ?_ ?_
    rotate_left
    ·rintro w' ⟨s0, s1, s2, s3, s4, s5⟩
     go_simp
     with_reducible rfl
    rotate_left
    ·simp only [Act.put, List.setIfInBounds_toArray, List.set_cons_zero, List.set_cons_succ, i64_w, i32_w]
     rfl
    refine join_ (σ := Value × Value × Nat) 1 #[true, true, true, true, true, true, true, true, true, true, true, true, true, true, true, true, false] (fun s_ => [(31, s_.1), (34, s_.2.1), (5, .pointer (some ⟨s_.2.2, 0, none⟩)), (35, .agg #[.int .i64 a0_0, .string a0_1, .bool a0_2, .string a0_3, .int .i64 a0_4, s_.2.1])]) (fun s_ w' => (w'.cell? ⟨gb309, 0, none⟩ = some (.int .i64 a0_0) ∧ w'.cell? ⟨gb309, 1, none⟩ = some (.string a0_1) ∧ w'.cell? ⟨gb309, 2, none⟩ = some (.bool a0_2) ∧ w'.cell? ⟨gb309, 3, none⟩ = some (.string a0_3) ∧ w'.cell? ⟨gb309, 4, none⟩ = some (.int .i64 a0_4) ∧ w'.cell? ⟨gb309, 5, none⟩ = some (.slice A0_5 l0_5.length c0_5)) ∧ (Kd.R Kd.string 9 w' w.heap.size (fun _ => True) s_.2.1 y315) ∧ (w'.heap[gb309]? = some (.cells #[.int .i64 a0_0, .string a0_1, .bool a0_2, .string a0_3, .int .i64 a0_4, .slice A0_5 l0_5.length c0_5] 24 (0, 0))) ∧ (w'.heap[s_.2.2]? = some (.cells #[.int .i64 0, .string (⟨#[]⟩ : ByteArray), .bool false, .string (⟨#[]⟩ : ByteArray), .int .i64 0, .slice none 0 0] 24 (0, 0))) ∧ (w.heap.size ≤ s_.2.2) ∧ (w.heap.size ≤ s_.2.2) ∧ (gb309 ≠ s_.2.2) ∧ (s_.2.2 ≠ gb309) ∧ (Below w.heap.size w w')) ?_ ?_
    rotate_left
    ·intro hCont
     refine two_ (i := 10) (j := 15) (Ni := some 31) (Nj := some 5) #[true, true, true, true, true, true, true, true, true, true, true, true, true, false, false, false, false] #[true, true, true, true, true, true, true, true, true, true, false, true, true, false, false, true, false] rfl rfl rfl rfl (two_of HT_.out (by kernel_rfl)) (by decide) (by decide) (fun K hK => ?_) (fun K hK => ?_)
     ·skip
      refine Kd.R_lit_step Kd.string _ 9 ?hg (N := 31) ?hd (xs := ([] : List ByteArray)) (inner := []) (ok := fun _ => True) (okp := fun _ => True) ?hr ?hp (fun _ hk => hk) trivial (Below.refl _ _) (Nat.le_refl _) (by simp) ?_; (case hd => rfl); (case hg => rfl); (case hr => first | (go_simp; done) | (go_simp; rfl)); (case hp => exact (Reps.none _ _))
      intro v313 w37 ho38 hb hg_ hnew_
      clear hg_ hnew_
      (first | rw [← Ny312.out] at ho38 | (simp only [Int.reduceToNat] at ho38; rw [← Ny312.out] at ho38))
      have HO314 := A0_.mk (Kd.R_lower ho38 (wZ SQ.bw))
      replace BK309 := A0_.mk (bB (g := gb309) SQ.kw hb)
      replace HB := A0_.mk (wT SQ.bw hb)
      clear hb ho38
      refine hK.out _ _ ⟨(bC BK309.out 0).trans rfl, (bC BK309.out 1).trans rfl, (bC BK309.out 2).trans rfl, (bC BK309.out 3).trans rfl, (bC BK309.out 4).trans rfl, (bC BK309.out 5).trans rfl⟩ (fun hHeld => ?_)
      clear hK K
      refine norm_ (a' := ?_) ?_ ?_
      rotate_left
      ·show Act.put _ (some 31) _ = _
       simp only [Act.put, List.setIfInBounds_toArray, List.set_cons_zero, List.set_cons_succ, i64_w, i32_w]
       rfl
      refine two_ (i := 13) (j := 15) (Ni := some 34) (Nj := some 5) #[true, true, true, true, true, true, true, true, true, true, true, true, true, true, false, false, false] #[true, true, true, true, true, true, true, true, true, true, true, true, true, false, false, true, false] rfl rfl rfl rfl (two_of HT_.out (by kernel_rfl)) (by decide) (by decide) (fun K hK => ?_) (fun K hK => ?_)
      ·skip
       refine Kd.R_append_rows_step Kd.string (w0 := w) w.heap.size (by rfl) (.tmp 31) (.tmp 33) 22 9 (.string ⟨#[]⟩) 16 rfl Tryd.underlying22 info9 rfl (by decide) (by omega) v313 y312 l0_5 _ _ _ (fun _ => True) (fun _ => False) rfl rfl ?aO ?aR (fun _ _ h => h) (fun _ h => h.elim) ?aF ?aB ?aS ?aL ?_
       (case aR => repeat (first | exact (Kd.C_below HR0_5.out HB.out) | (with_reducible refine Kd.C_alloc ?_ _) | (with_reducible refine Kd.C_drewN ?_ _) | (with_reducible refine Kd.C_drew ?_)))
       (case aB => exact SQ.bw)
       (case aF => exact (fun _ _ => trivial))
       (case aO => exact (by (with_reducible repeat (first | apply Kd.R_alloc | apply Kd.R_drewN | apply Kd.R_drew)); exact HO314.out))
       (case aS => exact (wZ SQ.bw))
       (case aL => have := LMc14.out; omega)
       intro v316 w39 ho hb hg hat
       rw [← Ny315.out] at ho
       have HO317 := A0_.mk (ho)
       replace BK309 := A0_.mk (blk_grown (g := gb309) SQ.kw hg (Kd.R_ne HO314.out BK309.out (by decide)))
       replace HB := A0_.mk (hb)
       clear HO314
       clear ho hb hg hat
       obtain ⟨Ao40, co40, eo40⟩ := Kd.R_slice HO317.out
       (first | subst eo40 | (injection eo40 with f1_ f2_ f3_; have f4_ := f1_.symm; have f5_ := f3_.symm; clear f1_ f2_ f3_; subst f4_; subst f5_))
       refine hK.out _ _ ⟨(bC BK309.out 0).trans rfl, (bC BK309.out 1).trans rfl, (bC BK309.out 2).trans rfl, (bC BK309.out 3).trans rfl, (bC BK309.out 4).trans rfl, (bC BK309.out 5).trans rfl⟩ (fun hHeld => ?_)
       clear hK K
       refine norm_ (a' := ?_) ?_ ?_
       rotate_left
       ·show Act.put _ (some 34) _ = _
        simp only [Act.put, List.setIfInBounds_toArray, List.set_cons_zero, List.set_cons_succ, i64_w, i32_w]
        rfl
       refine pure_ (i := 14) (N := some 35) (v := ?_) (a' := ?_) #[true, true, true, true, true, true, true, true, true, true, true, true, true, true, true, false, false] rfl rfl (any_of HT_.out (by kernel_rfl)) (fun _ _ _ h => h) (Or.inl ⟨by rfl, ?_⟩) ?_ ?_
       rotate_left
       ·intro w'
        go_simp
        with_reducible rfl
       rotate_left
       ·simp only [Act.put, List.setIfInBounds_toArray, List.set_cons_zero, List.set_cons_succ, i64_w, i32_w]
        rfl
       refine one_ (i := 15) (N := some 5) #[true, true, true, true, true, true, true, true, true, true, true, true, true, true, true, true, false] rfl rfl (one_of HT_.out (by kernel_rfl)) (by decide) (fun K hK => ?_)
       refine box_step ?hg (N := 5) ?hd (cs := #[.int .i64 0, .string (⟨#[]⟩ : ByteArray), .bool false, .string (⟨#[]⟩ : ByteArray), .int .i64 0, .slice none 0 0]) (t := 24) ?hr ?_; (case hd => rfl); (case hg => rfl); (case hr => first | (go_simp; done) | (go_simp; rfl))
       intro gb318 hg w41 hbox hb
       have BK318 := A0_.mk (hbox)
       have GW318 := A0_.mk ((by rw [hg]; exact (wZ SQ.bw) : w.heap.size ≤ gb318))
       have GE318 := A0_.mk ((by rw [hg]; exact (wZ SQ.bw) : w.heap.size ≤ gb318))
       have NB309_318 := A0_.mk ((by rw [hg]; exact Nat.ne_of_lt (bL (g := gb309) SQ.kw) : gb309 ≠ gb318))
       have NB318_309 := A0_.mk ((by rw [hg]; exact Nat.ne_of_gt (bL (g := gb309) SQ.kw) : gb318 ≠ gb309))
       replace HO317 := A0_.mk (Kd.R_below (by (with_reducible repeat (first | apply Kd.R_alloc | apply Kd.R_drewN | apply Kd.R_drew)); exact HO317.out) hb)
       replace BK309 := A0_.mk (bB (g := gb309) SQ.kw hb)
       replace HB := A0_.mk (wT SQ.bw hb)
       clear hb hbox hg
       refine hK.out _ _ ⟨(bC BK309.out 0).trans rfl, (bC BK309.out 1).trans rfl, (bC BK309.out 2).trans rfl, (bC BK309.out 3).trans rfl, (bC BK309.out 4).trans rfl, (bC BK309.out 5).trans rfl⟩ (fun hHeld => ?_)
       clear hK K
       refine norm_ (a' := ?_) ?_ ?_
       rotate_left
       ·show Act.put _ (some 5) _ = _
        simp only [Act.put, List.setIfInBounds_toArray, List.set_cons_zero, List.set_cons_succ, i64_w, i32_w]
        rfl
       exact norm_ (by simp only [putAll, Act.put, List.setIfInBounds_toArray, List.set_cons_zero, List.set_cons_succ]) (hCont (v313, .slice Ao40 y315.length co40, gb318) _ ⟨hHeld, (by (with_reducible repeat (first | apply Kd.R_alloc | apply Kd.R_drewN | apply Kd.R_drew)); exact HO317.out), SQ.kw, SQ.kw, GW318.out, GE318.out, NB309_318.out, NB318_309.out, SQ.bw⟩)
      ·skip
       refine box_step ?hg (N := 5) ?hd (cs := #[.int .i64 0, .string (⟨#[]⟩ : ByteArray), .bool false, .string (⟨#[]⟩ : ByteArray), .int .i64 0, .slice none 0 0]) (t := 24) ?hr ?_; (case hd => rfl); (case hg => rfl); (case hr => first | (go_simp; done) | (go_simp; rfl))
       intro gb318 hg w39 hbox hb
       have BK318 := A0_.mk (hbox)
       have GW318 := A0_.mk ((by rw [hg]; exact (wZ SQ.bw) : w.heap.size ≤ gb318))
       have GE318 := A0_.mk ((by rw [hg]; exact (wZ SQ.bw) : w.heap.size ≤ gb318))
       have NB309_318 := A0_.mk ((by rw [hg]; exact Nat.ne_of_lt (bL (g := gb309) SQ.kw) : gb309 ≠ gb318))
       have NB318_309 := A0_.mk ((by rw [hg]; exact Nat.ne_of_gt (bL (g := gb309) SQ.kw) : gb318 ≠ gb309))
       replace HO314 := A0_.mk (Kd.R_below (by (with_reducible repeat (first | apply Kd.R_alloc | apply Kd.R_drewN | apply Kd.R_drew)); exact HO314.out) hb)
       replace BK309 := A0_.mk (bB (g := gb309) SQ.kw hb)
       replace HB := A0_.mk (wT SQ.bw hb)
       clear hb hbox hg
       refine hK.out _ _ ⟨(bC BK309.out 0).trans rfl, (bC BK309.out 1).trans rfl, (bC BK309.out 2).trans rfl, (bC BK309.out 3).trans rfl, (bC BK309.out 4).trans rfl, (bC BK309.out 5).trans rfl⟩ (fun hHeld => ?_)
       clear hK K
       refine norm_ (a' := ?_) ?_ ?_
       rotate_left
       ·show Act.put _ (some 5) _ = _
        simp only [Act.put, List.setIfInBounds_toArray, List.set_cons_zero, List.set_cons_succ, i64_w, i32_w]
        rfl
       refine one_ (i := 13) (N := some 34) #[true, true, true, true, true, true, true, true, true, true, true, true, true, true, false, true, false] rfl rfl (one_of HT_.out (by kernel_rfl)) (by decide) (fun K hK => ?_)
       refine Kd.R_append_rows_step Kd.string (w0 := w) w.heap.size (by rfl) (.tmp 31) (.tmp 33) 22 9 (.string ⟨#[]⟩) 16 rfl Tryd.underlying22 info9 rfl (by decide) (by omega) v313 y312 l0_5 _ _ _ (fun _ => True) (fun _ => False) rfl rfl ?aO ?aR (fun _ _ h => h) (fun _ h => h.elim) ?aF ?aB ?aS ?aL ?_
       (case aR => repeat (first | exact (Kd.C_below HR0_5.out HB.out) | (with_reducible refine Kd.C_alloc ?_ _) | (with_reducible refine Kd.C_drewN ?_ _) | (with_reducible refine Kd.C_drew ?_)))
       (case aB => exact SQ.bw)
       (case aF => exact (fun _ _ => trivial))
       (case aO => exact (by (with_reducible repeat (first | apply Kd.R_alloc | apply Kd.R_drewN | apply Kd.R_drew)); exact HO314.out))
       (case aS => exact (wZ SQ.bw))
       (case aL => have := LMc14.out; omega)
       intro v316 w40 ho hb hg hat
       rw [← Ny315.out] at ho
       have HO317 := A0_.mk (ho)
       replace BK309 := A0_.mk (blk_grown (g := gb309) SQ.kw hg (Kd.R_ne HO314.out BK309.out (by decide)))
       replace BK318 := A0_.mk (blk_grown (g := gb318) SQ.kw hg (Kd.R_ne HO314.out BK318.out (by decide)))
       replace HB := A0_.mk (hb)
       clear HO314
       clear ho hb hg hat
       obtain ⟨Ao41, co41, eo41⟩ := Kd.R_slice HO317.out
       (first | subst eo41 | (injection eo41 with f1_ f2_ f3_; have f4_ := f1_.symm; have f5_ := f3_.symm; clear f1_ f2_ f3_; subst f4_; subst f5_))
       refine hK.out _ _ ⟨(bC BK309.out 0).trans rfl, (bC BK309.out 1).trans rfl, (bC BK309.out 2).trans rfl, (bC BK309.out 3).trans rfl, (bC BK309.out 4).trans rfl, (bC BK309.out 5).trans rfl⟩ (fun hHeld => ?_)
       clear hK K
       refine norm_ (a' := ?_) ?_ ?_
       rotate_left
       ·show Act.put _ (some 34) _ = _
        simp only [Act.put, List.setIfInBounds_toArray, List.set_cons_zero, List.set_cons_succ, i64_w, i32_w]
        rfl
       refine pure_ (i := 14) (N := some 35) (v := ?_) (a' := ?_) #[true, true, true, true, true, true, true, true, true, true, true, true, true, true, true, true, false] rfl rfl (any_of HT_.out (by kernel_rfl)) (fun _ _ _ h => h) (Or.inl ⟨by rfl, ?_⟩) ?_ ?_
       rotate_left
       ·intro w'
        go_simp
        with_reducible rfl
       rotate_left
       ·simp only [Act.put, List.setIfInBounds_toArray, List.set_cons_zero, List.set_cons_succ, i64_w, i32_w]
        rfl
       exact norm_ (by simp only [putAll, Act.put, List.setIfInBounds_toArray, List.set_cons_zero, List.set_cons_succ]) (hCont (v313, .slice Ao41 y315.length co41, gb318) _ ⟨hHeld, (by (with_reducible repeat (first | apply Kd.R_alloc | apply Kd.R_drewN | apply Kd.R_drew)); exact HO317.out), SQ.kw, SQ.kw, GW318.out, GE318.out, NB309_318.out, NB318_309.out, SQ.bw⟩)
     ·skip
      refine box_step ?hg (N := 5) ?hd (cs := #[.int .i64 0, .string (⟨#[]⟩ : ByteArray), .bool false, .string (⟨#[]⟩ : ByteArray), .int .i64 0, .slice none 0 0]) (t := 24) ?hr ?_; (case hd => rfl); (case hg => rfl); (case hr => first | (go_simp; done) | (go_simp; rfl))
      intro gb318 hg w37 hbox hb
      have BK318 := A0_.mk (hbox)
      have GW318 := A0_.mk ((by rw [hg]; exact (wZ SQ.bw) : w.heap.size ≤ gb318))
      have GE318 := A0_.mk ((by rw [hg]; exact (wZ SQ.bw) : w.heap.size ≤ gb318))
      have NB309_318 := A0_.mk ((by rw [hg]; exact Nat.ne_of_lt (bL (g := gb309) SQ.kw) : gb309 ≠ gb318))
      have NB318_309 := A0_.mk ((by rw [hg]; exact Nat.ne_of_gt (bL (g := gb309) SQ.kw) : gb318 ≠ gb309))
      replace BK309 := A0_.mk (bB (g := gb309) SQ.kw hb)
      replace HB := A0_.mk (wT SQ.bw hb)
      clear hb hbox hg
      refine hK.out _ _ ⟨(bC BK309.out 0).trans rfl, (bC BK309.out 1).trans rfl, (bC BK309.out 2).trans rfl, (bC BK309.out 3).trans rfl, (bC BK309.out 4).trans rfl, (bC BK309.out 5).trans rfl⟩ (fun hHeld => ?_)
      clear hK K
      refine norm_ (a' := ?_) ?_ ?_
      rotate_left
      ·show Act.put _ (some 5) _ = _
       simp only [Act.put, List.setIfInBounds_toArray, List.set_cons_zero, List.set_cons_succ, i64_w, i32_w]
       rfl
      refine one_ (i := 10) (N := some 31) #[true, true, true, true, true, true, true, true, true, true, true, true, true, false, false, true, false] rfl rfl (one_of HT_.out (by kernel_rfl)) (by decide) (fun K hK => ?_)
      refine Kd.R_lit_step Kd.string _ 9 ?hg (N := 31) ?hd (xs := ([] : List ByteArray)) (inner := []) (ok := fun _ => True) (okp := fun _ => True) ?hr ?hp (fun _ hk => hk) trivial (Below.refl _ _) (Nat.le_refl _) (by simp) ?_; (case hd => rfl); (case hg => rfl); (case hr => first | (go_simp; done) | (go_simp; rfl)); (case hp => exact (Reps.none _ _))
      intro v313 w38 ho39 hb hg_ hnew_
      clear hg_ hnew_
      (first | rw [← Ny312.out] at ho39 | (simp only [Int.reduceToNat] at ho39; rw [← Ny312.out] at ho39))
      have HO314 := A0_.mk (Kd.R_lower ho39 (wZ SQ.bw))
      replace BK309 := A0_.mk (bB (g := gb309) SQ.kw hb)
      replace BK318 := A0_.mk (bB (g := gb318) SQ.kw hb)
      replace HB := A0_.mk (wT SQ.bw hb)
      clear hb ho39
      refine hK.out _ _ ⟨(bC BK309.out 0).trans rfl, (bC BK309.out 1).trans rfl, (bC BK309.out 2).trans rfl, (bC BK309.out 3).trans rfl, (bC BK309.out 4).trans rfl, (bC BK309.out 5).trans rfl⟩ (fun hHeld => ?_)
      clear hK K
      refine norm_ (a' := ?_) ?_ ?_
      rotate_left
      ·show Act.put _ (some 31) _ = _
       simp only [Act.put, List.setIfInBounds_toArray, List.set_cons_zero, List.set_cons_succ, i64_w, i32_w]
       rfl
      refine one_ (i := 13) (N := some 34) #[true, true, true, true, true, true, true, true, true, true, true, true, true, true, false, true, false] rfl rfl (one_of HT_.out (by kernel_rfl)) (by decide) (fun K hK => ?_)
      refine Kd.R_append_rows_step Kd.string (w0 := w) w.heap.size (by rfl) (.tmp 31) (.tmp 33) 22 9 (.string ⟨#[]⟩) 16 rfl Tryd.underlying22 info9 rfl (by decide) (by omega) v313 y312 l0_5 _ _ _ (fun _ => True) (fun _ => False) rfl rfl ?aO ?aR (fun _ _ h => h) (fun _ h => h.elim) ?aF ?aB ?aS ?aL ?_
      (case aR => repeat (first | exact (Kd.C_below HR0_5.out HB.out) | (with_reducible refine Kd.C_alloc ?_ _) | (with_reducible refine Kd.C_drewN ?_ _) | (with_reducible refine Kd.C_drew ?_)))
      (case aB => exact SQ.bw)
      (case aF => exact (fun _ _ => trivial))
      (case aO => exact (by (with_reducible repeat (first | apply Kd.R_alloc | apply Kd.R_drewN | apply Kd.R_drew)); exact HO314.out))
      (case aS => exact (wZ SQ.bw))
      (case aL => have := LMc14.out; omega)
      intro v316 w40 ho hb hg hat
      rw [← Ny315.out] at ho
      have HO317 := A0_.mk (ho)
      replace BK309 := A0_.mk (blk_grown (g := gb309) SQ.kw hg (Kd.R_ne HO314.out BK309.out (by decide)))
      replace BK318 := A0_.mk (blk_grown (g := gb318) SQ.kw hg (Kd.R_ne HO314.out BK318.out (by decide)))
      replace HB := A0_.mk (hb)
      clear HO314
      clear ho hb hg hat
      obtain ⟨Ao41, co41, eo41⟩ := Kd.R_slice HO317.out
      (first | subst eo41 | (injection eo41 with f1_ f2_ f3_; have f4_ := f1_.symm; have f5_ := f3_.symm; clear f1_ f2_ f3_; subst f4_; subst f5_))
      refine hK.out _ _ ⟨(bC BK309.out 0).trans rfl, (bC BK309.out 1).trans rfl, (bC BK309.out 2).trans rfl, (bC BK309.out 3).trans rfl, (bC BK309.out 4).trans rfl, (bC BK309.out 5).trans rfl⟩ (fun hHeld => ?_)
      clear hK K
      refine norm_ (a' := ?_) ?_ ?_
      rotate_left
      ·show Act.put _ (some 34) _ = _
       simp only [Act.put, List.setIfInBounds_toArray, List.set_cons_zero, List.set_cons_succ, i64_w, i32_w]
       rfl
      refine pure_ (i := 14) (N := some 35) (v := ?_) (a' := ?_) #[true, true, true, true, true, true, true, true, true, true, true, true, true, true, true, true, false] rfl rfl (any_of HT_.out (by kernel_rfl)) (fun _ _ _ h => h) (Or.inl ⟨by rfl, ?_⟩) ?_ ?_
      rotate_left
      ·intro w'
       go_simp
       with_reducible rfl
      rotate_left
      ·simp only [Act.put, List.setIfInBounds_toArray, List.set_cons_zero, List.set_cons_succ, i64_w, i32_w]
       rfl
      exact norm_ (by simp only [putAll, Act.put, List.setIfInBounds_toArray, List.set_cons_zero, List.set_cons_succ]) (hCont (v313, .slice Ao41 y315.length co41, gb318) _ ⟨hHeld, (by (with_reducible repeat (first | apply Kd.R_alloc | apply Kd.R_drewN | apply Kd.R_drew)); exact HO317.out), SQ.kw, SQ.kw, GW318.out, GE318.out, NB309_318.out, NB318_309.out, SQ.bw⟩)
    rintro ⟨v313, v316, gb318⟩ w42 ⟨hS_, h0_, h1_, h2_, h3_, h4_, h5_, h6_, h7_⟩
    have HO317 : A0_ (Kd.R Kd.string 9 w42 w.heap.size (fun _ => True) v316 y315) := ⟨h0_⟩
    have BK318 : A0_ (w42.heap[gb318]? = some (.cells #[.int .i64 0, .string (⟨#[]⟩ : ByteArray), .bool false, .string (⟨#[]⟩ : ByteArray), .int .i64 0, .slice none 0 0] 24 (0, 0))) := ⟨h2_⟩
    have GW318 : A0_ (w.heap.size ≤ gb318) := ⟨h3_⟩
    have GE318 : A0_ (w.heap.size ≤ gb318) := ⟨h4_⟩
    have NB309_318 : A0_ (gb309 ≠ gb318) := ⟨h5_⟩
    have NB318_309 : A0_ (gb318 ≠ gb309) := ⟨h6_⟩
    replace BK309 : A0_ (w42.heap[gb309]? = some (.cells #[.int .i64 a0_0, .string a0_1, .bool a0_2, .string a0_3, .int .i64 a0_4, .slice A0_5 l0_5.length c0_5] 24 (0, 0))) := ⟨h1_⟩
    replace HB : A0_ (Below w.heap.size w w42) := ⟨h7_⟩
    clear h0_ h1_ h2_ h3_ h4_ h5_ h6_ h7_
    have hHeld : w42.cell? ⟨gb309, 0, none⟩ = some (.int .i64 a0_0) ∧ w42.cell? ⟨gb309, 1, none⟩ = some (.string a0_1) ∧ w42.cell? ⟨gb309, 2, none⟩ = some (.bool a0_2) ∧ w42.cell? ⟨gb309, 3, none⟩ = some (.string a0_3) ∧ w42.cell? ⟨gb309, 4, none⟩ = some (.int .i64 a0_4) ∧ w42.cell? ⟨gb309, 5, none⟩ = some (.slice A0_5 l0_5.length c0_5) := hS_
    obtain ⟨Ao43, co43, eo43⟩ := Kd.R_slice HO317.out
    (first | subst eo43 | (injection eo43 with f1_ f2_ f3_; have f4_ := f1_.symm; have f5_ := f3_.symm; clear f1_ f2_ f3_; subst f4_; subst f5_))
    refine norm_ (a' := ?_) ?_ ?_
    rotate_left
    ·simp only [putAll, Act.put, List.setIfInBounds_toArray, List.set_cons_zero, List.set_cons_succ]
     rfl
    refine one_ (i := 16) (N := none) #[true, true, true, true, true, true, true, true, true, true, true, true, true, true, true, true, true] rfl rfl (one_of HT_.out (by kernel_rfl)) (by decide) (fun K hK => ?_)
    have hs44 : w42.cell? ⟨gb318, 0, none⟩ = some (.int .i64 0) := (bC BK318.out 0).trans rfl
    have hfs44 := bF BK318.out 0
    have hns44_0 := NB309_318.out
    have hms44_0 := NB318_309.out
    have hs45 : w42.cell? ⟨gb318, 1, none⟩ = some (.string (⟨#[]⟩ : ByteArray)) := (bC BK318.out 1).trans rfl
    have hfs45 := bF BK318.out 1
    have hns45_0 := NB309_318.out
    have hms45_0 := NB318_309.out
    have hs46 : w42.cell? ⟨gb318, 2, none⟩ = some (.bool false) := (bC BK318.out 2).trans rfl
    have hfs46 := bF BK318.out 2
    have hns46_0 := NB309_318.out
    have hms46_0 := NB318_309.out
    have hs47 : w42.cell? ⟨gb318, 3, none⟩ = some (.string (⟨#[]⟩ : ByteArray)) := (bC BK318.out 3).trans rfl
    have hfs47 := bF BK318.out 3
    have hns47_0 := NB309_318.out
    have hms47_0 := NB318_309.out
    have hs48 : w42.cell? ⟨gb318, 4, none⟩ = some (.int .i64 0) := (bC BK318.out 4).trans rfl
    have hfs48 := bF BK318.out 4
    have hns48_0 := NB309_318.out
    have hms48_0 := NB318_309.out
    have hs49 : w42.cell? ⟨gb318, 5, none⟩ = some (.slice none 0 0) := (bC BK318.out 5).trans rfl
    have hfs49 := bF BK318.out 5
    have hns49_0 := NB309_318.out
    have hms49_0 := NB318_309.out
    refine skip_ (w1 := ?_) (by rfl) rfl ?_ ?_
    rotate_left
    ·go_simp
     rfl
    refine hK.out _ _ ⟨((cell_far (p := ⟨gb318, _, none⟩) NB309_318.out _).trans (((cell_far (p := ⟨gb318, _, none⟩) NB309_318.out _).trans (((cell_far (p := ⟨gb318, _, none⟩) NB309_318.out _).trans (((cell_far (p := ⟨gb318, _, none⟩) NB309_318.out _).trans (((cell_far (p := ⟨gb318, _, none⟩) NB309_318.out _).trans (((cell_far (p := ⟨gb318, _, none⟩) NB309_318.out _).trans (hHeld.1)))))))))))), ((cell_far (p := ⟨gb318, _, none⟩) NB309_318.out _).trans (((cell_far (p := ⟨gb318, _, none⟩) NB309_318.out _).trans (((cell_far (p := ⟨gb318, _, none⟩) NB309_318.out _).trans (((cell_far (p := ⟨gb318, _, none⟩) NB309_318.out _).trans (((cell_far (p := ⟨gb318, _, none⟩) NB309_318.out _).trans (((cell_far (p := ⟨gb318, _, none⟩) NB309_318.out _).trans (hHeld.2.1)))))))))))), ((cell_far (p := ⟨gb318, _, none⟩) NB309_318.out _).trans (((cell_far (p := ⟨gb318, _, none⟩) NB309_318.out _).trans (((cell_far (p := ⟨gb318, _, none⟩) NB309_318.out _).trans (((cell_far (p := ⟨gb318, _, none⟩) NB309_318.out _).trans (((cell_far (p := ⟨gb318, _, none⟩) NB309_318.out _).trans (((cell_far (p := ⟨gb318, _, none⟩) NB309_318.out _).trans (hHeld.2.2.1)))))))))))), ((cell_far (p := ⟨gb318, _, none⟩) NB309_318.out _).trans (((cell_far (p := ⟨gb318, _, none⟩) NB309_318.out _).trans (((cell_far (p := ⟨gb318, _, none⟩) NB309_318.out _).trans (((cell_far (p := ⟨gb318, _, none⟩) NB309_318.out _).trans (((cell_far (p := ⟨gb318, _, none⟩) NB309_318.out _).trans (((cell_far (p := ⟨gb318, _, none⟩) NB309_318.out _).trans (hHeld.2.2.2.1)))))))))))), ((cell_far (p := ⟨gb318, _, none⟩) NB309_318.out _).trans (((cell_far (p := ⟨gb318, _, none⟩) NB309_318.out _).trans (((cell_far (p := ⟨gb318, _, none⟩) NB309_318.out _).trans (((cell_far (p := ⟨gb318, _, none⟩) NB309_318.out _).trans (((cell_far (p := ⟨gb318, _, none⟩) NB309_318.out _).trans (((cell_far (p := ⟨gb318, _, none⟩) NB309_318.out _).trans (hHeld.2.2.2.2.1)))))))))))), ((cell_far (p := ⟨gb318, _, none⟩) NB309_318.out _).trans (((cell_far (p := ⟨gb318, _, none⟩) NB309_318.out _).trans (((cell_far (p := ⟨gb318, _, none⟩) NB309_318.out _).trans (((cell_far (p := ⟨gb318, _, none⟩) NB309_318.out _).trans (((cell_far (p := ⟨gb318, _, none⟩) NB309_318.out _).trans (((cell_far (p := ⟨gb318, _, none⟩) NB309_318.out _).trans (hHeld.2.2.2.2.2))))))))))))⟩ (fun hHeld => ?_)
    clear hK K
    refine done_ (done_of HT_.out (by kernel_rfl)) ?_
    have hnb50 := NB318_309.out
    have hnc50 := NB309_318.out
    obtain ⟨hcz51_0, hcz51_1, hcz51_2, hcz51_3, hcz51_4, hcz51_5, hfz51_0, hfz51_1, hfz51_2, hfz51_3, hfz51_4, hfz51_5⟩ := SQ.cs6 BK318.out
    try go_wp2_with (first | ((with_reducible refine gC (f := 9) rfl ?_); refine gL (some 38) rfl rfl Tryd.func9 (by kernel_rfl) rfl #[.agg #[.int .i64 a0_0, .string a0_1, .bool a0_2, .string a0_3, .int .i64 a0_4, .slice Ao43 y315.length co43]] rfl SQ.sm ?_; (with_reducible refine (node_Encode.calls kj2 a0_0 a0_1 a0_2 a0_3 a0_4 _ _ y315 t319 t320 _ ?side1 ?side2 A15.out).mono ?_); (case side1 => refine (Kd.R_reads' (e := 9) (base := w.heap.size) (ok := fun k_ => True) (n := y315.length) (c := co43) ?_).2.2; exact (by (with_reducible repeat (first | apply Kd.R_alloc | apply Kd.R_drewN | apply Kd.R_drew)); exact (Kd.R_mono (Kd.R_far (p := ⟨gb318, 5, none⟩) (Kd.R_far (p := ⟨gb318, 4, none⟩) (Kd.R_far (p := ⟨gb318, 3, none⟩) (Kd.R_far (p := ⟨gb318, 2, none⟩) (Kd.R_far (p := ⟨gb318, 1, none⟩) (Kd.R_far (p := ⟨gb318, 0, none⟩) (Kd.R_types HO317.out BK318.out (by decide)) (fun _ hk => hk.2) (.int .i64 a0_0)) (fun _ hk => hk.2) (.string a0_1)) (fun _ hk => hk.2) (.bool a0_2)) (fun _ hk => hk.2) (.string a0_3)) (fun _ hk => hk.2) (.int .i64 a0_4)) (fun _ hk => hk.2) (.slice Ao43 y315.length co43)) (fun _ h_ => h_.1)))); (case side2 => exact (Kd.R_reads' HO317.out).2.1); rintro e w52 ⟨rfl, hb⟩; refine ⟨_, rfl, ?_⟩; replace HO317 := A0_.mk (Kd.R_below (by (with_reducible repeat (first | apply Kd.R_alloc | apply Kd.R_drewN | apply Kd.R_drew)); exact (Kd.R_mono (Kd.R_far (p := ⟨gb318, 5, none⟩) (Kd.R_far (p := ⟨gb318, 4, none⟩) (Kd.R_far (p := ⟨gb318, 3, none⟩) (Kd.R_far (p := ⟨gb318, 2, none⟩) (Kd.R_far (p := ⟨gb318, 1, none⟩) (Kd.R_far (p := ⟨gb318, 0, none⟩) (Kd.R_types HO317.out BK318.out (by decide)) (fun _ hk => hk.2) (.int .i64 a0_0)) (fun _ hk => hk.2) (.string a0_1)) (fun _ hk => hk.2) (.bool a0_2)) (fun _ hk => hk.2) (.string a0_3)) (fun _ hk => hk.2) (.int .i64 a0_4)) (fun _ hk => hk.2) (.slice Ao43 y315.length co43)) (fun _ h_ => h_.1))) hb); replace BK309 := A0_.mk (bB (g := gb309) (o := .cells #[.int .i64 a0_0, .string a0_1, .bool a0_2, .string a0_3, .int .i64 a0_4, .slice A0_5 l0_5.length c0_5] 24 (0, 0)) (by (with_reducible repeat (first | refine bN ?_ _ | refine bD ?_ | refine bA ?_ _)); refine bR ?_ NB309_318.out _; (with_reducible repeat (first | refine bN ?_ _ | refine bD ?_ | refine bA ?_ _)); refine bR ?_ NB309_318.out _; (with_reducible repeat (first | refine bN ?_ _ | refine bD ?_ | refine bA ?_ _)); refine bR ?_ NB309_318.out _; (with_reducible repeat (first | refine bN ?_ _ | refine bD ?_ | refine bA ?_ _)); refine bR ?_ NB309_318.out _; (with_reducible repeat (first | refine bN ?_ _ | refine bD ?_ | refine bA ?_ _)); refine bR ?_ NB309_318.out _; (with_reducible repeat (first | refine bN ?_ _ | refine bD ?_ | refine bA ?_ _)); refine bR ?_ NB309_318.out _; (with_reducible repeat (first | refine bN ?_ _ | refine bD ?_ | refine bA ?_ _)); exact BK309.out) hb); replace BK318 := A0_.mk (bB (g := gb318) (o := .cells #[.int .i64 a0_0, .string a0_1, .bool a0_2, .string a0_3, .int .i64 a0_4, .slice Ao43 y315.length co43] 24 (0, 0)) (by (with_reducible repeat (first | refine bN ?_ _ | refine bD ?_ | refine bA ?_ _)); refine bP (cs := #[.int .i64 a0_0, .string a0_1, .bool a0_2, .string a0_3, .int .i64 a0_4, .slice none 0 0]) ?_ 5 _ rfl; (with_reducible repeat (first | refine bN ?_ _ | refine bD ?_ | refine bA ?_ _)); refine bP (cs := #[.int .i64 a0_0, .string a0_1, .bool a0_2, .string a0_3, .int .i64 0, .slice none 0 0]) ?_ 4 _ rfl; (with_reducible repeat (first | refine bN ?_ _ | refine bD ?_ | refine bA ?_ _)); refine bP (cs := #[.int .i64 a0_0, .string a0_1, .bool a0_2, .string (⟨#[]⟩ : ByteArray), .int .i64 0, .slice none 0 0]) ?_ 3 _ rfl; (with_reducible repeat (first | refine bN ?_ _ | refine bD ?_ | refine bA ?_ _)); refine bP (cs := #[.int .i64 a0_0, .string a0_1, .bool false, .string (⟨#[]⟩ : ByteArray), .int .i64 0, .slice none 0 0]) ?_ 2 _ rfl; (with_reducible repeat (first | refine bN ?_ _ | refine bD ?_ | refine bA ?_ _)); refine bP (cs := #[.int .i64 a0_0, .string (⟨#[]⟩ : ByteArray), .bool false, .string (⟨#[]⟩ : ByteArray), .int .i64 0, .slice none 0 0]) ?_ 1 _ rfl; (with_reducible repeat (first | refine bN ?_ _ | refine bD ?_ | refine bA ?_ _)); refine bP (cs := #[.int .i64 0, .string (⟨#[]⟩ : ByteArray), .bool false, .string (⟨#[]⟩ : ByteArray), .int .i64 0, .slice none 0 0]) ?_ 0 _ rfl; (with_reducible repeat (first | refine bN ?_ _ | refine bD ?_ | refine bA ?_ _)); exact BK318.out) hb); replace HB := A0_.mk (wT SQ.bw hb); clear hb; obtain ⟨hcz53_0, hcz53_1, hcz53_2, hcz53_3, hcz53_4, hcz53_5, hfz53_0, hfz53_1, hfz53_2, hfz53_3, hfz53_4, hfz53_5⟩ := SQ.cs6 BK318.out) | ((with_reducible refine gC (f := 10) rfl ?_); refine gL (some 43) rfl rfl Tryd.func10 (by kernel_rfl) rfl #[.agg #[.int .i64 a0_0, .string a0_1, .bool a0_2, .string a0_3, .int .i64 a0_4, .slice Ao43 y315.length co43]] rfl SQ.sm ?_; (with_reducible refine (node_Hash.calls kj2 a0_0 a0_1 a0_2 a0_3 a0_4 _ _ y315 t321 t322 _ ?side1 ?side2 ?side3 A16.out).mono ?_); (case side1 => repeat (first | exact (Kd.R_reads' HO317.out).2.2 | (with_reducible refine Kd.C_alloc ?_ _) | (with_reducible refine Kd.C_drewN ?_ _) | (with_reducible refine Kd.C_drew ?_))); (case side2 => exact (Kd.R_reads' HO317.out).2.1); (case side3 => exact Glob.below HG.out SQ.bw); rintro e w54 ⟨rfl, hb⟩; refine ⟨_, rfl, ?_⟩; replace HO317 := A0_.mk (Kd.R_below (by (with_reducible repeat (first | apply Kd.R_alloc | apply Kd.R_drewN | apply Kd.R_drew)); exact HO317.out) hb); replace BK309 := A0_.mk (bB (g := gb309) SQ.kw hb); replace BK318 := A0_.mk (bB (g := gb318) SQ.kw hb); replace HB := A0_.mk (wT SQ.bw hb); clear hb) | ((with_reducible refine gC (f := 11) rfl ?_); refine gL (some 48) rfl rfl Tryd.func11 (by kernel_rfl) rfl #[.string a1] rfl SQ.sm ?_; (with_reducible refine (node_Decode.calls kj2 a1 t323 t324 t325 t326 t327 t328 t331 _ A17.out).mono ?_); rintro e w55 ⟨v329, rfl, ho0, hb⟩; refine ⟨_, rfl, ?_⟩; have HO330 := A0_.mk (Kd.R_lower (Kd.R_new' ho0 (Kd.R_lt (by (with_reducible repeat (first | apply Kd.R_alloc | apply Kd.R_drewN | apply Kd.R_drew)); exact HO317.out))) (wZ SQ.bw)); replace HO317 := A0_.mk (Kd.R_elder' (by (with_reducible repeat (first | apply Kd.R_alloc | apply Kd.R_drewN | apply Kd.R_drew)); exact HO317.out) (Kd.R_base ho0) hb); replace BK309 := A0_.mk (bB (g := gb309) SQ.kw hb); replace BK318 := A0_.mk (bB (g := gb318) SQ.kw hb); replace HB := A0_.mk (wT SQ.bw hb); (try clear hb); (try clear hb2); (try clear hk); (try clear hi); (try clear ho0)) | ((with_reducible refine gD (N := 10) rfl ?_); (try (refine gG (by rfl) ?_; dsimp only)); refine xE ?hg (N := 10) ?hd (cs := #[.int .i64 0, .string (⟨#[]⟩ : ByteArray), .bool false, .string (⟨#[]⟩ : ByteArray), .int .i64 0, .slice none 0 0]) (t := 24) ?hr ?_; (case hd => rfl); (case hg => rfl); (case hr => first | (go_simp; done) | (go_simp; rfl)); intro gb332 hg w56 hbox hb; have BK332 := A0_.mk (hbox); have GW332 := A0_.mk ((by rw [hg]; exact (wZ SQ.bw) : w.heap.size ≤ gb332)); have GE332 := A0_.mk ((by rw [hg]; exact (wZ SQ.bw) : w.heap.size ≤ gb332)); have NB309_332 := A0_.mk ((by rw [hg]; exact Nat.ne_of_lt (bL (g := gb309) SQ.kw) : gb309 ≠ gb332)); have NB332_309 := A0_.mk ((by rw [hg]; exact Nat.ne_of_gt (bL (g := gb309) SQ.kw) : gb332 ≠ gb309)); have NB318_332 := A0_.mk ((by rw [hg]; exact Nat.ne_of_lt (bL (g := gb318) SQ.kw) : gb318 ≠ gb332)); have NB332_318 := A0_.mk ((by rw [hg]; exact Nat.ne_of_gt (bL (g := gb318) SQ.kw) : gb332 ≠ gb318)); replace HO317 := A0_.mk (Kd.R_below (by (with_reducible repeat (first | apply Kd.R_alloc | apply Kd.R_drewN | apply Kd.R_drew)); exact HO317.out) hb); replace HO330 := A0_.mk (Kd.R_below (by (with_reducible repeat (first | apply Kd.R_alloc | apply Kd.R_drewN | apply Kd.R_drew)); exact HO330.out) hb); replace BK309 := A0_.mk (bB (g := gb309) SQ.kw hb); replace BK318 := A0_.mk (bB (g := gb318) SQ.kw hb); replace HB := A0_.mk (wT SQ.bw hb); clear hb hbox hg; have hnb57 := NB332_309.out; have hnc57 := NB309_332.out; have hnb58 := NB332_318.out; have hnc58 := NB318_332.out; obtain ⟨hcz59_0, hcz59_1, hcz59_2, hcz59_3, hcz59_4, hcz59_5, hfz59_0, hfz59_1, hfz59_2, hfz59_3, hfz59_4, hfz59_5⟩ := SQ.cs6 BK332.out; obtain ⟨Ao60, co60, eo60⟩ := Kd.R_slice HO330.out; subst eo60) | ((with_reducible refine gC (f := 12) rfl ?_); refine gL (some 52) rfl rfl Tryd.func12 (by kernel_rfl) rfl #[.string a1] rfl SQ.sm ?_; (with_reducible refine (r9Decode.calls kj2 a1 t333 t334 t335 t336 t337 t338 t341 _ A18.out).mono ?_); rintro e w61 ⟨v339, rfl, ho0, hb⟩; refine ⟨_, rfl, ?_⟩; have HO340 := A0_.mk (Kd.R_lower (Kd.R_new' (Kd.R_new' ho0 (Kd.R_lt (by (with_reducible repeat (first | apply Kd.R_alloc | apply Kd.R_drewN | apply Kd.R_drew)); exact (Kd.R_mono (Kd.R_far (p := ⟨gb332, 5, none⟩) (Kd.R_far (p := ⟨gb332, 4, none⟩) (Kd.R_far (p := ⟨gb332, 3, none⟩) (Kd.R_far (p := ⟨gb332, 2, none⟩) (Kd.R_far (p := ⟨gb332, 1, none⟩) (Kd.R_far (p := ⟨gb332, 0, none⟩) (Kd.R_types HO317.out BK332.out (by decide)) (fun _ hk => hk.2) (.int .i64 t323)) (fun _ hk => hk.2) (.string t324)) (fun _ hk => hk.2) (.bool t325)) (fun _ hk => hk.2) (.string t326)) (fun _ hk => hk.2) (.int .i64 t327)) (fun _ hk => hk.2) (.slice Ao60 t328.length co60)) (fun _ h_ => h_.1))))) (Kd.R_lt (by (with_reducible repeat (first | apply Kd.R_alloc | apply Kd.R_drewN | apply Kd.R_drew)); exact (Kd.R_mono (Kd.R_far (p := ⟨gb332, 5, none⟩) (Kd.R_far (p := ⟨gb332, 4, none⟩) (Kd.R_far (p := ⟨gb332, 3, none⟩) (Kd.R_far (p := ⟨gb332, 2, none⟩) (Kd.R_far (p := ⟨gb332, 1, none⟩) (Kd.R_far (p := ⟨gb332, 0, none⟩) (Kd.R_types HO330.out BK332.out (by decide)) (fun _ hk => hk.2) (.int .i64 t323)) (fun _ hk => hk.2) (.string t324)) (fun _ hk => hk.2) (.bool t325)) (fun _ hk => hk.2) (.string t326)) (fun _ hk => hk.2) (.int .i64 t327)) (fun _ hk => hk.2) (.slice Ao60 t328.length co60)) (fun _ h_ => h_.1))))) (wZ SQ.bw)); replace HO317 := A0_.mk (Kd.R_elder' (by (with_reducible repeat (first | apply Kd.R_alloc | apply Kd.R_drewN | apply Kd.R_drew)); exact (Kd.R_mono (Kd.R_far (p := ⟨gb332, 5, none⟩) (Kd.R_far (p := ⟨gb332, 4, none⟩) (Kd.R_far (p := ⟨gb332, 3, none⟩) (Kd.R_far (p := ⟨gb332, 2, none⟩) (Kd.R_far (p := ⟨gb332, 1, none⟩) (Kd.R_far (p := ⟨gb332, 0, none⟩) (Kd.R_types HO317.out BK332.out (by decide)) (fun _ hk => hk.2) (.int .i64 t323)) (fun _ hk => hk.2) (.string t324)) (fun _ hk => hk.2) (.bool t325)) (fun _ hk => hk.2) (.string t326)) (fun _ hk => hk.2) (.int .i64 t327)) (fun _ hk => hk.2) (.slice Ao60 t328.length co60)) (fun _ h_ => h_.1))) (Kd.R_base ho0) hb); replace HO330 := A0_.mk (Kd.R_elder' (by (with_reducible repeat (first | apply Kd.R_alloc | apply Kd.R_drewN | apply Kd.R_drew)); exact (Kd.R_mono (Kd.R_far (p := ⟨gb332, 5, none⟩) (Kd.R_far (p := ⟨gb332, 4, none⟩) (Kd.R_far (p := ⟨gb332, 3, none⟩) (Kd.R_far (p := ⟨gb332, 2, none⟩) (Kd.R_far (p := ⟨gb332, 1, none⟩) (Kd.R_far (p := ⟨gb332, 0, none⟩) (Kd.R_types HO330.out BK332.out (by decide)) (fun _ hk => hk.2) (.int .i64 t323)) (fun _ hk => hk.2) (.string t324)) (fun _ hk => hk.2) (.bool t325)) (fun _ hk => hk.2) (.string t326)) (fun _ hk => hk.2) (.int .i64 t327)) (fun _ hk => hk.2) (.slice Ao60 t328.length co60)) (fun _ h_ => h_.1))) (Kd.R_base ho0) hb); replace BK309 := A0_.mk (bB (g := gb309) (o := .cells #[.int .i64 a0_0, .string a0_1, .bool a0_2, .string a0_3, .int .i64 a0_4, .slice A0_5 l0_5.length c0_5] 24 (0, 0)) (by (with_reducible repeat (first | refine bN ?_ _ | refine bD ?_ | refine bA ?_ _)); refine bR ?_ NB309_332.out _; (with_reducible repeat (first | refine bN ?_ _ | refine bD ?_ | refine bA ?_ _)); refine bR ?_ NB309_332.out _; (with_reducible repeat (first | refine bN ?_ _ | refine bD ?_ | refine bA ?_ _)); refine bR ?_ NB309_332.out _; (with_reducible repeat (first | refine bN ?_ _ | refine bD ?_ | refine bA ?_ _)); refine bR ?_ NB309_332.out _; (with_reducible repeat (first | refine bN ?_ _ | refine bD ?_ | refine bA ?_ _)); refine bR ?_ NB309_332.out _; (with_reducible repeat (first | refine bN ?_ _ | refine bD ?_ | refine bA ?_ _)); refine bR ?_ NB309_332.out _; (with_reducible repeat (first | refine bN ?_ _ | refine bD ?_ | refine bA ?_ _)); exact BK309.out) hb); replace BK318 := A0_.mk (bB (g := gb318) (o := .cells #[.int .i64 a0_0, .string a0_1, .bool a0_2, .string a0_3, .int .i64 a0_4, .slice Ao43 y315.length co43] 24 (0, 0)) (by (with_reducible repeat (first | refine bN ?_ _ | refine bD ?_ | refine bA ?_ _)); refine bR ?_ NB318_332.out _; (with_reducible repeat (first | refine bN ?_ _ | refine bD ?_ | refine bA ?_ _)); refine bR ?_ NB318_332.out _; (with_reducible repeat (first | refine bN ?_ _ | refine bD ?_ | refine bA ?_ _)); refine bR ?_ NB318_332.out _; (with_reducible repeat (first | refine bN ?_ _ | refine bD ?_ | refine bA ?_ _)); refine bR ?_ NB318_332.out _; (with_reducible repeat (first | refine bN ?_ _ | refine bD ?_ | refine bA ?_ _)); refine bR ?_ NB318_332.out _; (with_reducible repeat (first | refine bN ?_ _ | refine bD ?_ | refine bA ?_ _)); refine bR ?_ NB318_332.out _; (with_reducible repeat (first | refine bN ?_ _ | refine bD ?_ | refine bA ?_ _)); exact BK318.out) hb); replace BK332 := A0_.mk (bB (g := gb332) (o := .cells #[.int .i64 t323, .string t324, .bool t325, .string t326, .int .i64 t327, .slice Ao60 t328.length co60] 24 (0, 0)) (by (with_reducible repeat (first | refine bN ?_ _ | refine bD ?_ | refine bA ?_ _)); refine bP (cs := #[.int .i64 t323, .string t324, .bool t325, .string t326, .int .i64 t327, .slice none 0 0]) ?_ 5 _ rfl; (with_reducible repeat (first | refine bN ?_ _ | refine bD ?_ | refine bA ?_ _)); refine bP (cs := #[.int .i64 t323, .string t324, .bool t325, .string t326, .int .i64 0, .slice none 0 0]) ?_ 4 _ rfl; (with_reducible repeat (first | refine bN ?_ _ | refine bD ?_ | refine bA ?_ _)); refine bP (cs := #[.int .i64 t323, .string t324, .bool t325, .string (⟨#[]⟩ : ByteArray), .int .i64 0, .slice none 0 0]) ?_ 3 _ rfl; (with_reducible repeat (first | refine bN ?_ _ | refine bD ?_ | refine bA ?_ _)); refine bP (cs := #[.int .i64 t323, .string t324, .bool false, .string (⟨#[]⟩ : ByteArray), .int .i64 0, .slice none 0 0]) ?_ 2 _ rfl; (with_reducible repeat (first | refine bN ?_ _ | refine bD ?_ | refine bA ?_ _)); refine bP (cs := #[.int .i64 t323, .string (⟨#[]⟩ : ByteArray), .bool false, .string (⟨#[]⟩ : ByteArray), .int .i64 0, .slice none 0 0]) ?_ 1 _ rfl; (with_reducible repeat (first | refine bN ?_ _ | refine bD ?_ | refine bA ?_ _)); refine bP (cs := #[.int .i64 0, .string (⟨#[]⟩ : ByteArray), .bool false, .string (⟨#[]⟩ : ByteArray), .int .i64 0, .slice none 0 0]) ?_ 0 _ rfl; (with_reducible repeat (first | refine bN ?_ _ | refine bD ?_ | refine bA ?_ _)); exact BK332.out) hb); replace HB := A0_.mk (wT SQ.bw hb); (try clear hb); (try clear hb2); (try clear hk); (try clear hi); (try clear ho0)) | ((with_reducible refine gD (N := 12) rfl ?_); (try (refine gG (by rfl) ?_; dsimp only)); refine xE ?hg (N := 12) ?hd (cs := #[.int .i64 0, .string (⟨#[]⟩ : ByteArray), .bool false, .string (⟨#[]⟩ : ByteArray), .int .i64 0, .slice none 0 0, .bool false]) (t := 32) ?hr ?_; (case hd => rfl); (case hg => rfl); (case hr => first | (go_simp; done) | (go_simp; rfl)); intro gb342 hg w62 hbox hb; have BK342 := A0_.mk (hbox); have GW342 := A0_.mk ((by rw [hg]; exact (wZ SQ.bw) : w.heap.size ≤ gb342)); have GE342 := A0_.mk ((by rw [hg]; exact (wZ SQ.bw) : w.heap.size ≤ gb342)); have NB309_342 := A0_.mk ((by rw [hg]; exact Nat.ne_of_lt (bL (g := gb309) SQ.kw) : gb309 ≠ gb342)); have NB342_309 := A0_.mk ((by rw [hg]; exact Nat.ne_of_gt (bL (g := gb309) SQ.kw) : gb342 ≠ gb309)); have NB318_342 := A0_.mk ((by rw [hg]; exact Nat.ne_of_lt (bL (g := gb318) SQ.kw) : gb318 ≠ gb342)); have NB342_318 := A0_.mk ((by rw [hg]; exact Nat.ne_of_gt (bL (g := gb318) SQ.kw) : gb342 ≠ gb318)); have NB332_342 := A0_.mk ((by rw [hg]; exact Nat.ne_of_lt (bL (g := gb332) SQ.kw) : gb332 ≠ gb342)); have NB342_332 := A0_.mk ((by rw [hg]; exact Nat.ne_of_gt (bL (g := gb332) SQ.kw) : gb342 ≠ gb332)); replace HO317 := A0_.mk (Kd.R_below (by (with_reducible repeat (first | apply Kd.R_alloc | apply Kd.R_drewN | apply Kd.R_drew)); exact HO317.out) hb); replace HO330 := A0_.mk (Kd.R_below (by (with_reducible repeat (first | apply Kd.R_alloc | apply Kd.R_drewN | apply Kd.R_drew)); exact HO330.out) hb); replace HO340 := A0_.mk (Kd.R_below (by (with_reducible repeat (first | apply Kd.R_alloc | apply Kd.R_drewN | apply Kd.R_drew)); exact HO340.out) hb); replace BK309 := A0_.mk (bB (g := gb309) SQ.kw hb); replace BK318 := A0_.mk (bB (g := gb318) SQ.kw hb); replace BK332 := A0_.mk (bB (g := gb332) SQ.kw hb); replace HB := A0_.mk (wT SQ.bw hb); clear hb hbox hg; have hnb63 := NB342_309.out; have hnc63 := NB309_342.out; have hnb64 := NB342_318.out; have hnc64 := NB318_342.out; have hnb65 := NB342_332.out; have hnc65 := NB332_342.out; obtain ⟨hcz66_0, hcz66_1, hcz66_2, hcz66_3, hcz66_4, hcz66_5, hcz66_6, hfz66_0, hfz66_1, hfz66_2, hfz66_3, hfz66_4, hfz66_5, hfz66_6⟩ := SQ.cs7 BK342.out; obtain ⟨Ao67, co67, eo67⟩ := Kd.R_slice HO340.out; subst eo67))
    have n0_ : A0_ (Kd.R Kd.string 9 (((((((w62.setCell ⟨gb342, 0, none⟩ (.int .i64 t333)).setCell ⟨gb342, 1, none⟩ (.string t334)).setCell ⟨gb342, 2, none⟩ (.bool t335)).setCell ⟨gb342, 3, none⟩ (.string t336)).setCell ⟨gb342, 4, none⟩ (.int .i64 t337)).setCell ⟨gb342, 5, none⟩ (.slice Ao67 t338.length co67)).setCell ⟨gb342, 6, none⟩ (.bool t341)) w.heap.size (fun k_ => some k_ ≠ (.slice Ao60 t328.length co60 : Value).ownBlock ∧ some k_ ≠ (.slice Ao67 t338.length co67 : Value).ownBlock) (.slice Ao43 y315.length co43) y315) := ⟨by (with_reducible repeat (first | apply Kd.R_alloc | apply Kd.R_drewN | apply Kd.R_drew)); exact Kd.R_mono (Kd.R_far (p := ⟨gb342, 6, none⟩) (Kd.R_far (p := ⟨gb342, 5, none⟩) (Kd.R_far (p := ⟨gb342, 4, none⟩) (Kd.R_far (p := ⟨gb342, 3, none⟩) (Kd.R_far (p := ⟨gb342, 2, none⟩) (Kd.R_far (p := ⟨gb342, 1, none⟩) (Kd.R_far (p := ⟨gb342, 0, none⟩) (Kd.R_types HO317.out BK342.out (by decide)) (fun _ hk => hk.2) (.int .i64 t333)) (fun _ hk => hk.2) (.string t334)) (fun _ hk => hk.2) (.bool t335)) (fun _ hk => hk.2) (.string t336)) (fun _ hk => hk.2) (.int .i64 t337)) (fun _ hk => hk.2) (.slice Ao67 t338.length co67)) (fun _ hk => hk.2) (.bool t341)) (fun _ hk => ⟨hk.1.1.2, hk.1.2⟩)⟩
    have n1_ : A0_ (Kd.R Kd.string 9 (((((((w62.setCell ⟨gb342, 0, none⟩ (.int .i64 t333)).setCell ⟨gb342, 1, none⟩ (.string t334)).setCell ⟨gb342, 2, none⟩ (.bool t335)).setCell ⟨gb342, 3, none⟩ (.string t336)).setCell ⟨gb342, 4, none⟩ (.int .i64 t337)).setCell ⟨gb342, 5, none⟩ (.slice Ao67 t338.length co67)).setCell ⟨gb342, 6, none⟩ (.bool t341)) w.heap.size (fun k_ => some k_ ≠ (.slice Ao43 y315.length co43 : Value).ownBlock ∧ some k_ ≠ (.slice Ao67 t338.length co67 : Value).ownBlock) (.slice Ao60 t328.length co60) t328) := ⟨by (with_reducible repeat (first | apply Kd.R_alloc | apply Kd.R_drewN | apply Kd.R_drew)); exact Kd.R_mono (Kd.R_far (p := ⟨gb342, 6, none⟩) (Kd.R_far (p := ⟨gb342, 5, none⟩) (Kd.R_far (p := ⟨gb342, 4, none⟩) (Kd.R_far (p := ⟨gb342, 3, none⟩) (Kd.R_far (p := ⟨gb342, 2, none⟩) (Kd.R_far (p := ⟨gb342, 1, none⟩) (Kd.R_far (p := ⟨gb342, 0, none⟩) (Kd.R_types HO330.out BK342.out (by decide)) (fun _ hk => hk.2) (.int .i64 t333)) (fun _ hk => hk.2) (.string t334)) (fun _ hk => hk.2) (.bool t335)) (fun _ hk => hk.2) (.string t336)) (fun _ hk => hk.2) (.int .i64 t337)) (fun _ hk => hk.2) (.slice Ao67 t338.length co67)) (fun _ hk => hk.2) (.bool t341)) (fun _ hk => ⟨hk.1.1.2, hk.1.2⟩)⟩
    have n2_ : A0_ (Kd.R Kd.string 9 (((((((w62.setCell ⟨gb342, 0, none⟩ (.int .i64 t333)).setCell ⟨gb342, 1, none⟩ (.string t334)).setCell ⟨gb342, 2, none⟩ (.bool t335)).setCell ⟨gb342, 3, none⟩ (.string t336)).setCell ⟨gb342, 4, none⟩ (.int .i64 t337)).setCell ⟨gb342, 5, none⟩ (.slice Ao67 t338.length co67)).setCell ⟨gb342, 6, none⟩ (.bool t341)) w.heap.size (fun k_ => some k_ ≠ (.slice Ao43 y315.length co43 : Value).ownBlock ∧ some k_ ≠ (.slice Ao60 t328.length co60 : Value).ownBlock) (.slice Ao67 t338.length co67) t338) := ⟨by (with_reducible repeat (first | apply Kd.R_alloc | apply Kd.R_drewN | apply Kd.R_drew)); exact Kd.R_mono (Kd.R_far (p := ⟨gb342, 6, none⟩) (Kd.R_far (p := ⟨gb342, 5, none⟩) (Kd.R_far (p := ⟨gb342, 4, none⟩) (Kd.R_far (p := ⟨gb342, 3, none⟩) (Kd.R_far (p := ⟨gb342, 2, none⟩) (Kd.R_far (p := ⟨gb342, 1, none⟩) (Kd.R_far (p := ⟨gb342, 0, none⟩) (Kd.R_types HO340.out BK342.out (by decide)) (fun _ hk => hk.2) (.int .i64 t333)) (fun _ hk => hk.2) (.string t334)) (fun _ hk => hk.2) (.bool t335)) (fun _ hk => hk.2) (.string t336)) (fun _ hk => hk.2) (.int .i64 t337)) (fun _ hk => hk.2) (.slice Ao67 t338.length co67)) (fun _ hk => hk.2) (.bool t341)) (fun _ hk => ⟨hk.1.1.2, hk.1.2⟩)⟩
    have n3_ : A0_ ((((((((w62.setCell ⟨gb342, 0, none⟩ (.int .i64 t333)).setCell ⟨gb342, 1, none⟩ (.string t334)).setCell ⟨gb342, 2, none⟩ (.bool t335)).setCell ⟨gb342, 3, none⟩ (.string t336)).setCell ⟨gb342, 4, none⟩ (.int .i64 t337)).setCell ⟨gb342, 5, none⟩ (.slice Ao67 t338.length co67)).setCell ⟨gb342, 6, none⟩ (.bool t341)).heap[gb309]? = some (.cells #[.int .i64 a0_0, .string a0_1, .bool a0_2, .string a0_3, .int .i64 a0_4, .slice A0_5 l0_5.length c0_5] 24 (0, 0))) := ⟨by (with_reducible repeat (first | refine bN ?_ _ | refine bD ?_ | refine bA ?_ _)); refine bR ?_ NB309_342.out _; (with_reducible repeat (first | refine bN ?_ _ | refine bD ?_ | refine bA ?_ _)); refine bR ?_ NB309_342.out _; (with_reducible repeat (first | refine bN ?_ _ | refine bD ?_ | refine bA ?_ _)); refine bR ?_ NB309_342.out _; (with_reducible repeat (first | refine bN ?_ _ | refine bD ?_ | refine bA ?_ _)); refine bR ?_ NB309_342.out _; (with_reducible repeat (first | refine bN ?_ _ | refine bD ?_ | refine bA ?_ _)); refine bR ?_ NB309_342.out _; (with_reducible repeat (first | refine bN ?_ _ | refine bD ?_ | refine bA ?_ _)); refine bR ?_ NB309_342.out _; (with_reducible repeat (first | refine bN ?_ _ | refine bD ?_ | refine bA ?_ _)); refine bR ?_ NB309_342.out _; (with_reducible repeat (first | refine bN ?_ _ | refine bD ?_ | refine bA ?_ _)); exact BK309.out⟩
    have n4_ : A0_ ((((((((w62.setCell ⟨gb342, 0, none⟩ (.int .i64 t333)).setCell ⟨gb342, 1, none⟩ (.string t334)).setCell ⟨gb342, 2, none⟩ (.bool t335)).setCell ⟨gb342, 3, none⟩ (.string t336)).setCell ⟨gb342, 4, none⟩ (.int .i64 t337)).setCell ⟨gb342, 5, none⟩ (.slice Ao67 t338.length co67)).setCell ⟨gb342, 6, none⟩ (.bool t341)).heap[gb318]? = some (.cells #[.int .i64 a0_0, .string a0_1, .bool a0_2, .string a0_3, .int .i64 a0_4, .slice Ao43 y315.length co43] 24 (0, 0))) := ⟨by (with_reducible repeat (first | refine bN ?_ _ | refine bD ?_ | refine bA ?_ _)); refine bR ?_ NB318_342.out _; (with_reducible repeat (first | refine bN ?_ _ | refine bD ?_ | refine bA ?_ _)); refine bR ?_ NB318_342.out _; (with_reducible repeat (first | refine bN ?_ _ | refine bD ?_ | refine bA ?_ _)); refine bR ?_ NB318_342.out _; (with_reducible repeat (first | refine bN ?_ _ | refine bD ?_ | refine bA ?_ _)); refine bR ?_ NB318_342.out _; (with_reducible repeat (first | refine bN ?_ _ | refine bD ?_ | refine bA ?_ _)); refine bR ?_ NB318_342.out _; (with_reducible repeat (first | refine bN ?_ _ | refine bD ?_ | refine bA ?_ _)); refine bR ?_ NB318_342.out _; (with_reducible repeat (first | refine bN ?_ _ | refine bD ?_ | refine bA ?_ _)); refine bR ?_ NB318_342.out _; (with_reducible repeat (first | refine bN ?_ _ | refine bD ?_ | refine bA ?_ _)); exact BK318.out⟩
    have n5_ : A0_ ((((((((w62.setCell ⟨gb342, 0, none⟩ (.int .i64 t333)).setCell ⟨gb342, 1, none⟩ (.string t334)).setCell ⟨gb342, 2, none⟩ (.bool t335)).setCell ⟨gb342, 3, none⟩ (.string t336)).setCell ⟨gb342, 4, none⟩ (.int .i64 t337)).setCell ⟨gb342, 5, none⟩ (.slice Ao67 t338.length co67)).setCell ⟨gb342, 6, none⟩ (.bool t341)).heap[gb332]? = some (.cells #[.int .i64 t323, .string t324, .bool t325, .string t326, .int .i64 t327, .slice Ao60 t328.length co60] 24 (0, 0))) := ⟨by (with_reducible repeat (first | refine bN ?_ _ | refine bD ?_ | refine bA ?_ _)); refine bR ?_ NB332_342.out _; (with_reducible repeat (first | refine bN ?_ _ | refine bD ?_ | refine bA ?_ _)); refine bR ?_ NB332_342.out _; (with_reducible repeat (first | refine bN ?_ _ | refine bD ?_ | refine bA ?_ _)); refine bR ?_ NB332_342.out _; (with_reducible repeat (first | refine bN ?_ _ | refine bD ?_ | refine bA ?_ _)); refine bR ?_ NB332_342.out _; (with_reducible repeat (first | refine bN ?_ _ | refine bD ?_ | refine bA ?_ _)); refine bR ?_ NB332_342.out _; (with_reducible repeat (first | refine bN ?_ _ | refine bD ?_ | refine bA ?_ _)); refine bR ?_ NB332_342.out _; (with_reducible repeat (first | refine bN ?_ _ | refine bD ?_ | refine bA ?_ _)); refine bR ?_ NB332_342.out _; (with_reducible repeat (first | refine bN ?_ _ | refine bD ?_ | refine bA ?_ _)); exact BK332.out⟩
    have n6_ : A0_ ((((((((w62.setCell ⟨gb342, 0, none⟩ (.int .i64 t333)).setCell ⟨gb342, 1, none⟩ (.string t334)).setCell ⟨gb342, 2, none⟩ (.bool t335)).setCell ⟨gb342, 3, none⟩ (.string t336)).setCell ⟨gb342, 4, none⟩ (.int .i64 t337)).setCell ⟨gb342, 5, none⟩ (.slice Ao67 t338.length co67)).setCell ⟨gb342, 6, none⟩ (.bool t341)).heap[gb342]? = some (.cells #[.int .i64 t333, .string t334, .bool t335, .string t336, .int .i64 t337, .slice Ao67 t338.length co67, .bool t341] 32 (0, 0))) := ⟨by (with_reducible repeat (first | refine bN ?_ _ | refine bD ?_ | refine bA ?_ _)); refine bP (cs := #[.int .i64 t333, .string t334, .bool t335, .string t336, .int .i64 t337, .slice Ao67 t338.length co67, .bool false]) ?_ 6 _ rfl; (with_reducible repeat (first | refine bN ?_ _ | refine bD ?_ | refine bA ?_ _)); refine bP (cs := #[.int .i64 t333, .string t334, .bool t335, .string t336, .int .i64 t337, .slice none 0 0, .bool false]) ?_ 5 _ rfl; (with_reducible repeat (first | refine bN ?_ _ | refine bD ?_ | refine bA ?_ _)); refine bP (cs := #[.int .i64 t333, .string t334, .bool t335, .string t336, .int .i64 0, .slice none 0 0, .bool false]) ?_ 4 _ rfl; (with_reducible repeat (first | refine bN ?_ _ | refine bD ?_ | refine bA ?_ _)); refine bP (cs := #[.int .i64 t333, .string t334, .bool t335, .string (⟨#[]⟩ : ByteArray), .int .i64 0, .slice none 0 0, .bool false]) ?_ 3 _ rfl; (with_reducible repeat (first | refine bN ?_ _ | refine bD ?_ | refine bA ?_ _)); refine bP (cs := #[.int .i64 t333, .string t334, .bool false, .string (⟨#[]⟩ : ByteArray), .int .i64 0, .slice none 0 0, .bool false]) ?_ 2 _ rfl; (with_reducible repeat (first | refine bN ?_ _ | refine bD ?_ | refine bA ?_ _)); refine bP (cs := #[.int .i64 t333, .string (⟨#[]⟩ : ByteArray), .bool false, .string (⟨#[]⟩ : ByteArray), .int .i64 0, .slice none 0 0, .bool false]) ?_ 1 _ rfl; (with_reducible repeat (first | refine bN ?_ _ | refine bD ?_ | refine bA ?_ _)); refine bP (cs := #[.int .i64 0, .string (⟨#[]⟩ : ByteArray), .bool false, .string (⟨#[]⟩ : ByteArray), .int .i64 0, .slice none 0 0, .bool false]) ?_ 0 _ rfl; (with_reducible repeat (first | refine bN ?_ _ | refine bD ?_ | refine bA ?_ _)); exact BK342.out⟩
    have n7_ : A0_ (Below w.heap.size w (((((((w62.setCell ⟨gb342, 0, none⟩ (.int .i64 t333)).setCell ⟨gb342, 1, none⟩ (.string t334)).setCell ⟨gb342, 2, none⟩ (.bool t335)).setCell ⟨gb342, 3, none⟩ (.string t336)).setCell ⟨gb342, 4, none⟩ (.int .i64 t337)).setCell ⟨gb342, 5, none⟩ (.slice Ao67 t338.length co67)).setCell ⟨gb342, 6, none⟩ (.bool t341))) := ⟨SQ.bw⟩
    (try clear HO317)
    (try clear HO330)
    (try clear HO340)
    (try clear BK309)
    (try clear BK318)
    (try clear BK332)
    (try clear BK342)
    (try clear HB)
    generalize (((((((w62.setCell ⟨gb342, 0, none⟩ (.int .i64 t333)).setCell ⟨gb342, 1, none⟩ (.string t334)).setCell ⟨gb342, 2, none⟩ (.bool t335)).setCell ⟨gb342, 3, none⟩ (.string t336)).setCell ⟨gb342, 4, none⟩ (.int .i64 t337)).setCell ⟨gb342, 5, none⟩ (.slice Ao67 t338.length co67)).setCell ⟨gb342, 6, none⟩ (.bool t341)) = w68 at n0_ n1_ n2_ n3_ n4_ n5_ n6_ n7_ ⊢
    have HO317 := n0_
    have HO330 := n1_
    have HO340 := n2_
    have BK309 := n3_
    have BK318 := n4_
    have BK332 := n5_
    have BK342 := n6_
    have HB := n7_
    clear n0_ n1_ n2_ n3_ n4_ n5_ n6_ n7_
    replace HO317 := A0_.mk (Kd.R_drew HO317.out)
    replace HO330 := A0_.mk (Kd.R_drew HO330.out)
    replace HO340 := A0_.mk (Kd.R_drew HO340.out)
    replace BK309 := A0_.mk (bD BK309.out)
    replace BK318 := A0_.mk (bD BK318.out)
    replace BK332 := A0_.mk (bD BK332.out)
    replace BK342 := A0_.mk (bD BK342.out)
    replace HB := A0_.mk (wD HB.out)
    refine start_ (n := 50) (S := fun w' => w'.cell? ⟨gb318, 0, none⟩ = some (.int .i64 a0_0) ∧ w'.cell? ⟨gb318, 1, none⟩ = some (.string a0_1) ∧ w'.cell? ⟨gb318, 2, none⟩ = some (.bool a0_2) ∧ w'.cell? ⟨gb318, 3, none⟩ = some (.string a0_3) ∧ w'.cell? ⟨gb318, 4, none⟩ = some (.int .i64 a0_4) ∧ w'.cell? ⟨gb318, 5, none⟩ = some (.slice Ao43 y315.length co43) ∧ w'.cell? ⟨gb309, 0, none⟩ = some (.int .i64 a0_0) ∧ w'.cell? ⟨gb309, 1, none⟩ = some (.string a0_1) ∧ w'.cell? ⟨gb309, 2, none⟩ = some (.bool a0_2) ∧ w'.cell? ⟨gb309, 3, none⟩ = some (.string a0_3) ∧ w'.cell? ⟨gb309, 4, none⟩ = some (.int .i64 a0_4) ∧ w'.cell? ⟨gb309, 5, none⟩ = some (.slice A0_5 l0_5.length c0_5) ∧ w'.cell? ⟨gb332, 0, none⟩ = some (.int .i64 t323) ∧ w'.cell? ⟨gb332, 1, none⟩ = some (.string t324) ∧ w'.cell? ⟨gb332, 2, none⟩ = some (.bool t325) ∧ w'.cell? ⟨gb332, 3, none⟩ = some (.string t326) ∧ w'.cell? ⟨gb332, 4, none⟩ = some (.int .i64 t327) ∧ w'.cell? ⟨gb332, 5, none⟩ = some (.slice Ao60 t328.length co60) ∧ w'.cell? ⟨gb342, 0, none⟩ = some (.int .i64 t333) ∧ w'.cell? ⟨gb342, 1, none⟩ = some (.string t334) ∧ w'.cell? ⟨gb342, 2, none⟩ = some (.bool t335) ∧ w'.cell? ⟨gb342, 3, none⟩ = some (.string t336) ∧ w'.cell? ⟨gb342, 4, none⟩ = some (.int .i64 t337) ∧ w'.cell? ⟨gb342, 5, none⟩ = some (.slice Ao67 t338.length co67) ∧ w'.cell? ⟨gb342, 6, none⟩ = some (.bool t341)) (ds := []) #[false, false, false, false, false, false, false, false, false, false, false, false, false, false, false, false, false, false, false, false, false, false, false, false, false, false, false, false, false, false, false, false, false, false, false, false, false, false, false, false, false, false, false, false, false, false, false, false, false, false] (by kernel_rfl) rfl rfl ⟨(bC BK318.out 0).trans rfl, (bC BK318.out 1).trans rfl, (bC BK318.out 2).trans rfl, (bC BK318.out 3).trans rfl, (bC BK318.out 4).trans rfl, (bC BK318.out 5).trans rfl, (bC BK309.out 0).trans rfl, (bC BK309.out 1).trans rfl, (bC BK309.out 2).trans rfl, (bC BK309.out 3).trans rfl, (bC BK309.out 4).trans rfl, (bC BK309.out 5).trans rfl, (bC BK332.out 0).trans rfl, (bC BK332.out 1).trans rfl, (bC BK332.out 2).trans rfl, (bC BK332.out 3).trans rfl, (bC BK332.out 4).trans rfl, (bC BK332.out 5).trans rfl, (bC BK342.out 0).trans rfl, (bC BK342.out 1).trans rfl, (bC BK342.out 2).trans rfl, (bC BK342.out 3).trans rfl, (bC BK342.out 4).trans rfl, (bC BK342.out 5).trans rfl, (bC BK342.out 6).trans rfl⟩ (fun hHeld => ?_); refine with_tabW u9NodeTells.tab8 u9NodeTells.bits8 (fun HT_ HW_ => ?_)
    generalize w68.drew = w69 at HO317 HO330 HO340 BK309 BK318 BK332 BK342 HB hHeld ⊢
    refine take_ (i := 0) (N := some 53) (v := ?_) (a' := ?_) #[true, false, false, false, false, false, false, false, false, false, false, false, false, false, false, false, false, false, false, false, false, false, false, false, false, false, false, false, false, false, false, false, false, false, false, false, false, false, false, false, false, false, false, false, false, false, false, false, false, false] rfl rfl (take_ofW HT_.out HW_.out (by kernel_rfl)) (fun _ _ _ h => h) (Or.inl ⟨by rfl, ?_⟩) hHeld ?_ ?_
    rotate_left
    ·rintro w' ⟨s0, s1, s2, s3, s4, s5, s6, s7, s8, s9, s10, s11, s12, s13, s14, s15, s16, s17, s18, s19, s20, s21, s22, s23, s24⟩
     go_simp
     with_reducible rfl
    rotate_left
    ·simp only [Act.put, List.setIfInBounds_toArray, List.set_cons_zero, List.set_cons_succ, i64_w, i32_w]
     rfl
    refine take_ (i := 2) (N := some 55) (v := ?_) (a' := ?_) #[true, false, true, false, false, false, false, false, false, false, false, false, false, false, false, false, false, false, false, false, false, false, false, false, false, false, false, false, false, false, false, false, false, false, false, false, false, false, false, false, false, false, false, false, false, false, false, false, false, false] rfl rfl (take_ofW HT_.out HW_.out (by kernel_rfl)) (fun _ _ _ h => h) (Or.inl ⟨by rfl, ?_⟩) hHeld ?_ ?_
    rotate_left
    ·rintro w' ⟨s0, s1, s2, s3, s4, s5, s6, s7, s8, s9, s10, s11, s12, s13, s14, s15, s16, s17, s18, s19, s20, s21, s22, s23, s24⟩
     go_simp
     with_reducible rfl
    rotate_left
    ·simp only [Act.put, List.setIfInBounds_toArray, List.set_cons_zero, List.set_cons_succ, i64_w, i32_w]
     rfl
    refine one_ (i := 1) (N := some 54) #[true, true, true, false, false, false, false, false, false, false, false, false, false, false, false, false, false, false, false, false, false, false, false, false, false, false, false, false, false, false, false, false, false, false, false, false, false, false, false, false, false, false, false, false, false, false, false, false, false, false] rfl rfl (one_of HT_.out (by kernel_rfl)) (by decide) (fun K hK => ?_)
    refine goes_ Tryd.func13 (by kernel_rfl) rfl #[.agg #[.int .i64 a0_0, .string a0_1, .bool a0_2, .string a0_3, .int .i64 a0_4, .slice Ao43 y315.length co43]] (by rfl) rfl rfl SQ.sm ?_
    with_reducible refine (node_Good.calls kj2 a0_0 a0_1 a0_2 a0_3 a0_4 _ _ y315 t343 _ ?side1 ?side2 A19.out).mono ?_
    (case side1 => repeat (first | exact (Kd.R_reads' HO317.out).2.2 | (with_reducible refine Kd.C_alloc ?_ _) | (with_reducible refine Kd.C_drewN ?_ _) | (with_reducible refine Kd.C_drew ?_)))
    (case side2 => exact (Kd.R_reads' HO317.out).2.1)
    rintro e w70 ⟨rfl, hb⟩
    refine ⟨_, rfl, ?_⟩
    replace HO317 := A0_.mk (Kd.R_below (by (with_reducible repeat (first | apply Kd.R_alloc | apply Kd.R_drewN | apply Kd.R_drew)); exact HO317.out) hb)
    replace HO330 := A0_.mk (Kd.R_below (by (with_reducible repeat (first | apply Kd.R_alloc | apply Kd.R_drewN | apply Kd.R_drew)); exact HO330.out) hb)
    replace HO340 := A0_.mk (Kd.R_below (by (with_reducible repeat (first | apply Kd.R_alloc | apply Kd.R_drewN | apply Kd.R_drew)); exact HO340.out) hb)
    replace BK309 := A0_.mk (bB (g := gb309) SQ.kw hb)
    replace BK318 := A0_.mk (bB (g := gb318) SQ.kw hb)
    replace BK332 := A0_.mk (bB (g := gb332) SQ.kw hb)
    replace BK342 := A0_.mk (bB (g := gb342) SQ.kw hb)
    replace HB := A0_.mk (wT SQ.bw hb)
    (try clear hb)
    (try clear hb2)
    (try clear hk)
    (try clear hi)
    refine hK.out _ _ ⟨(bC BK318.out 0).trans rfl, (bC BK318.out 1).trans rfl, (bC BK318.out 2).trans rfl, (bC BK318.out 3).trans rfl, (bC BK318.out 4).trans rfl, (bC BK318.out 5).trans rfl, (bC BK309.out 0).trans rfl, (bC BK309.out 1).trans rfl, (bC BK309.out 2).trans rfl, (bC BK309.out 3).trans rfl, (bC BK309.out 4).trans rfl, (bC BK309.out 5).trans rfl, (bC BK332.out 0).trans rfl, (bC BK332.out 1).trans rfl, (bC BK332.out 2).trans rfl, (bC BK332.out 3).trans rfl, (bC BK332.out 4).trans rfl, (bC BK332.out 5).trans rfl, (bC BK342.out 0).trans rfl, (bC BK342.out 1).trans rfl, (bC BK342.out 2).trans rfl, (bC BK342.out 3).trans rfl, (bC BK342.out 4).trans rfl, (bC BK342.out 5).trans rfl, (bC BK342.out 6).trans rfl⟩ (fun hHeld => ?_)
    clear hK K
    refine norm_ (a' := ?_) ?_ ?_
    rotate_left
    ·show Act.put _ (some 54) _ = _
     simp only [Act.put, List.setIfInBounds_toArray, List.set_cons_zero, List.set_cons_succ, i64_w, i32_w]
     rfl
    refine one_ (i := 3) (N := some 56) #[true, true, true, true, false, false, false, false, false, false, false, false, false, false, false, false, false, false, false, false, false, false, false, false, false, false, false, false, false, false, false, false, false, false, false, false, false, false, false, false, false, false, false, false, false, false, false, false, false, false] rfl rfl (one_of HT_.out (by kernel_rfl)) (by decide) (fun K hK => ?_)
    refine goes_ Tryd.func14 (by kernel_rfl) rfl #[.agg #[.int .i64 a0_0, .string a0_1, .bool a0_2, .string a0_3, .int .i64 a0_4, .slice A0_5 l0_5.length c0_5]] (by rfl) rfl rfl SQ.sm ?_
    with_reducible refine (r9Good.calls kj2 a0_0 a0_1 a0_2 a0_3 a0_4 _ _ l0_5 t344 _ ?side1 ?side2 A20.out).mono ?_
    (case side1 => repeat (first | exact (Kd.C_below HR0_5.out HB.out) | (with_reducible refine Kd.C_alloc ?_ _) | (with_reducible refine Kd.C_drewN ?_ _) | (with_reducible refine Kd.C_drew ?_)))
    (case side2 => exact HC0_5.out)
    rintro e w71 ⟨rfl, hb⟩
    refine ⟨_, rfl, ?_⟩
    replace HO317 := A0_.mk (Kd.R_below (by (with_reducible repeat (first | apply Kd.R_alloc | apply Kd.R_drewN | apply Kd.R_drew)); exact HO317.out) hb)
    replace HO330 := A0_.mk (Kd.R_below (by (with_reducible repeat (first | apply Kd.R_alloc | apply Kd.R_drewN | apply Kd.R_drew)); exact HO330.out) hb)
    replace HO340 := A0_.mk (Kd.R_below (by (with_reducible repeat (first | apply Kd.R_alloc | apply Kd.R_drewN | apply Kd.R_drew)); exact HO340.out) hb)
    replace BK309 := A0_.mk (bB (g := gb309) SQ.kw hb)
    replace BK318 := A0_.mk (bB (g := gb318) SQ.kw hb)
    replace BK332 := A0_.mk (bB (g := gb332) SQ.kw hb)
    replace BK342 := A0_.mk (bB (g := gb342) SQ.kw hb)
    replace HB := A0_.mk (wT SQ.bw hb)
    (try clear hb)
    (try clear hb2)
    (try clear hk)
    (try clear hi)
    refine hK.out _ _ ⟨(bC BK318.out 0).trans rfl, (bC BK318.out 1).trans rfl, (bC BK318.out 2).trans rfl, (bC BK318.out 3).trans rfl, (bC BK318.out 4).trans rfl, (bC BK318.out 5).trans rfl, (bC BK309.out 0).trans rfl, (bC BK309.out 1).trans rfl, (bC BK309.out 2).trans rfl, (bC BK309.out 3).trans rfl, (bC BK309.out 4).trans rfl, (bC BK309.out 5).trans rfl, (bC BK332.out 0).trans rfl, (bC BK332.out 1).trans rfl, (bC BK332.out 2).trans rfl, (bC BK332.out 3).trans rfl, (bC BK332.out 4).trans rfl, (bC BK332.out 5).trans rfl, (bC BK342.out 0).trans rfl, (bC BK342.out 1).trans rfl, (bC BK342.out 2).trans rfl, (bC BK342.out 3).trans rfl, (bC BK342.out 4).trans rfl, (bC BK342.out 5).trans rfl, (bC BK342.out 6).trans rfl⟩ (fun hHeld => ?_)
    clear hK K
    refine norm_ (a' := ?_) ?_ ?_
    rotate_left
    ·show Act.put _ (some 56) _ = _
     simp only [Act.put, List.setIfInBounds_toArray, List.set_cons_zero, List.set_cons_succ, i64_w, i32_w]
     rfl
    refine pure_ (i := 4) (N := some 57) (v := ?_) (a' := ?_) #[true, true, true, true, true, false, false, false, false, false, false, false, false, false, false, false, false, false, false, false, false, false, false, false, false, false, false, false, false, false, false, false, false, false, false, false, false, false, false, false, false, false, false, false, false, false, false, false, false, false] rfl rfl (any_of HT_.out (by kernel_rfl)) (fun _ _ _ h => h) (Or.inl ⟨by rfl, ?_⟩) ?_ ?_
    rotate_left
    ·intro w'
     go_simp
     with_reducible rfl
    rotate_left
    ·simp only [Act.put, List.setIfInBounds_toArray, List.set_cons_zero, List.set_cons_succ, i64_w, i32_w]
     rfl
    refine pure_ (i := 5) (N := some 58) (v := ?_) (a' := ?_) #[true, true, true, true, true, true, false, false, false, false, false, false, false, false, false, false, false, false, false, false, false, false, false, false, false, false, false, false, false, false, false, false, false, false, false, false, false, false, false, false, false, false, false, false, false, false, false, false, false, false] rfl rfl (any_of HT_.out (by kernel_rfl)) (fun _ _ _ h => h) (Or.inl ⟨by rfl, ?_⟩) ?_ ?_
    rotate_left
    ·intro w'
     go_simp
     with_reducible rfl
    rotate_left
    ·simp only [Act.put, List.setIfInBounds_toArray, List.set_cons_zero, List.set_cons_succ, i64_w, i32_w]
     rfl
    refine pure_ (i := 6) (N := some 59) (v := ?_) (a' := ?_) #[true, true, true, true, true, true, true, false, false, false, false, false, false, false, false, false, false, false, false, false, false, false, false, false, false, false, false, false, false, false, false, false, false, false, false, false, false, false, false, false, false, false, false, false, false, false, false, false, false, false] rfl rfl (any_of HT_.out (by kernel_rfl)) (fun _ _ _ h => h) (Or.inl ⟨by rfl, ?_⟩) ?_ ?_
    rotate_left
    ·intro w'
     go_simp
     with_reducible rfl
    rotate_left
    ·simp only [Act.put, List.setIfInBounds_toArray, List.set_cons_zero, List.set_cons_succ, i64_w, i32_w]
     rfl
    refine take_ (i := 7) (N := some 60) (v := ?_) (a' := ?_) #[true, true, true, true, true, true, true, true, false, false, false, false, false, false, false, false, false, false, false, false, false, false, false, false, false, false, false, false, false, false, false, false, false, false, false, false, false, false, false, false, false, false, false, false, false, false, false, false, false, false] rfl rfl (take_ofW HT_.out HW_.out (by kernel_rfl)) (fun _ _ _ h => h) (Or.inl ⟨by rfl, ?_⟩) hHeld ?_ ?_
    rotate_left
    ·rintro w' ⟨s0, s1, s2, s3, s4, s5, s6, s7, s8, s9, s10, s11, s12, s13, s14, s15, s16, s17, s18, s19, s20, s21, s22, s23, s24⟩
     go_simp
     with_reducible rfl
    rotate_left
    ·simp only [Act.put, List.setIfInBounds_toArray, List.set_cons_zero, List.set_cons_succ, i64_w, i32_w]
     rfl
    refine one_ (i := 8) (N := some 61) #[true, true, true, true, true, true, true, true, true, false, false, false, false, false, false, false, false, false, false, false, false, false, false, false, false, false, false, false, false, false, false, false, false, false, false, false, false, false, false, false, false, false, false, false, false, false, false, false, false, false] rfl rfl (one_of HT_.out (by kernel_rfl)) (by decide) (fun K hK => ?_)
    refine goes_ Tryd.func15 (by kernel_rfl) rfl #[.agg #[.int .i64 a0_0, .string a0_1, .bool a0_2, .string a0_3, .int .i64 a0_4, .slice A0_5 l0_5.length c0_5]] (by rfl) rfl rfl SQ.sm ?_
    with_reducible refine (r9Encode.calls kj2 a0_0 a0_1 a0_2 a0_3 a0_4 _ _ l0_5 t345 _ ?side1 ?side2 A22.out).mono ?_
    (case side1 => repeat (first | exact (Kd.C_below HR0_5.out HB.out) | (with_reducible refine Kd.C_alloc ?_ _) | (with_reducible refine Kd.C_drewN ?_ _) | (with_reducible refine Kd.C_drew ?_)))
    (case side2 => exact HC0_5.out)
    rintro e w72 ⟨rfl, hb⟩
    refine ⟨_, rfl, ?_⟩
    replace HO317 := A0_.mk (Kd.R_below (by (with_reducible repeat (first | apply Kd.R_alloc | apply Kd.R_drewN | apply Kd.R_drew)); exact HO317.out) hb)
    replace HO330 := A0_.mk (Kd.R_below (by (with_reducible repeat (first | apply Kd.R_alloc | apply Kd.R_drewN | apply Kd.R_drew)); exact HO330.out) hb)
    replace HO340 := A0_.mk (Kd.R_below (by (with_reducible repeat (first | apply Kd.R_alloc | apply Kd.R_drewN | apply Kd.R_drew)); exact HO340.out) hb)
    replace BK309 := A0_.mk (bB (g := gb309) SQ.kw hb)
    replace BK318 := A0_.mk (bB (g := gb318) SQ.kw hb)
    replace BK332 := A0_.mk (bB (g := gb332) SQ.kw hb)
    replace BK342 := A0_.mk (bB (g := gb342) SQ.kw hb)
    replace HB := A0_.mk (wT SQ.bw hb)
    (try clear hb)
    (try clear hb2)
    (try clear hk)
    (try clear hi)
    refine hK.out _ _ ⟨(bC BK318.out 0).trans rfl, (bC BK318.out 1).trans rfl, (bC BK318.out 2).trans rfl, (bC BK318.out 3).trans rfl, (bC BK318.out 4).trans rfl, (bC BK318.out 5).trans rfl, (bC BK309.out 0).trans rfl, (bC BK309.out 1).trans rfl, (bC BK309.out 2).trans rfl, (bC BK309.out 3).trans rfl, (bC BK309.out 4).trans rfl, (bC BK309.out 5).trans rfl, (bC BK332.out 0).trans rfl, (bC BK332.out 1).trans rfl, (bC BK332.out 2).trans rfl, (bC BK332.out 3).trans rfl, (bC BK332.out 4).trans rfl, (bC BK332.out 5).trans rfl, (bC BK342.out 0).trans rfl, (bC BK342.out 1).trans rfl, (bC BK342.out 2).trans rfl, (bC BK342.out 3).trans rfl, (bC BK342.out 4).trans rfl, (bC BK342.out 5).trans rfl, (bC BK342.out 6).trans rfl⟩ (fun hHeld => ?_)
    clear hK K
    refine norm_ (a' := ?_) ?_ ?_
    rotate_left
    ·show Act.put _ (some 61) _ = _
     simp only [Act.put, List.setIfInBounds_toArray, List.set_cons_zero, List.set_cons_succ, i64_w, i32_w]
     rfl
    refine pure_ (i := 9) (N := some 62) (v := ?_) (a' := ?_) #[true, true, true, true, true, true, true, true, true, true, false, false, false, false, false, false, false, false, false, false, false, false, false, false, false, false, false, false, false, false, false, false, false, false, false, false, false, false, false, false, false, false, false, false, false, false, false, false, false, false] rfl rfl (any_of HT_.out (by kernel_rfl)) (fun _ _ _ h => h) (Or.inl ⟨by rfl, ?_⟩) ?_ ?_
    rotate_left
    ·intro w'
     go_simp
     with_reducible rfl
    rotate_left
    ·simp only [Act.put, List.setIfInBounds_toArray, List.set_cons_zero, List.set_cons_succ, i64_w, i32_w]
     rfl
    refine pure_ (i := 10) (N := some 63) (v := ?_) (a' := ?_) #[true, true, true, true, true, true, true, true, true, true, true, false, false, false, false, false, false, false, false, false, false, false, false, false, false, false, false, false, false, false, false, false, false, false, false, false, false, false, false, false, false, false, false, false, false, false, false, false, false, false] rfl rfl (any_of HT_.out (by kernel_rfl)) (fun _ _ _ h => h) (Or.inl ⟨by rfl, ?_⟩) ?_ ?_
    rotate_left
    ·intro w'
     go_simp
     with_reducible rfl
    rotate_left
    ·simp only [Act.put, List.setIfInBounds_toArray, List.set_cons_zero, List.set_cons_succ, i64_w, i32_w]
     rfl
    refine pure_ (i := 11) (N := some 64) (v := ?_) (a' := ?_) #[true, true, true, true, true, true, true, true, true, true, true, true, false, false, false, false, false, false, false, false, false, false, false, false, false, false, false, false, false, false, false, false, false, false, false, false, false, false, false, false, false, false, false, false, false, false, false, false, false, false] rfl rfl (any_of HT_.out (by kernel_rfl)) (fun _ _ _ h => h) (Or.inl ⟨by rfl, ?_⟩) ?_ ?_
    rotate_left
    ·intro w'
     go_simp
     with_reducible rfl
    rotate_left
    ·simp only [Act.put, List.setIfInBounds_toArray, List.set_cons_zero, List.set_cons_succ, i64_w, i32_w]
     rfl
    refine pure_ (i := 12) (N := some 65) (v := ?_) (a' := ?_) #[true, true, true, true, true, true, true, true, true, true, true, true, true, false, false, false, false, false, false, false, false, false, false, false, false, false, false, false, false, false, false, false, false, false, false, false, false, false, false, false, false, false, false, false, false, false, false, false, false, false] rfl rfl (any_of HT_.out (by kernel_rfl)) (fun _ _ _ h => h) (Or.inl ⟨by rfl, ?_⟩) ?_ ?_
    rotate_left
    ·intro w'
     go_simp
     with_reducible rfl
    rotate_left
    ·simp only [Act.put, List.setIfInBounds_toArray, List.set_cons_zero, List.set_cons_succ, i64_w, i32_w]
     rfl
    refine take_ (i := 13) (N := some 66) (v := ?_) (a' := ?_) #[true, true, true, true, true, true, true, true, true, true, true, true, true, true, false, false, false, false, false, false, false, false, false, false, false, false, false, false, false, false, false, false, false, false, false, false, false, false, false, false, false, false, false, false, false, false, false, false, false, false] rfl rfl (take_ofW HT_.out HW_.out (by kernel_rfl)) (fun _ _ _ h => h) (Or.inl ⟨by rfl, ?_⟩) hHeld ?_ ?_
    rotate_left
    ·rintro w' ⟨s0, s1, s2, s3, s4, s5, s6, s7, s8, s9, s10, s11, s12, s13, s14, s15, s16, s17, s18, s19, s20, s21, s22, s23, s24⟩
     go_simp
     with_reducible rfl
    rotate_left
    ·simp only [Act.put, List.setIfInBounds_toArray, List.set_cons_zero, List.set_cons_succ, i64_w, i32_w]
     rfl
    refine one_ (i := 14) (N := some 67) #[true, true, true, true, true, true, true, true, true, true, true, true, true, true, true, false, false, false, false, false, false, false, false, false, false, false, false, false, false, false, false, false, false, false, false, false, false, false, false, false, false, false, false, false, false, false, false, false, false, false] rfl rfl (one_of HT_.out (by kernel_rfl)) (by decide) (fun K hK => ?_)
    refine goes_ Tryd.func14 (by kernel_rfl) rfl #[.agg #[.int .i64 a0_0, .string a0_1, .bool a0_2, .string a0_3, .int .i64 a0_4, .slice A0_5 l0_5.length c0_5]] (by rfl) rfl rfl SQ.sm ?_
    with_reducible refine (r9Good.calls kj2 a0_0 a0_1 a0_2 a0_3 a0_4 _ _ l0_5 t346 _ ?side1 ?side2 A24.out).mono ?_
    (case side1 => repeat (first | exact (Kd.C_below HR0_5.out HB.out) | (with_reducible refine Kd.C_alloc ?_ _) | (with_reducible refine Kd.C_drewN ?_ _) | (with_reducible refine Kd.C_drew ?_)))
    (case side2 => exact HC0_5.out)
    rintro e w73 ⟨rfl, hb⟩
    refine ⟨_, rfl, ?_⟩
    replace HO317 := A0_.mk (Kd.R_below (by (with_reducible repeat (first | apply Kd.R_alloc | apply Kd.R_drewN | apply Kd.R_drew)); exact HO317.out) hb)
    replace HO330 := A0_.mk (Kd.R_below (by (with_reducible repeat (first | apply Kd.R_alloc | apply Kd.R_drewN | apply Kd.R_drew)); exact HO330.out) hb)
    replace HO340 := A0_.mk (Kd.R_below (by (with_reducible repeat (first | apply Kd.R_alloc | apply Kd.R_drewN | apply Kd.R_drew)); exact HO340.out) hb)
    replace BK309 := A0_.mk (bB (g := gb309) SQ.kw hb)
    replace BK318 := A0_.mk (bB (g := gb318) SQ.kw hb)
    replace BK332 := A0_.mk (bB (g := gb332) SQ.kw hb)
    replace BK342 := A0_.mk (bB (g := gb342) SQ.kw hb)
    replace HB := A0_.mk (wT SQ.bw hb)
    (try clear hb)
    (try clear hb2)
    (try clear hk)
    (try clear hi)
    refine hK.out _ _ ⟨(bC BK318.out 0).trans rfl, (bC BK318.out 1).trans rfl, (bC BK318.out 2).trans rfl, (bC BK318.out 3).trans rfl, (bC BK318.out 4).trans rfl, (bC BK318.out 5).trans rfl, (bC BK309.out 0).trans rfl, (bC BK309.out 1).trans rfl, (bC BK309.out 2).trans rfl, (bC BK309.out 3).trans rfl, (bC BK309.out 4).trans rfl, (bC BK309.out 5).trans rfl, (bC BK332.out 0).trans rfl, (bC BK332.out 1).trans rfl, (bC BK332.out 2).trans rfl, (bC BK332.out 3).trans rfl, (bC BK332.out 4).trans rfl, (bC BK332.out 5).trans rfl, (bC BK342.out 0).trans rfl, (bC BK342.out 1).trans rfl, (bC BK342.out 2).trans rfl, (bC BK342.out 3).trans rfl, (bC BK342.out 4).trans rfl, (bC BK342.out 5).trans rfl, (bC BK342.out 6).trans rfl⟩ (fun hHeld => ?_)
    clear hK K
    refine norm_ (a' := ?_) ?_ ?_
    rotate_left
    ·show Act.put _ (some 67) _ = _
     simp only [Act.put, List.setIfInBounds_toArray, List.set_cons_zero, List.set_cons_succ, i64_w, i32_w]
     rfl
    refine pure_ (i := 15) (N := some 68) (v := ?_) (a' := ?_) #[true, true, true, true, true, true, true, true, true, true, true, true, true, true, true, true, false, false, false, false, false, false, false, false, false, false, false, false, false, false, false, false, false, false, false, false, false, false, false, false, false, false, false, false, false, false, false, false, false, false] rfl rfl (any_of HT_.out (by kernel_rfl)) (fun _ _ _ h => h) (Or.inl ⟨by rfl, ?_⟩) ?_ ?_
    rotate_left
    ·intro w'
     go_simp
     with_reducible rfl
    rotate_left
    ·simp only [Act.put, List.setIfInBounds_toArray, List.set_cons_zero, List.set_cons_succ, i64_w, i32_w]
     rfl
    refine pure_ (i := 16) (N := some 69) (v := ?_) (a' := ?_) #[true, true, true, true, true, true, true, true, true, true, true, true, true, true, true, true, true, false, false, false, false, false, false, false, false, false, false, false, false, false, false, false, false, false, false, false, false, false, false, false, false, false, false, false, false, false, false, false, false, false] rfl rfl (any_of HT_.out (by kernel_rfl)) (fun _ _ _ h => h) (Or.inl ⟨by rfl, ?_⟩) ?_ ?_
    rotate_left
    ·intro w'
     go_simp
     with_reducible rfl
    rotate_left
    ·simp only [Act.put, List.setIfInBounds_toArray, List.set_cons_zero, List.set_cons_succ, i64_w, i32_w]
     rfl
    refine pure_ (i := 17) (N := some 70) (v := ?_) (a' := ?_) #[true, true, true, true, true, true, true, true, true, true, true, true, true, true, true, true, true, true, false, false, false, false, false, false, false, false, false, false, false, false, false, false, false, false, false, false, false, false, false, false, false, false, false, false, false, false, false, false, false, false] rfl rfl (any_of HT_.out (by kernel_rfl)) (fun _ _ _ h => h) (Or.inl ⟨by rfl, ?_⟩) ?_ ?_
    rotate_left
    ·intro w'
     go_simp
     with_reducible rfl
    rotate_left
    ·simp only [Act.put, List.setIfInBounds_toArray, List.set_cons_zero, List.set_cons_succ, i64_w, i32_w]
     rfl
    refine pure_ (i := 18) (N := some 71) (v := ?_) (a' := ?_) #[true, true, true, true, true, true, true, true, true, true, true, true, true, true, true, true, true, true, true, false, false, false, false, false, false, false, false, false, false, false, false, false, false, false, false, false, false, false, false, false, false, false, false, false, false, false, false, false, false, false] rfl rfl (any_of HT_.out (by kernel_rfl)) (fun _ _ _ h => h) (Or.inl ⟨by rfl, ?_⟩) ?_ ?_
    rotate_left
    ·intro w'
     go_simp
     with_reducible rfl
    rotate_left
    ·simp only [Act.put, List.setIfInBounds_toArray, List.set_cons_zero, List.set_cons_succ, i64_w, i32_w]
     rfl
    refine take_ (i := 19) (N := some 72) (v := ?_) (a' := ?_) #[true, true, true, true, true, true, true, true, true, true, true, true, true, true, true, true, true, true, true, true, false, false, false, false, false, false, false, false, false, false, false, false, false, false, false, false, false, false, false, false, false, false, false, false, false, false, false, false, false, false] rfl rfl (take_ofW HT_.out HW_.out (by kernel_rfl)) (fun _ _ _ h => h) (Or.inl ⟨by rfl, ?_⟩) hHeld ?_ ?_
    rotate_left
    ·rintro w' ⟨s0, s1, s2, s3, s4, s5, s6, s7, s8, s9, s10, s11, s12, s13, s14, s15, s16, s17, s18, s19, s20, s21, s22, s23, s24⟩
     go_simp
     with_reducible rfl
    rotate_left
    ·simp only [Act.put, List.setIfInBounds_toArray, List.set_cons_zero, List.set_cons_succ, i64_w, i32_w]
     rfl
    refine one_ (i := 20) (N := some 73) #[true, true, true, true, true, true, true, true, true, true, true, true, true, true, true, true, true, true, true, true, true, false, false, false, false, false, false, false, false, false, false, false, false, false, false, false, false, false, false, false, false, false, false, false, false, false, false, false, false, false] rfl rfl (one_of HT_.out (by kernel_rfl)) (by decide) (fun K hK => ?_)
    refine goes_ Tryd.func16 (by kernel_rfl) rfl #[.agg #[.int .i64 a0_0, .string a0_1, .bool a0_2, .string a0_3, .int .i64 a0_4, .slice A0_5 l0_5.length c0_5]] (by rfl) rfl rfl SQ.sm ?_
    with_reducible refine (r9Hash.calls kj2 a0_0 a0_1 a0_2 a0_3 a0_4 _ _ l0_5 t347 _ ?side1 ?side2 A26.out).mono ?_
    (case side1 => repeat (first | exact (Kd.C_below HR0_5.out HB.out) | (with_reducible refine Kd.C_alloc ?_ _) | (with_reducible refine Kd.C_drewN ?_ _) | (with_reducible refine Kd.C_drew ?_)))
    (case side2 => exact HC0_5.out)
    rintro e w74 ⟨rfl, hb⟩
    refine ⟨_, rfl, ?_⟩
    replace HO317 := A0_.mk (Kd.R_below (by (with_reducible repeat (first | apply Kd.R_alloc | apply Kd.R_drewN | apply Kd.R_drew)); exact HO317.out) hb)
    replace HO330 := A0_.mk (Kd.R_below (by (with_reducible repeat (first | apply Kd.R_alloc | apply Kd.R_drewN | apply Kd.R_drew)); exact HO330.out) hb)
    replace HO340 := A0_.mk (Kd.R_below (by (with_reducible repeat (first | apply Kd.R_alloc | apply Kd.R_drewN | apply Kd.R_drew)); exact HO340.out) hb)
    replace BK309 := A0_.mk (bB (g := gb309) SQ.kw hb)
    replace BK318 := A0_.mk (bB (g := gb318) SQ.kw hb)
    replace BK332 := A0_.mk (bB (g := gb332) SQ.kw hb)
    replace BK342 := A0_.mk (bB (g := gb342) SQ.kw hb)
    replace HB := A0_.mk (wT SQ.bw hb)
    (try clear hb)
    (try clear hb2)
    (try clear hk)
    (try clear hi)
    refine hK.out _ _ ⟨(bC BK318.out 0).trans rfl, (bC BK318.out 1).trans rfl, (bC BK318.out 2).trans rfl, (bC BK318.out 3).trans rfl, (bC BK318.out 4).trans rfl, (bC BK318.out 5).trans rfl, (bC BK309.out 0).trans rfl, (bC BK309.out 1).trans rfl, (bC BK309.out 2).trans rfl, (bC BK309.out 3).trans rfl, (bC BK309.out 4).trans rfl, (bC BK309.out 5).trans rfl, (bC BK332.out 0).trans rfl, (bC BK332.out 1).trans rfl, (bC BK332.out 2).trans rfl, (bC BK332.out 3).trans rfl, (bC BK332.out 4).trans rfl, (bC BK332.out 5).trans rfl, (bC BK342.out 0).trans rfl, (bC BK342.out 1).trans rfl, (bC BK342.out 2).trans rfl, (bC BK342.out 3).trans rfl, (bC BK342.out 4).trans rfl, (bC BK342.out 5).trans rfl, (bC BK342.out 6).trans rfl⟩ (fun hHeld => ?_)
    clear hK K
    refine norm_ (a' := ?_) ?_ ?_
    rotate_left
    ·show Act.put _ (some 73) _ = _
     simp only [Act.put, List.setIfInBounds_toArray, List.set_cons_zero, List.set_cons_succ, i64_w, i32_w]
     rfl
    refine pure_ (i := 21) (N := some 74) (v := ?_) (a' := ?_) #[true, true, true, true, true, true, true, true, true, true, true, true, true, true, true, true, true, true, true, true, true, true, false, false, false, false, false, false, false, false, false, false, false, false, false, false, false, false, false, false, false, false, false, false, false, false, false, false, false, false] rfl rfl (any_of HT_.out (by kernel_rfl)) (fun _ _ _ h => h) (Or.inl ⟨by rfl, ?_⟩) ?_ ?_
    rotate_left
    ·intro w'
     go_simp
     with_reducible rfl
    rotate_left
    ·simp only [Act.put, List.setIfInBounds_toArray, List.set_cons_zero, List.set_cons_succ, i64_w, i32_w]
     rfl
    refine pure_ (i := 22) (N := some 75) (v := ?_) (a' := ?_) #[true, true, true, true, true, true, true, true, true, true, true, true, true, true, true, true, true, true, true, true, true, true, true, false, false, false, false, false, false, false, false, false, false, false, false, false, false, false, false, false, false, false, false, false, false, false, false, false, false, false] rfl rfl (any_of HT_.out (by kernel_rfl)) (fun _ _ _ h => h) (Or.inl ⟨by rfl, ?_⟩) ?_ ?_
    rotate_left
    ·intro w'
     go_simp
     with_reducible rfl
    rotate_left
    ·simp only [Act.put, List.setIfInBounds_toArray, List.set_cons_zero, List.set_cons_succ, i64_w, i32_w]
     rfl
    refine pure_ (i := 23) (N := some 76) (v := ?_) (a' := ?_) #[true, true, true, true, true, true, true, true, true, true, true, true, true, true, true, true, true, true, true, true, true, true, true, true, false, false, false, false, false, false, false, false, false, false, false, false, false, false, false, false, false, false, false, false, false, false, false, false, false, false] rfl rfl (any_of HT_.out (by kernel_rfl)) (fun _ _ _ h => h) (Or.inl ⟨by rfl, ?_⟩) ?_ ?_
    rotate_left
    ·intro w'
     go_simp
     with_reducible rfl
    rotate_left
    ·simp only [Act.put, List.setIfInBounds_toArray, List.set_cons_zero, List.set_cons_succ, i64_w, i32_w]
     rfl
    refine pure_ (i := 24) (N := some 77) (v := ?_) (a' := ?_) #[true, true, true, true, true, true, true, true, true, true, true, true, true, true, true, true, true, true, true, true, true, true, true, true, true, false, false, false, false, false, false, false, false, false, false, false, false, false, false, false, false, false, false, false, false, false, false, false, false, false] rfl rfl (any_of HT_.out (by kernel_rfl)) (fun _ _ _ h => h) (Or.inl ⟨by rfl, ?_⟩) ?_ ?_
    rotate_left
    ·intro w'
     go_simp
     with_reducible rfl
    rotate_left
    ·simp only [Act.put, List.setIfInBounds_toArray, List.set_cons_zero, List.set_cons_succ, i64_w, i32_w]
     rfl
    refine take_ (i := 25) (N := some 78) (v := ?_) (a' := ?_) #[true, true, true, true, true, true, true, true, true, true, true, true, true, true, true, true, true, true, true, true, true, true, true, true, true, true, false, false, false, false, false, false, false, false, false, false, false, false, false, false, false, false, false, false, false, false, false, false, false, false] rfl rfl (take_ofW HT_.out HW_.out (by kernel_rfl)) (fun _ _ _ h => h) (Or.inl ⟨by rfl, ?_⟩) hHeld ?_ ?_
    rotate_left
    ·rintro w' ⟨s0, s1, s2, s3, s4, s5, s6, s7, s8, s9, s10, s11, s12, s13, s14, s15, s16, s17, s18, s19, s20, s21, s22, s23, s24⟩
     go_simp
     with_reducible rfl
    rotate_left
    ·simp only [Act.put, List.setIfInBounds_toArray, List.set_cons_zero, List.set_cons_succ, i64_w, i32_w]
     rfl
    refine one_ (i := 26) (N := some 79) #[true, true, true, true, true, true, true, true, true, true, true, true, true, true, true, true, true, true, true, true, true, true, true, true, true, true, true, false, false, false, false, false, false, false, false, false, false, false, false, false, false, false, false, false, false, false, false, false, false, false] rfl rfl (one_of HT_.out (by kernel_rfl)) (by decide) (fun K hK => ?_)
    refine goes_ Tryd.func14 (by kernel_rfl) rfl #[.agg #[.int .i64 a0_0, .string a0_1, .bool a0_2, .string a0_3, .int .i64 a0_4, .slice A0_5 l0_5.length c0_5]] (by rfl) rfl rfl SQ.sm ?_
    with_reducible refine (r9Good.calls kj2 a0_0 a0_1 a0_2 a0_3 a0_4 _ _ l0_5 t348 _ ?side1 ?side2 A28.out).mono ?_
    (case side1 => repeat (first | exact (Kd.C_below HR0_5.out HB.out) | (with_reducible refine Kd.C_alloc ?_ _) | (with_reducible refine Kd.C_drewN ?_ _) | (with_reducible refine Kd.C_drew ?_)))
    (case side2 => exact HC0_5.out)
    rintro e w75 ⟨rfl, hb⟩
    refine ⟨_, rfl, ?_⟩
    replace HO317 := A0_.mk (Kd.R_below (by (with_reducible repeat (first | apply Kd.R_alloc | apply Kd.R_drewN | apply Kd.R_drew)); exact HO317.out) hb)
    replace HO330 := A0_.mk (Kd.R_below (by (with_reducible repeat (first | apply Kd.R_alloc | apply Kd.R_drewN | apply Kd.R_drew)); exact HO330.out) hb)
    replace HO340 := A0_.mk (Kd.R_below (by (with_reducible repeat (first | apply Kd.R_alloc | apply Kd.R_drewN | apply Kd.R_drew)); exact HO340.out) hb)
    replace BK309 := A0_.mk (bB (g := gb309) SQ.kw hb)
    replace BK318 := A0_.mk (bB (g := gb318) SQ.kw hb)
    replace BK332 := A0_.mk (bB (g := gb332) SQ.kw hb)
    replace BK342 := A0_.mk (bB (g := gb342) SQ.kw hb)
    replace HB := A0_.mk (wT SQ.bw hb)
    (try clear hb)
    (try clear hb2)
    (try clear hk)
    (try clear hi)
    refine hK.out _ _ ⟨(bC BK318.out 0).trans rfl, (bC BK318.out 1).trans rfl, (bC BK318.out 2).trans rfl, (bC BK318.out 3).trans rfl, (bC BK318.out 4).trans rfl, (bC BK318.out 5).trans rfl, (bC BK309.out 0).trans rfl, (bC BK309.out 1).trans rfl, (bC BK309.out 2).trans rfl, (bC BK309.out 3).trans rfl, (bC BK309.out 4).trans rfl, (bC BK309.out 5).trans rfl, (bC BK332.out 0).trans rfl, (bC BK332.out 1).trans rfl, (bC BK332.out 2).trans rfl, (bC BK332.out 3).trans rfl, (bC BK332.out 4).trans rfl, (bC BK332.out 5).trans rfl, (bC BK342.out 0).trans rfl, (bC BK342.out 1).trans rfl, (bC BK342.out 2).trans rfl, (bC BK342.out 3).trans rfl, (bC BK342.out 4).trans rfl, (bC BK342.out 5).trans rfl, (bC BK342.out 6).trans rfl⟩ (fun hHeld => ?_)
    clear hK K
    refine norm_ (a' := ?_) ?_ ?_
    rotate_left
    ·show Act.put _ (some 79) _ = _
     simp only [Act.put, List.setIfInBounds_toArray, List.set_cons_zero, List.set_cons_succ, i64_w, i32_w]
     rfl
    refine pure_ (i := 27) (N := some 80) (v := ?_) (a' := ?_) #[true, true, true, true, true, true, true, true, true, true, true, true, true, true, true, true, true, true, true, true, true, true, true, true, true, true, true, true, false, false, false, false, false, false, false, false, false, false, false, false, false, false, false, false, false, false, false, false, false, false] rfl rfl (any_of HT_.out (by kernel_rfl)) (fun _ _ _ h => h) (Or.inl ⟨by rfl, ?_⟩) ?_ ?_
    rotate_left
    ·intro w'
     go_simp
     with_reducible rfl
    rotate_left
    ·simp only [Act.put, List.setIfInBounds_toArray, List.set_cons_zero, List.set_cons_succ, i64_w, i32_w]
     rfl
    refine pure_ (i := 28) (N := some 81) (v := ?_) (a' := ?_) #[true, true, true, true, true, true, true, true, true, true, true, true, true, true, true, true, true, true, true, true, true, true, true, true, true, true, true, true, true, false, false, false, false, false, false, false, false, false, false, false, false, false, false, false, false, false, false, false, false, false] rfl rfl (any_of HT_.out (by kernel_rfl)) (fun _ _ _ h => h) (Or.inl ⟨by rfl, ?_⟩) ?_ ?_
    rotate_left
    ·intro w'
     go_simp
     with_reducible rfl
    rotate_left
    ·simp only [Act.put, List.setIfInBounds_toArray, List.set_cons_zero, List.set_cons_succ, i64_w, i32_w]
     rfl
    refine pure_ (i := 29) (N := some 82) (v := ?_) (a' := ?_) #[true, true, true, true, true, true, true, true, true, true, true, true, true, true, true, true, true, true, true, true, true, true, true, true, true, true, true, true, true, true, false, false, false, false, false, false, false, false, false, false, false, false, false, false, false, false, false, false, false, false] rfl rfl (any_of HT_.out (by kernel_rfl)) (fun _ _ _ h => h) (Or.inl ⟨by rfl, ?_⟩) ?_ ?_
    rotate_left
    ·intro w'
     go_simp
     with_reducible rfl
    rotate_left
    ·simp only [Act.put, List.setIfInBounds_toArray, List.set_cons_zero, List.set_cons_succ, i64_w, i32_w]
     rfl
    refine pure_ (i := 31) (N := some 84) (v := ?_) (a' := ?_) #[true, true, true, true, true, true, true, true, true, true, true, true, true, true, true, true, true, true, true, true, true, true, true, true, true, true, true, true, true, true, false, true, false, false, false, false, false, false, false, false, false, false, false, false, false, false, false, false, false, false] rfl rfl (any_of HT_.out (by kernel_rfl)) (fun _ _ _ h => h) (Or.inl ⟨by rfl, ?_⟩) ?_ ?_
    rotate_left
    ·intro w'
     go_simp
     with_reducible rfl
    rotate_left
    ·simp only [Act.put, List.setIfInBounds_toArray, List.set_cons_zero, List.set_cons_succ, i64_w, i32_w]
     rfl
    refine take_ (i := 30) (N := some 83) (v := ?_) (a' := ?_) #[true, true, true, true, true, true, true, true, true, true, true, true, true, true, true, true, true, true, true, true, true, true, true, true, true, true, true, true, true, true, true, true, false, false, false, false, false, false, false, false, false, false, false, false, false, false, false, false, false, false] rfl rfl (take_ofW HT_.out HW_.out (by kernel_rfl)) (fun _ _ _ h => h) (Or.inl ⟨by rfl, ?_⟩) hHeld ?_ ?_
    rotate_left
    ·rintro w' ⟨s0, s1, s2, s3, s4, s5, s6, s7, s8, s9, s10, s11, s12, s13, s14, s15, s16, s17, s18, s19, s20, s21, s22, s23, s24⟩
     go_simp
     with_reducible rfl
    rotate_left
    ·simp only [Act.put, List.setIfInBounds_toArray, List.set_cons_zero, List.set_cons_succ, i64_w, i32_w]
     rfl
    refine take_ (i := 32) (N := some 85) (v := ?_) (a' := ?_) #[true, true, true, true, true, true, true, true, true, true, true, true, true, true, true, true, true, true, true, true, true, true, true, true, true, true, true, true, true, true, true, true, true, false, false, false, false, false, false, false, false, false, false, false, false, false, false, false, false, false] rfl rfl (take_ofW HT_.out HW_.out (by kernel_rfl)) (fun _ _ _ h => h) (Or.inl ⟨by rfl, ?_⟩) hHeld ?_ ?_
    rotate_left
    ·rintro w' ⟨s0, s1, s2, s3, s4, s5, s6, s7, s8, s9, s10, s11, s12, s13, s14, s15, s16, s17, s18, s19, s20, s21, s22, s23, s24⟩
     go_simp
     with_reducible rfl
    rotate_left
    ·simp only [Act.put, List.setIfInBounds_toArray, List.set_cons_zero, List.set_cons_succ, i64_w, i32_w]
     rfl
    refine one_ (i := 33) (N := some 86) #[true, true, true, true, true, true, true, true, true, true, true, true, true, true, true, true, true, true, true, true, true, true, true, true, true, true, true, true, true, true, true, true, true, true, false, false, false, false, false, false, false, false, false, false, false, false, false, false, false, false] rfl rfl (one_of HT_.out (by kernel_rfl)) (by decide) (fun K hK => ?_)
    refine goes_ Tryd.func17 (by kernel_rfl) rfl #[.agg #[.int .i64 t323, .string t324, .bool t325, .string t326, .int .i64 t327, .slice Ao60 t328.length co60], .agg #[.int .i64 t333, .string t334, .bool t335, .string t336, .int .i64 t337, .slice Ao67 t338.length co67]] (by rfl) rfl rfl SQ.sm ?_
    with_reducible refine (k9Item.calls kj2 t323 t324 t325 t326 t327 _ _ t328 t333 t334 t335 t336 t337 _ _ t338 true _ ?side1 ?side2 ?side3 ?side4 A30.out).mono ?_
    (case side1 => repeat (first | exact (Kd.R_reads' HO330.out).2.2 | (with_reducible refine Kd.C_alloc ?_ _) | (with_reducible refine Kd.C_drewN ?_ _) | (with_reducible refine Kd.C_drew ?_)))
    (case side2 => exact (Kd.R_reads' HO330.out).2.1)
    (case side3 => repeat (first | exact (Kd.R_reads' HO340.out).2.2 | (with_reducible refine Kd.C_alloc ?_ _) | (with_reducible refine Kd.C_drewN ?_ _) | (with_reducible refine Kd.C_drew ?_)))
    (case side4 => exact (Kd.R_reads' HO340.out).2.1)
    rintro e w76 ⟨rfl, hb⟩
    refine ⟨_, rfl, ?_⟩
    replace HO317 := A0_.mk (Kd.R_below (by (with_reducible repeat (first | apply Kd.R_alloc | apply Kd.R_drewN | apply Kd.R_drew)); exact HO317.out) hb)
    replace HO330 := A0_.mk (Kd.R_below (by (with_reducible repeat (first | apply Kd.R_alloc | apply Kd.R_drewN | apply Kd.R_drew)); exact HO330.out) hb)
    replace HO340 := A0_.mk (Kd.R_below (by (with_reducible repeat (first | apply Kd.R_alloc | apply Kd.R_drewN | apply Kd.R_drew)); exact HO340.out) hb)
    replace BK309 := A0_.mk (bB (g := gb309) SQ.kw hb)
    replace BK318 := A0_.mk (bB (g := gb318) SQ.kw hb)
    replace BK332 := A0_.mk (bB (g := gb332) SQ.kw hb)
    replace BK342 := A0_.mk (bB (g := gb342) SQ.kw hb)
    replace HB := A0_.mk (wT SQ.bw hb)
    (try clear hb)
    (try clear hb2)
    (try clear hk)
    (try clear hi)
    refine hK.out _ _ ⟨(bC BK318.out 0).trans rfl, (bC BK318.out 1).trans rfl, (bC BK318.out 2).trans rfl, (bC BK318.out 3).trans rfl, (bC BK318.out 4).trans rfl, (bC BK318.out 5).trans rfl, (bC BK309.out 0).trans rfl, (bC BK309.out 1).trans rfl, (bC BK309.out 2).trans rfl, (bC BK309.out 3).trans rfl, (bC BK309.out 4).trans rfl, (bC BK309.out 5).trans rfl, (bC BK332.out 0).trans rfl, (bC BK332.out 1).trans rfl, (bC BK332.out 2).trans rfl, (bC BK332.out 3).trans rfl, (bC BK332.out 4).trans rfl, (bC BK332.out 5).trans rfl, (bC BK342.out 0).trans rfl, (bC BK342.out 1).trans rfl, (bC BK342.out 2).trans rfl, (bC BK342.out 3).trans rfl, (bC BK342.out 4).trans rfl, (bC BK342.out 5).trans rfl, (bC BK342.out 6).trans rfl⟩ (fun hHeld => ?_)
    clear hK K
    refine norm_ (a' := ?_) ?_ ?_
    rotate_left
    ·show Act.put _ (some 86) _ = _
     simp only [Act.put, List.setIfInBounds_toArray, List.set_cons_zero, List.set_cons_succ, i64_w, i32_w]
     rfl
    refine pure_ (i := 34) (N := some 87) (v := ?_) (a' := ?_) #[true, true, true, true, true, true, true, true, true, true, true, true, true, true, true, true, true, true, true, true, true, true, true, true, true, true, true, true, true, true, true, true, true, true, true, false, false, false, false, false, false, false, false, false, false, false, false, false, false, false] rfl rfl (any_of HT_.out (by kernel_rfl)) (fun _ _ _ h => h) (Or.inl ⟨by rfl, ?_⟩) ?_ ?_
    rotate_left
    ·intro w'
     go_simp
     with_reducible rfl
    rotate_left
    ·simp only [Act.put, List.setIfInBounds_toArray, List.set_cons_zero, List.set_cons_succ, i64_w, i32_w]
     rfl
    refine pure_ (i := 35) (N := some 88) (v := ?_) (a' := ?_) #[true, true, true, true, true, true, true, true, true, true, true, true, true, true, true, true, true, true, true, true, true, true, true, true, true, true, true, true, true, true, true, true, true, true, true, true, false, false, false, false, false, false, false, false, false, false, false, false, false, false] rfl rfl (any_of HT_.out (by kernel_rfl)) (fun _ _ _ h => h) (Or.inl ⟨by rfl, ?_⟩) ?_ ?_
    rotate_left
    ·intro w'
     go_simp
     with_reducible rfl
    rotate_left
    ·simp only [Act.put, List.setIfInBounds_toArray, List.set_cons_zero, List.set_cons_succ, i64_w, i32_w]
     rfl
    refine pure_ (i := 36) (N := some 89) (v := ?_) (a' := ?_) #[true, true, true, true, true, true, true, true, true, true, true, true, true, true, true, true, true, true, true, true, true, true, true, true, true, true, true, true, true, true, true, true, true, true, true, true, true, false, false, false, false, false, false, false, false, false, false, false, false, false] rfl rfl (any_of HT_.out (by kernel_rfl)) (fun _ _ _ h => h) (Or.inl ⟨by rfl, ?_⟩) ?_ ?_
    rotate_left
    ·intro w'
     go_simp
     with_reducible rfl
    rotate_left
    ·simp only [Act.put, List.setIfInBounds_toArray, List.set_cons_zero, List.set_cons_succ, i64_w, i32_w]
     rfl
    refine pure_ (i := 37) (N := some 90) (v := ?_) (a' := ?_) #[true, true, true, true, true, true, true, true, true, true, true, true, true, true, true, true, true, true, true, true, true, true, true, true, true, true, true, true, true, true, true, true, true, true, true, true, true, true, false, false, false, false, false, false, false, false, false, false, false, false] rfl rfl (any_of HT_.out (by kernel_rfl)) (fun _ _ _ h => h) (Or.inl ⟨by rfl, ?_⟩) ?_ ?_
    rotate_left
    ·intro w'
     go_simp
     with_reducible rfl
    rotate_left
    ·simp only [Act.put, List.setIfInBounds_toArray, List.set_cons_zero, List.set_cons_succ, i64_w, i32_w]
     rfl
    refine take_ (i := 38) (N := some 91) (v := ?_) (a' := ?_) #[true, true, true, true, true, true, true, true, true, true, true, true, true, true, true, true, true, true, true, true, true, true, true, true, true, true, true, true, true, true, true, true, true, true, true, true, true, true, true, false, false, false, false, false, false, false, false, false, false, false] rfl rfl (take_ofW HT_.out HW_.out (by kernel_rfl)) (fun _ _ _ h => h) (Or.inl ⟨by rfl, ?_⟩) hHeld ?_ ?_
    rotate_left
    ·rintro w' ⟨s0, s1, s2, s3, s4, s5, s6, s7, s8, s9, s10, s11, s12, s13, s14, s15, s16, s17, s18, s19, s20, s21, s22, s23, s24⟩
     go_simp
     with_reducible rfl
    rotate_left
    ·simp only [Act.put, List.setIfInBounds_toArray, List.set_cons_zero, List.set_cons_succ, i64_w, i32_w]
     rfl
    refine pure_ (i := 39) (N := some 92) (v := ?_) (a' := ?_) #[true, true, true, true, true, true, true, true, true, true, true, true, true, true, true, true, true, true, true, true, true, true, true, true, true, true, true, true, true, true, true, true, true, true, true, true, true, true, true, true, false, false, false, false, false, false, false, false, false, false] rfl rfl (any_of HT_.out (by kernel_rfl)) (fun _ _ _ h => h) (Or.inl ⟨by rfl, ?_⟩) ?_ ?_
    rotate_left
    ·intro w'
     go_simp
     with_reducible rfl
    rotate_left
    ·simp only [Act.put, List.setIfInBounds_toArray, List.set_cons_zero, List.set_cons_succ, i64_w, i32_w]
     rfl
    refine pure_ (i := 40) (N := some 93) (v := ?_) (a' := ?_) #[true, true, true, true, true, true, true, true, true, true, true, true, true, true, true, true, true, true, true, true, true, true, true, true, true, true, true, true, true, true, true, true, true, true, true, true, true, true, true, true, true, false, false, false, false, false, false, false, false, false] rfl rfl (any_of HT_.out (by kernel_rfl)) (fun _ _ _ h => h) (Or.inl ⟨by rfl, ?_⟩) ?_ ?_
    rotate_left
    ·intro w'
     go_simp
     with_reducible rfl
    rotate_left
    ·simp only [Act.put, List.setIfInBounds_toArray, List.set_cons_zero, List.set_cons_succ, i64_w, i32_w]
     rfl
    refine pure_ (i := 41) (N := some 94) (v := ?_) (a' := ?_) #[true, true, true, true, true, true, true, true, true, true, true, true, true, true, true, true, true, true, true, true, true, true, true, true, true, true, true, true, true, true, true, true, true, true, true, true, true, true, true, true, true, true, false, false, false, false, false, false, false, false] rfl rfl (any_of HT_.out (by kernel_rfl)) (fun _ _ _ h => h) (Or.inl ⟨by rfl, ?_⟩) ?_ ?_
    rotate_left
    ·intro w'
     go_simp
     with_reducible rfl
    rotate_left
    ·simp only [Act.put, List.setIfInBounds_toArray, List.set_cons_zero, List.set_cons_succ, i64_w, i32_w]
     rfl
    refine take_ (i := 42) (N := some 95) (v := ?_) (a' := ?_) #[true, true, true, true, true, true, true, true, true, true, true, true, true, true, true, true, true, true, true, true, true, true, true, true, true, true, true, true, true, true, true, true, true, true, true, true, true, true, true, true, true, true, true, false, false, false, false, false, false, false] rfl rfl (take_ofW HT_.out HW_.out (by kernel_rfl)) (fun _ _ _ h => h) (Or.inl ⟨by rfl, ?_⟩) hHeld ?_ ?_
    rotate_left
    ·rintro w' ⟨s0, s1, s2, s3, s4, s5, s6, s7, s8, s9, s10, s11, s12, s13, s14, s15, s16, s17, s18, s19, s20, s21, s22, s23, s24⟩
     go_simp
     with_reducible rfl
    rotate_left
    ·simp only [Act.put, List.setIfInBounds_toArray, List.set_cons_zero, List.set_cons_succ, i64_w, i32_w]
     rfl
    refine take_ (i := 43) (N := some 96) (v := ?_) (a' := ?_) #[true, true, true, true, true, true, true, true, true, true, true, true, true, true, true, true, true, true, true, true, true, true, true, true, true, true, true, true, true, true, true, true, true, true, true, true, true, true, true, true, true, true, true, true, false, false, false, false, false, false] rfl rfl (take_ofW HT_.out HW_.out (by kernel_rfl)) (fun _ _ _ h => h) (Or.inl ⟨by rfl, ?_⟩) hHeld ?_ ?_
    rotate_left
    ·rintro w' ⟨s0, s1, s2, s3, s4, s5, s6, s7, s8, s9, s10, s11, s12, s13, s14, s15, s16, s17, s18, s19, s20, s21, s22, s23, s24⟩
     go_simp
     with_reducible rfl
    rotate_left
    ·simp only [Act.put, List.setIfInBounds_toArray, List.set_cons_zero, List.set_cons_succ, i64_w, i32_w]
     rfl
    refine one_ (i := 44) (N := some 97) #[true, true, true, true, true, true, true, true, true, true, true, true, true, true, true, true, true, true, true, true, true, true, true, true, true, true, true, true, true, true, true, true, true, true, true, true, true, true, true, true, true, true, true, true, true, false, false, false, false, false] rfl rfl (one_of HT_.out (by kernel_rfl)) (by decide) (fun K hK => ?_)
    refine goes_ Tryd.func17 (by kernel_rfl) rfl #[.agg #[.int .i64 a0_0, .string a0_1, .bool a0_2, .string a0_3, .int .i64 a0_4, .slice Ao43 y315.length co43], .agg #[.int .i64 a0_0, .string a0_1, .bool a0_2, .string a0_3, .int .i64 a0_4, .slice A0_5 l0_5.length c0_5]] (by rfl) rfl rfl SQ.sm ?_
    with_reducible refine (k9Item.calls kj2 a0_0 a0_1 a0_2 a0_3 a0_4 _ _ y315 a0_0 a0_1 a0_2 a0_3 a0_4 _ _ l0_5 true _ ?side1 ?side2 ?side3 ?side4 A33.out).mono ?_
    (case side1 => repeat (first | exact (Kd.R_reads' HO317.out).2.2 | (with_reducible refine Kd.C_alloc ?_ _) | (with_reducible refine Kd.C_drewN ?_ _) | (with_reducible refine Kd.C_drew ?_)))
    (case side2 => exact (Kd.R_reads' HO317.out).2.1)
    (case side3 => repeat (first | exact (Kd.C_below HR0_5.out HB.out) | (with_reducible refine Kd.C_alloc ?_ _) | (with_reducible refine Kd.C_drewN ?_ _) | (with_reducible refine Kd.C_drew ?_)))
    (case side4 => exact HC0_5.out)
    rintro e w77 ⟨rfl, hb⟩
    refine ⟨_, rfl, ?_⟩
    replace HO317 := A0_.mk (Kd.R_below (by (with_reducible repeat (first | apply Kd.R_alloc | apply Kd.R_drewN | apply Kd.R_drew)); exact HO317.out) hb)
    replace HO330 := A0_.mk (Kd.R_below (by (with_reducible repeat (first | apply Kd.R_alloc | apply Kd.R_drewN | apply Kd.R_drew)); exact HO330.out) hb)
    replace HO340 := A0_.mk (Kd.R_below (by (with_reducible repeat (first | apply Kd.R_alloc | apply Kd.R_drewN | apply Kd.R_drew)); exact HO340.out) hb)
    replace BK309 := A0_.mk (bB (g := gb309) SQ.kw hb)
    replace BK318 := A0_.mk (bB (g := gb318) SQ.kw hb)
    replace BK332 := A0_.mk (bB (g := gb332) SQ.kw hb)
    replace BK342 := A0_.mk (bB (g := gb342) SQ.kw hb)
    replace HB := A0_.mk (wT SQ.bw hb)
    (try clear hb)
    (try clear hb2)
    (try clear hk)
    (try clear hi)
    refine hK.out _ _ ⟨(bC BK318.out 0).trans rfl, (bC BK318.out 1).trans rfl, (bC BK318.out 2).trans rfl, (bC BK318.out 3).trans rfl, (bC BK318.out 4).trans rfl, (bC BK318.out 5).trans rfl, (bC BK309.out 0).trans rfl, (bC BK309.out 1).trans rfl, (bC BK309.out 2).trans rfl, (bC BK309.out 3).trans rfl, (bC BK309.out 4).trans rfl, (bC BK309.out 5).trans rfl, (bC BK332.out 0).trans rfl, (bC BK332.out 1).trans rfl, (bC BK332.out 2).trans rfl, (bC BK332.out 3).trans rfl, (bC BK332.out 4).trans rfl, (bC BK332.out 5).trans rfl, (bC BK342.out 0).trans rfl, (bC BK342.out 1).trans rfl, (bC BK342.out 2).trans rfl, (bC BK342.out 3).trans rfl, (bC BK342.out 4).trans rfl, (bC BK342.out 5).trans rfl, (bC BK342.out 6).trans rfl⟩ (fun hHeld => ?_)
    clear hK K
    refine norm_ (a' := ?_) ?_ ?_
    rotate_left
    ·show Act.put _ (some 97) _ = _
     simp only [Act.put, List.setIfInBounds_toArray, List.set_cons_zero, List.set_cons_succ, i64_w, i32_w]
     rfl
    refine pure_ (i := 45) (N := some 98) (v := ?_) (a' := ?_) #[true, true, true, true, true, true, true, true, true, true, true, true, true, true, true, true, true, true, true, true, true, true, true, true, true, true, true, true, true, true, true, true, true, true, true, true, true, true, true, true, true, true, true, true, true, true, false, false, false, false] rfl rfl (any_of HT_.out (by kernel_rfl)) (fun _ _ _ h => h) (Or.inl ⟨by rfl, ?_⟩) ?_ ?_
    rotate_left
    ·intro w'
     go_simp
     with_reducible rfl
    rotate_left
    ·simp only [Act.put, List.setIfInBounds_toArray, List.set_cons_zero, List.set_cons_succ, i64_w, i32_w]
     rfl
    refine pure_ (i := 46) (N := some 99) (v := ?_) (a' := ?_) #[true, true, true, true, true, true, true, true, true, true, true, true, true, true, true, true, true, true, true, true, true, true, true, true, true, true, true, true, true, true, true, true, true, true, true, true, true, true, true, true, true, true, true, true, true, true, true, false, false, false] rfl rfl (any_of HT_.out (by kernel_rfl)) (fun _ _ _ h => h) (Or.inl ⟨by rfl, ?_⟩) ?_ ?_
    rotate_left
    ·intro w'
     go_simp
     with_reducible rfl
    rotate_left
    ·simp only [Act.put, List.setIfInBounds_toArray, List.set_cons_zero, List.set_cons_succ, i64_w, i32_w]
     rfl
    refine one_ (i := 47) (N := some 100) #[true, true, true, true, true, true, true, true, true, true, true, true, true, true, true, true, true, true, true, true, true, true, true, true, true, true, true, true, true, true, true, true, true, true, true, true, true, true, true, true, true, true, true, true, true, true, true, true, false, false] rfl rfl (one_of HT_.out (by kernel_rfl)) (by decide) (fun K hK => ?_)
    refine goes_ Tryd.func8 (by kernel_rfl) rfl #[] (by rfl) rfl rfl SQ.sm ?_
    with_reducible refine (u9wakes.calls kj2  t351 _ ?side1 A35.out).mono ?_
    (case side1 => exact Glob.below HG.out SQ.bw)
    rintro e w78 ⟨rfl, hb⟩
    refine ⟨_, rfl, ?_⟩
    replace HO317 := A0_.mk (Kd.R_below (by (with_reducible repeat (first | apply Kd.R_alloc | apply Kd.R_drewN | apply Kd.R_drew)); exact HO317.out) hb)
    replace HO330 := A0_.mk (Kd.R_below (by (with_reducible repeat (first | apply Kd.R_alloc | apply Kd.R_drewN | apply Kd.R_drew)); exact HO330.out) hb)
    replace HO340 := A0_.mk (Kd.R_below (by (with_reducible repeat (first | apply Kd.R_alloc | apply Kd.R_drewN | apply Kd.R_drew)); exact HO340.out) hb)
    replace BK309 := A0_.mk (bB (g := gb309) SQ.kw hb)
    replace BK318 := A0_.mk (bB (g := gb318) SQ.kw hb)
    replace BK332 := A0_.mk (bB (g := gb332) SQ.kw hb)
    replace BK342 := A0_.mk (bB (g := gb342) SQ.kw hb)
    replace HB := A0_.mk (wT SQ.bw hb)
    (try clear hb)
    (try clear hb2)
    (try clear hk)
    (try clear hi)
    refine hK.out _ _ ⟨(bC BK318.out 0).trans rfl, (bC BK318.out 1).trans rfl, (bC BK318.out 2).trans rfl, (bC BK318.out 3).trans rfl, (bC BK318.out 4).trans rfl, (bC BK318.out 5).trans rfl, (bC BK309.out 0).trans rfl, (bC BK309.out 1).trans rfl, (bC BK309.out 2).trans rfl, (bC BK309.out 3).trans rfl, (bC BK309.out 4).trans rfl, (bC BK309.out 5).trans rfl, (bC BK332.out 0).trans rfl, (bC BK332.out 1).trans rfl, (bC BK332.out 2).trans rfl, (bC BK332.out 3).trans rfl, (bC BK332.out 4).trans rfl, (bC BK332.out 5).trans rfl, (bC BK342.out 0).trans rfl, (bC BK342.out 1).trans rfl, (bC BK342.out 2).trans rfl, (bC BK342.out 3).trans rfl, (bC BK342.out 4).trans rfl, (bC BK342.out 5).trans rfl, (bC BK342.out 6).trans rfl⟩ (fun hHeld => ?_)
    clear hK K
    refine norm_ (a' := ?_) ?_ ?_
    rotate_left
    ·show Act.put _ (some 100) _ = _
     simp only [Act.put, List.setIfInBounds_toArray, List.set_cons_zero, List.set_cons_succ, i64_w, i32_w]
     rfl
    refine pure_ (i := 48) (N := some 101) (v := ?_) (a' := ?_) #[true, true, true, true, true, true, true, true, true, true, true, true, true, true, true, true, true, true, true, true, true, true, true, true, true, true, true, true, true, true, true, true, true, true, true, true, true, true, true, true, true, true, true, true, true, true, true, true, true, false] rfl rfl (any_of HT_.out (by kernel_rfl)) (fun _ _ _ h => h) (Or.inl ⟨by rfl, ?_⟩) ?_ ?_
    rotate_left
    ·intro w'
     go_simp
     with_reducible rfl
    rotate_left
    ·simp only [Act.put, List.setIfInBounds_toArray, List.set_cons_zero, List.set_cons_succ, i64_w, i32_w]
     rfl
    refine pure_ (i := 49) (N := some 4) (v := ?_) (a' := ?_) #[true, true, true, true, true, true, true, true, true, true, true, true, true, true, true, true, true, true, true, true, true, true, true, true, true, true, true, true, true, true, true, true, true, true, true, true, true, true, true, true, true, true, true, true, true, true, true, true, true, true] rfl rfl (any_of HT_.out (by kernel_rfl)) (fun _ _ _ h => h) (Or.inl ⟨by rfl, ?_⟩) ?_ ?_
    rotate_left
    ·intro w'
     go_simp
     with_reducible rfl
    rotate_left
    ·simp only [Act.put, List.setIfInBounds_toArray, List.set_cons_zero, List.set_cons_succ, i64_w, i32_w]
     rfl
    refine done_ (done_of HT_.out (by kernel_rfl)) ?_
    try go_wp2
    go_ret
    exact ⟨SQ.er, SQ.bw⟩

end Go.Proofs.YtklakmooaffjpaaDoor.PNod
