-- Written by a program of this session for this seat. Not trusted: Lean checks it.
import Derived.Test.YtklakmooaffjpaaDoorSQ
import Derived.Test.YtklakmooaffjpaaDoorPNodx0
import Derived.Test.YtklakmooaffjpaaDoorPNodx4
import Derived.Test.YtklakmooaffjpaaDoorPNodx5
namespace Go.Proofs.YtklakmooaffjpaaDoor.PNod
open Go.RowKit Go.Proofs.YtklakmooaffjpaaDoorW.PrintWords Go.Proofs.YtklakmooaffjpaaDoorW.PrintLast Go.Proofs.YtklakmooaffjpaaDoorW.PrintMore
attribute [local go_sem] max2_int min2_int max_two min_two max_three min_three max_four min_four   -- for this text's walks alone
set_option linter.unusedVariables false
set_option linter.unusedSimpArgs false
open Go.Proofs.YtklakmooaffjpaaDoor.HW Go.Proofs.YtklakmooaffjpaaDoor.DgsB

/-! ### nibble_Unpack: function 55 -/
def nibble_Unpack.j0 : Nat → ByteArray → Bool → Option (ByteArray × Int × Bool)
 | 0, _, _ => none
 | k + 1, x0, x14 => if x14 = true then (some ((⟨#[]⟩ : ByteArray), 0, false)) else (if 0 < (x0.size : Int) then (if (wrap64 (1 + (wrap64 (Int.tdiv (wrap64 ((wrap64 (bt x0 0)) + 1)) 2)))) > (x0.size : Int) then (some ((⟨#[]⟩ : ByteArray), 0, false)) else (if 1 ≤ (wrap64 (1 + (wrap64 (Int.tdiv (wrap64 ((wrap64 (bt x0 0)) + 1)) 2)))) then (if (wrap64 (1 + (wrap64 (Int.tdiv (wrap64 ((wrap64 (bt x0 0)) + 1)) 2)))) ≤ (x0.size : Int) then ((nibble_Of.f k (x0.extract 1 ((wrap64 (1 + (wrap64 (Int.tdiv (wrap64 ((wrap64 (bt x0 0)) + 1)) 2)))) : Int).toNat)).bind fun t160 => (if (wrap64 (bt x0 0)) < (t160.size : Int) then (if 0 ≤ (wrap64 (bt x0 0)) then (if (bt t160 (wrap64 (bt x0 0))) = 0 then (if (wrap64 (bt x0 0)) ≤ (t160.size : Int) then (some (t160.extract 0 ((wrap64 (bt x0 0)) : Int).toNat, wrap64 (1 + (wrap64 (Int.tdiv (wrap64 ((wrap64 (bt x0 0)) + 1)) 2))), true)) else (none)) else (some ((⟨#[]⟩ : ByteArray), 0, false))) else (none)) else (if 0 ≤ (wrap64 (bt x0 0)) then (if (wrap64 (bt x0 0)) ≤ (t160.size : Int) then (some (t160.extract 0 ((wrap64 (bt x0 0)) : Int).toNat, wrap64 (1 + (wrap64 (Int.tdiv (wrap64 ((wrap64 (bt x0 0)) + 1)) 2))), true)) else (none)) else (none)))) else (none)) else (none))) else (none))
def nibble_Unpack.f (k : Nat) (a0 : ByteArray) : Option (ByteArray × Int × Bool) := if a0.toList = ([] : List UInt8) then (nibble_Unpack.j0 k a0 true) else (if 0 < (a0.size : Int) then (nibble_Unpack.j0 k a0 (decide ((wrap64 (bt a0 0)) > 16))) else (none))
set_option maxHeartbeats 8000000 in
set_option maxRecDepth 100000 in
theorem nibble_Unpack.calls (k : Nat) (a0 : ByteArray) (r1 : ByteArray) (r2 : Int) (r3 : Bool) (w : World) (h : nibble_Unpack.f k a0 = some (r1, r2, r3)) :
  Calls Tryd.prog 55 #[.string a0] w fun e w' => e = .returned (.tuple #[.string r1, .int .i64 r2, .bool r3]) ∧ Below w.heap.size w w' := by
 have HB := A0_.mk (Below.refl w.heap.size w)
 have H : (if a0.toList = ([] : List UInt8) then (nibble_Unpack.j0 k a0 true) else (if 0 < (a0.size : Int) then (nibble_Unpack.j0 k a0 (decide ((wrap64 (bt a0 0)) > 16))) else (none))) = some (r1, r2, r3) := h
 clear h
 have HC2 := A0_.mk H
 clear H
 go_enter Tryd.func55, Tryd.ntmps55
 go_upto_region 1 with (fail)
 go_cut [14] (fun v14 wc => ∃ (kq : Nat) (x14_1 : Bool), v14 = .bool x14_1 ∧ A0_ (nibble_Unpack.j0 kq a0 x14_1 = some (r1, r2, r3)) ∧ A0_ (kq ≤ k) ∧ A0_ (Below w.heap.size w wc))
 case first =>
  have H := HC2.out
  clear HC2
  by_cases c3 : a0.toList = ([] : List UInt8)
  ·rw [if_pos c3] at H
   have c3b0 : (a0.toList == ([] : List UInt8)) = true := beq_iff_eq.mpr c3
   have c3b1 : (a0.toList != ([] : List UInt8)) = false := bne_eq_false_iff_eq.mpr c3
   clear c3
   (first | rw [c3b0] | (simp only [i64_w, i32_w]; rw [c3b0]) | skip)
   have H' := A0_.mk H
   clear H
   go_wp2
   go_meet
   case rel => exact ⟨_, (true), (by first | rfl | (simp; done) | (simp [*]; done)), H', ⟨by first | omega | exact Nat.le_refl _⟩, ⟨SQ.bw⟩⟩
  ·rw [if_neg c3] at H
   have c3b0 : (a0.toList == ([] : List UInt8)) = false := beq_eq_false_iff_ne.mpr c3
   have c3b1 : (a0.toList != ([] : List UInt8)) = true := bne_iff_ne.mpr c3
   (first | rw [c3b0] | (simp only [i64_w, i32_w]; rw [c3b0]) | skip)
   by_cases c4 : 0 < (a0.size : Int)
   rotate_left
   ·rw [if_neg c4] at H
    exact absurd H (by simp)
   rw [if_pos c4] at H
   have c4b0 : decide (0 < (a0.size : Int)) = true := decide_eq_true c4
   have c4b1 : decide (0 < a0.size) = true := decide_eq_true (by omega)
   clear c4
   have H' := A0_.mk H
   clear H
   have p5 : 0 ≤ (0 : Int) := (by omega)
   have q5 : 0 < a0.size := (by have : (0 : Int) < (a0.size : Int) := SQ.da; omega)
   have hx5 : ∀ h : 0 < a0.size, ((a0[0]'h).toNat : Int) = bt a0 0 := bt_at a0 0
   clear p5
   have qi5 : (0 < (a0.size : Int)) = True := eq_true (SQ.da)
   replace q5 := eq_true q5
   go_wp2
   go_meet
   case rel => exact ⟨_, (decide ((wrap64 (bt a0 0)) > 16)), (by first | rfl | (simp; done) | (simp [*]; done)), H', ⟨by first | omega | exact Nat.le_refl _⟩, ⟨SQ.bw⟩⟩
 case rest =>
  clear HC2
  try clear p2
  try clear c3
  try clear c3b0
  try clear c3b1
  try clear c4
  try clear c4b0
  try clear c4b1
  try clear c5
  try clear p5
  try clear q5
  try clear hx5
  try clear qi5
  try clear p5
  try clear q5
  obtain ⟨kq, x14_1, rfl, HA, HJ1, HB⟩ := hcut
  cases kq with
  | zero => exact absurd HA.out (by simp [nibble_Unpack.j0])
  | succ kj1 =>
   have H := HA.out
   clear HA
   simp only [nibble_Unpack.j0] at H
   by_cases c6 : x14_1 = true
   ·subst c6
    rw [if_pos rfl] at H
    simp only [Option.some.injEq, Prod.mk.injEq] at H
    obtain ⟨rfl, rfl, rfl⟩ := H
    go_wp2
    go_ret3
    exact ⟨SQ.er, SQ.bw⟩
   ·replace c6 := Bool.eq_false_iff.mpr c6
    subst c6
    rw [if_neg (show ¬ (false = true) by decide)] at H
    by_cases c7 : 0 < (a0.size : Int)
    rotate_left
    ·rw [if_neg c7] at H
     exact absurd H (by simp)
    rw [if_pos c7] at H
    have c7b0 : decide (0 < (a0.size : Int)) = true := decide_eq_true c7
    have c7b1 : decide (0 < a0.size) = true := decide_eq_true (by omega)
    clear c7
    by_cases c9 : (wrap64 (1 + (wrap64 (Int.tdiv (wrap64 ((wrap64 (bt a0 0)) + 1)) 2)))) > (a0.size : Int)
    ·rw [if_pos c9] at H
     have c9b0 : decide ((a0.size : Int) < (wrap64 (1 + (wrap64 (Int.tdiv (wrap64 ((wrap64 (bt a0 0)) + 1)) 2))))) = true := decide_eq_true c9
     clear c9
     simp only [Option.some.injEq, Prod.mk.injEq] at H
     obtain ⟨rfl, rfl, rfl⟩ := H
     have p8 : 0 ≤ (0 : Int) := (by omega)
     have q8 : 0 < a0.size := (by have : (0 : Int) < (a0.size : Int) := SQ.da; omega)
     have hx8 : ∀ h : 0 < a0.size, ((a0[0]'h).toNat : Int) = bt a0 0 := bt_at a0 0
     clear p8
     have qi8 : (0 < (a0.size : Int)) = True := eq_true (SQ.da)
     replace q8 := eq_true q8
     go_wp2
     go_ret3
     exact ⟨SQ.er, SQ.bw⟩
    ·rw [if_neg c9] at H
     have c9b0 : decide ((a0.size : Int) < (wrap64 (1 + (wrap64 (Int.tdiv (wrap64 ((wrap64 (bt a0 0)) + 1)) 2))))) = false := decide_eq_false c9
     clear c9
     by_cases c10 : 1 ≤ (wrap64 (1 + (wrap64 (Int.tdiv (wrap64 ((wrap64 (bt a0 0)) + 1)) 2))))
     rotate_left
     ·rw [if_neg c10] at H
      exact absurd H (by simp)
     rw [if_pos c10] at H
     have c10b0 := eq_true c10
     have c10b1 : decide (1 ≤ (wrap64 (1 + (wrap64 (Int.tdiv (wrap64 ((wrap64 (bt a0 0)) + 1)) 2))))) = true := decide_eq_true c10
     by_cases c11 : (wrap64 (1 + (wrap64 (Int.tdiv (wrap64 ((wrap64 (bt a0 0)) + 1)) 2)))) ≤ (a0.size : Int)
     rotate_left
     ·rw [if_neg c11] at H
      exact absurd H (by simp)
     rw [if_pos c11] at H
     have c11b0 := eq_true c11
     have c11b1 : decide ((wrap64 (1 + (wrap64 (Int.tdiv (wrap64 ((wrap64 (bt a0 0)) + 1)) 2)))) ≤ (a0.size : Int)) = true := decide_eq_true c11
     replace H := Option.bind_eq_some_iff.mp H
     obtain ⟨t160, A120, H⟩ := H
     try dsimp only at H
     have A12 := A0_.mk A120
     clear A120
     by_cases c13 : (wrap64 (bt a0 0)) < (t160.size : Int)
     ·rw [if_pos c13] at H
      have c13b0 : decide ((wrap64 (bt a0 0)) < (t160.size : Int)) = true := decide_eq_true c13
      clear c13
      obtain ⟨ji14, hji14⟩ : ∃ j_ : Int, (wrap64 (bt a0 0)) = j_ := ⟨_, rfl⟩
      replace H : (if 0 ≤ (ji14) then (if (bt t160 (ji14)) = 0 then (if (ji14) ≤ (t160.size : Int) then (some (t160.extract 0 ((ji14) : Int).toNat, wrap64 (1 + (wrap64 (Int.tdiv (wrap64 ((ji14) + 1)) 2))), true)) else (none)) else (some ((⟨#[]⟩ : ByteArray), 0, false))) else (none)) = some (r1, r2, r3) := by first | (rw [hji14] at H; exact H) | (simp only [hji14] at H ⊢; exact H)
      (try rw [hji14] at c9b0)
      (try rw [hji14] at c10b0)
      (try rw [hji14] at c10b1)
      (try rw [hji14] at c10)
      (try rw [hji14] at c11b0)
      (try rw [hji14] at c11b1)
      (try rw [hji14] at c11)
      (try rw [hji14] at c13b0)
      (try rw [hji14] at A12)
      have hji14w : (IntKind.i64.wrap (bt a0 0)) = ji14 := (i64_w _).trans hji14
      by_cases c15 : 0 ≤ (ji14)
      rotate_left
      ·rw [if_neg c15] at H
       exact absurd H (by simp)
      rw [if_pos c15] at H
      have c15b0 : decide (0 ≤ (ji14)) = true := decide_eq_true c15
      clear c15
      by_cases c17 : (bt t160 (ji14)) = 0
      ·rw [if_pos c17] at H
       have c17b0 : ((bt t160 (ji14)) == 0) = true := beq_iff_eq.mpr c17
       have c17b1 : ((bt t160 (ji14)) != 0) = false := bne_eq_false_iff_eq.mpr c17
       clear c17
       have c18b0 := eq_true (of_decide_eq_true (by first | (with_reducible assumption) | assumption | (rw [← hji14]; assumption)) : 0 ≤ (ji14))
       by_cases c19 : (ji14) ≤ (t160.size : Int)
       rotate_left
       ·rw [if_neg c19] at H
        exact absurd H (by simp)
       rw [if_pos c19] at H
       have c19b0 := eq_true c19
       have c19b1 : decide ((ji14) ≤ (t160.size : Int)) = true := decide_eq_true c19
       clear c19
       simp only [Option.some.injEq, Prod.mk.injEq] at H
       obtain ⟨rfl, rfl, rfl⟩ := H
       have p8 : 0 ≤ (0 : Int) := (by omega)
       have q8 : 0 < a0.size := (by have : (0 : Int) < (a0.size : Int) := SQ.da; omega)
       have hx8 : ∀ h : 0 < a0.size, ((a0[0]'h).toNat : Int) = bt a0 0 := bt_at a0 0
       clear p8
       have qi8 : (0 < (a0.size : Int)) = True := eq_true (SQ.da)
       replace q8 := eq_true q8
       go_wp2_with (first | ((with_reducible refine gC (f := 67) rfl ?_); refine gL (some 29) rfl rfl Tryd.func67 (by kernel_rfl) rfl #[.string (a0.extract 1 ((wrap64 (1 + (wrap64 (Int.tdiv (wrap64 ((ji14) + 1)) 2)))) : Int).toNat)] rfl (by (try simp only [List.map_toArray, List.map_cons, List.map_nil]); first | done | (simp only [hji14]; rfl) | rfl | (simp only [List.length_drop, List.length_take]; rfl)) ?_; (with_reducible refine (nibble_Of.calls kj1 (a0.extract 1 ((wrap64 (1 + (wrap64 (Int.tdiv (wrap64 ((ji14) + 1)) 2)))) : Int).toNat) t160 _ A12.out).mono ?_); rintro e w20 ⟨rfl, hb⟩; refine ⟨_, rfl, ?_⟩; replace HB := A0_.mk (wT SQ.bw hb); clear hb; have p16 : 0 ≤ ((ji14) : Int) := SQ.da; have q16 : (ji14) < (t160.size : Int) := SQ.da; have hx16 := bt_at t160 (ji14); replace p16 := eq_true p16; replace q16 := eq_true q16))
       go_ret3
       exact ⟨by first | rfl | (simp [errW_none, errW_some] <;> rfl) | (simp only [← hji14]; first | rfl | (simp [errW_none, errW_some] <;> rfl)) | (simp [*, errW_none, errW_some] <;> rfl), SQ.bw⟩
      ·rw [if_neg c17] at H
       have c17b0 : ((bt t160 (ji14)) == 0) = false := beq_eq_false_iff_ne.mpr c17
       have c17b1 : ((bt t160 (ji14)) != 0) = true := bne_iff_ne.mpr c17
       simp only [Option.some.injEq, Prod.mk.injEq] at H
       obtain ⟨rfl, rfl, rfl⟩ := H
       have p8 : 0 ≤ (0 : Int) := (by omega)
       have q8 : 0 < a0.size := (by have : (0 : Int) < (a0.size : Int) := SQ.da; omega)
       have hx8 : ∀ h : 0 < a0.size, ((a0[0]'h).toNat : Int) = bt a0 0 := bt_at a0 0
       clear p8
       have qi8 : (0 < (a0.size : Int)) = True := eq_true (SQ.da)
       replace q8 := eq_true q8
       go_wp2_with (first | ((with_reducible refine gC (f := 67) rfl ?_); refine gL (some 29) rfl rfl Tryd.func67 (by kernel_rfl) rfl #[.string (a0.extract 1 ((wrap64 (1 + (wrap64 (Int.tdiv (wrap64 ((ji14) + 1)) 2)))) : Int).toNat)] rfl (by (try simp only [List.map_toArray, List.map_cons, List.map_nil]); first | done | (simp only [hji14]; rfl) | rfl | (simp only [List.length_drop, List.length_take]; rfl)) ?_; (with_reducible refine (nibble_Of.calls kj1 (a0.extract 1 ((wrap64 (1 + (wrap64 (Int.tdiv (wrap64 ((ji14) + 1)) 2)))) : Int).toNat) t160 _ A12.out).mono ?_); rintro e w21 ⟨rfl, hb⟩; refine ⟨_, rfl, ?_⟩; replace HB := A0_.mk (wT SQ.bw hb); clear hb; have p16 : 0 ≤ ((ji14) : Int) := SQ.da; have q16 : (ji14) < (t160.size : Int) := SQ.da; have hx16 := bt_at t160 (ji14); replace p16 := eq_true p16; replace q16 := eq_true q16))
       go_ret3
       exact ⟨by first | rfl | (simp [errW_none, errW_some] <;> rfl) | (simp only [← hji14]; first | rfl | (simp [errW_none, errW_some] <;> rfl)) | (simp [*, errW_none, errW_some] <;> rfl), SQ.bw⟩
     ·rw [if_neg c13] at H
      have c13b0 : decide ((wrap64 (bt a0 0)) < (t160.size : Int)) = false := decide_eq_false c13
      clear c13
      obtain ⟨ji22, hji22⟩ : ∃ j_ : Int, (wrap64 (bt a0 0)) = j_ := ⟨_, rfl⟩
      replace H : (if 0 ≤ (ji22) then (if (ji22) ≤ (t160.size : Int) then (some (t160.extract 0 ((ji22) : Int).toNat, wrap64 (1 + (wrap64 (Int.tdiv (wrap64 ((ji22) + 1)) 2))), true)) else (none)) else (none)) = some (r1, r2, r3) := by first | (rw [hji22] at H; exact H) | (simp only [hji22] at H ⊢; exact H)
      (try rw [hji22] at c9b0)
      (try rw [hji22] at c10b0)
      (try rw [hji22] at c10b1)
      (try rw [hji22] at c10)
      (try rw [hji22] at c11b0)
      (try rw [hji22] at c11b1)
      (try rw [hji22] at c11)
      (try rw [hji22] at c13b0)
      (try rw [hji22] at A12)
      have hji22w : (IntKind.i64.wrap (bt a0 0)) = ji22 := (i64_w _).trans hji22
      by_cases c23 : 0 ≤ (ji22)
      rotate_left
      ·rw [if_neg c23] at H
       exact absurd H (by simp)
      rw [if_pos c23] at H
      have c23b0 := eq_true c23
      have c23b1 : decide (0 ≤ (ji22)) = true := decide_eq_true c23
      clear c23
      by_cases c24 : (ji22) ≤ (t160.size : Int)
      rotate_left
      ·rw [if_neg c24] at H
       exact absurd H (by simp)
      rw [if_pos c24] at H
      have c24b0 := eq_true c24
      have c24b1 : decide ((ji22) ≤ (t160.size : Int)) = true := decide_eq_true c24
      clear c24
      simp only [Option.some.injEq, Prod.mk.injEq] at H
      obtain ⟨rfl, rfl, rfl⟩ := H
      have p8 : 0 ≤ (0 : Int) := (by omega)
      have q8 : 0 < a0.size := (by have : (0 : Int) < (a0.size : Int) := SQ.da; omega)
      have hx8 : ∀ h : 0 < a0.size, ((a0[0]'h).toNat : Int) = bt a0 0 := bt_at a0 0
      clear p8
      have qi8 : (0 < (a0.size : Int)) = True := eq_true (SQ.da)
      replace q8 := eq_true q8
      go_wp2_with (first | ((with_reducible refine gC (f := 67) rfl ?_); refine gL (some 29) rfl rfl Tryd.func67 (by kernel_rfl) rfl #[.string (a0.extract 1 ((wrap64 (1 + (wrap64 (Int.tdiv (wrap64 ((ji22) + 1)) 2)))) : Int).toNat)] rfl (by (try simp only [List.map_toArray, List.map_cons, List.map_nil]); first | done | (simp only [hji22]; rfl) | rfl | (simp only [List.length_drop, List.length_take]; rfl)) ?_; (with_reducible refine (nibble_Of.calls kj1 (a0.extract 1 ((wrap64 (1 + (wrap64 (Int.tdiv (wrap64 ((ji22) + 1)) 2)))) : Int).toNat) t160 _ A12.out).mono ?_); rintro e w25 ⟨rfl, hb⟩; refine ⟨_, rfl, ?_⟩; replace HB := A0_.mk (wT SQ.bw hb); clear hb))
      go_ret3
      exact ⟨by first | rfl | (simp [errW_none, errW_some] <;> rfl) | (simp only [← hji22]; first | rfl | (simp [errW_none, errW_some] <;> rfl)) | (simp [*, errW_none, errW_some] <;> rfl), SQ.bw⟩

/-! ### node_read: function 24 -/
def node_read.f (k : Nat) (a0 : ByteArray) : Option (Int × ByteArray × Bool × ByteArray × Int × List ByteArray) := NodR.read_f k a0
theorem node_read.calls (k : Nat) (a0 : ByteArray) (r1 : Int) (r2 : ByteArray) (r3 : Bool) (r4 : ByteArray) (r5 : Int) (r6 : List ByteArray) (w : World) (h : node_read.f k a0 = some (r1, r2, r3, r4, r5, r6)) :
  Calls Tryd.prog 24 #[.string a0] w fun e w' => ∃ v5_ : Value, e = .returned (.agg #[.int .i64 r1, .string r2, .bool r3, .string r4, .int .i64 r5, v5_]) ∧ Kd.R Kd.string 9 w' w.heap.size (fun _ => True) v5_ r6 ∧ Below w.heap.size w w' := NodR.read_calls k a0 r1 r2 r3 r4 r5 r6 w h


/-! ### node_Decode: function 11 -/
def node_Decode.f (k : Nat) (a0 : ByteArray) : Option (Int × ByteArray × Bool × ByteArray × Int × List ByteArray × Bool) := (node_read.f k a0).bind fun bt172 => ((node_Encode.f k bt172.1 bt172.2.1 bt172.2.2.1 bt172.2.2.2.1 bt172.2.2.2.2.1 bt172.2.2.2.2.2).bind fun bt181 => (if bt181.2 = true then (if bt181.1.toList = a0.toList then (some (bt172.1, bt172.2.1, bt172.2.2.1, bt172.2.2.2.1, bt172.2.2.2.2.1, bt172.2.2.2.2.2, true)) else (some (0, (⟨#[]⟩ : ByteArray), false, (⟨#[]⟩ : ByteArray), 0, ([] : List ByteArray), false))) else (some (0, (⟨#[]⟩ : ByteArray), false, (⟨#[]⟩ : ByteArray), 0, ([] : List ByteArray), false))))
set_option maxHeartbeats 8000000 in
set_option maxRecDepth 100000 in
theorem node_Decode.calls (k : Nat) (a0 : ByteArray) (r1 : Int) (r2 : ByteArray) (r3 : Bool) (r4 : ByteArray) (r5 : Int) (r6 : List ByteArray) (r7 : Bool) (w : World) (h : node_Decode.f k a0 = some (r1, r2, r3, r4, r5, r6, r7)) :
  Calls Tryd.prog 11 #[.string a0] w fun e w' => ∃ v5_ : Value, e = .returned (.tuple #[.agg #[.int .i64 r1, .string r2, .bool r3, .string r4, .int .i64 r5, v5_], .bool r7]) ∧ Kd.R Kd.string 9 w' w.heap.size (fun _ => True) v5_ r6 ∧ Below w.heap.size w w' := by
 have hu24 := Tryd.underlying24
 have HB := A0_.mk (Below.refl w.heap.size w)
 have H : ((node_read.f k a0).bind fun bt172 => ((node_Encode.f k bt172.1 bt172.2.1 bt172.2.2.1 bt172.2.2.2.1 bt172.2.2.2.2.1 bt172.2.2.2.2.2).bind fun bt181 => (if bt181.2 = true then (if bt181.1.toList = a0.toList then (some (bt172.1, bt172.2.1, bt172.2.2.1, bt172.2.2.2.1, bt172.2.2.2.2.1, bt172.2.2.2.2.2, true)) else (some (0, (⟨#[]⟩ : ByteArray), false, (⟨#[]⟩ : ByteArray), 0, ([] : List ByteArray), false))) else (some (0, (⟨#[]⟩ : ByteArray), false, (⟨#[]⟩ : ByteArray), 0, ([] : List ByteArray), false))))) = some (r1, r2, r3, r4, r5, r6, r7) := h
 clear h
 replace H := Option.bind_eq_some_iff.mp H
 obtain ⟨⟨t172, t173, t174, t175, t176, t177⟩, A20, H⟩ := H
 try dsimp only at H
 have A2 := A0_.mk A20
 clear A20
 replace H := Option.bind_eq_some_iff.mp H
 obtain ⟨⟨t181, t182⟩, A30, H⟩ := H
 try dsimp only at H
 have A3 := A0_.mk A30
 clear A30
 by_cases c4 : t182 = true
 ·subst c4
  rw [if_pos rfl] at H
  by_cases c5 : t181.toList = a0.toList
  ·rw [if_pos c5] at H
   have c5b0 : (t181.toList == a0.toList) = true := beq_iff_eq.mpr c5
   have c5b1 : (t181.toList != a0.toList) = false := bne_eq_false_iff_eq.mpr c5
   clear c5
   simp only [Option.some.injEq, Prod.mk.injEq] at H
   obtain ⟨rfl, rfl, rfl, rfl, rfl, rfl, rfl⟩ := H
   go_enter Tryd.func11, Tryd.ntmps11
   go_wp2_with (first | ((with_reducible refine gD (N := 2) rfl ?_); refine xE ?hg (N := 2) ?hd (cs := #[.int .i64 0, .string (⟨#[]⟩ : ByteArray), .bool false, .string (⟨#[]⟩ : ByteArray), .int .i64 0, .slice none 0 0]) (t := 24) ?hr ?_; (case hd => rfl); (case hg => rfl); (case hr => first | (go_simp; done) | (go_simp; rfl)); intro gb171 hg w6 hbox hb; have BK171 := A0_.mk (hbox); have GW171 := A0_.mk ((by rw [hg]; exact (wZ SQ.bw) : w.heap.size ≤ gb171)); have GE171 := A0_.mk ((by rw [hg]; exact (wZ SQ.bw) : w.heap.size ≤ gb171)); replace HB := A0_.mk (wT SQ.bw hb); clear hb hbox hg) | ((with_reducible refine gC (f := 24) rfl ?_); refine gL (some 8) rfl rfl Tryd.func24 (by kernel_rfl) rfl #[.string a0] rfl SQ.sm ?_; (with_reducible refine (node_read.calls k a0 t172 t173 t174 t175 t176 t177 _ A2.out).mono ?_); rintro e w7 ⟨v178, rfl, ho0, hb⟩; refine ⟨_, rfl, ?_⟩; have HO179 := A0_.mk (Kd.R_lower ho0 (wZ SQ.bw)); replace BK171 := A0_.mk (bB (g := gb171) SQ.kw hb); replace HB := A0_.mk (wT SQ.bw hb); (try clear hb); (try clear hb2); (try clear hk); (try clear hi); (try clear ho0)) | ((with_reducible refine gD (N := 4) rfl ?_); refine xE ?hg (N := 4) ?hd (cs := #[.int .i64 0, .string (⟨#[]⟩ : ByteArray), .bool false, .string (⟨#[]⟩ : ByteArray), .int .i64 0, .slice none 0 0]) (t := 24) ?hr ?_; (case hd => rfl); (case hg => rfl); (case hr => first | (go_simp; done) | (go_simp; rfl)); intro gb180 hg w8 hbox hb; have BK180 := A0_.mk (hbox); have GW180 := A0_.mk ((by rw [hg]; exact (wZ SQ.bw) : w.heap.size ≤ gb180)); have GE180 := A0_.mk ((by rw [hg]; exact (wZ SQ.bw) : w.heap.size ≤ gb180)); have NB171_180 := A0_.mk ((by rw [hg]; exact Nat.ne_of_lt (bL (g := gb171) SQ.kw) : gb171 ≠ gb180)); have NB180_171 := A0_.mk ((by rw [hg]; exact Nat.ne_of_gt (bL (g := gb171) SQ.kw) : gb180 ≠ gb171)); replace HO179 := A0_.mk (Kd.R_below (by (with_reducible repeat (first | apply Kd.R_alloc | apply Kd.R_drewN | apply Kd.R_drew)); exact HO179.out) hb); replace BK171 := A0_.mk (bB (g := gb171) SQ.kw hb); replace HB := A0_.mk (wT SQ.bw hb); clear hb hbox hg; have hnb9 := NB180_171.out; have hnc9 := NB171_180.out; obtain ⟨hcz10_0, hcz10_1, hcz10_2, hcz10_3, hcz10_4, hcz10_5, hfz10_0, hfz10_1, hfz10_2, hfz10_3, hfz10_4, hfz10_5⟩ := SQ.cs6 BK180.out; obtain ⟨Ao11, co11, eo11⟩ := Kd.R_slice HO179.out; subst eo11) | ((with_reducible refine gC (f := 9) rfl ?_); refine gL (some 11) rfl rfl Tryd.func9 (by kernel_rfl) rfl #[.agg #[.int .i64 t172, .string t173, .bool t174, .string t175, .int .i64 t176, .slice Ao11 t177.length co11]] rfl SQ.sm ?_; (with_reducible refine (node_Encode.calls k t172 t173 t174 t175 t176 _ _ t177 t181 true _ ?side1 ?side2 A3.out).mono ?_); (case side1 => refine (Kd.R_reads' (e := 9) (base := w.heap.size) (ok := fun k_ => True) (n := t177.length) (c := co11) ?_).2.2; exact (by (with_reducible repeat (first | apply Kd.R_alloc | apply Kd.R_drewN | apply Kd.R_drew)); exact (Kd.R_mono (Kd.R_far (p := ⟨gb180, 5, none⟩) (Kd.R_far (p := ⟨gb180, 4, none⟩) (Kd.R_far (p := ⟨gb180, 3, none⟩) (Kd.R_far (p := ⟨gb180, 2, none⟩) (Kd.R_far (p := ⟨gb180, 1, none⟩) (Kd.R_far (p := ⟨gb180, 0, none⟩) (Kd.R_types HO179.out BK180.out (by decide)) (fun _ hk => hk.2) (.int .i64 t172)) (fun _ hk => hk.2) (.string t173)) (fun _ hk => hk.2) (.bool t174)) (fun _ hk => hk.2) (.string t175)) (fun _ hk => hk.2) (.int .i64 t176)) (fun _ hk => hk.2) (.slice Ao11 t177.length co11)) (fun _ h_ => h_.1)))); (case side2 => exact (Kd.R_reads' HO179.out).2.1); rintro e w12 ⟨rfl, hb⟩; refine ⟨_, rfl, ?_⟩; replace HO179 := A0_.mk (Kd.R_below (by (with_reducible repeat (first | apply Kd.R_alloc | apply Kd.R_drewN | apply Kd.R_drew)); exact (Kd.R_mono (Kd.R_far (p := ⟨gb180, 5, none⟩) (Kd.R_far (p := ⟨gb180, 4, none⟩) (Kd.R_far (p := ⟨gb180, 3, none⟩) (Kd.R_far (p := ⟨gb180, 2, none⟩) (Kd.R_far (p := ⟨gb180, 1, none⟩) (Kd.R_far (p := ⟨gb180, 0, none⟩) (Kd.R_types HO179.out BK180.out (by decide)) (fun _ hk => hk.2) (.int .i64 t172)) (fun _ hk => hk.2) (.string t173)) (fun _ hk => hk.2) (.bool t174)) (fun _ hk => hk.2) (.string t175)) (fun _ hk => hk.2) (.int .i64 t176)) (fun _ hk => hk.2) (.slice Ao11 t177.length co11)) (fun _ h_ => h_.1))) hb); replace BK171 := A0_.mk (bB (g := gb171) (o := .cells #[.int .i64 0, .string (⟨#[]⟩ : ByteArray), .bool false, .string (⟨#[]⟩ : ByteArray), .int .i64 0, .slice none 0 0] 24 (0, 0)) (by (with_reducible repeat (first | refine bN ?_ _ | refine bD ?_ | refine bA ?_ _)); refine bR ?_ NB171_180.out _; (with_reducible repeat (first | refine bN ?_ _ | refine bD ?_ | refine bA ?_ _)); refine bR ?_ NB171_180.out _; (with_reducible repeat (first | refine bN ?_ _ | refine bD ?_ | refine bA ?_ _)); refine bR ?_ NB171_180.out _; (with_reducible repeat (first | refine bN ?_ _ | refine bD ?_ | refine bA ?_ _)); refine bR ?_ NB171_180.out _; (with_reducible repeat (first | refine bN ?_ _ | refine bD ?_ | refine bA ?_ _)); refine bR ?_ NB171_180.out _; (with_reducible repeat (first | refine bN ?_ _ | refine bD ?_ | refine bA ?_ _)); refine bR ?_ NB171_180.out _; (with_reducible repeat (first | refine bN ?_ _ | refine bD ?_ | refine bA ?_ _)); exact BK171.out) hb); replace BK180 := A0_.mk (bB (g := gb180) (o := .cells #[.int .i64 t172, .string t173, .bool t174, .string t175, .int .i64 t176, .slice Ao11 t177.length co11] 24 (0, 0)) (by (with_reducible repeat (first | refine bN ?_ _ | refine bD ?_ | refine bA ?_ _)); refine bP (cs := #[.int .i64 t172, .string t173, .bool t174, .string t175, .int .i64 t176, .slice none 0 0]) ?_ 5 _ rfl; (with_reducible repeat (first | refine bN ?_ _ | refine bD ?_ | refine bA ?_ _)); refine bP (cs := #[.int .i64 t172, .string t173, .bool t174, .string t175, .int .i64 0, .slice none 0 0]) ?_ 4 _ rfl; (with_reducible repeat (first | refine bN ?_ _ | refine bD ?_ | refine bA ?_ _)); refine bP (cs := #[.int .i64 t172, .string t173, .bool t174, .string (⟨#[]⟩ : ByteArray), .int .i64 0, .slice none 0 0]) ?_ 3 _ rfl; (with_reducible repeat (first | refine bN ?_ _ | refine bD ?_ | refine bA ?_ _)); refine bP (cs := #[.int .i64 t172, .string t173, .bool false, .string (⟨#[]⟩ : ByteArray), .int .i64 0, .slice none 0 0]) ?_ 2 _ rfl; (with_reducible repeat (first | refine bN ?_ _ | refine bD ?_ | refine bA ?_ _)); refine bP (cs := #[.int .i64 t172, .string (⟨#[]⟩ : ByteArray), .bool false, .string (⟨#[]⟩ : ByteArray), .int .i64 0, .slice none 0 0]) ?_ 1 _ rfl; (with_reducible repeat (first | refine bN ?_ _ | refine bD ?_ | refine bA ?_ _)); refine bP (cs := #[.int .i64 0, .string (⟨#[]⟩ : ByteArray), .bool false, .string (⟨#[]⟩ : ByteArray), .int .i64 0, .slice none 0 0]) ?_ 0 _ rfl; (with_reducible repeat (first | refine bN ?_ _ | refine bD ?_ | refine bA ?_ _)); exact BK180.out) hb); replace HB := A0_.mk (wT SQ.bw hb); clear hb; obtain ⟨hcz13_0, hcz13_1, hcz13_2, hcz13_3, hcz13_4, hcz13_5, hfz13_0, hfz13_1, hfz13_2, hfz13_3, hfz13_4, hfz13_5⟩ := SQ.cs6 BK180.out; obtain ⟨hcz14_0, hcz14_1, hcz14_2, hcz14_3, hcz14_4, hcz14_5, hfz14_0, hfz14_1, hfz14_2, hfz14_3, hfz14_4, hfz14_5⟩ := SQ.cs6 BK171.out))
   refine bodyPost_ret (results_ct rfl _ _ gb171 24 #[.int .i64 t172, .string t173, .bool t174, .string t175, .int .i64 t176, .slice Ao11 t177.length co11] (0, 0) _ rfl (by (with_reducible repeat (first | refine bN ?_ _ | refine bD ?_ | refine bA ?_ _)); refine bP (cs := #[.int .i64 t172, .string t173, .bool t174, .string t175, .int .i64 t176, .slice none 0 0]) ?_ 5 _ rfl; (with_reducible repeat (first | refine bN ?_ _ | refine bD ?_ | refine bA ?_ _)); refine bP (cs := #[.int .i64 t172, .string t173, .bool t174, .string t175, .int .i64 0, .slice none 0 0]) ?_ 4 _ rfl; (with_reducible repeat (first | refine bN ?_ _ | refine bD ?_ | refine bA ?_ _)); refine bP (cs := #[.int .i64 t172, .string t173, .bool t174, .string (⟨#[]⟩ : ByteArray), .int .i64 0, .slice none 0 0]) ?_ 3 _ rfl; (with_reducible repeat (first | refine bN ?_ _ | refine bD ?_ | refine bA ?_ _)); refine bP (cs := #[.int .i64 t172, .string t173, .bool false, .string (⟨#[]⟩ : ByteArray), .int .i64 0, .slice none 0 0]) ?_ 2 _ rfl; (with_reducible repeat (first | refine bN ?_ _ | refine bD ?_ | refine bA ?_ _)); refine bP (cs := #[.int .i64 t172, .string (⟨#[]⟩ : ByteArray), .bool false, .string (⟨#[]⟩ : ByteArray), .int .i64 0, .slice none 0 0]) ?_ 1 _ rfl; (with_reducible repeat (first | refine bN ?_ _ | refine bD ?_ | refine bA ?_ _)); refine bP (cs := #[.int .i64 0, .string (⟨#[]⟩ : ByteArray), .bool false, .string (⟨#[]⟩ : ByteArray), .int .i64 0, .slice none 0 0]) ?_ 0 _ rfl; (with_reducible repeat (first | refine bN ?_ _ | refine bD ?_ | refine bA ?_ _)); exact BK171.out) Tryd.underlying24 rfl (by kernel_rfl)) rfl ?_
   exact ⟨_, SQ.er, by (with_reducible repeat (first | apply Kd.R_alloc | apply Kd.R_drewN | apply Kd.R_drew)); exact Kd.R_mono (Kd.R_far (p := ⟨gb171, 5, none⟩) (Kd.R_far (p := ⟨gb171, 4, none⟩) (Kd.R_far (p := ⟨gb171, 3, none⟩) (Kd.R_far (p := ⟨gb171, 2, none⟩) (Kd.R_far (p := ⟨gb171, 1, none⟩) (Kd.R_far (p := ⟨gb171, 0, none⟩) (Kd.R_types HO179.out BK171.out (by decide)) (fun _ hk => hk.2) (.int .i64 t172)) (fun _ hk => hk.2) (.string t173)) (fun _ hk => hk.2) (.bool t174)) (fun _ hk => hk.2) (.string t175)) (fun _ hk => hk.2) (.int .i64 t176)) (fun _ hk => hk.2) (.slice Ao11 t177.length co11)) (fun _ hk => trivial), SQ.bw⟩
  ·rw [if_neg c5] at H
   have c5b0 : (t181.toList == a0.toList) = false := beq_eq_false_iff_ne.mpr c5
   have c5b1 : (t181.toList != a0.toList) = true := bne_iff_ne.mpr c5
   simp only [Option.some.injEq, Prod.mk.injEq] at H
   obtain ⟨rfl, rfl, rfl, rfl, rfl, rfl, rfl⟩ := H
   go_enter Tryd.func11, Tryd.ntmps11
   go_wp2_with (first | ((with_reducible refine gD (N := 2) rfl ?_); refine xE ?hg (N := 2) ?hd (cs := #[.int .i64 0, .string (⟨#[]⟩ : ByteArray), .bool false, .string (⟨#[]⟩ : ByteArray), .int .i64 0, .slice none 0 0]) (t := 24) ?hr ?_; (case hd => rfl); (case hg => rfl); (case hr => first | (go_simp; done) | (go_simp; rfl)); intro gb171 hg w15 hbox hb; have BK171 := A0_.mk (hbox); have GW171 := A0_.mk ((by rw [hg]; exact (wZ SQ.bw) : w.heap.size ≤ gb171)); have GE171 := A0_.mk ((by rw [hg]; exact (wZ SQ.bw) : w.heap.size ≤ gb171)); replace HB := A0_.mk (wT SQ.bw hb); clear hb hbox hg) | ((with_reducible refine gC (f := 24) rfl ?_); refine gL (some 8) rfl rfl Tryd.func24 (by kernel_rfl) rfl #[.string a0] rfl SQ.sm ?_; (with_reducible refine (node_read.calls k a0 t172 t173 t174 t175 t176 t177 _ A2.out).mono ?_); rintro e w16 ⟨v178, rfl, ho0, hb⟩; refine ⟨_, rfl, ?_⟩; have HO179 := A0_.mk (Kd.R_lower ho0 (wZ SQ.bw)); replace BK171 := A0_.mk (bB (g := gb171) SQ.kw hb); replace HB := A0_.mk (wT SQ.bw hb); (try clear hb); (try clear hb2); (try clear hk); (try clear hi); (try clear ho0)) | ((with_reducible refine gD (N := 4) rfl ?_); refine xE ?hg (N := 4) ?hd (cs := #[.int .i64 0, .string (⟨#[]⟩ : ByteArray), .bool false, .string (⟨#[]⟩ : ByteArray), .int .i64 0, .slice none 0 0]) (t := 24) ?hr ?_; (case hd => rfl); (case hg => rfl); (case hr => first | (go_simp; done) | (go_simp; rfl)); intro gb180 hg w17 hbox hb; have BK180 := A0_.mk (hbox); have GW180 := A0_.mk ((by rw [hg]; exact (wZ SQ.bw) : w.heap.size ≤ gb180)); have GE180 := A0_.mk ((by rw [hg]; exact (wZ SQ.bw) : w.heap.size ≤ gb180)); have NB171_180 := A0_.mk ((by rw [hg]; exact Nat.ne_of_lt (bL (g := gb171) SQ.kw) : gb171 ≠ gb180)); have NB180_171 := A0_.mk ((by rw [hg]; exact Nat.ne_of_gt (bL (g := gb171) SQ.kw) : gb180 ≠ gb171)); replace HO179 := A0_.mk (Kd.R_below (by (with_reducible repeat (first | apply Kd.R_alloc | apply Kd.R_drewN | apply Kd.R_drew)); exact HO179.out) hb); replace BK171 := A0_.mk (bB (g := gb171) SQ.kw hb); replace HB := A0_.mk (wT SQ.bw hb); clear hb hbox hg; have hnb18 := NB180_171.out; have hnc18 := NB171_180.out; obtain ⟨hcz19_0, hcz19_1, hcz19_2, hcz19_3, hcz19_4, hcz19_5, hfz19_0, hfz19_1, hfz19_2, hfz19_3, hfz19_4, hfz19_5⟩ := SQ.cs6 BK180.out; obtain ⟨Ao20, co20, eo20⟩ := Kd.R_slice HO179.out; subst eo20) | ((with_reducible refine gC (f := 9) rfl ?_); refine gL (some 11) rfl rfl Tryd.func9 (by kernel_rfl) rfl #[.agg #[.int .i64 t172, .string t173, .bool t174, .string t175, .int .i64 t176, .slice Ao20 t177.length co20]] rfl SQ.sm ?_; (with_reducible refine (node_Encode.calls k t172 t173 t174 t175 t176 _ _ t177 t181 true _ ?side1 ?side2 A3.out).mono ?_); (case side1 => refine (Kd.R_reads' (e := 9) (base := w.heap.size) (ok := fun k_ => True) (n := t177.length) (c := co20) ?_).2.2; exact (by (with_reducible repeat (first | apply Kd.R_alloc | apply Kd.R_drewN | apply Kd.R_drew)); exact (Kd.R_mono (Kd.R_far (p := ⟨gb180, 5, none⟩) (Kd.R_far (p := ⟨gb180, 4, none⟩) (Kd.R_far (p := ⟨gb180, 3, none⟩) (Kd.R_far (p := ⟨gb180, 2, none⟩) (Kd.R_far (p := ⟨gb180, 1, none⟩) (Kd.R_far (p := ⟨gb180, 0, none⟩) (Kd.R_types HO179.out BK180.out (by decide)) (fun _ hk => hk.2) (.int .i64 t172)) (fun _ hk => hk.2) (.string t173)) (fun _ hk => hk.2) (.bool t174)) (fun _ hk => hk.2) (.string t175)) (fun _ hk => hk.2) (.int .i64 t176)) (fun _ hk => hk.2) (.slice Ao20 t177.length co20)) (fun _ h_ => h_.1)))); (case side2 => exact (Kd.R_reads' HO179.out).2.1); rintro e w21 ⟨rfl, hb⟩; refine ⟨_, rfl, ?_⟩; replace HO179 := A0_.mk (Kd.R_below (by (with_reducible repeat (first | apply Kd.R_alloc | apply Kd.R_drewN | apply Kd.R_drew)); exact (Kd.R_mono (Kd.R_far (p := ⟨gb180, 5, none⟩) (Kd.R_far (p := ⟨gb180, 4, none⟩) (Kd.R_far (p := ⟨gb180, 3, none⟩) (Kd.R_far (p := ⟨gb180, 2, none⟩) (Kd.R_far (p := ⟨gb180, 1, none⟩) (Kd.R_far (p := ⟨gb180, 0, none⟩) (Kd.R_types HO179.out BK180.out (by decide)) (fun _ hk => hk.2) (.int .i64 t172)) (fun _ hk => hk.2) (.string t173)) (fun _ hk => hk.2) (.bool t174)) (fun _ hk => hk.2) (.string t175)) (fun _ hk => hk.2) (.int .i64 t176)) (fun _ hk => hk.2) (.slice Ao20 t177.length co20)) (fun _ h_ => h_.1))) hb); replace BK171 := A0_.mk (bB (g := gb171) (o := .cells #[.int .i64 0, .string (⟨#[]⟩ : ByteArray), .bool false, .string (⟨#[]⟩ : ByteArray), .int .i64 0, .slice none 0 0] 24 (0, 0)) (by (with_reducible repeat (first | refine bN ?_ _ | refine bD ?_ | refine bA ?_ _)); refine bR ?_ NB171_180.out _; (with_reducible repeat (first | refine bN ?_ _ | refine bD ?_ | refine bA ?_ _)); refine bR ?_ NB171_180.out _; (with_reducible repeat (first | refine bN ?_ _ | refine bD ?_ | refine bA ?_ _)); refine bR ?_ NB171_180.out _; (with_reducible repeat (first | refine bN ?_ _ | refine bD ?_ | refine bA ?_ _)); refine bR ?_ NB171_180.out _; (with_reducible repeat (first | refine bN ?_ _ | refine bD ?_ | refine bA ?_ _)); refine bR ?_ NB171_180.out _; (with_reducible repeat (first | refine bN ?_ _ | refine bD ?_ | refine bA ?_ _)); refine bR ?_ NB171_180.out _; (with_reducible repeat (first | refine bN ?_ _ | refine bD ?_ | refine bA ?_ _)); exact BK171.out) hb); replace BK180 := A0_.mk (bB (g := gb180) (o := .cells #[.int .i64 t172, .string t173, .bool t174, .string t175, .int .i64 t176, .slice Ao20 t177.length co20] 24 (0, 0)) (by (with_reducible repeat (first | refine bN ?_ _ | refine bD ?_ | refine bA ?_ _)); refine bP (cs := #[.int .i64 t172, .string t173, .bool t174, .string t175, .int .i64 t176, .slice none 0 0]) ?_ 5 _ rfl; (with_reducible repeat (first | refine bN ?_ _ | refine bD ?_ | refine bA ?_ _)); refine bP (cs := #[.int .i64 t172, .string t173, .bool t174, .string t175, .int .i64 0, .slice none 0 0]) ?_ 4 _ rfl; (with_reducible repeat (first | refine bN ?_ _ | refine bD ?_ | refine bA ?_ _)); refine bP (cs := #[.int .i64 t172, .string t173, .bool t174, .string (⟨#[]⟩ : ByteArray), .int .i64 0, .slice none 0 0]) ?_ 3 _ rfl; (with_reducible repeat (first | refine bN ?_ _ | refine bD ?_ | refine bA ?_ _)); refine bP (cs := #[.int .i64 t172, .string t173, .bool false, .string (⟨#[]⟩ : ByteArray), .int .i64 0, .slice none 0 0]) ?_ 2 _ rfl; (with_reducible repeat (first | refine bN ?_ _ | refine bD ?_ | refine bA ?_ _)); refine bP (cs := #[.int .i64 t172, .string (⟨#[]⟩ : ByteArray), .bool false, .string (⟨#[]⟩ : ByteArray), .int .i64 0, .slice none 0 0]) ?_ 1 _ rfl; (with_reducible repeat (first | refine bN ?_ _ | refine bD ?_ | refine bA ?_ _)); refine bP (cs := #[.int .i64 0, .string (⟨#[]⟩ : ByteArray), .bool false, .string (⟨#[]⟩ : ByteArray), .int .i64 0, .slice none 0 0]) ?_ 0 _ rfl; (with_reducible repeat (first | refine bN ?_ _ | refine bD ?_ | refine bA ?_ _)); exact BK180.out) hb); replace HB := A0_.mk (wT SQ.bw hb); clear hb; obtain ⟨hcz22_0, hcz22_1, hcz22_2, hcz22_3, hcz22_4, hcz22_5, hfz22_0, hfz22_1, hfz22_2, hfz22_3, hfz22_4, hfz22_5⟩ := SQ.cs6 BK171.out))
   refine bodyPost_ret (results_ct rfl _ _ gb171 24 #[.int .i64 0, .string (⟨#[]⟩ : ByteArray), .bool false, .string (⟨#[]⟩ : ByteArray), .int .i64 0, .slice none 0 0] (0, 0) _ rfl (by (with_reducible repeat (first | refine bN ?_ _ | refine bD ?_ | refine bA ?_ _)); refine bP (cs := #[.int .i64 0, .string (⟨#[]⟩ : ByteArray), .bool false, .string (⟨#[]⟩ : ByteArray), .int .i64 0, .slice none 0 0]) ?_ 5 _ rfl; (with_reducible repeat (first | refine bN ?_ _ | refine bD ?_ | refine bA ?_ _)); refine bP (cs := #[.int .i64 0, .string (⟨#[]⟩ : ByteArray), .bool false, .string (⟨#[]⟩ : ByteArray), .int .i64 0, .slice none 0 0]) ?_ 4 _ rfl; (with_reducible repeat (first | refine bN ?_ _ | refine bD ?_ | refine bA ?_ _)); refine bP (cs := #[.int .i64 0, .string (⟨#[]⟩ : ByteArray), .bool false, .string (⟨#[]⟩ : ByteArray), .int .i64 0, .slice none 0 0]) ?_ 3 _ rfl; (with_reducible repeat (first | refine bN ?_ _ | refine bD ?_ | refine bA ?_ _)); refine bP (cs := #[.int .i64 0, .string (⟨#[]⟩ : ByteArray), .bool false, .string (⟨#[]⟩ : ByteArray), .int .i64 0, .slice none 0 0]) ?_ 2 _ rfl; (with_reducible repeat (first | refine bN ?_ _ | refine bD ?_ | refine bA ?_ _)); refine bP (cs := #[.int .i64 0, .string (⟨#[]⟩ : ByteArray), .bool false, .string (⟨#[]⟩ : ByteArray), .int .i64 0, .slice none 0 0]) ?_ 1 _ rfl; (with_reducible repeat (first | refine bN ?_ _ | refine bD ?_ | refine bA ?_ _)); refine bP (cs := #[.int .i64 0, .string (⟨#[]⟩ : ByteArray), .bool false, .string (⟨#[]⟩ : ByteArray), .int .i64 0, .slice none 0 0]) ?_ 0 _ rfl; (with_reducible repeat (first | refine bN ?_ _ | refine bD ?_ | refine bA ?_ _)); exact BK171.out) Tryd.underlying24 rfl (by kernel_rfl)) rfl ?_
   exact ⟨_, SQ.er, by first | exact Kd.R_nil _ _ _ _ _ | exact Kd.N_nil _ _ _ _ _ | exact Kd.V_nil _ _ _ _ _ | exact Kd.Q_nil _ _ _ _ _ | exact Kd.S_nil _ _ _ _ _, SQ.bw⟩
 ·replace c4 := Bool.eq_false_iff.mpr c4
  subst c4
  rw [if_neg (show ¬ (false = true) by decide)] at H
  simp only [Option.some.injEq, Prod.mk.injEq] at H
  obtain ⟨rfl, rfl, rfl, rfl, rfl, rfl, rfl⟩ := H
  go_enter Tryd.func11, Tryd.ntmps11
  go_wp2_with (first | ((with_reducible refine gD (N := 2) rfl ?_); refine xE ?hg (N := 2) ?hd (cs := #[.int .i64 0, .string (⟨#[]⟩ : ByteArray), .bool false, .string (⟨#[]⟩ : ByteArray), .int .i64 0, .slice none 0 0]) (t := 24) ?hr ?_; (case hd => rfl); (case hg => rfl); (case hr => first | (go_simp; done) | (go_simp; rfl)); intro gb171 hg w23 hbox hb; have BK171 := A0_.mk (hbox); have GW171 := A0_.mk ((by rw [hg]; exact (wZ SQ.bw) : w.heap.size ≤ gb171)); have GE171 := A0_.mk ((by rw [hg]; exact (wZ SQ.bw) : w.heap.size ≤ gb171)); replace HB := A0_.mk (wT SQ.bw hb); clear hb hbox hg) | ((with_reducible refine gC (f := 24) rfl ?_); refine gL (some 8) rfl rfl Tryd.func24 (by kernel_rfl) rfl #[.string a0] rfl SQ.sm ?_; (with_reducible refine (node_read.calls k a0 t172 t173 t174 t175 t176 t177 _ A2.out).mono ?_); rintro e w24 ⟨v178, rfl, ho0, hb⟩; refine ⟨_, rfl, ?_⟩; have HO179 := A0_.mk (Kd.R_lower ho0 (wZ SQ.bw)); replace BK171 := A0_.mk (bB (g := gb171) SQ.kw hb); replace HB := A0_.mk (wT SQ.bw hb); (try clear hb); (try clear hb2); (try clear hk); (try clear hi); (try clear ho0)) | ((with_reducible refine gD (N := 4) rfl ?_); refine xE ?hg (N := 4) ?hd (cs := #[.int .i64 0, .string (⟨#[]⟩ : ByteArray), .bool false, .string (⟨#[]⟩ : ByteArray), .int .i64 0, .slice none 0 0]) (t := 24) ?hr ?_; (case hd => rfl); (case hg => rfl); (case hr => first | (go_simp; done) | (go_simp; rfl)); intro gb180 hg w25 hbox hb; have BK180 := A0_.mk (hbox); have GW180 := A0_.mk ((by rw [hg]; exact (wZ SQ.bw) : w.heap.size ≤ gb180)); have GE180 := A0_.mk ((by rw [hg]; exact (wZ SQ.bw) : w.heap.size ≤ gb180)); have NB171_180 := A0_.mk ((by rw [hg]; exact Nat.ne_of_lt (bL (g := gb171) SQ.kw) : gb171 ≠ gb180)); have NB180_171 := A0_.mk ((by rw [hg]; exact Nat.ne_of_gt (bL (g := gb171) SQ.kw) : gb180 ≠ gb171)); replace HO179 := A0_.mk (Kd.R_below (by (with_reducible repeat (first | apply Kd.R_alloc | apply Kd.R_drewN | apply Kd.R_drew)); exact HO179.out) hb); replace BK171 := A0_.mk (bB (g := gb171) SQ.kw hb); replace HB := A0_.mk (wT SQ.bw hb); clear hb hbox hg; have hnb26 := NB180_171.out; have hnc26 := NB171_180.out; obtain ⟨hcz27_0, hcz27_1, hcz27_2, hcz27_3, hcz27_4, hcz27_5, hfz27_0, hfz27_1, hfz27_2, hfz27_3, hfz27_4, hfz27_5⟩ := SQ.cs6 BK180.out; obtain ⟨Ao28, co28, eo28⟩ := Kd.R_slice HO179.out; subst eo28) | ((with_reducible refine gC (f := 9) rfl ?_); refine gL (some 11) rfl rfl Tryd.func9 (by kernel_rfl) rfl #[.agg #[.int .i64 t172, .string t173, .bool t174, .string t175, .int .i64 t176, .slice Ao28 t177.length co28]] rfl SQ.sm ?_; (with_reducible refine (node_Encode.calls k t172 t173 t174 t175 t176 _ _ t177 t181 false _ ?side1 ?side2 A3.out).mono ?_); (case side1 => refine (Kd.R_reads' (e := 9) (base := w.heap.size) (ok := fun k_ => True) (n := t177.length) (c := co28) ?_).2.2; exact (by (with_reducible repeat (first | apply Kd.R_alloc | apply Kd.R_drewN | apply Kd.R_drew)); exact (Kd.R_mono (Kd.R_far (p := ⟨gb180, 5, none⟩) (Kd.R_far (p := ⟨gb180, 4, none⟩) (Kd.R_far (p := ⟨gb180, 3, none⟩) (Kd.R_far (p := ⟨gb180, 2, none⟩) (Kd.R_far (p := ⟨gb180, 1, none⟩) (Kd.R_far (p := ⟨gb180, 0, none⟩) (Kd.R_types HO179.out BK180.out (by decide)) (fun _ hk => hk.2) (.int .i64 t172)) (fun _ hk => hk.2) (.string t173)) (fun _ hk => hk.2) (.bool t174)) (fun _ hk => hk.2) (.string t175)) (fun _ hk => hk.2) (.int .i64 t176)) (fun _ hk => hk.2) (.slice Ao28 t177.length co28)) (fun _ h_ => h_.1)))); (case side2 => exact (Kd.R_reads' HO179.out).2.1); rintro e w29 ⟨rfl, hb⟩; refine ⟨_, rfl, ?_⟩; replace HO179 := A0_.mk (Kd.R_below (by (with_reducible repeat (first | apply Kd.R_alloc | apply Kd.R_drewN | apply Kd.R_drew)); exact (Kd.R_mono (Kd.R_far (p := ⟨gb180, 5, none⟩) (Kd.R_far (p := ⟨gb180, 4, none⟩) (Kd.R_far (p := ⟨gb180, 3, none⟩) (Kd.R_far (p := ⟨gb180, 2, none⟩) (Kd.R_far (p := ⟨gb180, 1, none⟩) (Kd.R_far (p := ⟨gb180, 0, none⟩) (Kd.R_types HO179.out BK180.out (by decide)) (fun _ hk => hk.2) (.int .i64 t172)) (fun _ hk => hk.2) (.string t173)) (fun _ hk => hk.2) (.bool t174)) (fun _ hk => hk.2) (.string t175)) (fun _ hk => hk.2) (.int .i64 t176)) (fun _ hk => hk.2) (.slice Ao28 t177.length co28)) (fun _ h_ => h_.1))) hb); replace BK171 := A0_.mk (bB (g := gb171) (o := .cells #[.int .i64 0, .string (⟨#[]⟩ : ByteArray), .bool false, .string (⟨#[]⟩ : ByteArray), .int .i64 0, .slice none 0 0] 24 (0, 0)) (by (with_reducible repeat (first | refine bN ?_ _ | refine bD ?_ | refine bA ?_ _)); refine bR ?_ NB171_180.out _; (with_reducible repeat (first | refine bN ?_ _ | refine bD ?_ | refine bA ?_ _)); refine bR ?_ NB171_180.out _; (with_reducible repeat (first | refine bN ?_ _ | refine bD ?_ | refine bA ?_ _)); refine bR ?_ NB171_180.out _; (with_reducible repeat (first | refine bN ?_ _ | refine bD ?_ | refine bA ?_ _)); refine bR ?_ NB171_180.out _; (with_reducible repeat (first | refine bN ?_ _ | refine bD ?_ | refine bA ?_ _)); refine bR ?_ NB171_180.out _; (with_reducible repeat (first | refine bN ?_ _ | refine bD ?_ | refine bA ?_ _)); refine bR ?_ NB171_180.out _; (with_reducible repeat (first | refine bN ?_ _ | refine bD ?_ | refine bA ?_ _)); exact BK171.out) hb); replace BK180 := A0_.mk (bB (g := gb180) (o := .cells #[.int .i64 t172, .string t173, .bool t174, .string t175, .int .i64 t176, .slice Ao28 t177.length co28] 24 (0, 0)) (by (with_reducible repeat (first | refine bN ?_ _ | refine bD ?_ | refine bA ?_ _)); refine bP (cs := #[.int .i64 t172, .string t173, .bool t174, .string t175, .int .i64 t176, .slice none 0 0]) ?_ 5 _ rfl; (with_reducible repeat (first | refine bN ?_ _ | refine bD ?_ | refine bA ?_ _)); refine bP (cs := #[.int .i64 t172, .string t173, .bool t174, .string t175, .int .i64 0, .slice none 0 0]) ?_ 4 _ rfl; (with_reducible repeat (first | refine bN ?_ _ | refine bD ?_ | refine bA ?_ _)); refine bP (cs := #[.int .i64 t172, .string t173, .bool t174, .string (⟨#[]⟩ : ByteArray), .int .i64 0, .slice none 0 0]) ?_ 3 _ rfl; (with_reducible repeat (first | refine bN ?_ _ | refine bD ?_ | refine bA ?_ _)); refine bP (cs := #[.int .i64 t172, .string t173, .bool false, .string (⟨#[]⟩ : ByteArray), .int .i64 0, .slice none 0 0]) ?_ 2 _ rfl; (with_reducible repeat (first | refine bN ?_ _ | refine bD ?_ | refine bA ?_ _)); refine bP (cs := #[.int .i64 t172, .string (⟨#[]⟩ : ByteArray), .bool false, .string (⟨#[]⟩ : ByteArray), .int .i64 0, .slice none 0 0]) ?_ 1 _ rfl; (with_reducible repeat (first | refine bN ?_ _ | refine bD ?_ | refine bA ?_ _)); refine bP (cs := #[.int .i64 0, .string (⟨#[]⟩ : ByteArray), .bool false, .string (⟨#[]⟩ : ByteArray), .int .i64 0, .slice none 0 0]) ?_ 0 _ rfl; (with_reducible repeat (first | refine bN ?_ _ | refine bD ?_ | refine bA ?_ _)); exact BK180.out) hb); replace HB := A0_.mk (wT SQ.bw hb); clear hb; obtain ⟨hcz30_0, hcz30_1, hcz30_2, hcz30_3, hcz30_4, hcz30_5, hfz30_0, hfz30_1, hfz30_2, hfz30_3, hfz30_4, hfz30_5⟩ := SQ.cs6 BK171.out))
  refine bodyPost_ret (results_ct rfl _ _ gb171 24 #[.int .i64 0, .string (⟨#[]⟩ : ByteArray), .bool false, .string (⟨#[]⟩ : ByteArray), .int .i64 0, .slice none 0 0] (0, 0) _ rfl (by (with_reducible repeat (first | refine bN ?_ _ | refine bD ?_ | refine bA ?_ _)); refine bP (cs := #[.int .i64 0, .string (⟨#[]⟩ : ByteArray), .bool false, .string (⟨#[]⟩ : ByteArray), .int .i64 0, .slice none 0 0]) ?_ 5 _ rfl; (with_reducible repeat (first | refine bN ?_ _ | refine bD ?_ | refine bA ?_ _)); refine bP (cs := #[.int .i64 0, .string (⟨#[]⟩ : ByteArray), .bool false, .string (⟨#[]⟩ : ByteArray), .int .i64 0, .slice none 0 0]) ?_ 4 _ rfl; (with_reducible repeat (first | refine bN ?_ _ | refine bD ?_ | refine bA ?_ _)); refine bP (cs := #[.int .i64 0, .string (⟨#[]⟩ : ByteArray), .bool false, .string (⟨#[]⟩ : ByteArray), .int .i64 0, .slice none 0 0]) ?_ 3 _ rfl; (with_reducible repeat (first | refine bN ?_ _ | refine bD ?_ | refine bA ?_ _)); refine bP (cs := #[.int .i64 0, .string (⟨#[]⟩ : ByteArray), .bool false, .string (⟨#[]⟩ : ByteArray), .int .i64 0, .slice none 0 0]) ?_ 2 _ rfl; (with_reducible repeat (first | refine bN ?_ _ | refine bD ?_ | refine bA ?_ _)); refine bP (cs := #[.int .i64 0, .string (⟨#[]⟩ : ByteArray), .bool false, .string (⟨#[]⟩ : ByteArray), .int .i64 0, .slice none 0 0]) ?_ 1 _ rfl; (with_reducible repeat (first | refine bN ?_ _ | refine bD ?_ | refine bA ?_ _)); refine bP (cs := #[.int .i64 0, .string (⟨#[]⟩ : ByteArray), .bool false, .string (⟨#[]⟩ : ByteArray), .int .i64 0, .slice none 0 0]) ?_ 0 _ rfl; (with_reducible repeat (first | refine bN ?_ _ | refine bD ?_ | refine bA ?_ _)); exact BK171.out) Tryd.underlying24 rfl (by kernel_rfl)) rfl ?_
  exact ⟨_, SQ.er, by first | exact Kd.R_nil _ _ _ _ _ | exact Kd.N_nil _ _ _ _ _ | exact Kd.V_nil _ _ _ _ _ | exact Kd.Q_nil _ _ _ _ _ | exact Kd.S_nil _ _ _ _ _, SQ.bw⟩

/-! ### u9Hash: function 19 -/
def u9Hash.l0 : Nat → Int → List Int → Int → Option (ByteArray)
 | 0, _, _, _ => none
 | k + 1, x0, x3, x4 => if x4 < (x3.length : Int) then (if 0 ≤ x4 then (u9Hash.l0 k x0 (x3.set (x4 : Int).toNat x0) (wrap64 (x4 + 1))) else (none)) else (some (strOfNums x3))
def u9Hash.f (k : Nat) (a0 : Int) : Option (ByteArray) := if 32 ≤ 281474976710656 then (u9Hash.l0 k a0 (List.replicate 32 0) 0) else (none)
theorem u9Hash.mono_l : ∀ k, (∀ y0 y1 y2, LeO (u9Hash.l0 k y0 y1 y2) (u9Hash.l0 (k + 1) y0 y1 y2))
 | 0 => fun _ _ _ r h => by simp [u9Hash.l0] at h
 | k + 1 => by
  have ih0 := u9Hash.mono_l k
  ·intro y0 y1 y2
   unfold u9Hash.l0
   repeat' first
   | (with_reducible exact ih0 _ _ _)
   | (with_reducible exact LeO.refl _)
   | (with_reducible exact LeO.none _)
   | (with_reducible refine LeO.ite ?_ ?_)
   | (with_reducible refine LeO.bind ?_ (fun _ => ?_))
   | exact ih0 _ _ _
   | exact LeO.none _
   | refine LeO.ite ?_ ?_
   | refine LeO.bind ?_ (fun _ => ?_)
theorem u9Hash.mono : ∀ a0 k, LeO (u9Hash.f k a0) (u9Hash.f (k + 1) a0) := by
 intro a0 k
 have ih0 := u9Hash.mono_l k
 unfold u9Hash.f
 repeat' first
   | (with_reducible exact ih0 _ _ _)
   | (with_reducible exact LeO.refl _)
   | (with_reducible exact LeO.none _)
   | (with_reducible refine LeO.ite ?_ ?_)
   | (with_reducible refine LeO.bind ?_ (fun _ => ?_))
   | exact ih0 _ _ _
   | exact LeO.none _
   | refine LeO.ite ?_ ?_
   | refine LeO.bind ?_ (fun _ => ?_)
set_option maxHeartbeats 8000000 in
set_option maxRecDepth 100000 in
theorem u9Hash.calls (k : Nat) (a0 : Int) (r : ByteArray) (w : World) (h : u9Hash.f k a0 = some r) :
  Calls Tryd.prog 19 #[.int .u8 a0] w fun e w' => e = .returned (.string r) ∧ Below w.heap.size w w' := by
 have HB := A0_.mk (Below.refl w.heap.size w)
 have H : (if 32 ≤ 281474976710656 then (u9Hash.l0 k a0 (List.replicate 32 0) 0) else (none)) = some r := h
 clear h
 by_cases c2 : 32 ≤ 281474976710656
 rotate_left
 ·rw [if_neg c2] at H
  exact absurd H (by simp)
 rw [if_pos c2] at H
 have c2b0 := eq_true c2
 have c2b1 : decide (32 ≤ 281474976710656) = true := decide_eq_true c2
 clear c2
 obtain ⟨y183, hy183⟩ : ∃ y_ : List Int, y_ = (List.replicate 32 0) := ⟨_, rfl⟩
 replace H : (u9Hash.l0 k a0 y183 0) = some r := by first | (rw [hy183]; with_reducible exact H) | (have H2_ := (Option.bind_some _ _).symm.trans H; rw [hy183]; with_reducible exact H2_) | (have H2_ := (Option.bind_some _ _).symm.trans H; with_reducible exact H2_) | with_reducible exact H | (rw [hy183]; exact H) | exact H
 have Ny183 := A0_.mk hy183
 clear hy183
 have H' := A0_.mk H
 clear H
 go_enter Tryd.func19, Tryd.ntmps19
 go_wp2_with (first | ((with_reducible refine gD (N := 5) rfl ?_); refine Kd.R_make (Kd.int .u8) _ 5 rfl (N := 5) rfl 42 _ _ rfl 32 rfl rfl Tryd.underlying42 (.int .u8 0) 1 info5 rfl (by decide) (by omega) 0 (ok := fun _ => True) (okp := fun _ => True) rfl (fun _ hk => hk) trivial (by omega) (by omega) (Below.refl _ _) (Nat.le_refl _) ?_; intro v184 w3 ho4 hb hg_ hnew_; clear hg_ hnew_; (first | rw [← Ny183.out] at ho4 | (simp only [Int.reduceToNat] at ho4; rw [← Ny183.out] at ho4)); have HO185 := A0_.mk (Kd.R_lower ho4 (wZ SQ.bw)); replace HB := A0_.mk (wT SQ.bw hb); clear hb ho4))
 go_loopg [4] k (fun kq v4 w' => ∃ (x3_1 : List Int) (x4_1 : Int), v4 = .int .i64 x4_1 ∧ A0_ (u9Hash.l0 kq a0 x3_1 x4_1 = some r) ∧ A0_ (kq ≤ k) ∧ A0_ (Kd.R (Kd.int .u8) 5 w' w.heap.size (fun _ => True) v184 x3_1) ∧ A0_ (Below w.heap.size w w'))
 case atStart => exact ⟨(y183), (0), (by first | rfl | (simp; done) | (simp [*]; done)), H', ⟨Nat.le_refl _⟩, ⟨by (with_reducible repeat (first | apply Kd.R_alloc | apply Kd.R_drewN | apply Kd.R_drew)); exact HO185.out⟩, ⟨SQ.bw⟩⟩
 case round =>
  clear H'
  try clear c1
  try clear c2
  try clear c2b0
  try clear c2b1
  try clear p2
  obtain ⟨x3_1, x4_1, rfl, HA, HK1, HO_3, HB⟩ := hrel
  cases gk with
  | zero => exact absurd HA.out (by simp [u9Hash.l0])
  | succ k1 =>
   have H := HA.out
   clear HA
   simp only [u9Hash.l0] at H
   by_cases c5 : x4_1 < (x3_1.length : Int)
   ·rw [if_pos c5] at H
    have c5b0 : decide (x4_1 < (x3_1.length : Int)) = true := decide_eq_true c5
    clear c5
    by_cases c6 : 0 ≤ x4_1
    rotate_left
    ·rw [if_neg c6] at H
     exact absurd H (by simp)
    rw [if_pos c6] at H
    have c6b0 : decide (0 ≤ x4_1) = true := decide_eq_true c6
    clear c6
    obtain ⟨y186, hy186⟩ : ∃ y_ : List Int, y_ = (x3_1.set (x4_1 : Int).toNat a0) := ⟨_, rfl⟩
    replace H : (u9Hash.l0 k1 a0 y186 (wrap64 (x4_1 + 1))) = some r := by first | (rw [hy186]; with_reducible exact H) | (have H2_ := (Option.bind_some _ _).symm.trans H; rw [hy186]; with_reducible exact H2_) | (have H2_ := (Option.bind_some _ _).symm.trans H; with_reducible exact H2_) | with_reducible exact H | (rw [hy186]; exact H) | exact H
    have Ny186 := A0_.mk hy186
    clear hy186
    have H' := A0_.mk H
    clear H
    obtain ⟨Ao8, co8, eo8⟩ := Kd.R_slice HO_3.out
    subst eo8
    have p7 : 0 ≤ (x4_1 : Int) := SQ.da
    have q7 : (x4_1 : Int) < ((x3_1.length : Int) : Int) := SQ.da
    obtain ⟨go7, co7, eo7, gb7, gl7, cl7, HG7⟩ := Kd.R_form HO_3.out (by omega)
    (first | cases eo7 | (injection eo7 with ea_ en_ ec_; (first | subst ea_ | (injection ea_ with ea_; subst ea_)); subst ec_; clear en_))
    have GB7 := A0_.mk gb7
    have GG7 := A0_.mk HG7
    clear gb7 gl7 HG7
    obtain ⟨hx7_0, hf7_0⟩ := Kd.R_celln 0 HO_3.out (x4_1 : Int) p7 q7
    replace p7 := eq_true p7
    replace q7 := eq_true q7
    have HP9 := Kd.R_putg HO_3.out (x4_1 : Int) a0
    go_wp2_with (first | ((with_reducible refine gS (t := 5) (p := 15) rfl ?_); refine sE (t := 5) (p := 15) (v := ?vo_w10) (w1 := (wr.setCell ⟨go7, (x4_1 : Int).toNat, none⟩ (.int .u8 a0))) ?hg ?ho ?hn ?hr ?_; (case ho => rfl); (case hg => rfl); (case hn => rfl); (case hr => first | (go_simp; done) | (go_simp; rfl)); intro w10 hw; have hg : wr.grownBy w10 (some go7) := (by rw [hw]; exact HP9.2); have hp_ : Kd.R (Kd.int .u8) 5 w10 w.heap.size (fun _ => True) (.slice (some ⟨go7, 0, none⟩) x3_1.length co8) y186 := (by rw [hw, Ny186.out]; exact HP9.1); clear HP9; replace HO_3 := A0_.mk (hp_); replace HB := A0_.mk ((by rw [hw]; exact wS (HB.out) GB7.out : Below w.heap.size w w10)); clear hg hw hp_))
    go_roundg k1
    case measure => have := HK1.out; omega
    case rel => exact ⟨(y186), (wrap64 (x4_1 + 1)), (by first | rfl | (simp; done) | (simp [*]; done)), H', ⟨by have := HK1.out; omega⟩, ⟨by (with_reducible repeat (first | apply Kd.R_alloc | apply Kd.R_drewN | apply Kd.R_drew)); exact HO_3.out⟩, ⟨SQ.bw⟩⟩
   ·rw [if_neg c5] at H
    have c5b0 : decide (x4_1 < (x3_1.length : Int)) = false := decide_eq_false c5
    clear c5
    obtain rfl := Option.some.inj H
    obtain ⟨Ao11, co11, eo11⟩ := Kd.R_slice HO_3.out
    subst eo11
    have hcv12 := own_string (P := Tryd.prog) Tryd.underlying42 Tryd.underlying5 Tryd.underlying9 (Kd.own_of_R HO_3.out)
    go_wp2
    go_ret
    exact ⟨SQ.er, SQ.bw⟩

/-! ### u9wakes: function 8 -/
def u9wakes.f (k : Nat)  : Option (Bool) := (node_Encode.f k 1 (⟨#[1, 2, 3]⟩ : ByteArray) true (⟨#[118]⟩ : ByteArray) 0 ([] : List ByteArray)).bind fun bt187 => ((u9Hash.f k 1).bind fun t189 => ((u9Hash.f k 2).bind fun t190 => ((node_Encode.f k 3 (⟨#[]⟩ : ByteArray) false (⟨#[]⟩ : ByteArray) 32769 (([t189, t190] : List ByteArray))).bind fun bt194 => ((node_Decode.f k bt194.1).bind fun bt196 => ((u9Hash.f k 1).bind fun t206 => ((node_Encode.f k 3 (⟨#[]⟩ : ByteArray) false (⟨#[]⟩ : ByteArray) 1 (([t206] : List ByteArray))).bind fun bt210 => ((node_Hash.f k 1 (⟨#[]⟩ : ByteArray) true (⟨#[]⟩ : ByteArray) 0 ([] : List ByteArray)).bind fun bt212 => ((node_Decode.f k (⟨#[1, 0, 0, 122]⟩ : ByteArray)).bind fun bt214 => (if bt187.2 = true then (if bt187.1.toList = ([1, 3, 18, 48, 1, 118] : List UInt8) then (if bt194.2 = true then (if (bt194.1.size : Int) = 68 then (if 0 ≤ 4 then (if 4 ≤ (bt194.1.size : Int) then (if (bt194.1.extract 0 4).toList = ([3, 128, 1, 0] : List UInt8) then (if bt196.2.2.2.2.2.2 = true then (if bt196.2.2.2.2.1 = 32769 then (if (bt196.2.2.2.2.2.1.length : Int) = 2 then (if bt210.2 = true then (none) else (if bt212.2 = true then ((digest_Of.f (⟨#[1, 0, 0]⟩ : ByteArray)).bind fun t224 => (if bt212.1.toList = t224.toList then (some (!bt214.2.2.2.2.2.2)) else (none))) else (none))) else (none)) else (none)) else (none)) else (none)) else (none)) else (none)) else (none)) else (none)) else (none)) else (none))))))))))
set_option maxHeartbeats 8000000 in
set_option maxRecDepth 100000 in
theorem u9wakes.calls (k : Nat)  (r : Bool) (w : World) (hG : Glob w) (h : u9wakes.f k  = some r) :
  Calls Tryd.prog 8 #[] w fun e w' => e = .returned (.bool r) ∧ Below w.heap.size w w' := by
 have hu24 := Tryd.underlying24
 have HG := A0_.mk hG
 clear hG
 have HB := A0_.mk (Below.refl w.heap.size w)
 have H : ((node_Encode.f k 1 (⟨#[1, 2, 3]⟩ : ByteArray) true (⟨#[118]⟩ : ByteArray) 0 ([] : List ByteArray)).bind fun bt187 => ((u9Hash.f k 1).bind fun t189 => ((u9Hash.f k 2).bind fun t190 => ((node_Encode.f k 3 (⟨#[]⟩ : ByteArray) false (⟨#[]⟩ : ByteArray) 32769 (([t189, t190] : List ByteArray))).bind fun bt194 => ((node_Decode.f k bt194.1).bind fun bt196 => ((u9Hash.f k 1).bind fun t206 => ((node_Encode.f k 3 (⟨#[]⟩ : ByteArray) false (⟨#[]⟩ : ByteArray) 1 (([t206] : List ByteArray))).bind fun bt210 => ((node_Hash.f k 1 (⟨#[]⟩ : ByteArray) true (⟨#[]⟩ : ByteArray) 0 ([] : List ByteArray)).bind fun bt212 => ((node_Decode.f k (⟨#[1, 0, 0, 122]⟩ : ByteArray)).bind fun bt214 => (if bt187.2 = true then (if bt187.1.toList = ([1, 3, 18, 48, 1, 118] : List UInt8) then (if bt194.2 = true then (if (bt194.1.size : Int) = 68 then (if 0 ≤ 4 then (if 4 ≤ (bt194.1.size : Int) then (if (bt194.1.extract 0 4).toList = ([3, 128, 1, 0] : List UInt8) then (if bt196.2.2.2.2.2.2 = true then (if bt196.2.2.2.2.1 = 32769 then (if (bt196.2.2.2.2.2.1.length : Int) = 2 then (if bt210.2 = true then (none) else (if bt212.2 = true then ((digest_Of.f (⟨#[1, 0, 0]⟩ : ByteArray)).bind fun t224 => (if bt212.1.toList = t224.toList then (some (!bt214.2.2.2.2.2.2)) else (none))) else (none))) else (none)) else (none)) else (none)) else (none)) else (none)) else (none)) else (none)) else (none)) else (none)) else (none))))))))))) = some r := h
 clear h
 replace H := Option.bind_eq_some_iff.mp H
 obtain ⟨⟨t187, t188⟩, A10, H⟩ := H
 try dsimp only at H
 have A1 := A0_.mk A10
 clear A10
 replace H := Option.bind_eq_some_iff.mp H
 obtain ⟨t189, A20, H⟩ := H
 try dsimp only at H
 have A2 := A0_.mk A20
 clear A20
 replace H := Option.bind_eq_some_iff.mp H
 obtain ⟨t190, A30, H⟩ := H
 try dsimp only at H
 have A3 := A0_.mk A30
 clear A30
 obtain ⟨y191, hy191⟩ : ∃ y_ : List ByteArray, y_ = (([t189, t190] : List ByteArray)) := ⟨_, rfl⟩
 replace H : ((node_Encode.f k 3 (⟨#[]⟩ : ByteArray) false (⟨#[]⟩ : ByteArray) 32769 y191).bind fun bt194 => ((node_Decode.f k bt194.1).bind fun bt196 => ((u9Hash.f k 1).bind fun t206 => ((node_Encode.f k 3 (⟨#[]⟩ : ByteArray) false (⟨#[]⟩ : ByteArray) 1 (([t206] : List ByteArray))).bind fun bt210 => ((node_Hash.f k 1 (⟨#[]⟩ : ByteArray) true (⟨#[]⟩ : ByteArray) 0 ([] : List ByteArray)).bind fun bt212 => ((node_Decode.f k (⟨#[1, 0, 0, 122]⟩ : ByteArray)).bind fun bt214 => (if t188 = true then (if t187.toList = ([1, 3, 18, 48, 1, 118] : List UInt8) then (if bt194.2 = true then (if (bt194.1.size : Int) = 68 then (if 0 ≤ 4 then (if 4 ≤ (bt194.1.size : Int) then (if (bt194.1.extract 0 4).toList = ([3, 128, 1, 0] : List UInt8) then (if bt196.2.2.2.2.2.2 = true then (if bt196.2.2.2.2.1 = 32769 then (if (bt196.2.2.2.2.2.1.length : Int) = 2 then (if bt210.2 = true then (none) else (if bt212.2 = true then ((digest_Of.f (⟨#[1, 0, 0]⟩ : ByteArray)).bind fun t224 => (if bt212.1.toList = t224.toList then (some (!bt214.2.2.2.2.2.2)) else (none))) else (none))) else (none)) else (none)) else (none)) else (none)) else (none)) else (none)) else (none)) else (none)) else (none)) else (none)))))))) = some r := by first | (rw [hy191]; with_reducible exact H) | (have H2_ := (Option.bind_some _ _).symm.trans H; rw [hy191]; with_reducible exact H2_) | (have H2_ := (Option.bind_some _ _).symm.trans H; with_reducible exact H2_) | with_reducible exact H | (rw [hy191]; exact H) | exact H
 have Ny191 := A0_.mk hy191
 clear hy191
 replace H := Option.bind_eq_some_iff.mp H
 obtain ⟨⟨t194, t195⟩, A40, H⟩ := H
 try dsimp only at H
 have A4 := A0_.mk A40
 clear A40
 replace H := Option.bind_eq_some_iff.mp H
 obtain ⟨⟨t196, t197, t198, t199, t200, t201, t204⟩, A50, H⟩ := H
 try dsimp only at H
 have A5 := A0_.mk A50
 clear A50
 replace H := Option.bind_eq_some_iff.mp H
 obtain ⟨t206, A60, H⟩ := H
 try dsimp only at H
 have A6 := A0_.mk A60
 clear A60
 obtain ⟨y207, hy207⟩ : ∃ y_ : List ByteArray, y_ = (([t206] : List ByteArray)) := ⟨_, rfl⟩
 replace H : ((node_Encode.f k 3 (⟨#[]⟩ : ByteArray) false (⟨#[]⟩ : ByteArray) 1 y207).bind fun bt210 => ((node_Hash.f k 1 (⟨#[]⟩ : ByteArray) true (⟨#[]⟩ : ByteArray) 0 ([] : List ByteArray)).bind fun bt212 => ((node_Decode.f k (⟨#[1, 0, 0, 122]⟩ : ByteArray)).bind fun bt214 => (if t188 = true then (if t187.toList = ([1, 3, 18, 48, 1, 118] : List UInt8) then (if t195 = true then (if (t194.size : Int) = 68 then (if 0 ≤ 4 then (if 4 ≤ (t194.size : Int) then (if (t194.extract 0 4).toList = ([3, 128, 1, 0] : List UInt8) then (if t204 = true then (if t200 = 32769 then (if (t201.length : Int) = 2 then (if bt210.2 = true then (none) else (if bt212.2 = true then ((digest_Of.f (⟨#[1, 0, 0]⟩ : ByteArray)).bind fun t224 => (if bt212.1.toList = t224.toList then (some (!bt214.2.2.2.2.2.2)) else (none))) else (none))) else (none)) else (none)) else (none)) else (none)) else (none)) else (none)) else (none)) else (none)) else (none)) else (none))))) = some r := by first | (rw [hy207]; with_reducible exact H) | (have H2_ := (Option.bind_some _ _).symm.trans H; rw [hy207]; with_reducible exact H2_) | (have H2_ := (Option.bind_some _ _).symm.trans H; with_reducible exact H2_) | with_reducible exact H | (rw [hy207]; exact H) | exact H
 have Ny207 := A0_.mk hy207
 clear hy207
 replace H := Option.bind_eq_some_iff.mp H
 obtain ⟨⟨t210, t211⟩, A70, H⟩ := H
 try dsimp only at H
 have A7 := A0_.mk A70
 clear A70
 replace H := Option.bind_eq_some_iff.mp H
 obtain ⟨⟨t212, t213⟩, A80, H⟩ := H
 try dsimp only at H
 have A8 := A0_.mk A80
 clear A80
 replace H := Option.bind_eq_some_iff.mp H
 obtain ⟨⟨t214, t215, t216, t217, t218, t219, t222⟩, A90, H⟩ := H
 try dsimp only at H
 have A9 := A0_.mk A90
 clear A90
 by_cases c10 : t188 = true
 rotate_left
 ·replace c10 := Bool.eq_false_iff.mpr c10
  subst c10
  have H1 : (none) = some r := by rw [if_neg (show ¬ (false = true) by decide)] at H; exact H
  exact absurd H1 (by simp)
 subst c10
 rw [if_pos rfl] at H
 by_cases c11 : t187.toList = ([1, 3, 18, 48, 1, 118] : List UInt8)
 rotate_left
 ·rw [if_neg c11] at H
  exact absurd H (by simp)
 rw [if_pos c11] at H
 have c11b0 : (t187.toList == ([1, 3, 18, 48, 1, 118] : List UInt8)) = true := beq_iff_eq.mpr c11
 have c11b1 : (t187.toList != ([1, 3, 18, 48, 1, 118] : List UInt8)) = false := bne_eq_false_iff_eq.mpr c11
 clear c11
 by_cases c12 : t195 = true
 rotate_left
 ·replace c12 := Bool.eq_false_iff.mpr c12
  subst c12
  have H1 : (none) = some r := by rw [if_neg (show ¬ (false = true) by decide)] at H; exact H
  exact absurd H1 (by simp)
 subst c12
 rw [if_pos rfl] at H
 by_cases c13 : (t194.size : Int) = 68
 rotate_left
 ·rw [if_neg c13] at H
  exact absurd H (by simp)
 rw [if_pos c13] at H
 have c13b0 : ((t194.size : Int) == 68) = true := beq_iff_eq.mpr c13
 have c13b1 : ((t194.size : Int) != 68) = false := bne_eq_false_iff_eq.mpr c13
 clear c13
 by_cases c14 : 0 ≤ 4
 rotate_left
 ·rw [if_neg c14] at H
  exact absurd H (by simp)
 rw [if_pos c14] at H
 have c14b0 := eq_true c14
 have c14b1 : decide (0 ≤ 4) = true := decide_eq_true c14
 clear c14
 by_cases c15 : 4 ≤ (t194.size : Int)
 rotate_left
 ·rw [if_neg c15] at H
  exact absurd H (by simp)
 rw [if_pos c15] at H
 have c15b0 := eq_true c15
 have c15b1 : decide (4 ≤ (t194.size : Int)) = true := decide_eq_true c15
 clear c15
 by_cases c16 : (t194.extract 0 4).toList = ([3, 128, 1, 0] : List UInt8)
 rotate_left
 ·rw [if_neg c16] at H
  exact absurd H (by simp)
 rw [if_pos c16] at H
 have c16b0 : ((t194.extract 0 4).toList == ([3, 128, 1, 0] : List UInt8)) = true := beq_iff_eq.mpr c16
 have c16b1 : ((t194.extract 0 4).toList != ([3, 128, 1, 0] : List UInt8)) = false := bne_eq_false_iff_eq.mpr c16
 clear c16
 by_cases c17 : t204 = true
 rotate_left
 ·replace c17 := Bool.eq_false_iff.mpr c17
  subst c17
  have H1 : (none) = some r := by rw [if_neg (show ¬ (false = true) by decide)] at H; exact H
  exact absurd H1 (by simp)
 subst c17
 rw [if_pos rfl] at H
 by_cases c18 : t200 = 32769
 rotate_left
 ·rw [if_neg c18] at H
  exact absurd H (by simp)
 rw [if_pos c18] at H
 have c18b0 : (t200 == 32769) = true := beq_iff_eq.mpr c18
 have c18b1 : (t200 != 32769) = false := bne_eq_false_iff_eq.mpr c18
 clear c18
 by_cases c19 : (t201.length : Int) = 2
 rotate_left
 ·rw [if_neg c19] at H
  exact absurd H (by simp)
 rw [if_pos c19] at H
 have c19b0 : ((t201.length : Int) == 2) = true := beq_iff_eq.mpr c19
 have c19b1 : ((t201.length : Int) != 2) = false := bne_eq_false_iff_eq.mpr c19
 clear c19
 by_cases c20 : t211 = true
 ·subst c20
  have H1 : (none) = some r := by rw [if_pos rfl] at H; exact H
  exact absurd H1 (by simp)
 ·replace c20 := Bool.eq_false_iff.mpr c20
  subst c20
  rw [if_neg (show ¬ (false = true) by decide)] at H
  by_cases c44 : t213 = true
  rotate_left
  ·replace c44 := Bool.eq_false_iff.mpr c44
   subst c44
   have H1 : (none) = some r := by rw [if_neg (show ¬ (false = true) by decide)] at H; exact H
   exact absurd H1 (by simp)
  subst c44
  rw [if_pos rfl] at H
  replace H := Option.bind_eq_some_iff.mp H
  obtain ⟨t224, A450, H⟩ := H
  try dsimp only at H
  have A45 := A0_.mk A450
  clear A450
  by_cases c46 : t212.toList = t224.toList
  rotate_left
  ·rw [if_neg c46] at H
   exact absurd H (by simp)
  rw [if_pos c46] at H
  have c46b0 : (t212.toList == t224.toList) = true := beq_iff_eq.mpr c46
  have c46b1 : (t212.toList != t224.toList) = false := bne_eq_false_iff_eq.mpr c46
  clear c46
  obtain rfl := Option.some.inj H
  go_enter Tryd.func8, Tryd.ntmps8
  go_wp2_with (first | ((with_reducible refine gC (f := 9) rfl ?_); refine gL (some 15) rfl rfl Tryd.func9 (by kernel_rfl) rfl #[.agg #[.int .i64 1, .string (⟨#[1, 2, 3]⟩ : ByteArray), .bool true, .string (⟨#[118]⟩ : ByteArray), .int .i64 0, .slice none 0 0]] rfl SQ.sm ?_; (refine (node_Encode.calls k 1 (⟨#[1, 2, 3]⟩ : ByteArray) true (⟨#[118]⟩ : ByteArray) 0 _ _ ([] : List ByteArray) t187 true _ ?side1 ?side2 A1.out).mono ?_); (case side1 => exact Kd.C_nil _ _); (case side2 => exact Nat.le_refl _); rintro e w47 ⟨rfl, hb⟩; refine ⟨_, rfl, ?_⟩; replace HB := A0_.mk (wT SQ.bw hb); clear hb) | ((with_reducible refine gC (f := 19) rfl ?_); refine gL (some 19) rfl rfl Tryd.func19 (by kernel_rfl) rfl #[.int .u8 1] rfl SQ.sm ?_; (with_reducible refine (u9Hash.calls k 1 t189 _ A2.out).mono ?_); rintro e w48 ⟨rfl, hb⟩; refine ⟨_, rfl, ?_⟩; replace HB := A0_.mk (wT SQ.bw hb); clear hb) | ((with_reducible refine gC (f := 19) rfl ?_); refine gL (some 20) rfl rfl Tryd.func19 (by kernel_rfl) rfl #[.int .u8 2] rfl SQ.sm ?_; (with_reducible refine (u9Hash.calls k 2 t190 _ A3.out).mono ?_); rintro e w49 ⟨rfl, hb⟩; refine ⟨_, rfl, ?_⟩; replace HB := A0_.mk (wT SQ.bw hb); clear hb) | ((with_reducible refine gD (N := 21) rfl ?_); (try (refine gG (by rfl) ?_; dsimp only)); refine Kd.R_lit Kd.string _ 9 ?hg (N := 21) ?hd (xs := ([t189, t190] : List ByteArray)) (inner := [.string t189, .string t190]) (ok := fun _ => True) (okp := fun _ => True) ?hr ?hp (fun _ hk => hk) trivial (Below.refl _ _) (Nat.le_refl _) (by simp) ?_; (case hd => rfl); (case hg => rfl); (case hr => first | (go_simp; done) | (go_simp; rfl)); (case hp => exact (Reps.one (show Kd.M Kd.string _ _ _ t189 [.string t189] from rfl) (Reps.one (show Kd.M Kd.string _ _ _ t190 [.string t190] from rfl) (Reps.none _ _)))); intro v192 w50 ho51 hb hg_ hnew_; clear hg_ hnew_; (first | rw [← Ny191.out] at ho51 | (simp only [Int.reduceToNat] at ho51; rw [← Ny191.out] at ho51)); have HO193 := A0_.mk (Kd.R_lower ho51 (wZ SQ.bw)); replace HB := A0_.mk (wT SQ.bw hb); clear hb ho51; obtain ⟨Ao52, co52, eo52⟩ := Kd.R_slice HO193.out; subst eo52) | ((with_reducible refine gC (f := 9) rfl ?_); refine gL (some 23) rfl rfl Tryd.func9 (by kernel_rfl) rfl #[.agg #[.int .i64 3, .string (⟨#[]⟩ : ByteArray), .bool false, .string (⟨#[]⟩ : ByteArray), .int .i64 32769, .slice Ao52 y191.length co52]] rfl SQ.sm ?_; (with_reducible refine (node_Encode.calls k 3 (⟨#[]⟩ : ByteArray) false (⟨#[]⟩ : ByteArray) 32769 _ _ y191 t194 true _ ?side1 ?side2 A4.out).mono ?_); (case side1 => repeat (first | exact (Kd.R_reads' HO193.out).2.2 | (with_reducible refine Kd.C_alloc ?_ _) | (with_reducible refine Kd.C_drewN ?_ _) | (with_reducible refine Kd.C_drew ?_))); (case side2 => exact (Kd.R_reads' HO193.out).2.1); rintro e w53 ⟨rfl, hb⟩; refine ⟨_, rfl, ?_⟩; replace HO193 := A0_.mk (Kd.R_below (by (with_reducible repeat (first | apply Kd.R_alloc | apply Kd.R_drewN | apply Kd.R_drew)); exact HO193.out) hb); replace HB := A0_.mk (wT SQ.bw hb); clear hb) | ((with_reducible refine gC (f := 11) rfl ?_); refine gL (some 28) rfl rfl Tryd.func11 (by kernel_rfl) rfl #[.string t194] rfl SQ.sm ?_; (with_reducible refine (node_Decode.calls k t194 t196 t197 t198 t199 t200 t201 true _ A5.out).mono ?_); rintro e w54 ⟨v202, rfl, ho0, hb⟩; refine ⟨_, rfl, ?_⟩; have HO203 := A0_.mk (Kd.R_lower (Kd.R_new' ho0 (Kd.R_lt (by (with_reducible repeat (first | apply Kd.R_alloc | apply Kd.R_drewN | apply Kd.R_drew)); exact HO193.out))) (wZ SQ.bw)); replace HO193 := A0_.mk (Kd.R_elder' (by (with_reducible repeat (first | apply Kd.R_alloc | apply Kd.R_drewN | apply Kd.R_drew)); exact HO193.out) (Kd.R_base ho0) hb); replace HB := A0_.mk (wT SQ.bw hb); (try clear hb); (try clear hb2); (try clear hk); (try clear hi); (try clear ho0)) | ((with_reducible refine gD (N := 5) rfl ?_); (try (refine gG (by rfl) ?_; dsimp only)); refine xE ?hg (N := 5) ?hd (cs := #[.int .i64 0, .string (⟨#[]⟩ : ByteArray), .bool false, .string (⟨#[]⟩ : ByteArray), .int .i64 0, .slice none 0 0]) (t := 24) ?hr ?_; (case hd => rfl); (case hg => rfl); (case hr => first | (go_simp; done) | (go_simp; rfl)); intro gb205 hg w55 hbox hb; have BK205 := A0_.mk (hbox); have GW205 := A0_.mk ((by rw [hg]; exact (wZ SQ.bw) : w.heap.size ≤ gb205)); have GE205 := A0_.mk ((by rw [hg]; exact (wZ SQ.bw) : w.heap.size ≤ gb205)); replace HO193 := A0_.mk (Kd.R_below (by (with_reducible repeat (first | apply Kd.R_alloc | apply Kd.R_drewN | apply Kd.R_drew)); exact HO193.out) hb); replace HO203 := A0_.mk (Kd.R_below (by (with_reducible repeat (first | apply Kd.R_alloc | apply Kd.R_drewN | apply Kd.R_drew)); exact HO203.out) hb); replace HB := A0_.mk (wT SQ.bw hb); clear hb hbox hg; obtain ⟨hcz56_0, hcz56_1, hcz56_2, hcz56_3, hcz56_4, hcz56_5, hfz56_0, hfz56_1, hfz56_2, hfz56_3, hfz56_4, hfz56_5⟩ := SQ.cs6 BK205.out; obtain ⟨Ao57, co57, eo57⟩ := Kd.R_slice HO203.out; subst eo57) | ((with_reducible refine gC (f := 19) rfl ?_); refine gL (some 32) rfl rfl Tryd.func19 (by kernel_rfl) rfl #[.int .u8 1] rfl SQ.sm ?_; (with_reducible refine (u9Hash.calls k 1 t206 _ A6.out).mono ?_); rintro e w58 ⟨rfl, hb⟩; refine ⟨_, rfl, ?_⟩; replace HO193 := A0_.mk (Kd.R_below (by (with_reducible repeat (first | apply Kd.R_alloc | apply Kd.R_drewN | apply Kd.R_drew)); exact (Kd.R_mono (Kd.R_far (p := ⟨gb205, 5, none⟩) (Kd.R_far (p := ⟨gb205, 4, none⟩) (Kd.R_far (p := ⟨gb205, 3, none⟩) (Kd.R_far (p := ⟨gb205, 2, none⟩) (Kd.R_far (p := ⟨gb205, 1, none⟩) (Kd.R_far (p := ⟨gb205, 0, none⟩) (Kd.R_types HO193.out BK205.out (by decide)) (fun _ hk => hk.2) (.int .i64 t196)) (fun _ hk => hk.2) (.string t197)) (fun _ hk => hk.2) (.bool t198)) (fun _ hk => hk.2) (.string t199)) (fun _ hk => hk.2) (.int .i64 t200)) (fun _ hk => hk.2) (.slice Ao57 t201.length co57)) (fun _ h_ => h_.1))) hb); replace HO203 := A0_.mk (Kd.R_below (by (with_reducible repeat (first | apply Kd.R_alloc | apply Kd.R_drewN | apply Kd.R_drew)); exact (Kd.R_mono (Kd.R_far (p := ⟨gb205, 5, none⟩) (Kd.R_far (p := ⟨gb205, 4, none⟩) (Kd.R_far (p := ⟨gb205, 3, none⟩) (Kd.R_far (p := ⟨gb205, 2, none⟩) (Kd.R_far (p := ⟨gb205, 1, none⟩) (Kd.R_far (p := ⟨gb205, 0, none⟩) (Kd.R_types HO203.out BK205.out (by decide)) (fun _ hk => hk.2) (.int .i64 t196)) (fun _ hk => hk.2) (.string t197)) (fun _ hk => hk.2) (.bool t198)) (fun _ hk => hk.2) (.string t199)) (fun _ hk => hk.2) (.int .i64 t200)) (fun _ hk => hk.2) (.slice Ao57 t201.length co57)) (fun _ h_ => h_.1))) hb); replace BK205 := A0_.mk (bB (g := gb205) (o := .cells #[.int .i64 t196, .string t197, .bool t198, .string t199, .int .i64 t200, .slice Ao57 t201.length co57] 24 (0, 0)) (by (with_reducible repeat (first | refine bN ?_ _ | refine bD ?_ | refine bA ?_ _)); refine bP (cs := #[.int .i64 t196, .string t197, .bool t198, .string t199, .int .i64 t200, .slice none 0 0]) ?_ 5 _ rfl; (with_reducible repeat (first | refine bN ?_ _ | refine bD ?_ | refine bA ?_ _)); refine bP (cs := #[.int .i64 t196, .string t197, .bool t198, .string t199, .int .i64 0, .slice none 0 0]) ?_ 4 _ rfl; (with_reducible repeat (first | refine bN ?_ _ | refine bD ?_ | refine bA ?_ _)); refine bP (cs := #[.int .i64 t196, .string t197, .bool t198, .string (⟨#[]⟩ : ByteArray), .int .i64 0, .slice none 0 0]) ?_ 3 _ rfl; (with_reducible repeat (first | refine bN ?_ _ | refine bD ?_ | refine bA ?_ _)); refine bP (cs := #[.int .i64 t196, .string t197, .bool false, .string (⟨#[]⟩ : ByteArray), .int .i64 0, .slice none 0 0]) ?_ 2 _ rfl; (with_reducible repeat (first | refine bN ?_ _ | refine bD ?_ | refine bA ?_ _)); refine bP (cs := #[.int .i64 t196, .string (⟨#[]⟩ : ByteArray), .bool false, .string (⟨#[]⟩ : ByteArray), .int .i64 0, .slice none 0 0]) ?_ 1 _ rfl; (with_reducible repeat (first | refine bN ?_ _ | refine bD ?_ | refine bA ?_ _)); refine bP (cs := #[.int .i64 0, .string (⟨#[]⟩ : ByteArray), .bool false, .string (⟨#[]⟩ : ByteArray), .int .i64 0, .slice none 0 0]) ?_ 0 _ rfl; (with_reducible repeat (first | refine bN ?_ _ | refine bD ?_ | refine bA ?_ _)); exact BK205.out) hb); replace HB := A0_.mk (wT SQ.bw hb); clear hb) | ((with_reducible refine gD (N := 33) rfl ?_); (try (refine gG (by rfl) ?_; dsimp only)); refine Kd.R_lit Kd.string _ 9 ?hg (N := 33) ?hd (xs := ([t206] : List ByteArray)) (inner := [.string t206]) (ok := fun _ => True) (okp := fun _ => True) ?hr ?hp (fun _ hk => hk) trivial (Below.refl _ _) (Nat.le_refl _) (by simp) ?_; (case hd => rfl); (case hg => rfl); (case hr => first | (go_simp; done) | (go_simp; rfl)); (case hp => exact (Reps.one (show Kd.M Kd.string _ _ _ t206 [.string t206] from rfl) (Reps.none _ _))); intro v208 w59 ho60 hb hg_ hnew_; clear hg_ hnew_; (first | rw [← Ny207.out] at ho60 | (simp only [Int.reduceToNat] at ho60; rw [← Ny207.out] at ho60)); have HO209 := A0_.mk (Kd.R_lower (Kd.R_new' (Kd.R_new' ho60 (Kd.R_lt (by (with_reducible repeat (first | apply Kd.R_alloc | apply Kd.R_drewN | apply Kd.R_drew)); exact HO193.out))) (Kd.R_lt (by (with_reducible repeat (first | apply Kd.R_alloc | apply Kd.R_drewN | apply Kd.R_drew)); exact HO203.out))) (wZ SQ.bw)); replace HO193 := A0_.mk (Kd.R_elder' (by (with_reducible repeat (first | apply Kd.R_alloc | apply Kd.R_drewN | apply Kd.R_drew)); exact HO193.out) (Kd.R_base ho60) hb); replace HO203 := A0_.mk (Kd.R_elder' (by (with_reducible repeat (first | apply Kd.R_alloc | apply Kd.R_drewN | apply Kd.R_drew)); exact HO203.out) (Kd.R_base ho60) hb); replace BK205 := A0_.mk (bB (g := gb205) SQ.kw hb); replace HB := A0_.mk (wT SQ.bw hb); clear hb ho60; obtain ⟨Ao61, co61, eo61⟩ := Kd.R_slice HO209.out; subst eo61) | ((with_reducible refine gC (f := 9) rfl ?_); refine gL (some 35) rfl rfl Tryd.func9 (by kernel_rfl) rfl #[.agg #[.int .i64 3, .string (⟨#[]⟩ : ByteArray), .bool false, .string (⟨#[]⟩ : ByteArray), .int .i64 1, .slice Ao61 y207.length co61]] rfl SQ.sm ?_; (with_reducible refine (node_Encode.calls k 3 (⟨#[]⟩ : ByteArray) false (⟨#[]⟩ : ByteArray) 1 _ _ y207 t210 false _ ?side1 ?side2 A7.out).mono ?_); (case side1 => repeat (first | exact (Kd.R_reads' HO209.out).2.2 | (with_reducible refine Kd.C_alloc ?_ _) | (with_reducible refine Kd.C_drewN ?_ _) | (with_reducible refine Kd.C_drew ?_))); (case side2 => exact (Kd.R_reads' HO209.out).2.1); rintro e w62 ⟨rfl, hb⟩; refine ⟨_, rfl, ?_⟩; replace HO193 := A0_.mk (Kd.R_below (by (with_reducible repeat (first | apply Kd.R_alloc | apply Kd.R_drewN | apply Kd.R_drew)); exact HO193.out) hb); replace HO203 := A0_.mk (Kd.R_below (by (with_reducible repeat (first | apply Kd.R_alloc | apply Kd.R_drewN | apply Kd.R_drew)); exact HO203.out) hb); replace HO209 := A0_.mk (Kd.R_below (by (with_reducible repeat (first | apply Kd.R_alloc | apply Kd.R_drewN | apply Kd.R_drew)); exact HO209.out) hb); replace BK205 := A0_.mk (bB (g := gb205) SQ.kw hb); replace HB := A0_.mk (wT SQ.bw hb); clear hb) | ((with_reducible refine gC (f := 10) rfl ?_); refine gL (some 40) rfl rfl Tryd.func10 (by kernel_rfl) rfl #[.agg #[.int .i64 1, .string (⟨#[]⟩ : ByteArray), .bool true, .string (⟨#[]⟩ : ByteArray), .int .i64 0, .slice none 0 0]] rfl SQ.sm ?_; (refine (node_Hash.calls k 1 (⟨#[]⟩ : ByteArray) true (⟨#[]⟩ : ByteArray) 0 _ _ ([] : List ByteArray) t212 true _ ?side1 ?side2 ?side3 A8.out).mono ?_); (case side1 => exact Kd.C_nil _ _); (case side2 => exact Nat.le_refl _); (case side3 => exact Glob.below HG.out SQ.bw); rintro e w63 ⟨rfl, hb⟩; refine ⟨_, rfl, ?_⟩; replace HO193 := A0_.mk (Kd.R_below (by (with_reducible repeat (first | apply Kd.R_alloc | apply Kd.R_drewN | apply Kd.R_drew)); exact HO193.out) hb); replace HO203 := A0_.mk (Kd.R_below (by (with_reducible repeat (first | apply Kd.R_alloc | apply Kd.R_drewN | apply Kd.R_drew)); exact HO203.out) hb); replace HO209 := A0_.mk (Kd.R_below (by (with_reducible repeat (first | apply Kd.R_alloc | apply Kd.R_drewN | apply Kd.R_drew)); exact HO209.out) hb); replace BK205 := A0_.mk (bB (g := gb205) SQ.kw hb); replace HB := A0_.mk (wT SQ.bw hb); clear hb) | ((with_reducible refine gC (f := 11) rfl ?_); refine gL (some 44) rfl rfl Tryd.func11 (by kernel_rfl) rfl #[.string (⟨#[1, 0, 0, 122]⟩ : ByteArray)] rfl SQ.sm ?_; (with_reducible refine (node_Decode.calls k (⟨#[1, 0, 0, 122]⟩ : ByteArray) t214 t215 t216 t217 t218 t219 t222 _ A9.out).mono ?_); rintro e w64 ⟨v220, rfl, ho0, hb⟩; refine ⟨_, rfl, ?_⟩; have HO221 := A0_.mk (Kd.R_lower (Kd.R_new' (Kd.R_new' (Kd.R_new' ho0 (Kd.R_lt (by (with_reducible repeat (first | apply Kd.R_alloc | apply Kd.R_drewN | apply Kd.R_drew)); exact HO193.out))) (Kd.R_lt (by (with_reducible repeat (first | apply Kd.R_alloc | apply Kd.R_drewN | apply Kd.R_drew)); exact HO203.out))) (Kd.R_lt (by (with_reducible repeat (first | apply Kd.R_alloc | apply Kd.R_drewN | apply Kd.R_drew)); exact HO209.out))) (wZ SQ.bw)); replace HO193 := A0_.mk (Kd.R_elder' (by (with_reducible repeat (first | apply Kd.R_alloc | apply Kd.R_drewN | apply Kd.R_drew)); exact HO193.out) (Kd.R_base ho0) hb); replace HO203 := A0_.mk (Kd.R_elder' (by (with_reducible repeat (first | apply Kd.R_alloc | apply Kd.R_drewN | apply Kd.R_drew)); exact HO203.out) (Kd.R_base ho0) hb); replace HO209 := A0_.mk (Kd.R_elder' (by (with_reducible repeat (first | apply Kd.R_alloc | apply Kd.R_drewN | apply Kd.R_drew)); exact HO209.out) (Kd.R_base ho0) hb); replace BK205 := A0_.mk (bB (g := gb205) SQ.kw hb); replace HB := A0_.mk (wT SQ.bw hb); (try clear hb); (try clear hb2); (try clear hk); (try clear hi); (try clear ho0)) | ((with_reducible refine gD (N := 11) rfl ?_); (try (refine gG (by rfl) ?_; dsimp only)); refine xE ?hg (N := 11) ?hd (cs := #[.int .i64 0, .string (⟨#[]⟩ : ByteArray), .bool false, .string (⟨#[]⟩ : ByteArray), .int .i64 0, .slice none 0 0]) (t := 24) ?hr ?_; (case hd => rfl); (case hg => rfl); (case hr => first | (go_simp; done) | (go_simp; rfl)); intro gb223 hg w65 hbox hb; have BK223 := A0_.mk (hbox); have GW223 := A0_.mk ((by rw [hg]; exact (wZ SQ.bw) : w.heap.size ≤ gb223)); have GE223 := A0_.mk ((by rw [hg]; exact (wZ SQ.bw) : w.heap.size ≤ gb223)); have NB205_223 := A0_.mk ((by rw [hg]; exact Nat.ne_of_lt (bL (g := gb205) SQ.kw) : gb205 ≠ gb223)); have NB223_205 := A0_.mk ((by rw [hg]; exact Nat.ne_of_gt (bL (g := gb205) SQ.kw) : gb223 ≠ gb205)); replace HO193 := A0_.mk (Kd.R_below (by (with_reducible repeat (first | apply Kd.R_alloc | apply Kd.R_drewN | apply Kd.R_drew)); exact HO193.out) hb); replace HO203 := A0_.mk (Kd.R_below (by (with_reducible repeat (first | apply Kd.R_alloc | apply Kd.R_drewN | apply Kd.R_drew)); exact HO203.out) hb); replace HO209 := A0_.mk (Kd.R_below (by (with_reducible repeat (first | apply Kd.R_alloc | apply Kd.R_drewN | apply Kd.R_drew)); exact HO209.out) hb); replace HO221 := A0_.mk (Kd.R_below (by (with_reducible repeat (first | apply Kd.R_alloc | apply Kd.R_drewN | apply Kd.R_drew)); exact HO221.out) hb); replace BK205 := A0_.mk (bB (g := gb205) SQ.kw hb); replace HB := A0_.mk (wT SQ.bw hb); clear hb hbox hg; have hnb66 := NB223_205.out; have hnc66 := NB205_223.out; obtain ⟨hcz67_0, hcz67_1, hcz67_2, hcz67_3, hcz67_4, hcz67_5, hfz67_0, hfz67_1, hfz67_2, hfz67_3, hfz67_4, hfz67_5⟩ := SQ.cs6 BK223.out; obtain ⟨Ao68, co68, eo68⟩ := Kd.R_slice HO221.out; subst eo68; obtain ⟨hcz69_0, hcz69_1, hcz69_2, hcz69_3, hcz69_4, hcz69_5, hfz69_0, hfz69_1, hfz69_2, hfz69_3, hfz69_4, hfz69_5⟩ := SQ.cs6 BK205.out) | (go_at_call 18; (with_reducible refine (digest_Of.calls (⟨#[1, 0, 0]⟩ : ByteArray) t224 _ ?side1 A45.out).mono ?_); (case side1 => exact Glob.below HG.out SQ.bw); rintro e w70 ⟨rfl, hb⟩; replace HO193 := A0_.mk (Kd.R_below (by (with_reducible repeat (first | apply Kd.R_alloc | apply Kd.R_drewN | apply Kd.R_drew)); exact (Kd.R_mono (Kd.R_far (p := ⟨gb223, 5, none⟩) (Kd.R_far (p := ⟨gb223, 4, none⟩) (Kd.R_far (p := ⟨gb223, 3, none⟩) (Kd.R_far (p := ⟨gb223, 2, none⟩) (Kd.R_far (p := ⟨gb223, 1, none⟩) (Kd.R_far (p := ⟨gb223, 0, none⟩) (Kd.R_types HO193.out BK223.out (by decide)) (fun _ hk => hk.2) (.int .i64 t214)) (fun _ hk => hk.2) (.string t215)) (fun _ hk => hk.2) (.bool t216)) (fun _ hk => hk.2) (.string t217)) (fun _ hk => hk.2) (.int .i64 t218)) (fun _ hk => hk.2) (.slice Ao68 t219.length co68)) (fun _ h_ => h_.1))) hb); replace HO203 := A0_.mk (Kd.R_below (by (with_reducible repeat (first | apply Kd.R_alloc | apply Kd.R_drewN | apply Kd.R_drew)); exact (Kd.R_mono (Kd.R_far (p := ⟨gb223, 5, none⟩) (Kd.R_far (p := ⟨gb223, 4, none⟩) (Kd.R_far (p := ⟨gb223, 3, none⟩) (Kd.R_far (p := ⟨gb223, 2, none⟩) (Kd.R_far (p := ⟨gb223, 1, none⟩) (Kd.R_far (p := ⟨gb223, 0, none⟩) (Kd.R_types HO203.out BK223.out (by decide)) (fun _ hk => hk.2) (.int .i64 t214)) (fun _ hk => hk.2) (.string t215)) (fun _ hk => hk.2) (.bool t216)) (fun _ hk => hk.2) (.string t217)) (fun _ hk => hk.2) (.int .i64 t218)) (fun _ hk => hk.2) (.slice Ao68 t219.length co68)) (fun _ h_ => h_.1))) hb); replace HO209 := A0_.mk (Kd.R_below (by (with_reducible repeat (first | apply Kd.R_alloc | apply Kd.R_drewN | apply Kd.R_drew)); exact (Kd.R_mono (Kd.R_far (p := ⟨gb223, 5, none⟩) (Kd.R_far (p := ⟨gb223, 4, none⟩) (Kd.R_far (p := ⟨gb223, 3, none⟩) (Kd.R_far (p := ⟨gb223, 2, none⟩) (Kd.R_far (p := ⟨gb223, 1, none⟩) (Kd.R_far (p := ⟨gb223, 0, none⟩) (Kd.R_types HO209.out BK223.out (by decide)) (fun _ hk => hk.2) (.int .i64 t214)) (fun _ hk => hk.2) (.string t215)) (fun _ hk => hk.2) (.bool t216)) (fun _ hk => hk.2) (.string t217)) (fun _ hk => hk.2) (.int .i64 t218)) (fun _ hk => hk.2) (.slice Ao68 t219.length co68)) (fun _ h_ => h_.1))) hb); replace HO221 := A0_.mk (Kd.R_below (by (with_reducible repeat (first | apply Kd.R_alloc | apply Kd.R_drewN | apply Kd.R_drew)); exact (Kd.R_mono (Kd.R_far (p := ⟨gb223, 5, none⟩) (Kd.R_far (p := ⟨gb223, 4, none⟩) (Kd.R_far (p := ⟨gb223, 3, none⟩) (Kd.R_far (p := ⟨gb223, 2, none⟩) (Kd.R_far (p := ⟨gb223, 1, none⟩) (Kd.R_far (p := ⟨gb223, 0, none⟩) (Kd.R_types HO221.out BK223.out (by decide)) (fun _ hk => hk.2) (.int .i64 t214)) (fun _ hk => hk.2) (.string t215)) (fun _ hk => hk.2) (.bool t216)) (fun _ hk => hk.2) (.string t217)) (fun _ hk => hk.2) (.int .i64 t218)) (fun _ hk => hk.2) (.slice Ao68 t219.length co68)) (fun _ h_ => h_.1))) hb); replace BK205 := A0_.mk (bB (g := gb205) (o := .cells #[.int .i64 t196, .string t197, .bool t198, .string t199, .int .i64 t200, .slice Ao57 t201.length co57] 24 (0, 0)) (by (with_reducible repeat (first | refine bN ?_ _ | refine bD ?_ | refine bA ?_ _)); refine bR ?_ NB205_223.out _; (with_reducible repeat (first | refine bN ?_ _ | refine bD ?_ | refine bA ?_ _)); refine bR ?_ NB205_223.out _; (with_reducible repeat (first | refine bN ?_ _ | refine bD ?_ | refine bA ?_ _)); refine bR ?_ NB205_223.out _; (with_reducible repeat (first | refine bN ?_ _ | refine bD ?_ | refine bA ?_ _)); refine bR ?_ NB205_223.out _; (with_reducible repeat (first | refine bN ?_ _ | refine bD ?_ | refine bA ?_ _)); refine bR ?_ NB205_223.out _; (with_reducible repeat (first | refine bN ?_ _ | refine bD ?_ | refine bA ?_ _)); refine bR ?_ NB205_223.out _; (with_reducible repeat (first | refine bN ?_ _ | refine bD ?_ | refine bA ?_ _)); exact BK205.out) hb); replace BK223 := A0_.mk (bB (g := gb223) (o := .cells #[.int .i64 t214, .string t215, .bool t216, .string t217, .int .i64 t218, .slice Ao68 t219.length co68] 24 (0, 0)) (by (with_reducible repeat (first | refine bN ?_ _ | refine bD ?_ | refine bA ?_ _)); refine bP (cs := #[.int .i64 t214, .string t215, .bool t216, .string t217, .int .i64 t218, .slice none 0 0]) ?_ 5 _ rfl; (with_reducible repeat (first | refine bN ?_ _ | refine bD ?_ | refine bA ?_ _)); refine bP (cs := #[.int .i64 t214, .string t215, .bool t216, .string t217, .int .i64 0, .slice none 0 0]) ?_ 4 _ rfl; (with_reducible repeat (first | refine bN ?_ _ | refine bD ?_ | refine bA ?_ _)); refine bP (cs := #[.int .i64 t214, .string t215, .bool t216, .string (⟨#[]⟩ : ByteArray), .int .i64 0, .slice none 0 0]) ?_ 3 _ rfl; (with_reducible repeat (first | refine bN ?_ _ | refine bD ?_ | refine bA ?_ _)); refine bP (cs := #[.int .i64 t214, .string t215, .bool false, .string (⟨#[]⟩ : ByteArray), .int .i64 0, .slice none 0 0]) ?_ 2 _ rfl; (with_reducible repeat (first | refine bN ?_ _ | refine bD ?_ | refine bA ?_ _)); refine bP (cs := #[.int .i64 t214, .string (⟨#[]⟩ : ByteArray), .bool false, .string (⟨#[]⟩ : ByteArray), .int .i64 0, .slice none 0 0]) ?_ 1 _ rfl; (with_reducible repeat (first | refine bN ?_ _ | refine bD ?_ | refine bA ?_ _)); refine bP (cs := #[.int .i64 0, .string (⟨#[]⟩ : ByteArray), .bool false, .string (⟨#[]⟩ : ByteArray), .int .i64 0, .slice none 0 0]) ?_ 0 _ rfl; (with_reducible repeat (first | refine bN ?_ _ | refine bD ?_ | refine bA ?_ _)); exact BK223.out) hb); replace HB := A0_.mk (wT SQ.bw hb); clear hb))
  go_ret
  exact ⟨SQ.er, SQ.bw⟩

end Go.Proofs.YtklakmooaffjpaaDoor.PNod
