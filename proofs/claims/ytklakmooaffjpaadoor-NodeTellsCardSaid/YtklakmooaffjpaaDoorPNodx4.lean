-- Written by a program of this session for this seat. Not trusted: Lean checks it.
import Derived.Test.YtklakmooaffjpaaDoorSQ
import Derived.Test.YtklakmooaffjpaaDoorPNodx0
import Derived.Test.YtklakmooaffjpaaDoorPNodx1
import Derived.Test.YtklakmooaffjpaaDoorPNodx3
namespace Go.Proofs.YtklakmooaffjpaaDoor.PNod
open Go.RowKit Go.Proofs.YtklakmooaffjpaaDoorW.PrintWords Go.Proofs.YtklakmooaffjpaaDoorW.PrintLast Go.Proofs.YtklakmooaffjpaaDoorW.PrintMore
attribute [local go_sem] max2_int min2_int max_two min_two max_three min_three max_four min_four   -- for this text's walks alone
set_option linter.unusedVariables false
set_option linter.unusedSimpArgs false
open Go.Proofs.YtklakmooaffjpaaDoor.HW Go.Proofs.YtklakmooaffjpaaDoor.DgsB

/-! ### nibble_two: function 35 -/
def nibble_two.l0 : Nat → ByteArray → List Int → Int → Int → Option (ByteArray)
 | 0, _, _, _, _ => none
 | k + 1, x0, x3, x12, x13 => if x13 < x12 then (if 0 ≤ (Int.tmod x13 2) then (if (Int.tmod x13 2) < 2 then (if 0 ≤ (wrap64 (Int.tdiv x13 2)) then (if (wrap64 (Int.tdiv x13 2)) < (x3.length : Int) then (if 0 ≤ x13 then (if x13 < (x0.size : Int) then (if 0 ≤ (rd [4, 0] (Int.tmod x13 2)) then (nibble_two.l0 k x0 (x3.set ((wrap64 (Int.tdiv x13 2)) : Int).toNat (Go.bits .or .u8 (rd x3 (wrap64 (Int.tdiv x13 2))) (shl .u8 (bt x0 x13) (rd [4, 0] (Int.tmod x13 2))))) x12 (wrap64 (x13 + 1))) else (none)) else (none)) else (none)) else (none)) else (none)) else (none)) else (none)) else (some (strOfNums x3))
def nibble_two.f (k : Nat) (a0 : ByteArray) : Option (ByteArray) := if 0 ≤ (wrap64 (Int.tdiv (wrap64 ((a0.size : Int) + 1)) 2)) then (if (wrap64 (Int.tdiv (wrap64 ((a0.size : Int) + 1)) 2) : Int).toNat ≤ 281474976710656 then (nibble_two.l0 k a0 (List.replicate (wrap64 (Int.tdiv (wrap64 ((a0.size : Int) + 1)) 2) : Int).toNat 0) (a0.size : Int) 0) else (none)) else (none)
def nibble_two.T6 : Bool × List (List Nat × List Nat) := (true, [([], []), ([], []), ([1], [1]), ([0, 2], [0, 2]), ([3], [3]), ([], []), ([], []), ([5, 6], [5, 6]), ([], []), ([7, 8], [7, 8]), ([4, 9], [4, 9]), ([0, 2, 0, 1, 2, 3, 4, 5, 6, 7, 8, 9, 10], [0, 2]), ([11, 10, 0, 1, 2, 3, 4, 5, 6, 7, 8, 9, 10], [10, 11])])
def nibble_two.B6 : List Nat := [0, 0, 2, 7, 15, 0, 0, 96, 0, 480, 1023, 2047, 4095]
theorem nibble_two.tab6 : rtab .any (opsOf Tryd.f35 6) = nibble_two.T6 := by kernel_rfl
theorem nibble_two.bits6 : waitsOk nibble_two.T6.2 nibble_two.B6 = true := by kernel_rfl
set_option maxHeartbeats 8000000 in
set_option maxRecDepth 100000 in
theorem nibble_two.calls (k : Nat) (a0 : ByteArray) (r : ByteArray) (w : World) (h : nibble_two.f k a0 = some r) :
  Calls Tryd.prog 35 #[.string a0] w fun e w' => e = .returned (.string r) ∧ Below w.heap.size w w' := by
 have hix86i64 : ∀ (W : World) (x0_ x1_ j_ : Int), 0 ≤ j_ → j_ < 2 → (Instr.index 86 (.agg #[.int .i64 x0_, .int .i64 x1_]) (.int .i64 j_)).run Tryd.prog W = .ok (.int .i64 (rd [x0_, x1_] j_)) W := fun W x0_ x1_ j_ h0_ h1_ => run_index_ints W Tryd.underlying86 (fun _ => by kernel_rfl) (fun _ => by kernel_rfl) [x0_, x1_] rfl .i64 .i64 j_ h0_ h1_
 have HB := A0_.mk (Below.refl w.heap.size w)
 have H : (if 0 ≤ (wrap64 (Int.tdiv (wrap64 ((a0.size : Int) + 1)) 2)) then (if (wrap64 (Int.tdiv (wrap64 ((a0.size : Int) + 1)) 2) : Int).toNat ≤ 281474976710656 then (nibble_two.l0 k a0 (List.replicate (wrap64 (Int.tdiv (wrap64 ((a0.size : Int) + 1)) 2) : Int).toNat 0) (a0.size : Int) 0) else (none)) else (none)) = some r := h
 clear h
 obtain ⟨ji2, hji2⟩ : ∃ j_ : Int, (wrap64 (Int.tdiv (wrap64 ((a0.size : Int) + 1)) 2)) = j_ := ⟨_, rfl⟩
 replace H : (if 0 ≤ (ji2) then (if (ji2 : Int).toNat ≤ 281474976710656 then (nibble_two.l0 k a0 (List.replicate (ji2 : Int).toNat 0) (a0.size : Int) 0) else (none)) else (none)) = some r := by first | (rw [hji2] at H; exact H) | (simp only [hji2] at H ⊢; exact H)
 have hji2w : (IntKind.i64.wrap (Int.tdiv (wrap64 ((a0.size : Int) + 1)) 2)) = ji2 := (i64_w _).trans hji2
 by_cases c3 : 0 ≤ (ji2)
 rotate_left
 ·rw [if_neg c3] at H
  exact absurd H (by simp)
 rw [if_pos c3] at H
 have c3b0 := eq_true c3
 have c3b1 : decide (0 ≤ (ji2)) = true := decide_eq_true c3
 clear c3
 by_cases c4 : (ji2 : Int).toNat ≤ 281474976710656
 rotate_left
 ·rw [if_neg c4] at H
  exact absurd H (by simp)
 rw [if_pos c4] at H
 have c4b0 := eq_true c4
 have c4b1 : decide ((ji2 : Int).toNat ≤ 281474976710656) = true := decide_eq_true c4
 clear c4
 obtain ⟨y111, hy111⟩ : ∃ y_ : List Int, y_ = (List.replicate (ji2 : Int).toNat 0) := ⟨_, rfl⟩
 replace H : (nibble_two.l0 k a0 y111 (a0.size : Int) 0) = some r := by first | (rw [hy111]; with_reducible exact H) | (have H2_ := (Option.bind_some _ _).symm.trans H; rw [hy111]; with_reducible exact H2_) | (have H2_ := (Option.bind_some _ _).symm.trans H; with_reducible exact H2_) | with_reducible exact H | (rw [hy111]; exact H) | exact H
 have Ny111 := A0_.mk hy111
 clear hy111
 have H' := A0_.mk H
 clear H
 go_enter Tryd.func35, Tryd.ntmps35
 go_wp2_with (first | ((with_reducible refine gD (N := 10) rfl ?_); refine Kd.R_make (Kd.int .u8) _ 5 rfl (N := 10) rfl 42 _ _ rfl ji2 rfl rfl Tryd.underlying42 (.int .u8 0) 1 info5 rfl (by decide) (by omega) 0 (ok := fun _ => True) (okp := fun _ => True) rfl (fun _ hk => hk) trivial (SQ.da) (Nat.le_trans (Nat.mul_le_mul_right _ (SQ.da : ji2.toNat ≤ 281474976710656)) (by omega)) (Below.refl _ _) (Nat.le_refl _) ?_; intro v112 w5 ho6 hb hg_ hnew_; clear hg_ hnew_; (first | rw [← Ny111.out] at ho6 | (simp only [Int.reduceToNat] at ho6; rw [← Ny111.out] at ho6)); have HO113 := A0_.mk (Kd.R_lower ho6 (wZ SQ.bw)); replace HB := A0_.mk (wT SQ.bw hb); clear hb ho6))
 go_loopg [13] k (fun kq v13 w' => ∃ (x3_1 : List Int) (x13_1 : Int), v13 = .int .i64 x13_1 ∧ A0_ (nibble_two.l0 kq a0 x3_1 (a0.size : Int) x13_1 = some r) ∧ A0_ (kq ≤ k) ∧ A0_ (Kd.R (Kd.int .u8) 5 w' w.heap.size (fun _ => True) v112 x3_1) ∧ A0_ (Below w.heap.size w w'))
 case atStart => exact ⟨(y111), (0), (by first | rfl | (simp; done) | (simp [*]; done)), H', ⟨Nat.le_refl _⟩, ⟨by (with_reducible repeat (first | apply Kd.R_alloc | apply Kd.R_drewN | apply Kd.R_drew)); exact HO113.out⟩, ⟨SQ.bw⟩⟩
 case round =>
  clear H'
  try clear p2
  try clear c3
  try clear c3b0
  try clear c3b1
  try clear c4
  try clear c4b0
  try clear c4b1
  try clear p6
  obtain ⟨x3_1, x13_1, rfl, HA, HK1, HO_3, HB⟩ := hrel
  cases gk with
  | zero => exact absurd HA.out (by simp [nibble_two.l0])
  | succ k1 =>
   have H := HA.out
   clear HA
   simp only [nibble_two.l0] at H
   by_cases c7 : x13_1 < (a0.size : Int)
   ·rw [if_pos c7] at H
    have c7b0 : decide (x13_1 < (a0.size : Int)) = true := decide_eq_true c7
    clear c7
    obtain ⟨ji8, hji8⟩ : ∃ j_ : Int, (Int.tmod x13_1 2) = j_ := ⟨_, rfl⟩
    replace H : (if 0 ≤ (ji8) then (if (ji8) < 2 then (if 0 ≤ (wrap64 (Int.tdiv x13_1 2)) then (if (wrap64 (Int.tdiv x13_1 2)) < (x3_1.length : Int) then (if 0 ≤ x13_1 then (if x13_1 < (a0.size : Int) then (if 0 ≤ (rd [4, 0] (ji8)) then (nibble_two.l0 k1 a0 (x3_1.set ((wrap64 (Int.tdiv x13_1 2)) : Int).toNat (Go.bits .or .u8 (rd x3_1 (wrap64 (Int.tdiv x13_1 2))) (shl .u8 (bt a0 x13_1) (rd [4, 0] (ji8))))) (a0.size : Int) (wrap64 (x13_1 + 1))) else (none)) else (none)) else (none)) else (none)) else (none)) else (none)) else (none)) = some r := by first | (rw [hji8] at H; exact H) | (simp only [hji8] at H ⊢; exact H)
    by_cases c9 : 0 ≤ (ji8)
    rotate_left
    ·rw [if_neg c9] at H
     exact absurd H (by simp)
    rw [if_pos c9] at H
    have c9b0 := eq_true c9
    have c9b1 : decide (0 ≤ (ji8)) = true := decide_eq_true c9
    clear c9
    by_cases c10 : (ji8) < 2
    rotate_left
    ·rw [if_neg c10] at H
     exact absurd H (by simp)
    rw [if_pos c10] at H
    have c10b0 := eq_true c10
    have c10b1 : decide ((ji8) < 2) = true := decide_eq_true c10
    clear c10
    obtain ⟨ji11, hji11⟩ : ∃ j_ : Int, (wrap64 (Int.tdiv x13_1 2)) = j_ := ⟨_, rfl⟩
    replace H : (if 0 ≤ (ji11) then (if (ji11) < (x3_1.length : Int) then (if 0 ≤ x13_1 then (if x13_1 < (a0.size : Int) then (if 0 ≤ (rd [4, 0] (ji8)) then (nibble_two.l0 k1 a0 (x3_1.set ((ji11) : Int).toNat (Go.bits .or .u8 (rd x3_1 (ji11)) (shl .u8 (bt a0 x13_1) (rd [4, 0] (ji8))))) (a0.size : Int) (wrap64 (x13_1 + 1))) else (none)) else (none)) else (none)) else (none)) else (none)) = some r := by first | (rw [hji11] at H; exact H) | (simp only [hji11] at H ⊢; exact H)
    have hji11w : (IntKind.i64.wrap (Int.tdiv x13_1 2)) = ji11 := (i64_w _).trans hji11
    by_cases c12 : 0 ≤ (ji11)
    rotate_left
    ·rw [if_neg c12] at H
     exact absurd H (by simp)
    rw [if_pos c12] at H
    have c12b0 : decide (0 ≤ (ji11)) = true := decide_eq_true c12
    clear c12
    by_cases c13 : (ji11) < (x3_1.length : Int)
    rotate_left
    ·rw [if_neg c13] at H
     exact absurd H (by simp)
    rw [if_pos c13] at H
    have c13b0 : decide ((ji11) < (x3_1.length : Int)) = true := decide_eq_true c13
    clear c13
    by_cases c14 : 0 ≤ x13_1
    rotate_left
    ·rw [if_neg c14] at H
     exact absurd H (by simp)
    rw [if_pos c14] at H
    have c14b0 : decide (0 ≤ x13_1) = true := decide_eq_true c14
    clear c14
    by_cases c15 : x13_1 < (a0.size : Int)
    rotate_left
    ·rw [if_neg c15] at H
     exact absurd H (by simp)
    rw [if_pos c15] at H
    have c15b0 : decide (x13_1 < (a0.size : Int)) = true := decide_eq_true c15
    clear c15
    by_cases c17 : 0 ≤ (rd [4, 0] (ji8))
    rotate_left
    ·rw [if_neg c17] at H
     exact absurd H (by simp)
    rw [if_pos c17] at H
    have c17b0 := eq_true c17
    have c17b1 : decide (0 ≤ (rd [4, 0] (ji8))) = true := decide_eq_true c17
    clear c17
    obtain ⟨ji18, hji18⟩ : ∃ j_ : Int, (shl .u8 (bt a0 x13_1) (rd [4, 0] (ji8))) = j_ := ⟨_, rfl⟩
    replace H : (nibble_two.l0 k1 a0 (x3_1.set ((ji11) : Int).toNat (Go.bits .or .u8 (rd x3_1 (ji11)) (ji18))) (a0.size : Int) (wrap64 (x13_1 + 1))) = some r := by first | (rw [hji18] at H; exact H) | (simp only [hji18] at H ⊢; exact H)
    have hji18_ : (IntKind.u8.wrap ((bt a0 x13_1) * 2 ^ min (rd [4, 0] (ji8)).toNat 8)) = ji18 := hji18
    have hji18z : (rd [4, 0] (ji8)) ≤ 8 → (IntKind.u8.wrap ((bt a0 x13_1) * 2 ^ (rd [4, 0] (ji8)).toNat)) = ji18 := shl_small hji18
    obtain ⟨y115, hy115⟩ : ∃ y_ : List Int, y_ = (x3_1.set ((ji11) : Int).toNat (Go.bits .or .u8 (rd x3_1 (ji11)) (ji18))) := ⟨_, rfl⟩
    replace H : (nibble_two.l0 k1 a0 y115 (a0.size : Int) (wrap64 (x13_1 + 1))) = some r := by first | (rw [hy115]; with_reducible exact H) | (have H2_ := (Option.bind_some _ _).symm.trans H; rw [hy115]; with_reducible exact H2_) | (have H2_ := (Option.bind_some _ _).symm.trans H; with_reducible exact H2_) | with_reducible exact H | (rw [hy115]; exact H) | exact H
    have Ny115 := A0_.mk hy115
    clear hy115
    have H' := A0_.mk H
    clear H
    try go_wp2
    replace HO_3 := A0_.mk (Kd.R_drew HO_3.out)
    replace HB := A0_.mk (wD HB.out)
    obtain ⟨Ao21, co21, eo21⟩ := Kd.R_slice HO_3.out
    (first | subst eo21 | (injection eo21 with f1_ f2_ f3_; have f4_ := f1_.symm; have f5_ := f3_.symm; clear f1_ f2_ f3_; subst f4_; subst f5_))
    have p114 : 0 ≤ ((ji11) : Int) := SQ.da
    have q114 : (ji11) < (x3_1.length : Int) := SQ.da
    obtain ⟨ad114, e114, hx114_0⟩ := Kd.at_int (Kd.R_reads' HO_3.out).2.2 (ji11) p114 q114
    cases e114
    replace p114 := eq_true p114
    replace q114 := eq_true q114
    have p16 : 0 ≤ (x13_1 : Int) := SQ.da
    have q16 : x13_1 < (a0.size : Int) := SQ.da
    have hx16 := bt_at a0 x13_1
    replace p16 := eq_true p16
    replace q16 := eq_true q16
    have p19 : 0 ≤ ((ji11) : Int) := SQ.da
    have q19 : ((ji11) : Int) < ((x3_1.length : Int) : Int) := SQ.da
    obtain ⟨go19, co19, eo19, gb19, gl19, cl19, HG19⟩ := Kd.R_form HO_3.out (by omega)
    (first | cases eo19 | (injection eo19 with ea_ en_ ec_; (first | subst ea_ | (injection ea_ with ea_; subst ea_)); subst ec_; clear en_))
    have GB19 := A0_.mk gb19
    have GG19 := A0_.mk HG19
    clear gb19 gl19 HG19
    (first | simp only [add_plain] at hx114_0 | skip)
    obtain ⟨hx19_0, hf19_0⟩ := Kd.R_celln 0 HO_3.out ((ji11) : Int) p19 q19
    replace p19 := eq_true p19
    replace q19 := eq_true q19
    have HP22 := Kd.R_putn HO_3.out ((ji11) : Int) (Go.bits .or .u8 (rd x3_1 (ji11)) (ji18))
    rw [← Ny115.out] at HP22
    have HQ22 := A0_.mk HP22
    clear HP22
    refine start_ (n := 13) (S := fun w' => w'.cell? ⟨go19, ((ji11)).toNat, none⟩ = some (.int .u8 (rd x3_1 (ji11)))) (ds := [12]) #[false, false, false, false, false, false, false, false, false, false, false, false, false] (by kernel_rfl) rfl rfl (hx114_0) (fun hHeld => ?_); refine with_tabW nibble_two.tab6 nibble_two.bits6 (fun HT_ HW_ => ?_)
    generalize wr.drew = w20 at HO_3 HB GG19 HQ22 hf19_0 hx114_0 hx19_0 hHeld ⊢
    refine pure_ (i := 0) (N := some 20) (v := ?_) (a' := ?_) #[true, false, false, false, false, false, false, false, false, false, false, false, false] rfl rfl (any_of HT_.out (by kernel_rfl)) (fun _ _ _ h => h) (Or.inl ⟨by rfl, ?_⟩) ?_ ?_
    rotate_left
    ·intro w'
     go_simp
     with_reducible rfl
    rotate_left
    ·simp only [Act.put, List.setIfInBounds_toArray, List.set_cons_zero, List.set_cons_succ, i64_w, i32_w]
     rfl
    refine pure_ (i := 1) (N := some 21) (v := ?_) (a' := ?_) #[true, true, false, false, false, false, false, false, false, false, false, false, false] rfl rfl (any_of HT_.out (by kernel_rfl)) (fun _ _ _ h => h) (Or.inl ⟨by rfl, ?_⟩) ?_ ?_
    rotate_left
    ·intro w'
     go_simp
     with_reducible rfl
    rotate_left
    ·simp only [Act.put, List.setIfInBounds_toArray, List.set_cons_zero, List.set_cons_succ, i64_w, i32_w]
     rfl
    refine pure_ (i := 2) (N := some 22) (v := ?_) (a' := ?_) #[true, true, true, false, false, false, false, false, false, false, false, false, false] rfl rfl (any_of HT_.out (by kernel_rfl)) (fun _ _ _ h => h) (Or.inl ⟨by rfl, ?_⟩) ?_ ?_
    rotate_left
    ·intro w'
     go_simp
     with_reducible rfl
    rotate_left
    ·simp only [Act.put, List.setIfInBounds_toArray, List.set_cons_zero, List.set_cons_succ, i64_w, i32_w]
     rfl
    refine pure_ (i := 3) (N := some 23) (v := ?_) (a' := ?_) #[true, true, true, true, false, false, false, false, false, false, false, false, false] rfl rfl (any_of HT_.out (by kernel_rfl)) (fun _ _ _ h => h) (Or.inl ⟨by rfl, ?_⟩) ?_ ?_
    rotate_left
    ·intro w'
     go_simp
     with_reducible rfl
    rotate_left
    ·simp only [Act.put, List.setIfInBounds_toArray, List.set_cons_zero, List.set_cons_succ, i64_w, i32_w]
     rfl
    refine pure_ (i := 5) (N := some 25) (v := ?_) (a' := ?_) #[true, true, true, true, false, true, false, false, false, false, false, false, false] rfl rfl (any_of HT_.out (by kernel_rfl)) (fun _ _ _ h => h) (Or.inl ⟨by rfl, ?_⟩) ?_ ?_
    rotate_left
    ·intro w'
     go_simp
     with_reducible rfl
    rotate_left
    ·simp only [Act.put, List.setIfInBounds_toArray, List.set_cons_zero, List.set_cons_succ, i64_w, i32_w]
     rfl
    refine pure_ (i := 6) (N := some 26) (v := ?_) (a' := ?_) #[true, true, true, true, false, true, true, false, false, false, false, false, false] rfl rfl (any_of HT_.out (by kernel_rfl)) (fun _ _ _ h => h) (Or.inl ⟨by rfl, ?_⟩) ?_ ?_
    rotate_left
    ·intro w'
     go_simp
     with_reducible rfl
    rotate_left
    ·simp only [Act.put, List.setIfInBounds_toArray, List.set_cons_zero, List.set_cons_succ, i64_w, i32_w]
     rfl
    refine pure_ (i := 8) (N := some 28) (v := ?_) (a' := ?_) #[true, true, true, true, false, true, true, false, true, false, false, false, false] rfl rfl (any_of HT_.out (by kernel_rfl)) (fun _ _ _ h => h) (Or.inl ⟨by rfl, ?_⟩) ?_ ?_
    rotate_left
    ·intro w'
     go_simp
     with_reducible rfl
    rotate_left
    ·simp only [Act.put, List.setIfInBounds_toArray, List.set_cons_zero, List.set_cons_succ, i64_w, i32_w]
     rfl
    refine take_ (i := 4) (N := some 24) (v := ?_) (a' := ?_) #[true, true, true, true, true, true, true, false, true, false, false, false, false] rfl rfl (take_ofW HT_.out HW_.out (by kernel_rfl)) (fun _ _ _ h => h) (Or.inl ⟨by rfl, ?_⟩) hHeld ?_ ?_
    rotate_left
    ·intro w' s0
     go_simp
     with_reducible rfl
    rotate_left
    ·simp only [Act.put, List.setIfInBounds_toArray, List.set_cons_zero, List.set_cons_succ, i64_w, i32_w]
     rfl
    refine take_ (i := 7) (N := some 27) (v := ?_) (a' := ?_) #[true, true, true, true, true, true, true, true, true, false, false, false, false] rfl rfl (take_ofW HT_.out HW_.out (by kernel_rfl)) (fun _ _ _ h => h) (Or.inl ⟨by rfl, ?_⟩) hHeld ?_ ?_
    rotate_left
    ·intro w' s0
     go_simp
     with_reducible rfl
    rotate_left
    ·simp only [Act.put, List.setIfInBounds_toArray, List.set_cons_zero, List.set_cons_succ, i64_w, i32_w]
     rfl
    refine pure_ (i := 9) (N := some 29) (v := ?_) (a' := ?_) #[true, true, true, true, true, true, true, true, true, true, false, false, false] rfl rfl (any_of HT_.out (by kernel_rfl)) (fun _ _ _ h => h) (Or.inl ⟨by rfl, ?_⟩) ?_ ?_
    rotate_left
    ·intro w'
     go_simp
     with_reducible rfl
    rotate_left
    ·simp only [Act.put, List.setIfInBounds_toArray, List.set_cons_zero, List.set_cons_succ, i64_w, i32_w]
     rfl
    refine pure_ (i := 10) (N := some 30) (v := ?_) (a' := ?_) #[true, true, true, true, true, true, true, true, true, true, true, false, false] rfl rfl (any_of HT_.out (by kernel_rfl)) (fun _ _ _ h => h) (Or.inl ⟨by rfl, ?_⟩) ?_ ?_
    rotate_left
    ·intro w'
     go_simp
     with_reducible rfl
    rotate_left
    ·simp only [Act.put, List.setIfInBounds_toArray, List.set_cons_zero, List.set_cons_succ, i64_w, i32_w]
     rfl
    refine pure_ (i := 11) (N := some 31) (v := ?_) (a' := ?_) #[true, true, true, true, true, true, true, true, true, true, true, true, false] rfl rfl (any_of HT_.out (by kernel_rfl)) (fun _ _ _ h => h) (Or.inl ⟨by rfl, ?_⟩) ?_ ?_
    rotate_left
    ·intro w'
     go_simp
     with_reducible rfl
    rotate_left
    ·simp only [Act.put, List.setIfInBounds_toArray, List.set_cons_zero, List.set_cons_succ, i64_w, i32_w]
     rfl
    refine last_ (i := 12) (N := none) #[true, true, true, true, true, true, true, true, true, true, true, true, true] rfl rfl (one_of HT_.out (by kernel_rfl)) (by decide) (fun K hK => ?_)
    refine skip_ (w1 := ?_) (by rfl) rfl ?_ ?_
    rotate_left
    ·go_simp
     rfl
    refine hK.out _ _ ?_
    clear hK K
    refine done_ (done_of HT_.out (by kernel_rfl)) ?_
    try go_wp2
    go_roundg k1
    case measure => have := HK1.out; omega
    case rel => exact ⟨(y115), (wrap64 (x13_1 + 1)), (by first | rfl | (simp; done) | (simp [*]; done)), H', ⟨by have := HK1.out; omega⟩, ⟨by (with_reducible repeat (first | apply Kd.R_alloc | apply Kd.R_drewN | apply Kd.R_drew)); exact HQ22.out⟩, ⟨by repeat (first | (with_reducible first | exact HB.out | apply wA | apply pN | apply wD | refine wS ?_ GB19.out) | exact HB.out)⟩⟩
   ·rw [if_neg c7] at H
    have c7b0 : decide (x13_1 < (a0.size : Int)) = false := decide_eq_false c7
    clear c7
    obtain rfl := Option.some.inj H
    have hcv23 := own_string (P := Tryd.prog) Tryd.underlying42 Tryd.underlying5 Tryd.underlying9 (Kd.own_of_R HO_3.out)
    go_wp2
    go_ret
    exact ⟨by first | rfl | (simp [errW_none, errW_some] <;> rfl) | (simp only [← hji2]; first | rfl | (simp [errW_none, errW_some] <;> rfl)) | (simp [*, errW_none, errW_some] <;> rfl), SQ.bw⟩

/-! ### nibble_Pack: function 21 -/
def nibble_Pack.f (k : Nat) (a0 : ByteArray) : Option (ByteArray × Bool) := (nibble_Good.f k a0).bind fun t116 => (if t116 = true then ((some (([((a0.size : Int)) % 256] : List Int) : List Int)).bind fun y117 => ((nibble_two.f k a0).bind fun t120 => (if (strOfNums y117).size + t120.size ≤ 9223372036854775807 then (some ((strOfNums y117) ++ t120, true)) else (none)))) else (some ((⟨#[]⟩ : ByteArray), false)))
def nibble_Pack.T3 : Bool × List (List Nat × List Nat) := (true, [([], []), ([0], [0]), ([1], [1]), ([2], [2]), ([3], [3]), ([], []), ([5], [5]), ([4, 6], [4, 6]), ([7, 6, 0, 1, 2, 3, 4, 5, 6, 7], [7]), ([8, 0, 1, 2, 3, 4, 5, 6, 7, 8], [])])
def nibble_Pack.B3 : List Nat := [0, 1, 3, 7, 15, 0, 32, 127, 255, 511]
theorem nibble_Pack.tab3 : rtab .any (opsOf Tryd.f21 3) = nibble_Pack.T3 := by kernel_rfl
theorem nibble_Pack.bits3 : waitsOk nibble_Pack.T3.2 nibble_Pack.B3 = true := by kernel_rfl
set_option maxHeartbeats 8000000 in
set_option maxRecDepth 100000 in
theorem nibble_Pack.calls (k : Nat) (a0 : ByteArray) (r1 : ByteArray) (r2 : Bool) (w : World) (h : nibble_Pack.f k a0 = some (r1, r2)) :
  Calls Tryd.prog 21 #[.string a0] w fun e w' => e = .returned (.tuple #[.string r1, .bool r2]) ∧ Below w.heap.size w w' := by
 have HB := A0_.mk (Below.refl w.heap.size w)
 have H : ((nibble_Good.f k a0).bind fun t116 => (if t116 = true then ((some (([((a0.size : Int)) % 256] : List Int) : List Int)).bind fun y117 => ((nibble_two.f k a0).bind fun t120 => (if (strOfNums y117).size + t120.size ≤ 9223372036854775807 then (some ((strOfNums y117) ++ t120, true)) else (none)))) else (some ((⟨#[]⟩ : ByteArray), false)))) = some (r1, r2) := h
 clear h
 replace H := Option.bind_eq_some_iff.mp H
 obtain ⟨t116, A20, H⟩ := H
 try dsimp only at H
 have A2 := A0_.mk A20
 clear A20
 by_cases c3 : t116 = true
 ·subst c3
  rw [if_pos rfl] at H
  obtain ⟨y117, hy117⟩ : ∃ y_ : List Int, y_ = (([((a0.size : Int)) % 256] : List Int)) := ⟨_, rfl⟩
  replace H : ((nibble_two.f k a0).bind fun t120 => (if (strOfNums y117).size + t120.size ≤ 9223372036854775807 then (some ((strOfNums y117) ++ t120, true)) else (none))) = some (r1, r2) := by first | (rw [hy117]; with_reducible exact H) | (have H2_ := (Option.bind_some _ _).symm.trans H; rw [hy117]; with_reducible exact H2_) | (have H2_ := (Option.bind_some _ _).symm.trans H; with_reducible exact H2_) | with_reducible exact H | (rw [hy117]; exact H) | exact H
  have Ny117 := A0_.mk hy117
  clear hy117
  replace H := Option.bind_eq_some_iff.mp H
  obtain ⟨t120, A40, H⟩ := H
  try dsimp only at H
  have A4 := A0_.mk A40
  clear A40
  by_cases c5 : (strOfNums y117).size + t120.size ≤ 9223372036854775807
  rotate_left
  ·rw [if_neg c5] at H
   exact absurd H (by simp)
  rw [if_pos c5] at H
  have c5b0 := eq_true c5
  have c5b1 : decide ((strOfNums y117).size + t120.size ≤ 9223372036854775807) = true := decide_eq_true c5
  try have c5b2 : (9223372036854775807 < (strOfNums y117).size + t120.size) = False := eq_false (Nat.not_lt.2 c5)
  simp only [Option.some.injEq, Prod.mk.injEq] at H
  obtain ⟨rfl, rfl⟩ := H
  go_enter Tryd.func21, Tryd.ntmps21
  try go_wp2_with (first | ((with_reducible refine gC (f := 27) rfl ?_); refine gL (some 5) rfl rfl Tryd.func27 (by kernel_rfl) rfl #[.string a0] rfl SQ.sm ?_; (with_reducible refine (nibble_Good.calls k a0 true _ A2.out).mono ?_); rintro e w6 ⟨rfl, hb⟩; refine ⟨_, rfl, ?_⟩; replace HB := A0_.mk (wT SQ.bw hb); clear hb))
  replace HB := A0_.mk (wD HB.out)
  refine start_ (n := 10) (S := fun w' => True) (ds := []) #[false, false, false, false, false, false, false, false, false, false] (by kernel_rfl) rfl rfl trivial (fun hHeld => ?_); refine with_tabW nibble_Pack.tab3 nibble_Pack.bits3 (fun HT_ HW_ => ?_)
  generalize w6.drew = w7 at HB hHeld ⊢
  refine pure_ (i := 0) (N := some 7) (v := ?_) (a' := ?_) #[true, false, false, false, false, false, false, false, false, false] rfl rfl (any_of HT_.out (by kernel_rfl)) (fun _ _ _ h => h) (Or.inl ⟨by rfl, ?_⟩) ?_ ?_
  rotate_left
  ·intro w'
   go_simp
   with_reducible rfl
  rotate_left
  ·simp only [Act.put, List.setIfInBounds_toArray, List.set_cons_zero, List.set_cons_succ, i64_w, i32_w]
   rfl
  refine pure_ (i := 1) (N := some 8) (v := ?_) (a' := ?_) #[true, true, false, false, false, false, false, false, false, false] rfl rfl (any_of HT_.out (by kernel_rfl)) (fun _ _ _ h => h) (Or.inl ⟨by rfl, ?_⟩) ?_ ?_
  rotate_left
  ·intro w'
   go_simp
   with_reducible rfl
  rotate_left
  ·simp only [Act.put, List.setIfInBounds_toArray, List.set_cons_zero, List.set_cons_succ, i64_w, i32_w]
   rfl
  refine pure_ (i := 2) (N := some 9) (v := ?_) (a' := ?_) #[true, true, true, false, false, false, false, false, false, false] rfl rfl (any_of HT_.out (by kernel_rfl)) (fun _ _ _ h => h) (Or.inl ⟨by rfl, ?_⟩) ?_ ?_
  rotate_left
  ·intro w'
   go_simp
   with_reducible rfl
  rotate_left
  ·simp only [Act.put, List.setIfInBounds_toArray, List.set_cons_zero, List.set_cons_succ, i64_w, i32_w]
   rfl
  refine pure_ (i := 5) (N := some 12) (v := ?_) (a' := ?_) #[true, true, true, false, false, true, false, false, false, false] rfl rfl (any_of HT_.out (by kernel_rfl)) (fun _ _ _ h => h) (Or.inl ⟨by rfl, ?_⟩) ?_ ?_
  rotate_left
  ·intro w'
   go_simp
   with_reducible rfl
  rotate_left
  ·simp only [Act.put, List.setIfInBounds_toArray, List.set_cons_zero, List.set_cons_succ, i64_w, i32_w]
   rfl
  refine join_ (σ := Value) 3 #[true, true, true, true, true, true, true, false, false, false] (fun s_ => [(10, s_), (11, .string (strOfNums y117)), (13, .string t120)]) (fun s_ w' => (Kd.R (Kd.int .u8) 5 w' w.heap.size (fun _ => True) s_ y117) ∧ (Below w.heap.size w w')) ?_ ?_
  rotate_left
  ·intro hCont
   refine two_ (i := 3) (j := 6) (Ni := some 10) (Nj := some 13) #[true, true, true, true, false, true, false, false, false, false] #[true, true, true, false, false, true, true, false, false, false] rfl rfl rfl rfl (two_of HT_.out (by kernel_rfl)) (by decide) (by decide) (fun K hK => ?_) (fun K hK => ?_)
   ·skip
    refine Kd.R_lit_step (Kd.int .u8) _ 5 ?hg (N := 10) ?hd (xs := ([((a0.size : Int)) % 256] : List Int)) (inner := [.int .u8 (((a0.size : Int)) % 256)]) (ok := fun _ => True) (okp := fun _ => True) ?hr ?hp (fun _ hk => hk) trivial (Below.refl _ _) (Nat.le_refl _) (by simp) ?_; (case hd => rfl); (case hg => rfl); (case hr => first | (go_simp; done) | (go_simp; rfl)); (case hp => exact (Reps.one (show Kd.M (Kd.int .u8) _ _ _ (((a0.size : Int)) % 256) [.int .u8 (((a0.size : Int)) % 256)] from rfl) (Reps.none _ _)))
    intro v118 w8 ho9 hb hg_ hnew_
    clear hg_ hnew_
    (first | rw [← Ny117.out] at ho9 | (simp only [Int.reduceToNat] at ho9; rw [← Ny117.out] at ho9))
    have HO119 := A0_.mk (Kd.R_lower ho9 (wZ SQ.bw))
    replace HB := A0_.mk (wT SQ.bw hb)
    clear hb ho9
    refine hK.out _ _ trivial (fun hHeld => ?_)
    clear hK K
    refine norm_ (a' := ?_) ?_ ?_
    rotate_left
    ·show Act.put _ (some 10) _ = _
     simp only [Act.put, List.setIfInBounds_toArray, List.set_cons_zero, List.set_cons_succ, i64_w, i32_w]
     rfl
    refine two_ (i := 4) (j := 6) (Ni := some 11) (Nj := some 13) #[true, true, true, true, true, true, false, false, false, false] #[true, true, true, true, false, true, true, false, false, false] rfl rfl rfl rfl (two_of HT_.out (by kernel_rfl)) (by decide) (by decide) (fun K hK => ?_) (fun K hK => ?_)
    ·skip
     have hcv10 := own_string (P := Tryd.prog) Tryd.underlying42 Tryd.underlying5 Tryd.underlying9 (Kd.own_of_R HO119.out)
     refine value_ (w1 := ?_) (v := ?_) (by rfl) rfl ?_ ?_
     rotate_left 2
     ·go_simp
      constructor
      ·rfl
      ·rfl
     clear hcv10
     refine hK.out _ _ trivial (fun hHeld => ?_)
     clear hK K
     refine norm_ (a' := ?_) ?_ ?_
     rotate_left
     ·show Act.put _ (some 11) _ = _
      simp only [Act.put, List.setIfInBounds_toArray, List.set_cons_zero, List.set_cons_succ, i64_w, i32_w]
      rfl
     refine one_ (i := 6) (N := some 13) #[true, true, true, true, true, true, true, false, false, false] rfl rfl (one_of HT_.out (by kernel_rfl)) (by decide) (fun K hK => ?_)
     refine goes_ Tryd.func35 (by kernel_rfl) rfl #[.string a0] (by rfl) rfl rfl SQ.sm ?_
     with_reducible refine (nibble_two.calls k a0 t120 _ A4.out).mono ?_
     rintro e w11 ⟨rfl, hb⟩
     refine ⟨_, rfl, ?_⟩
     replace HO119 := A0_.mk (Kd.R_below (by (with_reducible repeat (first | apply Kd.R_alloc | apply Kd.R_drewN | apply Kd.R_drew)); exact HO119.out) hb)
     replace HB := A0_.mk (wT SQ.bw hb)
     (try clear hb)
     (try clear hb2)
     (try clear hk)
     (try clear hi)
     refine hK.out _ _ trivial (fun hHeld => ?_)
     clear hK K
     refine norm_ (a' := ?_) ?_ ?_
     rotate_left
     ·show Act.put _ (some 13) _ = _
      simp only [Act.put, List.setIfInBounds_toArray, List.set_cons_zero, List.set_cons_succ, i64_w, i32_w]
      rfl
     exact norm_ (by simp only [putAll, Act.put, List.setIfInBounds_toArray, List.set_cons_zero, List.set_cons_succ]) (hCont (v118) _ ⟨(by (with_reducible repeat (first | apply Kd.R_alloc | apply Kd.R_drewN | apply Kd.R_drew)); exact HO119.out), SQ.bw⟩)
    ·skip
     refine goes_ Tryd.func35 (by kernel_rfl) rfl #[.string a0] (by rfl) rfl rfl SQ.sm ?_
     with_reducible refine (nibble_two.calls k a0 t120 _ A4.out).mono ?_
     rintro e w10 ⟨rfl, hb⟩
     refine ⟨_, rfl, ?_⟩
     replace HO119 := A0_.mk (Kd.R_below (by (with_reducible repeat (first | apply Kd.R_alloc | apply Kd.R_drewN | apply Kd.R_drew)); exact HO119.out) hb)
     replace HB := A0_.mk (wT SQ.bw hb)
     (try clear hb)
     (try clear hb2)
     (try clear hk)
     (try clear hi)
     refine hK.out _ _ trivial (fun hHeld => ?_)
     clear hK K
     refine norm_ (a' := ?_) ?_ ?_
     rotate_left
     ·show Act.put _ (some 13) _ = _
      simp only [Act.put, List.setIfInBounds_toArray, List.set_cons_zero, List.set_cons_succ, i64_w, i32_w]
      rfl
     refine one_ (i := 4) (N := some 11) #[true, true, true, true, true, true, true, false, false, false] rfl rfl (one_of HT_.out (by kernel_rfl)) (by decide) (fun K hK => ?_)
     have hcv11 := own_string (P := Tryd.prog) Tryd.underlying42 Tryd.underlying5 Tryd.underlying9 (Kd.own_of_R HO119.out)
     refine value_ (w1 := ?_) (v := ?_) (by rfl) rfl ?_ ?_
     rotate_left 2
     ·go_simp
      constructor
      ·rfl
      ·rfl
     clear hcv11
     refine hK.out _ _ trivial (fun hHeld => ?_)
     clear hK K
     refine norm_ (a' := ?_) ?_ ?_
     rotate_left
     ·show Act.put _ (some 11) _ = _
      simp only [Act.put, List.setIfInBounds_toArray, List.set_cons_zero, List.set_cons_succ, i64_w, i32_w]
      rfl
     exact norm_ (by simp only [putAll, Act.put, List.setIfInBounds_toArray, List.set_cons_zero, List.set_cons_succ]) (hCont (v118) _ ⟨(by (with_reducible repeat (first | apply Kd.R_alloc | apply Kd.R_drewN | apply Kd.R_drew)); exact HO119.out), SQ.bw⟩)
   ·skip
    refine goes_ Tryd.func35 (by kernel_rfl) rfl #[.string a0] (by rfl) rfl rfl SQ.sm ?_
    with_reducible refine (nibble_two.calls k a0 t120 _ A4.out).mono ?_
    rintro e w8 ⟨rfl, hb⟩
    refine ⟨_, rfl, ?_⟩
    replace HB := A0_.mk (wT SQ.bw hb)
    (try clear hb)
    (try clear hb2)
    (try clear hk)
    (try clear hi)
    refine hK.out _ _ trivial (fun hHeld => ?_)
    clear hK K
    refine norm_ (a' := ?_) ?_ ?_
    rotate_left
    ·show Act.put _ (some 13) _ = _
     simp only [Act.put, List.setIfInBounds_toArray, List.set_cons_zero, List.set_cons_succ, i64_w, i32_w]
     rfl
    refine one_ (i := 3) (N := some 10) #[true, true, true, true, false, true, true, false, false, false] rfl rfl (one_of HT_.out (by kernel_rfl)) (by decide) (fun K hK => ?_)
    refine Kd.R_lit_step (Kd.int .u8) _ 5 ?hg (N := 10) ?hd (xs := ([((a0.size : Int)) % 256] : List Int)) (inner := [.int .u8 (((a0.size : Int)) % 256)]) (ok := fun _ => True) (okp := fun _ => True) ?hr ?hp (fun _ hk => hk) trivial (Below.refl _ _) (Nat.le_refl _) (by simp) ?_; (case hd => rfl); (case hg => rfl); (case hr => first | (go_simp; done) | (go_simp; rfl)); (case hp => exact (Reps.one (show Kd.M (Kd.int .u8) _ _ _ (((a0.size : Int)) % 256) [.int .u8 (((a0.size : Int)) % 256)] from rfl) (Reps.none _ _)))
    intro v118 w9 ho10 hb hg_ hnew_
    clear hg_ hnew_
    (first | rw [← Ny117.out] at ho10 | (simp only [Int.reduceToNat] at ho10; rw [← Ny117.out] at ho10))
    have HO119 := A0_.mk (Kd.R_lower ho10 (wZ SQ.bw))
    replace HB := A0_.mk (wT SQ.bw hb)
    clear hb ho10
    refine hK.out _ _ trivial (fun hHeld => ?_)
    clear hK K
    refine norm_ (a' := ?_) ?_ ?_
    rotate_left
    ·show Act.put _ (some 10) _ = _
     simp only [Act.put, List.setIfInBounds_toArray, List.set_cons_zero, List.set_cons_succ, i64_w, i32_w]
     rfl
    refine one_ (i := 4) (N := some 11) #[true, true, true, true, true, true, true, false, false, false] rfl rfl (one_of HT_.out (by kernel_rfl)) (by decide) (fun K hK => ?_)
    have hcv11 := own_string (P := Tryd.prog) Tryd.underlying42 Tryd.underlying5 Tryd.underlying9 (Kd.own_of_R HO119.out)
    refine value_ (w1 := ?_) (v := ?_) (by rfl) rfl ?_ ?_
    rotate_left 2
    ·go_simp
     constructor
     ·rfl
     ·rfl
    clear hcv11
    refine hK.out _ _ trivial (fun hHeld => ?_)
    clear hK K
    refine norm_ (a' := ?_) ?_ ?_
    rotate_left
    ·show Act.put _ (some 11) _ = _
     simp only [Act.put, List.setIfInBounds_toArray, List.set_cons_zero, List.set_cons_succ, i64_w, i32_w]
     rfl
    exact norm_ (by simp only [putAll, Act.put, List.setIfInBounds_toArray, List.set_cons_zero, List.set_cons_succ]) (hCont (v118) _ ⟨(by (with_reducible repeat (first | apply Kd.R_alloc | apply Kd.R_drewN | apply Kd.R_drew)); exact HO119.out), SQ.bw⟩)
  rintro v118 w12 ⟨h0_, h1_⟩
  have HO119 : A0_ (Kd.R (Kd.int .u8) 5 w12 w.heap.size (fun _ => True) v118 y117) := ⟨h0_⟩
  replace HB : A0_ (Below w.heap.size w w12) := ⟨h1_⟩
  clear h0_ h1_
  have hHeld := trivial
  refine norm_ (a' := ?_) ?_ ?_
  rotate_left
  ·simp only [putAll, Act.put, List.setIfInBounds_toArray, List.set_cons_zero, List.set_cons_succ]
   rfl
  refine pure_ (i := 7) (N := some 14) (v := ?_) (a' := ?_) #[true, true, true, true, true, true, true, true, false, false] rfl rfl (any_of HT_.out (by kernel_rfl)) (fun _ _ _ h => h) (Or.inl ⟨by rfl, ?_⟩) ?_ ?_
  rotate_left
  ·intro w'
   go_simp
   with_reducible rfl
  rotate_left
  ·simp only [Act.put, List.setIfInBounds_toArray, List.set_cons_zero, List.set_cons_succ, i64_w, i32_w]
   rfl
  refine pure_ (i := 8) (N := some 2) (v := ?_) (a' := ?_) #[true, true, true, true, true, true, true, true, true, false] rfl rfl (any_of HT_.out (by kernel_rfl)) (fun _ _ _ h => h) (Or.inl ⟨by rfl, ?_⟩) ?_ ?_
  rotate_left
  ·intro w'
   go_simp
   with_reducible rfl
  rotate_left
  ·simp only [Act.put, List.setIfInBounds_toArray, List.set_cons_zero, List.set_cons_succ, i64_w, i32_w]
   rfl
  refine pure_ (i := 9) (N := some 3) (v := ?_) (a' := ?_) #[true, true, true, true, true, true, true, true, true, true] rfl rfl (any_of HT_.out (by kernel_rfl)) (fun _ _ _ h => h) (Or.inl ⟨by rfl, ?_⟩) ?_ ?_
  rotate_left
  ·intro w'
   go_simp
   with_reducible rfl
  rotate_left
  ·simp only [Act.put, List.setIfInBounds_toArray, List.set_cons_zero, List.set_cons_succ, i64_w, i32_w]
   rfl
  refine done_ (done_of HT_.out (by kernel_rfl)) ?_
  try go_wp2
  go_ret2
  exact ⟨SQ.er, SQ.bw⟩
 ·replace c3 := Bool.eq_false_iff.mpr c3
  subst c3
  rw [if_neg (show ¬ (false = true) by decide)] at H
  simp only [Option.some.injEq, Prod.mk.injEq] at H
  obtain ⟨rfl, rfl⟩ := H
  go_enter Tryd.func21, Tryd.ntmps21
  go_wp2_with (first | ((with_reducible refine gC (f := 27) rfl ?_); refine gL (some 5) rfl rfl Tryd.func27 (by kernel_rfl) rfl #[.string a0] rfl SQ.sm ?_; (with_reducible refine (nibble_Good.calls k a0 false _ A2.out).mono ?_); rintro e w13 ⟨rfl, hb⟩; refine ⟨_, rfl, ?_⟩; replace HB := A0_.mk (wT SQ.bw hb); clear hb))
  go_ret2
  exact ⟨SQ.er, SQ.bw⟩

-- NOT PRINTED: function 65 (abi_NoEscape)

-- NOT PRINTED: function 53 (strings_Builder_copyCheck)

-- NOT PRINTED: function 66 (bytealg_MakeNoZero)

-- NOT PRINTED: function 54 (strings_Builder_grow)

-- NOT PRINTED: function 36 (strings_Builder_Grow)

-- NOT PRINTED: function 37 (strings_Builder_WriteString)

-- NOT PRINTED: function 38 (strings_Builder_String)

/-! ### strings_Join: function 22 -/
def strings_Join.f (l0 : List ByteArray) (a1 : ByteArray) : Option (ByteArray) := NodH.join_f l0 a1
theorem strings_Join.calls (A0 : Option Addr) (c0 : Nat) (l0 : List ByteArray) (a1 : ByteArray) (r : ByteArray) (w : World) (hr0 : Kd.C Kd.string w A0 l0.length l0) (hc0 : l0.length ≤ c0) (h : strings_Join.f l0 a1 = some r) :
  Calls Tryd.prog 22 #[.slice A0 l0.length c0, .string a1] w fun e w' => e = .returned (.string r) ∧ Below w.heap.size w w' := NodH.join_calls A0 c0 l0 a1 r w hr0 hc0 h


/-! ### node_value: function 23 -/
def node_value.f (a0 : ByteArray) : Option (ByteArray) := (some (([((a0.size : Int)) % 256] : List Int) : List Int)).bind fun y121 => (if (strOfNums y121).size + a0.size ≤ 9223372036854775807 then (some ((strOfNums y121) ++ a0)) else (none))
set_option maxHeartbeats 8000000 in
set_option maxRecDepth 100000 in
theorem node_value.calls (a0 : ByteArray) (r : ByteArray) (w : World) (h : node_value.f a0 = some r) :
  Calls Tryd.prog 23 #[.string a0] w fun e w' => e = .returned (.string r) ∧ Below w.heap.size w w' := by
 have HB := A0_.mk (Below.refl w.heap.size w)
 have H : ((some (([((a0.size : Int)) % 256] : List Int) : List Int)).bind fun y121 => (if (strOfNums y121).size + a0.size ≤ 9223372036854775807 then (some ((strOfNums y121) ++ a0)) else (none))) = some r := h
 clear h
 obtain ⟨y121, hy121⟩ : ∃ y_ : List Int, y_ = (([((a0.size : Int)) % 256] : List Int)) := ⟨_, rfl⟩
 replace H : (if (strOfNums y121).size + a0.size ≤ 9223372036854775807 then (some ((strOfNums y121) ++ a0)) else (none)) = some r := by first | (rw [hy121]; with_reducible exact H) | (have H2_ := (Option.bind_some _ _).symm.trans H; rw [hy121]; with_reducible exact H2_) | (have H2_ := (Option.bind_some _ _).symm.trans H; with_reducible exact H2_) | with_reducible exact H | (rw [hy121]; exact H) | exact H
 have Ny121 := A0_.mk hy121
 clear hy121
 by_cases c2 : (strOfNums y121).size + a0.size ≤ 9223372036854775807
 rotate_left
 ·rw [if_neg c2] at H
  exact absurd H (by simp)
 rw [if_pos c2] at H
 have c2b0 := eq_true c2
 have c2b1 : decide ((strOfNums y121).size + a0.size ≤ 9223372036854775807) = true := decide_eq_true c2
 try have c2b2 : (9223372036854775807 < (strOfNums y121).size + a0.size) = False := eq_false (Nat.not_lt.2 c2)
 obtain rfl := Option.some.inj H
 go_enter Tryd.func23, Tryd.ntmps23
 go_wp2_with (first | ((with_reducible refine gD (N := 6) rfl ?_); refine Kd.R_lit (Kd.int .u8) _ 5 ?hg (N := 6) ?hd (xs := ([((a0.size : Int)) % 256] : List Int)) (inner := [.int .u8 (((a0.size : Int)) % 256)]) (ok := fun _ => True) (okp := fun _ => True) ?hr ?hp (fun _ hk => hk) trivial (Below.refl _ _) (Nat.le_refl _) (by simp) ?_; (case hd => rfl); (case hg => rfl); (case hr => first | (go_simp; done) | (go_simp; rfl)); (case hp => exact (Reps.one (show Kd.M (Kd.int .u8) _ _ _ (((a0.size : Int)) % 256) [.int .u8 (((a0.size : Int)) % 256)] from rfl) (Reps.none _ _))); intro v122 w3 ho4 hb hg_ hnew_; clear hg_ hnew_; (first | rw [← Ny121.out] at ho4 | (simp only [Int.reduceToNat] at ho4; rw [← Ny121.out] at ho4)); have HO123 := A0_.mk (Kd.R_lower ho4 (wZ SQ.bw)); replace HB := A0_.mk (wT SQ.bw hb); clear hb ho4; have hcv5 := own_string (P := Tryd.prog) Tryd.underlying42 Tryd.underlying5 Tryd.underlying9 (Kd.own_of_R HO123.out)))
 go_ret
 exact ⟨SQ.er, SQ.bw⟩

/-! ### node_Encode: function 9 -/
def node_Encode.f (k : Nat) (a0_0 : Int) (a0_1 : ByteArray) (a0_2 : Bool) (a0_3 : ByteArray) (a0_4 : Int) (l0_5 : List ByteArray) : Option (ByteArray × Bool) := (node_Good.f k a0_0 a0_1 a0_2 a0_3 a0_4 l0_5).bind fun t125 => (if t125 = true then ((some (([(a0_0) % 256] : List Int) : List Int)).bind fun y126 => ((nibble_Pack.f k a0_1).bind fun bt129 => ((strings_Join.f l0_5 (⟨#[]⟩ : ByteArray)).bind fun t131 => (if a0_0 = 1 then (if (strOfNums y126).size + bt129.1.size ≤ 9223372036854775807 then ((node_value.f a0_3).bind fun t132 => (if ((strOfNums y126) ++ bt129.1).size + t132.size ≤ 9223372036854775807 then (some (((strOfNums y126) ++ bt129.1) ++ t132, true)) else (none))) else (none)) else (if a0_0 = 2 then (if (strOfNums y126).size + bt129.1.size ≤ 9223372036854775807 then (if ((strOfNums y126) ++ bt129.1).size + t131.size ≤ 9223372036854775807 then (some (((strOfNums y126) ++ bt129.1) ++ t131, true)) else (none)) else (none)) else ((some (([(a0_4 / 256) % 256, (a0_4) % 256] : List Int) : List Int)).bind fun y133 => (if (strOfNums y126).size + (strOfNums y133).size ≤ 9223372036854775807 then (if a0_2 = true then (if ((strOfNums y126) ++ (strOfNums y133)).size + 1 ≤ 9223372036854775807 then ((node_value.f a0_3).bind fun t136 => (if (((strOfNums y126) ++ (strOfNums y133)) ++ (⟨#[1]⟩ : ByteArray)).size + t136.size ≤ 9223372036854775807 then (if ((((strOfNums y126) ++ (strOfNums y133)) ++ (⟨#[1]⟩ : ByteArray)) ++ t136).size + t131.size ≤ 9223372036854775807 then (some (((((strOfNums y126) ++ (strOfNums y133)) ++ (⟨#[1]⟩ : ByteArray)) ++ t136) ++ t131, true)) else (none)) else (none))) else (none)) else (if ((strOfNums y126) ++ (strOfNums y133)).size + 1 ≤ 9223372036854775807 then (if (((strOfNums y126) ++ (strOfNums y133)) ++ (⟨#[0]⟩ : ByteArray)).size + t131.size ≤ 9223372036854775807 then (some ((((strOfNums y126) ++ (strOfNums y133)) ++ (⟨#[0]⟩ : ByteArray)) ++ t131, true)) else (none)) else (none))) else (none)))))))) else (some ((⟨#[]⟩ : ByteArray), false)))
set_option maxHeartbeats 8000000 in
set_option maxRecDepth 100000 in
theorem node_Encode.calls (k : Nat) (a0_0 : Int) (a0_1 : ByteArray) (a0_2 : Bool) (a0_3 : ByteArray) (a0_4 : Int) (A0_5 : Option Addr) (c0_5 : Nat) (l0_5 : List ByteArray) (r1 : ByteArray) (r2 : Bool) (w : World) (hr0_5 : Kd.C Kd.string w A0_5 l0_5.length l0_5) (hc0_5 : l0_5.length ≤ c0_5) (h : node_Encode.f k a0_0 a0_1 a0_2 a0_3 a0_4 l0_5 = some (r1, r2)) :
  Calls Tryd.prog 9 #[.agg #[.int .i64 a0_0, .string a0_1, .bool a0_2, .string a0_3, .int .i64 a0_4, .slice A0_5 l0_5.length c0_5]] w fun e w' => e = .returned (.tuple #[.string r1, .bool r2]) ∧ Below w.heap.size w w' := by
 have hu24 := Tryd.underlying24
 have HR0_5 := A0_.mk hr0_5
 have HC0_5 := A0_.mk hc0_5
 clear hr0_5 hc0_5
 have HB := A0_.mk (Below.refl w.heap.size w)
 have H : ((node_Good.f k a0_0 a0_1 a0_2 a0_3 a0_4 l0_5).bind fun t125 => (if t125 = true then ((some (([(a0_0) % 256] : List Int) : List Int)).bind fun y126 => ((nibble_Pack.f k a0_1).bind fun bt129 => ((strings_Join.f l0_5 (⟨#[]⟩ : ByteArray)).bind fun t131 => (if a0_0 = 1 then (if (strOfNums y126).size + bt129.1.size ≤ 9223372036854775807 then ((node_value.f a0_3).bind fun t132 => (if ((strOfNums y126) ++ bt129.1).size + t132.size ≤ 9223372036854775807 then (some (((strOfNums y126) ++ bt129.1) ++ t132, true)) else (none))) else (none)) else (if a0_0 = 2 then (if (strOfNums y126).size + bt129.1.size ≤ 9223372036854775807 then (if ((strOfNums y126) ++ bt129.1).size + t131.size ≤ 9223372036854775807 then (some (((strOfNums y126) ++ bt129.1) ++ t131, true)) else (none)) else (none)) else ((some (([(a0_4 / 256) % 256, (a0_4) % 256] : List Int) : List Int)).bind fun y133 => (if (strOfNums y126).size + (strOfNums y133).size ≤ 9223372036854775807 then (if a0_2 = true then (if ((strOfNums y126) ++ (strOfNums y133)).size + 1 ≤ 9223372036854775807 then ((node_value.f a0_3).bind fun t136 => (if (((strOfNums y126) ++ (strOfNums y133)) ++ (⟨#[1]⟩ : ByteArray)).size + t136.size ≤ 9223372036854775807 then (if ((((strOfNums y126) ++ (strOfNums y133)) ++ (⟨#[1]⟩ : ByteArray)) ++ t136).size + t131.size ≤ 9223372036854775807 then (some (((((strOfNums y126) ++ (strOfNums y133)) ++ (⟨#[1]⟩ : ByteArray)) ++ t136) ++ t131, true)) else (none)) else (none))) else (none)) else (if ((strOfNums y126) ++ (strOfNums y133)).size + 1 ≤ 9223372036854775807 then (if (((strOfNums y126) ++ (strOfNums y133)) ++ (⟨#[0]⟩ : ByteArray)).size + t131.size ≤ 9223372036854775807 then (some ((((strOfNums y126) ++ (strOfNums y133)) ++ (⟨#[0]⟩ : ByteArray)) ++ t131, true)) else (none)) else (none))) else (none)))))))) else (some ((⟨#[]⟩ : ByteArray), false)))) = some (r1, r2) := h
 clear h
 replace H := Option.bind_eq_some_iff.mp H
 obtain ⟨t125, A20, H⟩ := H
 try dsimp only at H
 have A2 := A0_.mk A20
 clear A20
 by_cases c3 : t125 = true
 ·subst c3
  rw [if_pos rfl] at H
  obtain ⟨y126, hy126⟩ : ∃ y_ : List Int, y_ = (([(a0_0) % 256] : List Int)) := ⟨_, rfl⟩
  replace H : ((nibble_Pack.f k a0_1).bind fun bt129 => ((strings_Join.f l0_5 (⟨#[]⟩ : ByteArray)).bind fun t131 => (if a0_0 = 1 then (if (strOfNums y126).size + bt129.1.size ≤ 9223372036854775807 then ((node_value.f a0_3).bind fun t132 => (if ((strOfNums y126) ++ bt129.1).size + t132.size ≤ 9223372036854775807 then (some (((strOfNums y126) ++ bt129.1) ++ t132, true)) else (none))) else (none)) else (if a0_0 = 2 then (if (strOfNums y126).size + bt129.1.size ≤ 9223372036854775807 then (if ((strOfNums y126) ++ bt129.1).size + t131.size ≤ 9223372036854775807 then (some (((strOfNums y126) ++ bt129.1) ++ t131, true)) else (none)) else (none)) else ((some (([(a0_4 / 256) % 256, (a0_4) % 256] : List Int) : List Int)).bind fun y133 => (if (strOfNums y126).size + (strOfNums y133).size ≤ 9223372036854775807 then (if a0_2 = true then (if ((strOfNums y126) ++ (strOfNums y133)).size + 1 ≤ 9223372036854775807 then ((node_value.f a0_3).bind fun t136 => (if (((strOfNums y126) ++ (strOfNums y133)) ++ (⟨#[1]⟩ : ByteArray)).size + t136.size ≤ 9223372036854775807 then (if ((((strOfNums y126) ++ (strOfNums y133)) ++ (⟨#[1]⟩ : ByteArray)) ++ t136).size + t131.size ≤ 9223372036854775807 then (some (((((strOfNums y126) ++ (strOfNums y133)) ++ (⟨#[1]⟩ : ByteArray)) ++ t136) ++ t131, true)) else (none)) else (none))) else (none)) else (if ((strOfNums y126) ++ (strOfNums y133)).size + 1 ≤ 9223372036854775807 then (if (((strOfNums y126) ++ (strOfNums y133)) ++ (⟨#[0]⟩ : ByteArray)).size + t131.size ≤ 9223372036854775807 then (some ((((strOfNums y126) ++ (strOfNums y133)) ++ (⟨#[0]⟩ : ByteArray)) ++ t131, true)) else (none)) else (none))) else (none))))))) = some (r1, r2) := by first | (rw [hy126]; with_reducible exact H) | (have H2_ := (Option.bind_some _ _).symm.trans H; rw [hy126]; with_reducible exact H2_) | (have H2_ := (Option.bind_some _ _).symm.trans H; with_reducible exact H2_) | with_reducible exact H | (rw [hy126]; exact H) | exact H
  have Ny126 := A0_.mk hy126
  clear hy126
  replace H := Option.bind_eq_some_iff.mp H
  obtain ⟨⟨t129, t130⟩, A40, H⟩ := H
  try dsimp only at H
  have A4 := A0_.mk A40
  clear A40
  replace H := Option.bind_eq_some_iff.mp H
  obtain ⟨t131, A50, H⟩ := H
  try dsimp only at H
  have A5 := A0_.mk A50
  clear A50
  by_cases c6 : a0_0 = 1
  ·rw [if_pos c6] at H
   have c6b0 : (a0_0 == 1) = true := beq_iff_eq.mpr c6
   have c6b1 : (a0_0 != 1) = false := bne_eq_false_iff_eq.mpr c6
   clear c6
   by_cases c7 : (strOfNums y126).size + t129.size ≤ 9223372036854775807
   rotate_left
   ·rw [if_neg c7] at H
    exact absurd H (by simp)
   rw [if_pos c7] at H
   have c7b0 := eq_true c7
   have c7b1 : decide ((strOfNums y126).size + t129.size ≤ 9223372036854775807) = true := decide_eq_true c7
   try have c7b2 : (9223372036854775807 < (strOfNums y126).size + t129.size) = False := eq_false (Nat.not_lt.2 c7)
   replace H := Option.bind_eq_some_iff.mp H
   obtain ⟨t132, A80, H⟩ := H
   try dsimp only at H
   have A8 := A0_.mk A80
   clear A80
   by_cases c9 : ((strOfNums y126) ++ t129).size + t132.size ≤ 9223372036854775807
   rotate_left
   ·rw [if_neg c9] at H
    exact absurd H (by simp)
   rw [if_pos c9] at H
   have c9b0 := eq_true c9
   have c9b1 : decide (((strOfNums y126) ++ t129).size + t132.size ≤ 9223372036854775807) = true := decide_eq_true c9
   try have c9b2 : (9223372036854775807 < ((strOfNums y126) ++ t129).size + t132.size) = False := eq_false (Nat.not_lt.2 c9)
   have c9z9 := c9b2
   try simp only [ByteArray.size_append] at c9z9
   try have c9z8 : ¬ _ := of_eq_false c9z9
   simp only [Option.some.injEq, Prod.mk.injEq] at H
   obtain ⟨rfl, rfl⟩ := H
   go_enter Tryd.func9, Tryd.ntmps9
   go_wp2_with (first | ((with_reducible refine gD (N := 1) rfl ?_); refine xE ?hg (N := 1) ?hd (cs := #[.int .i64 a0_0, .string a0_1, .bool a0_2, .string a0_3, .int .i64 a0_4, .slice A0_5 l0_5.length c0_5]) (t := 24) ?hr ?_; (case hd => rfl); (case hg => rfl); (case hr => first | (go_simp; done) | (go_simp; rfl)); intro gb124 hg w10 hbox hb; have BK124 := A0_.mk (hbox); have GW124 := A0_.mk ((by rw [hg]; exact (wZ SQ.bw) : w.heap.size ≤ gb124)); have GE124 := A0_.mk ((by rw [hg]; exact (wZ SQ.bw) : w.heap.size ≤ gb124)); replace HB := A0_.mk (wT SQ.bw hb); clear hb hbox hg; obtain ⟨hcz11_0, hcz11_1, hcz11_2, hcz11_3, hcz11_4, hcz11_5, hfz11_0, hfz11_1, hfz11_2, hfz11_3, hfz11_4, hfz11_5⟩ := SQ.cs6 BK124.out) | ((with_reducible refine gC (f := 13) rfl ?_); refine gL (some 9) rfl rfl Tryd.func13 (by kernel_rfl) rfl #[.agg #[.int .i64 a0_0, .string a0_1, .bool a0_2, .string a0_3, .int .i64 a0_4, .slice A0_5 l0_5.length c0_5]] rfl SQ.sm ?_; (with_reducible refine (node_Good.calls k a0_0 a0_1 a0_2 a0_3 a0_4 _ _ l0_5 true _ ?side1 ?side2 A2.out).mono ?_); (case side1 => repeat (first | exact (Kd.C_below HR0_5.out HB.out) | (with_reducible refine Kd.C_alloc ?_ _) | (with_reducible refine Kd.C_drewN ?_ _) | (with_reducible refine Kd.C_drew ?_))); (case side2 => exact HC0_5.out); rintro e w12 ⟨rfl, hb⟩; refine ⟨_, rfl, ?_⟩; replace BK124 := A0_.mk (bB (g := gb124) SQ.kw hb); replace HB := A0_.mk (wT SQ.bw hb); clear hb; obtain ⟨hcz13_0, hcz13_1, hcz13_2, hcz13_3, hcz13_4, hcz13_5, hfz13_0, hfz13_1, hfz13_2, hfz13_3, hfz13_4, hfz13_5⟩ := SQ.cs6 BK124.out) | ((with_reducible refine gD (N := 14) rfl ?_); refine Kd.R_lit (Kd.int .u8) _ 5 ?hg (N := 14) ?hd (xs := ([(a0_0) % 256] : List Int)) (inner := [.int .u8 ((a0_0) % 256)]) (ok := fun _ => True) (okp := fun _ => True) ?hr ?hp (fun _ hk => hk) trivial (Below.refl _ _) (Nat.le_refl _) (by simp) ?_; (case hd => rfl); (case hg => rfl); (case hr => first | (go_simp; done) | (go_simp; rfl)); (case hp => exact (Reps.one (show Kd.M (Kd.int .u8) _ _ _ ((a0_0) % 256) [.int .u8 ((a0_0) % 256)] from rfl) (Reps.none _ _))); intro v127 w14 ho15 hb hg_ hnew_; clear hg_ hnew_; (first | rw [← Ny126.out] at ho15 | (simp only [Int.reduceToNat] at ho15; rw [← Ny126.out] at ho15)); have HO128 := A0_.mk (Kd.R_lower ho15 (wZ SQ.bw)); replace BK124 := A0_.mk (bB (g := gb124) SQ.kw hb); replace HB := A0_.mk (wT SQ.bw hb); clear hb ho15; have hcv16 := own_string (P := Tryd.prog) Tryd.underlying42 Tryd.underlying5 Tryd.underlying9 (Kd.own_of_R HO128.out); obtain ⟨hcz17_0, hcz17_1, hcz17_2, hcz17_3, hcz17_4, hcz17_5, hfz17_0, hfz17_1, hfz17_2, hfz17_3, hfz17_4, hfz17_5⟩ := SQ.cs6 BK124.out) | ((with_reducible refine gC (f := 21) rfl ?_); refine gL (some 19) rfl rfl Tryd.func21 (by kernel_rfl) rfl #[.string a0_1] rfl SQ.sm ?_; (with_reducible refine (nibble_Pack.calls k a0_1 t129 t130 _ A4.out).mono ?_); rintro e w18 ⟨rfl, hb⟩; refine ⟨_, rfl, ?_⟩; replace HO128 := A0_.mk (Kd.R_below (by (with_reducible repeat (first | apply Kd.R_alloc | apply Kd.R_drewN | apply Kd.R_drew)); exact HO128.out) hb); replace BK124 := A0_.mk (bB (g := gb124) SQ.kw hb); replace HB := A0_.mk (wT SQ.bw hb); clear hb; obtain ⟨hcz19_0, hcz19_1, hcz19_2, hcz19_3, hcz19_4, hcz19_5, hfz19_0, hfz19_1, hfz19_2, hfz19_3, hfz19_4, hfz19_5⟩ := SQ.cs6 BK124.out) | ((with_reducible refine gC (f := 22) rfl ?_); refine gL (some 24) rfl rfl Tryd.func22 (by kernel_rfl) rfl #[.slice A0_5 l0_5.length c0_5, .string (⟨#[]⟩ : ByteArray)] rfl SQ.sm ?_; (with_reducible refine (strings_Join.calls _ _ l0_5 (⟨#[]⟩ : ByteArray) t131 _ ?side1 ?side2 A5.out).mono ?_); (case side1 => repeat (first | exact (Kd.C_below HR0_5.out HB.out) | (with_reducible refine Kd.C_alloc ?_ _) | (with_reducible refine Kd.C_drewN ?_ _) | (with_reducible refine Kd.C_drew ?_))); (case side2 => exact HC0_5.out); rintro e w20 ⟨rfl, hb⟩; refine ⟨_, rfl, ?_⟩; replace HO128 := A0_.mk (Kd.R_below (by (with_reducible repeat (first | apply Kd.R_alloc | apply Kd.R_drewN | apply Kd.R_drew)); exact HO128.out) hb); replace BK124 := A0_.mk (bB (g := gb124) SQ.kw hb); replace HB := A0_.mk (wT SQ.bw hb); clear hb; obtain ⟨hcz21_0, hcz21_1, hcz21_2, hcz21_3, hcz21_4, hcz21_5, hfz21_0, hfz21_1, hfz21_2, hfz21_3, hfz21_4, hfz21_5⟩ := SQ.cs6 BK124.out) | ((with_reducible refine gC (f := 23) rfl ?_); refine gL (some 34) rfl rfl Tryd.func23 (by kernel_rfl) rfl #[.string a0_3] rfl SQ.sm ?_; (with_reducible refine (node_value.calls a0_3 t132 _ A8.out).mono ?_); rintro e w22 ⟨rfl, hb⟩; refine ⟨_, rfl, ?_⟩; replace HO128 := A0_.mk (Kd.R_below (by (with_reducible repeat (first | apply Kd.R_alloc | apply Kd.R_drewN | apply Kd.R_drew)); exact HO128.out) hb); replace BK124 := A0_.mk (bB (g := gb124) SQ.kw hb); replace HB := A0_.mk (wT SQ.bw hb); clear hb))
   go_ret2
   exact ⟨SQ.er, SQ.bw⟩
  ·rw [if_neg c6] at H
   have c6b0 : (a0_0 == 1) = false := beq_eq_false_iff_ne.mpr c6
   have c6b1 : (a0_0 != 1) = true := bne_iff_ne.mpr c6
   by_cases c23 : a0_0 = 2
   ·rw [if_pos c23] at H
    have c23b0 : (a0_0 == 2) = true := beq_iff_eq.mpr c23
    have c23b1 : (a0_0 != 2) = false := bne_eq_false_iff_eq.mpr c23
    clear c23
    by_cases c24 : (strOfNums y126).size + t129.size ≤ 9223372036854775807
    rotate_left
    ·rw [if_neg c24] at H
     exact absurd H (by simp)
    rw [if_pos c24] at H
    have c24b0 := eq_true c24
    have c24b1 : decide ((strOfNums y126).size + t129.size ≤ 9223372036854775807) = true := decide_eq_true c24
    try have c24b2 : (9223372036854775807 < (strOfNums y126).size + t129.size) = False := eq_false (Nat.not_lt.2 c24)
    by_cases c25 : ((strOfNums y126) ++ t129).size + t131.size ≤ 9223372036854775807
    rotate_left
    ·rw [if_neg c25] at H
     exact absurd H (by simp)
    rw [if_pos c25] at H
    have c25b0 := eq_true c25
    have c25b1 : decide (((strOfNums y126) ++ t129).size + t131.size ≤ 9223372036854775807) = true := decide_eq_true c25
    try have c25b2 : (9223372036854775807 < ((strOfNums y126) ++ t129).size + t131.size) = False := eq_false (Nat.not_lt.2 c25)
    have c25z9 := c25b2
    try simp only [ByteArray.size_append] at c25z9
    try have c25z8 : ¬ _ := of_eq_false c25z9
    simp only [Option.some.injEq, Prod.mk.injEq] at H
    obtain ⟨rfl, rfl⟩ := H
    go_enter Tryd.func9, Tryd.ntmps9
    go_wp2_with (first | ((with_reducible refine gD (N := 1) rfl ?_); refine xE ?hg (N := 1) ?hd (cs := #[.int .i64 a0_0, .string a0_1, .bool a0_2, .string a0_3, .int .i64 a0_4, .slice A0_5 l0_5.length c0_5]) (t := 24) ?hr ?_; (case hd => rfl); (case hg => rfl); (case hr => first | (go_simp; done) | (go_simp; rfl)); intro gb124 hg w26 hbox hb; have BK124 := A0_.mk (hbox); have GW124 := A0_.mk ((by rw [hg]; exact (wZ SQ.bw) : w.heap.size ≤ gb124)); have GE124 := A0_.mk ((by rw [hg]; exact (wZ SQ.bw) : w.heap.size ≤ gb124)); replace HB := A0_.mk (wT SQ.bw hb); clear hb hbox hg; obtain ⟨hcz27_0, hcz27_1, hcz27_2, hcz27_3, hcz27_4, hcz27_5, hfz27_0, hfz27_1, hfz27_2, hfz27_3, hfz27_4, hfz27_5⟩ := SQ.cs6 BK124.out) | ((with_reducible refine gC (f := 13) rfl ?_); refine gL (some 9) rfl rfl Tryd.func13 (by kernel_rfl) rfl #[.agg #[.int .i64 a0_0, .string a0_1, .bool a0_2, .string a0_3, .int .i64 a0_4, .slice A0_5 l0_5.length c0_5]] rfl SQ.sm ?_; (with_reducible refine (node_Good.calls k a0_0 a0_1 a0_2 a0_3 a0_4 _ _ l0_5 true _ ?side1 ?side2 A2.out).mono ?_); (case side1 => repeat (first | exact (Kd.C_below HR0_5.out HB.out) | (with_reducible refine Kd.C_alloc ?_ _) | (with_reducible refine Kd.C_drewN ?_ _) | (with_reducible refine Kd.C_drew ?_))); (case side2 => exact HC0_5.out); rintro e w28 ⟨rfl, hb⟩; refine ⟨_, rfl, ?_⟩; replace BK124 := A0_.mk (bB (g := gb124) SQ.kw hb); replace HB := A0_.mk (wT SQ.bw hb); clear hb; obtain ⟨hcz29_0, hcz29_1, hcz29_2, hcz29_3, hcz29_4, hcz29_5, hfz29_0, hfz29_1, hfz29_2, hfz29_3, hfz29_4, hfz29_5⟩ := SQ.cs6 BK124.out) | ((with_reducible refine gD (N := 14) rfl ?_); refine Kd.R_lit (Kd.int .u8) _ 5 ?hg (N := 14) ?hd (xs := ([(a0_0) % 256] : List Int)) (inner := [.int .u8 ((a0_0) % 256)]) (ok := fun _ => True) (okp := fun _ => True) ?hr ?hp (fun _ hk => hk) trivial (Below.refl _ _) (Nat.le_refl _) (by simp) ?_; (case hd => rfl); (case hg => rfl); (case hr => first | (go_simp; done) | (go_simp; rfl)); (case hp => exact (Reps.one (show Kd.M (Kd.int .u8) _ _ _ ((a0_0) % 256) [.int .u8 ((a0_0) % 256)] from rfl) (Reps.none _ _))); intro v127 w30 ho31 hb hg_ hnew_; clear hg_ hnew_; (first | rw [← Ny126.out] at ho31 | (simp only [Int.reduceToNat] at ho31; rw [← Ny126.out] at ho31)); have HO128 := A0_.mk (Kd.R_lower ho31 (wZ SQ.bw)); replace BK124 := A0_.mk (bB (g := gb124) SQ.kw hb); replace HB := A0_.mk (wT SQ.bw hb); clear hb ho31; have hcv32 := own_string (P := Tryd.prog) Tryd.underlying42 Tryd.underlying5 Tryd.underlying9 (Kd.own_of_R HO128.out); obtain ⟨hcz33_0, hcz33_1, hcz33_2, hcz33_3, hcz33_4, hcz33_5, hfz33_0, hfz33_1, hfz33_2, hfz33_3, hfz33_4, hfz33_5⟩ := SQ.cs6 BK124.out) | ((with_reducible refine gC (f := 21) rfl ?_); refine gL (some 19) rfl rfl Tryd.func21 (by kernel_rfl) rfl #[.string a0_1] rfl SQ.sm ?_; (with_reducible refine (nibble_Pack.calls k a0_1 t129 t130 _ A4.out).mono ?_); rintro e w34 ⟨rfl, hb⟩; refine ⟨_, rfl, ?_⟩; replace HO128 := A0_.mk (Kd.R_below (by (with_reducible repeat (first | apply Kd.R_alloc | apply Kd.R_drewN | apply Kd.R_drew)); exact HO128.out) hb); replace BK124 := A0_.mk (bB (g := gb124) SQ.kw hb); replace HB := A0_.mk (wT SQ.bw hb); clear hb; obtain ⟨hcz35_0, hcz35_1, hcz35_2, hcz35_3, hcz35_4, hcz35_5, hfz35_0, hfz35_1, hfz35_2, hfz35_3, hfz35_4, hfz35_5⟩ := SQ.cs6 BK124.out) | ((with_reducible refine gC (f := 22) rfl ?_); refine gL (some 24) rfl rfl Tryd.func22 (by kernel_rfl) rfl #[.slice A0_5 l0_5.length c0_5, .string (⟨#[]⟩ : ByteArray)] rfl SQ.sm ?_; (with_reducible refine (strings_Join.calls _ _ l0_5 (⟨#[]⟩ : ByteArray) t131 _ ?side1 ?side2 A5.out).mono ?_); (case side1 => repeat (first | exact (Kd.C_below HR0_5.out HB.out) | (with_reducible refine Kd.C_alloc ?_ _) | (with_reducible refine Kd.C_drewN ?_ _) | (with_reducible refine Kd.C_drew ?_))); (case side2 => exact HC0_5.out); rintro e w36 ⟨rfl, hb⟩; refine ⟨_, rfl, ?_⟩; replace HO128 := A0_.mk (Kd.R_below (by (with_reducible repeat (first | apply Kd.R_alloc | apply Kd.R_drewN | apply Kd.R_drew)); exact HO128.out) hb); replace BK124 := A0_.mk (bB (g := gb124) SQ.kw hb); replace HB := A0_.mk (wT SQ.bw hb); clear hb; obtain ⟨hcz37_0, hcz37_1, hcz37_2, hcz37_3, hcz37_4, hcz37_5, hfz37_0, hfz37_1, hfz37_2, hfz37_3, hfz37_4, hfz37_5⟩ := SQ.cs6 BK124.out))
    go_ret2
    exact ⟨SQ.er, SQ.bw⟩
   ·rw [if_neg c23] at H
    have c23b0 : (a0_0 == 2) = false := beq_eq_false_iff_ne.mpr c23
    have c23b1 : (a0_0 != 2) = true := bne_iff_ne.mpr c23
    obtain ⟨y133, hy133⟩ : ∃ y_ : List Int, y_ = (([(a0_4 / 256) % 256, (a0_4) % 256] : List Int)) := ⟨_, rfl⟩
    replace H : (if (strOfNums y126).size + (strOfNums y133).size ≤ 9223372036854775807 then (if a0_2 = true then (if ((strOfNums y126) ++ (strOfNums y133)).size + 1 ≤ 9223372036854775807 then ((node_value.f a0_3).bind fun t136 => (if (((strOfNums y126) ++ (strOfNums y133)) ++ (⟨#[1]⟩ : ByteArray)).size + t136.size ≤ 9223372036854775807 then (if ((((strOfNums y126) ++ (strOfNums y133)) ++ (⟨#[1]⟩ : ByteArray)) ++ t136).size + t131.size ≤ 9223372036854775807 then (some (((((strOfNums y126) ++ (strOfNums y133)) ++ (⟨#[1]⟩ : ByteArray)) ++ t136) ++ t131, true)) else (none)) else (none))) else (none)) else (if ((strOfNums y126) ++ (strOfNums y133)).size + 1 ≤ 9223372036854775807 then (if (((strOfNums y126) ++ (strOfNums y133)) ++ (⟨#[0]⟩ : ByteArray)).size + t131.size ≤ 9223372036854775807 then (some ((((strOfNums y126) ++ (strOfNums y133)) ++ (⟨#[0]⟩ : ByteArray)) ++ t131, true)) else (none)) else (none))) else (none)) = some (r1, r2) := by first | (rw [hy133]; with_reducible exact H) | (have H2_ := (Option.bind_some _ _).symm.trans H; rw [hy133]; with_reducible exact H2_) | (have H2_ := (Option.bind_some _ _).symm.trans H; with_reducible exact H2_) | with_reducible exact H | (rw [hy133]; exact H) | exact H
    have Ny133 := A0_.mk hy133
    clear hy133
    by_cases c38 : (strOfNums y126).size + (strOfNums y133).size ≤ 9223372036854775807
    rotate_left
    ·rw [if_neg c38] at H
     exact absurd H (by simp)
    rw [if_pos c38] at H
    have c38b0 := eq_true c38
    have c38b1 : decide ((strOfNums y126).size + (strOfNums y133).size ≤ 9223372036854775807) = true := decide_eq_true c38
    try have c38b2 : (9223372036854775807 < (strOfNums y126).size + (strOfNums y133).size) = False := eq_false (Nat.not_lt.2 c38)
    by_cases c39 : a0_2 = true
    ·subst c39
     rw [if_pos rfl] at H
     by_cases c40 : ((strOfNums y126) ++ (strOfNums y133)).size + 1 ≤ 9223372036854775807
     rotate_left
     ·rw [if_neg c40] at H
      exact absurd H (by simp)
     rw [if_pos c40] at H
     have c40b0 := eq_true c40
     have c40b1 : decide (((strOfNums y126) ++ (strOfNums y133)).size + 1 ≤ 9223372036854775807) = true := decide_eq_true c40
     try have c40b2 : (9223372036854775807 < ((strOfNums y126) ++ (strOfNums y133)).size + 1) = False := eq_false (Nat.not_lt.2 c40)
     have c40z9 := c40b2
     try simp only [ByteArray.size_append] at c40z9
     try have c40z8 : ¬ _ := of_eq_false c40z9
     replace H := Option.bind_eq_some_iff.mp H
     obtain ⟨t136, A410, H⟩ := H
     try dsimp only at H
     have A41 := A0_.mk A410
     clear A410
     by_cases c42 : (((strOfNums y126) ++ (strOfNums y133)) ++ (⟨#[1]⟩ : ByteArray)).size + t136.size ≤ 9223372036854775807
     rotate_left
     ·rw [if_neg c42] at H
      exact absurd H (by simp)
     rw [if_pos c42] at H
     have c42b0 := eq_true c42
     have c42b1 : decide ((((strOfNums y126) ++ (strOfNums y133)) ++ (⟨#[1]⟩ : ByteArray)).size + t136.size ≤ 9223372036854775807) = true := decide_eq_true c42
     try have c42b2 : (9223372036854775807 < (((strOfNums y126) ++ (strOfNums y133)) ++ (⟨#[1]⟩ : ByteArray)).size + t136.size) = False := eq_false (Nat.not_lt.2 c42)
     have c42z9 := c42b2
     try simp only [ByteArray.size_append] at c42z9
     try have c42z8 : ¬ _ := of_eq_false c42z9
     by_cases c43 : ((((strOfNums y126) ++ (strOfNums y133)) ++ (⟨#[1]⟩ : ByteArray)) ++ t136).size + t131.size ≤ 9223372036854775807
     rotate_left
     ·rw [if_neg c43] at H
      exact absurd H (by simp)
     rw [if_pos c43] at H
     have c43b0 := eq_true c43
     have c43b1 : decide (((((strOfNums y126) ++ (strOfNums y133)) ++ (⟨#[1]⟩ : ByteArray)) ++ t136).size + t131.size ≤ 9223372036854775807) = true := decide_eq_true c43
     try have c43b2 : (9223372036854775807 < ((((strOfNums y126) ++ (strOfNums y133)) ++ (⟨#[1]⟩ : ByteArray)) ++ t136).size + t131.size) = False := eq_false (Nat.not_lt.2 c43)
     have c43z9 := c43b2
     try simp only [ByteArray.size_append] at c43z9
     try have c43z8 : ¬ _ := of_eq_false c43z9
     simp only [Option.some.injEq, Prod.mk.injEq] at H
     obtain ⟨rfl, rfl⟩ := H
     go_enter Tryd.func9, Tryd.ntmps9
     go_wp2_with (first | ((with_reducible refine gD (N := 1) rfl ?_); refine xE ?hg (N := 1) ?hd (cs := #[.int .i64 a0_0, .string a0_1, .bool true, .string a0_3, .int .i64 a0_4, .slice A0_5 l0_5.length c0_5]) (t := 24) ?hr ?_; (case hd => rfl); (case hg => rfl); (case hr => first | (go_simp; done) | (go_simp; rfl)); intro gb124 hg w44 hbox hb; have BK124 := A0_.mk (hbox); have GW124 := A0_.mk ((by rw [hg]; exact (wZ SQ.bw) : w.heap.size ≤ gb124)); have GE124 := A0_.mk ((by rw [hg]; exact (wZ SQ.bw) : w.heap.size ≤ gb124)); replace HB := A0_.mk (wT SQ.bw hb); clear hb hbox hg; obtain ⟨hcz45_0, hcz45_1, hcz45_2, hcz45_3, hcz45_4, hcz45_5, hfz45_0, hfz45_1, hfz45_2, hfz45_3, hfz45_4, hfz45_5⟩ := SQ.cs6 BK124.out) | ((with_reducible refine gC (f := 13) rfl ?_); refine gL (some 9) rfl rfl Tryd.func13 (by kernel_rfl) rfl #[.agg #[.int .i64 a0_0, .string a0_1, .bool true, .string a0_3, .int .i64 a0_4, .slice A0_5 l0_5.length c0_5]] rfl SQ.sm ?_; (with_reducible refine (node_Good.calls k a0_0 a0_1 true a0_3 a0_4 _ _ l0_5 true _ ?side1 ?side2 A2.out).mono ?_); (case side1 => repeat (first | exact (Kd.C_below HR0_5.out HB.out) | (with_reducible refine Kd.C_alloc ?_ _) | (with_reducible refine Kd.C_drewN ?_ _) | (with_reducible refine Kd.C_drew ?_))); (case side2 => exact HC0_5.out); rintro e w46 ⟨rfl, hb⟩; refine ⟨_, rfl, ?_⟩; replace BK124 := A0_.mk (bB (g := gb124) SQ.kw hb); replace HB := A0_.mk (wT SQ.bw hb); clear hb; obtain ⟨hcz47_0, hcz47_1, hcz47_2, hcz47_3, hcz47_4, hcz47_5, hfz47_0, hfz47_1, hfz47_2, hfz47_3, hfz47_4, hfz47_5⟩ := SQ.cs6 BK124.out) | ((with_reducible refine gD (N := 14) rfl ?_); refine Kd.R_lit (Kd.int .u8) _ 5 ?hg (N := 14) ?hd (xs := ([(a0_0) % 256] : List Int)) (inner := [.int .u8 ((a0_0) % 256)]) (ok := fun _ => True) (okp := fun _ => True) ?hr ?hp (fun _ hk => hk) trivial (Below.refl _ _) (Nat.le_refl _) (by simp) ?_; (case hd => rfl); (case hg => rfl); (case hr => first | (go_simp; done) | (go_simp; rfl)); (case hp => exact (Reps.one (show Kd.M (Kd.int .u8) _ _ _ ((a0_0) % 256) [.int .u8 ((a0_0) % 256)] from rfl) (Reps.none _ _))); intro v127 w48 ho49 hb hg_ hnew_; clear hg_ hnew_; (first | rw [← Ny126.out] at ho49 | (simp only [Int.reduceToNat] at ho49; rw [← Ny126.out] at ho49)); have HO128 := A0_.mk (Kd.R_lower ho49 (wZ SQ.bw)); replace BK124 := A0_.mk (bB (g := gb124) SQ.kw hb); replace HB := A0_.mk (wT SQ.bw hb); clear hb ho49; have hcv50 := own_string (P := Tryd.prog) Tryd.underlying42 Tryd.underlying5 Tryd.underlying9 (Kd.own_of_R HO128.out); obtain ⟨hcz51_0, hcz51_1, hcz51_2, hcz51_3, hcz51_4, hcz51_5, hfz51_0, hfz51_1, hfz51_2, hfz51_3, hfz51_4, hfz51_5⟩ := SQ.cs6 BK124.out) | ((with_reducible refine gC (f := 21) rfl ?_); refine gL (some 19) rfl rfl Tryd.func21 (by kernel_rfl) rfl #[.string a0_1] rfl SQ.sm ?_; (with_reducible refine (nibble_Pack.calls k a0_1 t129 t130 _ A4.out).mono ?_); rintro e w52 ⟨rfl, hb⟩; refine ⟨_, rfl, ?_⟩; replace HO128 := A0_.mk (Kd.R_below (by (with_reducible repeat (first | apply Kd.R_alloc | apply Kd.R_drewN | apply Kd.R_drew)); exact HO128.out) hb); replace BK124 := A0_.mk (bB (g := gb124) SQ.kw hb); replace HB := A0_.mk (wT SQ.bw hb); clear hb; obtain ⟨hcz53_0, hcz53_1, hcz53_2, hcz53_3, hcz53_4, hcz53_5, hfz53_0, hfz53_1, hfz53_2, hfz53_3, hfz53_4, hfz53_5⟩ := SQ.cs6 BK124.out) | ((with_reducible refine gC (f := 22) rfl ?_); refine gL (some 24) rfl rfl Tryd.func22 (by kernel_rfl) rfl #[.slice A0_5 l0_5.length c0_5, .string (⟨#[]⟩ : ByteArray)] rfl SQ.sm ?_; (with_reducible refine (strings_Join.calls _ _ l0_5 (⟨#[]⟩ : ByteArray) t131 _ ?side1 ?side2 A5.out).mono ?_); (case side1 => repeat (first | exact (Kd.C_below HR0_5.out HB.out) | (with_reducible refine Kd.C_alloc ?_ _) | (with_reducible refine Kd.C_drewN ?_ _) | (with_reducible refine Kd.C_drew ?_))); (case side2 => exact HC0_5.out); rintro e w54 ⟨rfl, hb⟩; refine ⟨_, rfl, ?_⟩; replace HO128 := A0_.mk (Kd.R_below (by (with_reducible repeat (first | apply Kd.R_alloc | apply Kd.R_drewN | apply Kd.R_drew)); exact HO128.out) hb); replace BK124 := A0_.mk (bB (g := gb124) SQ.kw hb); replace HB := A0_.mk (wT SQ.bw hb); clear hb; obtain ⟨hcz55_0, hcz55_1, hcz55_2, hcz55_3, hcz55_4, hcz55_5, hfz55_0, hfz55_1, hfz55_2, hfz55_3, hfz55_4, hfz55_5⟩ := SQ.cs6 BK124.out) | ((with_reducible refine gD (N := 51) rfl ?_); refine Kd.R_lit (Kd.int .u8) _ 5 ?hg (N := 51) ?hd (xs := ([(a0_4 / 256) % 256, (a0_4) % 256] : List Int)) (inner := [.int .u8 ((a0_4 / 256) % 256), .int .u8 ((a0_4) % 256)]) (ok := fun _ => True) (okp := fun _ => True) ?hr ?hp (fun _ hk => hk) trivial (Below.refl _ _) (Nat.le_refl _) (by simp) ?_; (case hd => rfl); (case hg => rfl); (case hr => first | (go_simp; done) | (go_simp; rfl)); (case hp => exact (Reps.one (show Kd.M (Kd.int .u8) _ _ _ ((a0_4 / 256) % 256) [.int .u8 ((a0_4 / 256) % 256)] from rfl) (Reps.one (show Kd.M (Kd.int .u8) _ _ _ ((a0_4) % 256) [.int .u8 ((a0_4) % 256)] from rfl) (Reps.none _ _)))); intro v134 w56 ho57 hb hg_ hnew_; clear hg_ hnew_; (first | rw [← Ny133.out] at ho57 | (simp only [Int.reduceToNat] at ho57; rw [← Ny133.out] at ho57)); have HO135 := A0_.mk (Kd.R_lower (Kd.R_new' ho57 (Kd.R_lt (by (with_reducible repeat (first | apply Kd.R_alloc | apply Kd.R_drewN | apply Kd.R_drew)); exact HO128.out))) (wZ SQ.bw)); replace HO128 := A0_.mk (Kd.R_elder' (by (with_reducible repeat (first | apply Kd.R_alloc | apply Kd.R_drewN | apply Kd.R_drew)); exact HO128.out) (Kd.R_base ho57) hb); replace BK124 := A0_.mk (bB (g := gb124) SQ.kw hb); replace HB := A0_.mk (wT SQ.bw hb); clear hb ho57; have hcv58 := own_string (P := Tryd.prog) Tryd.underlying42 Tryd.underlying5 Tryd.underlying9 (Kd.own_of_R HO135.out); obtain ⟨hcz59_0, hcz59_1, hcz59_2, hcz59_3, hcz59_4, hcz59_5, hfz59_0, hfz59_1, hfz59_2, hfz59_3, hfz59_4, hfz59_5⟩ := SQ.cs6 BK124.out) | ((with_reducible refine gC (f := 23) rfl ?_); refine gL (some 65) rfl rfl Tryd.func23 (by kernel_rfl) rfl #[.string a0_3] rfl SQ.sm ?_; (with_reducible refine (node_value.calls a0_3 t136 _ A41.out).mono ?_); rintro e w60 ⟨rfl, hb⟩; refine ⟨_, rfl, ?_⟩; replace HO128 := A0_.mk (Kd.R_below (by (with_reducible repeat (first | apply Kd.R_alloc | apply Kd.R_drewN | apply Kd.R_drew)); exact HO128.out) hb); replace HO135 := A0_.mk (Kd.R_below (by (with_reducible repeat (first | apply Kd.R_alloc | apply Kd.R_drewN | apply Kd.R_drew)); exact HO135.out) hb); replace BK124 := A0_.mk (bB (g := gb124) SQ.kw hb); replace HB := A0_.mk (wT SQ.bw hb); clear hb))
     go_ret2
     exact ⟨SQ.er, SQ.bw⟩
    ·replace c39 := Bool.eq_false_iff.mpr c39
     subst c39
     rw [if_neg (show ¬ (false = true) by decide)] at H
     by_cases c61 : ((strOfNums y126) ++ (strOfNums y133)).size + 1 ≤ 9223372036854775807
     rotate_left
     ·rw [if_neg c61] at H
      exact absurd H (by simp)
     rw [if_pos c61] at H
     have c61b0 := eq_true c61
     have c61b1 : decide (((strOfNums y126) ++ (strOfNums y133)).size + 1 ≤ 9223372036854775807) = true := decide_eq_true c61
     try have c61b2 : (9223372036854775807 < ((strOfNums y126) ++ (strOfNums y133)).size + 1) = False := eq_false (Nat.not_lt.2 c61)
     have c61z9 := c61b2
     try simp only [ByteArray.size_append] at c61z9
     try have c61z8 : ¬ _ := of_eq_false c61z9
     by_cases c62 : (((strOfNums y126) ++ (strOfNums y133)) ++ (⟨#[0]⟩ : ByteArray)).size + t131.size ≤ 9223372036854775807
     rotate_left
     ·rw [if_neg c62] at H
      exact absurd H (by simp)
     rw [if_pos c62] at H
     have c62b0 := eq_true c62
     have c62b1 : decide ((((strOfNums y126) ++ (strOfNums y133)) ++ (⟨#[0]⟩ : ByteArray)).size + t131.size ≤ 9223372036854775807) = true := decide_eq_true c62
     try have c62b2 : (9223372036854775807 < (((strOfNums y126) ++ (strOfNums y133)) ++ (⟨#[0]⟩ : ByteArray)).size + t131.size) = False := eq_false (Nat.not_lt.2 c62)
     have c62z9 := c62b2
     try simp only [ByteArray.size_append] at c62z9
     try have c62z8 : ¬ _ := of_eq_false c62z9
     simp only [Option.some.injEq, Prod.mk.injEq] at H
     obtain ⟨rfl, rfl⟩ := H
     go_enter Tryd.func9, Tryd.ntmps9
     go_wp2_with (first | ((with_reducible refine gD (N := 1) rfl ?_); refine xE ?hg (N := 1) ?hd (cs := #[.int .i64 a0_0, .string a0_1, .bool false, .string a0_3, .int .i64 a0_4, .slice A0_5 l0_5.length c0_5]) (t := 24) ?hr ?_; (case hd => rfl); (case hg => rfl); (case hr => first | (go_simp; done) | (go_simp; rfl)); intro gb124 hg w63 hbox hb; have BK124 := A0_.mk (hbox); have GW124 := A0_.mk ((by rw [hg]; exact (wZ SQ.bw) : w.heap.size ≤ gb124)); have GE124 := A0_.mk ((by rw [hg]; exact (wZ SQ.bw) : w.heap.size ≤ gb124)); replace HB := A0_.mk (wT SQ.bw hb); clear hb hbox hg; obtain ⟨hcz64_0, hcz64_1, hcz64_2, hcz64_3, hcz64_4, hcz64_5, hfz64_0, hfz64_1, hfz64_2, hfz64_3, hfz64_4, hfz64_5⟩ := SQ.cs6 BK124.out) | ((with_reducible refine gC (f := 13) rfl ?_); refine gL (some 9) rfl rfl Tryd.func13 (by kernel_rfl) rfl #[.agg #[.int .i64 a0_0, .string a0_1, .bool false, .string a0_3, .int .i64 a0_4, .slice A0_5 l0_5.length c0_5]] rfl SQ.sm ?_; (with_reducible refine (node_Good.calls k a0_0 a0_1 false a0_3 a0_4 _ _ l0_5 true _ ?side1 ?side2 A2.out).mono ?_); (case side1 => repeat (first | exact (Kd.C_below HR0_5.out HB.out) | (with_reducible refine Kd.C_alloc ?_ _) | (with_reducible refine Kd.C_drewN ?_ _) | (with_reducible refine Kd.C_drew ?_))); (case side2 => exact HC0_5.out); rintro e w65 ⟨rfl, hb⟩; refine ⟨_, rfl, ?_⟩; replace BK124 := A0_.mk (bB (g := gb124) SQ.kw hb); replace HB := A0_.mk (wT SQ.bw hb); clear hb; obtain ⟨hcz66_0, hcz66_1, hcz66_2, hcz66_3, hcz66_4, hcz66_5, hfz66_0, hfz66_1, hfz66_2, hfz66_3, hfz66_4, hfz66_5⟩ := SQ.cs6 BK124.out) | ((with_reducible refine gD (N := 14) rfl ?_); refine Kd.R_lit (Kd.int .u8) _ 5 ?hg (N := 14) ?hd (xs := ([(a0_0) % 256] : List Int)) (inner := [.int .u8 ((a0_0) % 256)]) (ok := fun _ => True) (okp := fun _ => True) ?hr ?hp (fun _ hk => hk) trivial (Below.refl _ _) (Nat.le_refl _) (by simp) ?_; (case hd => rfl); (case hg => rfl); (case hr => first | (go_simp; done) | (go_simp; rfl)); (case hp => exact (Reps.one (show Kd.M (Kd.int .u8) _ _ _ ((a0_0) % 256) [.int .u8 ((a0_0) % 256)] from rfl) (Reps.none _ _))); intro v127 w67 ho68 hb hg_ hnew_; clear hg_ hnew_; (first | rw [← Ny126.out] at ho68 | (simp only [Int.reduceToNat] at ho68; rw [← Ny126.out] at ho68)); have HO128 := A0_.mk (Kd.R_lower ho68 (wZ SQ.bw)); replace BK124 := A0_.mk (bB (g := gb124) SQ.kw hb); replace HB := A0_.mk (wT SQ.bw hb); clear hb ho68; have hcv69 := own_string (P := Tryd.prog) Tryd.underlying42 Tryd.underlying5 Tryd.underlying9 (Kd.own_of_R HO128.out); obtain ⟨hcz70_0, hcz70_1, hcz70_2, hcz70_3, hcz70_4, hcz70_5, hfz70_0, hfz70_1, hfz70_2, hfz70_3, hfz70_4, hfz70_5⟩ := SQ.cs6 BK124.out) | ((with_reducible refine gC (f := 21) rfl ?_); refine gL (some 19) rfl rfl Tryd.func21 (by kernel_rfl) rfl #[.string a0_1] rfl SQ.sm ?_; (with_reducible refine (nibble_Pack.calls k a0_1 t129 t130 _ A4.out).mono ?_); rintro e w71 ⟨rfl, hb⟩; refine ⟨_, rfl, ?_⟩; replace HO128 := A0_.mk (Kd.R_below (by (with_reducible repeat (first | apply Kd.R_alloc | apply Kd.R_drewN | apply Kd.R_drew)); exact HO128.out) hb); replace BK124 := A0_.mk (bB (g := gb124) SQ.kw hb); replace HB := A0_.mk (wT SQ.bw hb); clear hb; obtain ⟨hcz72_0, hcz72_1, hcz72_2, hcz72_3, hcz72_4, hcz72_5, hfz72_0, hfz72_1, hfz72_2, hfz72_3, hfz72_4, hfz72_5⟩ := SQ.cs6 BK124.out) | ((with_reducible refine gC (f := 22) rfl ?_); refine gL (some 24) rfl rfl Tryd.func22 (by kernel_rfl) rfl #[.slice A0_5 l0_5.length c0_5, .string (⟨#[]⟩ : ByteArray)] rfl SQ.sm ?_; (with_reducible refine (strings_Join.calls _ _ l0_5 (⟨#[]⟩ : ByteArray) t131 _ ?side1 ?side2 A5.out).mono ?_); (case side1 => repeat (first | exact (Kd.C_below HR0_5.out HB.out) | (with_reducible refine Kd.C_alloc ?_ _) | (with_reducible refine Kd.C_drewN ?_ _) | (with_reducible refine Kd.C_drew ?_))); (case side2 => exact HC0_5.out); rintro e w73 ⟨rfl, hb⟩; refine ⟨_, rfl, ?_⟩; replace HO128 := A0_.mk (Kd.R_below (by (with_reducible repeat (first | apply Kd.R_alloc | apply Kd.R_drewN | apply Kd.R_drew)); exact HO128.out) hb); replace BK124 := A0_.mk (bB (g := gb124) SQ.kw hb); replace HB := A0_.mk (wT SQ.bw hb); clear hb; obtain ⟨hcz74_0, hcz74_1, hcz74_2, hcz74_3, hcz74_4, hcz74_5, hfz74_0, hfz74_1, hfz74_2, hfz74_3, hfz74_4, hfz74_5⟩ := SQ.cs6 BK124.out) | ((with_reducible refine gD (N := 51) rfl ?_); refine Kd.R_lit (Kd.int .u8) _ 5 ?hg (N := 51) ?hd (xs := ([(a0_4 / 256) % 256, (a0_4) % 256] : List Int)) (inner := [.int .u8 ((a0_4 / 256) % 256), .int .u8 ((a0_4) % 256)]) (ok := fun _ => True) (okp := fun _ => True) ?hr ?hp (fun _ hk => hk) trivial (Below.refl _ _) (Nat.le_refl _) (by simp) ?_; (case hd => rfl); (case hg => rfl); (case hr => first | (go_simp; done) | (go_simp; rfl)); (case hp => exact (Reps.one (show Kd.M (Kd.int .u8) _ _ _ ((a0_4 / 256) % 256) [.int .u8 ((a0_4 / 256) % 256)] from rfl) (Reps.one (show Kd.M (Kd.int .u8) _ _ _ ((a0_4) % 256) [.int .u8 ((a0_4) % 256)] from rfl) (Reps.none _ _)))); intro v134 w75 ho76 hb hg_ hnew_; clear hg_ hnew_; (first | rw [← Ny133.out] at ho76 | (simp only [Int.reduceToNat] at ho76; rw [← Ny133.out] at ho76)); have HO135 := A0_.mk (Kd.R_lower (Kd.R_new' ho76 (Kd.R_lt (by (with_reducible repeat (first | apply Kd.R_alloc | apply Kd.R_drewN | apply Kd.R_drew)); exact HO128.out))) (wZ SQ.bw)); replace HO128 := A0_.mk (Kd.R_elder' (by (with_reducible repeat (first | apply Kd.R_alloc | apply Kd.R_drewN | apply Kd.R_drew)); exact HO128.out) (Kd.R_base ho76) hb); replace BK124 := A0_.mk (bB (g := gb124) SQ.kw hb); replace HB := A0_.mk (wT SQ.bw hb); clear hb ho76; have hcv77 := own_string (P := Tryd.prog) Tryd.underlying42 Tryd.underlying5 Tryd.underlying9 (Kd.own_of_R HO135.out); obtain ⟨hcz78_0, hcz78_1, hcz78_2, hcz78_3, hcz78_4, hcz78_5, hfz78_0, hfz78_1, hfz78_2, hfz78_3, hfz78_4, hfz78_5⟩ := SQ.cs6 BK124.out))
     go_ret2
     exact ⟨SQ.er, SQ.bw⟩
 ·replace c3 := Bool.eq_false_iff.mpr c3
  subst c3
  rw [if_neg (show ¬ (false = true) by decide)] at H
  simp only [Option.some.injEq, Prod.mk.injEq] at H
  obtain ⟨rfl, rfl⟩ := H
  go_enter Tryd.func9, Tryd.ntmps9
  go_wp2_with (first | ((with_reducible refine gD (N := 1) rfl ?_); refine xE ?hg (N := 1) ?hd (cs := #[.int .i64 a0_0, .string a0_1, .bool a0_2, .string a0_3, .int .i64 a0_4, .slice A0_5 l0_5.length c0_5]) (t := 24) ?hr ?_; (case hd => rfl); (case hg => rfl); (case hr => first | (go_simp; done) | (go_simp; rfl)); intro gb124 hg w79 hbox hb; have BK124 := A0_.mk (hbox); have GW124 := A0_.mk ((by rw [hg]; exact (wZ SQ.bw) : w.heap.size ≤ gb124)); have GE124 := A0_.mk ((by rw [hg]; exact (wZ SQ.bw) : w.heap.size ≤ gb124)); replace HB := A0_.mk (wT SQ.bw hb); clear hb hbox hg; obtain ⟨hcz80_0, hcz80_1, hcz80_2, hcz80_3, hcz80_4, hcz80_5, hfz80_0, hfz80_1, hfz80_2, hfz80_3, hfz80_4, hfz80_5⟩ := SQ.cs6 BK124.out) | ((with_reducible refine gC (f := 13) rfl ?_); refine gL (some 9) rfl rfl Tryd.func13 (by kernel_rfl) rfl #[.agg #[.int .i64 a0_0, .string a0_1, .bool a0_2, .string a0_3, .int .i64 a0_4, .slice A0_5 l0_5.length c0_5]] rfl SQ.sm ?_; (with_reducible refine (node_Good.calls k a0_0 a0_1 a0_2 a0_3 a0_4 _ _ l0_5 false _ ?side1 ?side2 A2.out).mono ?_); (case side1 => repeat (first | exact (Kd.C_below HR0_5.out HB.out) | (with_reducible refine Kd.C_alloc ?_ _) | (with_reducible refine Kd.C_drewN ?_ _) | (with_reducible refine Kd.C_drew ?_))); (case side2 => exact HC0_5.out); rintro e w81 ⟨rfl, hb⟩; refine ⟨_, rfl, ?_⟩; replace BK124 := A0_.mk (bB (g := gb124) SQ.kw hb); replace HB := A0_.mk (wT SQ.bw hb); clear hb))
  go_ret2
  exact ⟨SQ.er, SQ.bw⟩

end Go.Proofs.YtklakmooaffjpaaDoor.PNod
