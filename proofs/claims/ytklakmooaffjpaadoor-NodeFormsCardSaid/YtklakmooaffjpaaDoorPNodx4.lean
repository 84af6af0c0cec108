-- Written by a program of this session for this seat. Not trusted: Lean checks it.
import Derived.Test.YtklakmooaffjpaaDoorPNodx1
import Derived.Test.YtklakmooaffjpaaDoorPNodx3
namespace Go.Proofs.YtklakmooaffjpaaDoor.PNod
open Go.RowKit Go.Proofs.YtklakmooaffjpaaDoorW.PrintWords Go.Proofs.YtklakmooaffjpaaDoorW.PrintLast Go.Proofs.YtklakmooaffjpaaDoorW.PrintMore
attribute [local go_sem] max2_int min2_int max_two min_two max_three min_three max_four min_four   -- for this text's walks alone
set_option linter.unusedVariables false
set_option linter.unusedSimpArgs false
open Go.Proofs.YtklakmooaffjpaaDoor.HW Go.Proofs.YtklakmooaffjpaaDoor.DgsB

/-! ### nibble_two: function 35 -/
def nibble_two.l0 : Nat → ByteArray → List Int → Int → Int → Option (ByteArray)
 | 0, _, _, _, _ => none
 | k + 1, x0, x3, x12, x13 => if x13 < x12 then (if 0 ≤ (Int.tmod x13 2) then (if (Int.tmod x13 2) < 2 then (if 0 ≤ (wrap64 (Int.tdiv x13 2)) then (if (wrap64 (Int.tdiv x13 2)) < (x3.length : Int) then (if 0 ≤ x13 then (if x13 < (x0.size : Int) then (if 0 ≤ (rd [4, 0] (Int.tmod x13 2)) then (nibble_two.l0 k x0 (x3.set ((wrap64 (Int.tdiv x13 2)) : Int).toNat (Go.bits .or .u8 (rd x3 (wrap64 (Int.tdiv x13 2))) (shl .u8 (bt x0 x13) (rd [4, 0] (Int.tmod x13 2))))) x12 (wrap64 (x13 + 1))) else (none)) else (none)) else (none)) else (none)) else (none)) else (none)) else (none)) else (some (strOfNums x3))
def nibble_two.f (k : Nat) (a0 : ByteArray) : Option (ByteArray) := if 0 ≤ (wrap64 (Int.tdiv (wrap64 ((a0.size : Int) + 1)) 2)) then (if (wrap64 (Int.tdiv (wrap64 ((a0.size : Int) + 1)) 2) : Int).toNat ≤ 281474976710656 then (nibble_two.l0 k a0 (List.replicate (wrap64 (Int.tdiv (wrap64 ((a0.size : Int) + 1)) 2) : Int).toNat 0) (a0.size : Int) 0) else (none)) else (none)
def nibble_two.T6 : Bool × List (List Nat × List Nat) := (true, [([], []), ([], []), ([1], [1]), ([0, 2], [0, 2]), ([3], [3]), ([], []), ([], []), ([5, 6], [5, 6]), ([], []), ([7, 8], [7, 8]), ([4, 9], [4, 9]), ([0, 2, 0, 1, 2, 3, 4, 5, 6, 7, 8, 9, 10], [0, 2]), ([11, 10, 0, 1, 2, 3, 4, 5, 6, 7, 8, 9, 10], [10, 11])])
def nibble_two.B6 : List Nat := [0, 0, 2, 7, 15, 0, 0, 96, 0, 480, 1023, 2047, 4095]
theorem nibble_two.tab6 : rtab .any (opsOf Tryd.f35 6) = nibble_two.T6 := by kernel_rfl
theorem nibble_two.bits6 : waitsOk nibble_two.T6.2 nibble_two.B6 = true := by kernel_rfl
set_option maxHeartbeats 8000000 in
set_option maxRecDepth 100000 in
theorem nibble_two.calls (k : Nat) (a0 : ByteArray) (r : ByteArray) (w : World) (h : nibble_two.f k a0 = some r) :
  Calls Tryd.prog 35 #[.string a0] w fun e w' => e = .returned (.string r) ∧ Below w.heap.size w w' := by
 have hix86i64 : ∀ (W : World) (x0_ x1_ j_ : Int), 0 ≤ j_ → j_ < 2 → (Instr.index 86 (.agg #[.int .i64 x0_, .int .i64 x1_]) (.int .i64 j_)).run Tryd.prog W = .ok (.int .i64 (rd [x0_, x1_] j_)) W := fun W x0_ x1_ j_ h0_ h1_ => run_index_ints W Tryd.underlying86 (fun _ => by kernel_rfl) (fun _ => by kernel_rfl) [x0_, x1_] rfl .i64 .i64 j_ h0_ h1_
 have HB := A0_.mk (Below.refl w.heap.size w)
 have H : (if 0 ≤ (wrap64 (Int.tdiv (wrap64 ((a0.size : Int) + 1)) 2)) then (if (wrap64 (Int.tdiv (wrap64 ((a0.size : Int) + 1)) 2) : Int).toNat ≤ 281474976710656 then (nibble_two.l0 k a0 (List.replicate (wrap64 (Int.tdiv (wrap64 ((a0.size : Int) + 1)) 2) : Int).toNat 0) (a0.size : Int) 0) else (none)) else (none)) = some r := h
 clear h
 obtain ⟨ji2, hji2⟩ : ∃ j_ : Int, (wrap64 (Int.tdiv (wrap64 ((a0.size : Int) + 1)) 2)) = j_ := ⟨_, rfl⟩
 replace H : (if 0 ≤ (ji2) then (if (ji2 : Int).toNat ≤ 281474976710656 then (nibble_two.l0 k a0 (List.replicate (ji2 : Int).toNat 0) (a0.size : Int) 0) else (none)) else (none)) = some r := by first | (rw [hji2] at H; exact H) | (simp only [hji2] at H ⊢; exact H)
 have hji2w : (IntKind.i64.wrap (Int.tdiv (wrap64 ((a0.size : Int) + 1)) 2)) = ji2 := (i64_w _).trans hji2
 by_cases c3 : 0 ≤ (ji2)
 ·rw [if_pos c3] at H
  have c3b0 := eq_true c3
  have c3b1 : decide (0 ≤ (ji2)) = true := decide_eq_true c3
  clear c3
  by_cases c4 : (ji2 : Int).toNat ≤ 281474976710656
  ·rw [if_pos c4] at H
   have c4b0 := eq_true c4
   have c4b1 : decide ((ji2 : Int).toNat ≤ 281474976710656) = true := decide_eq_true c4
   clear c4
   obtain ⟨y111, hy111⟩ : ∃ y_ : List Int, y_ = (List.replicate (ji2 : Int).toNat 0) := ⟨_, rfl⟩
   replace H : (nibble_two.l0 k a0 y111 (a0.size : Int) 0) = some r := by first | (rw [hy111]; with_reducible exact H) | (have H2_ := (Option.bind_some _ _).symm.trans H; rw [hy111]; with_reducible exact H2_) | (have H2_ := (Option.bind_some _ _).symm.trans H; with_reducible exact H2_) | with_reducible exact H | (rw [hy111]; exact H) | exact H
   have Ny111 := A0_.mk hy111
   clear hy111
   have H' := A0_.mk H
   clear H
   go_enter Tryd.func35, Tryd.ntmps35
   go_wp2_with (first | ((with_reducible refine gD (N := 10) rfl ?_); refine Kd.R_make (Kd.int .u8) _ 5 rfl (N := 10) rfl 42 _ _ rfl ji2 rfl rfl Tryd.underlying42 (.int .u8 0) 1 info5 rfl (by decide) (by omega) 0 (ok := fun _ => True) (okp := fun _ => True) rfl (fun _ hk => hk) trivial (of_decide_eq_true (by first | (with_reducible assumption) | assumption)) (Nat.le_trans (Nat.mul_le_mul_right _ (of_decide_eq_true (by first | (with_reducible assumption) | assumption) : ji2.toNat ≤ 281474976710656)) (by omega)) (Below.refl _ _) (Nat.le_refl _) ?_; intro v112 w5 ho6 hb hg_ hnew_; clear hg_ hnew_; (first | rw [← Ny111.out] at ho6 | (simp only [Int.reduceToNat] at ho6; rw [← Ny111.out] at ho6)); have n0_ := A0_.mk (Kd.R_lower ho6 (wZ (by repeat (first | (with_reducible first | exact HB.out | apply wA | apply pN | apply wD) | exact HB.out)))); have n1_ := A0_.mk (wT (by repeat (first | (with_reducible first | exact HB.out | apply wA | apply pN | apply wD) | exact HB.out)) hb); clear HB; have HO113 := n0_; have HB := n1_; clear n0_ n1_; clear hb ho6))
   go_loopg [13] k (fun kq v13 w' => ∃ (x3_1 : List Int) (x13_1 : Int), v13 = .int .i64 x13_1 ∧ A0_ (nibble_two.l0 kq a0 x3_1 (a0.size : Int) x13_1 = some r) ∧ A0_ (kq ≤ k) ∧ A0_ (Kd.R (Kd.int .u8) 5 w' w.heap.size (fun _ => True) v112 x3_1) ∧ A0_ (Below w.heap.size w w'))
   case atStart => exact ⟨(y111), (0), (by first | rfl | (simp; done) | (simp [*]; done)), H', ⟨Nat.le_refl _⟩, ⟨by (with_reducible repeat (first | apply Kd.R_alloc | apply Kd.R_drewN | apply Kd.R_drew)); exact HO113.out⟩, ⟨by repeat (first | (with_reducible first | exact HB.out | apply wA | apply pN | apply wD) | exact HB.out)⟩⟩
   case round =>
    clear H'
    try clear p2
    try clear c3
    try clear c3b0
    try clear c3b1
    try clear c4
    try clear c4b0
    try clear c4b1
    try clear p6
    obtain ⟨x3_1, x13_1, rfl, HA, HK1, HO_3, HB⟩ := hrel
    cases gk with
    | zero => exact absurd HA.out (by simp [nibble_two.l0])
    | succ k1 =>
     have H := HA.out
     clear HA
     simp only [nibble_two.l0] at H
     by_cases c7 : x13_1 < (a0.size : Int)
     ·rw [if_pos c7] at H
      have c7b0 : decide (x13_1 < (a0.size : Int)) = true := decide_eq_true c7
      clear c7
      obtain ⟨ji8, hji8⟩ : ∃ j_ : Int, (Int.tmod x13_1 2) = j_ := ⟨_, rfl⟩
      replace H : (if 0 ≤ (ji8) then (if (ji8) < 2 then (if 0 ≤ (wrap64 (Int.tdiv x13_1 2)) then (if (wrap64 (Int.tdiv x13_1 2)) < (x3_1.length : Int) then (if 0 ≤ x13_1 then (if x13_1 < (a0.size : Int) then (if 0 ≤ (rd [4, 0] (ji8)) then (nibble_two.l0 k1 a0 (x3_1.set ((wrap64 (Int.tdiv x13_1 2)) : Int).toNat (Go.bits .or .u8 (rd x3_1 (wrap64 (Int.tdiv x13_1 2))) (shl .u8 (bt a0 x13_1) (rd [4, 0] (ji8))))) (a0.size : Int) (wrap64 (x13_1 + 1))) else (none)) else (none)) else (none)) else (none)) else (none)) else (none)) else (none)) = some r := by first | (rw [hji8] at H; exact H) | (simp only [hji8] at H ⊢; exact H)
      by_cases c9 : 0 ≤ (ji8)
      ·rw [if_pos c9] at H
       have c9b0 := eq_true c9
       have c9b1 : decide (0 ≤ (ji8)) = true := decide_eq_true c9
       clear c9
       by_cases c10 : (ji8) < 2
       ·rw [if_pos c10] at H
        have c10b0 := eq_true c10
        have c10b1 : decide ((ji8) < 2) = true := decide_eq_true c10
        clear c10
        obtain ⟨ji11, hji11⟩ : ∃ j_ : Int, (wrap64 (Int.tdiv x13_1 2)) = j_ := ⟨_, rfl⟩
        replace H : (if 0 ≤ (ji11) then (if (ji11) < (x3_1.length : Int) then (if 0 ≤ x13_1 then (if x13_1 < (a0.size : Int) then (if 0 ≤ (rd [4, 0] (ji8)) then (nibble_two.l0 k1 a0 (x3_1.set ((ji11) : Int).toNat (Go.bits .or .u8 (rd x3_1 (ji11)) (shl .u8 (bt a0 x13_1) (rd [4, 0] (ji8))))) (a0.size : Int) (wrap64 (x13_1 + 1))) else (none)) else (none)) else (none)) else (none)) else (none)) = some r := by first | (rw [hji11] at H; exact H) | (simp only [hji11] at H ⊢; exact H)
        have hji11w : (IntKind.i64.wrap (Int.tdiv x13_1 2)) = ji11 := (i64_w _).trans hji11
        by_cases c12 : 0 ≤ (ji11)
        ·rw [if_pos c12] at H
         have c12b0 : decide (0 ≤ (ji11)) = true := decide_eq_true c12
         clear c12
         by_cases c13 : (ji11) < (x3_1.length : Int)
         ·rw [if_pos c13] at H
          have c13b0 : decide ((ji11) < (x3_1.length : Int)) = true := decide_eq_true c13
          clear c13
          by_cases c14 : 0 ≤ x13_1
          ·rw [if_pos c14] at H
           have c14b0 : decide (0 ≤ x13_1) = true := decide_eq_true c14
           clear c14
           by_cases c15 : x13_1 < (a0.size : Int)
           ·rw [if_pos c15] at H
            have c15b0 : decide (x13_1 < (a0.size : Int)) = true := decide_eq_true c15
            clear c15
            by_cases c17 : 0 ≤ (rd [4, 0] (ji8))
            ·rw [if_pos c17] at H
             have c17b0 := eq_true c17
             have c17b1 : decide (0 ≤ (rd [4, 0] (ji8))) = true := decide_eq_true c17
             clear c17
             obtain ⟨ji18, hji18⟩ : ∃ j_ : Int, (shl .u8 (bt a0 x13_1) (rd [4, 0] (ji8))) = j_ := ⟨_, rfl⟩
             replace H : (nibble_two.l0 k1 a0 (x3_1.set ((ji11) : Int).toNat (Go.bits .or .u8 (rd x3_1 (ji11)) (ji18))) (a0.size : Int) (wrap64 (x13_1 + 1))) = some r := by first | (rw [hji18] at H; exact H) | (simp only [hji18] at H ⊢; exact H)
             have hji18_ : (IntKind.u8.wrap ((bt a0 x13_1) * 2 ^ min (rd [4, 0] (ji8)).toNat 8)) = ji18 := hji18
             have hji18z : (rd [4, 0] (ji8)) ≤ 8 → (IntKind.u8.wrap ((bt a0 x13_1) * 2 ^ (rd [4, 0] (ji8)).toNat)) = ji18 := shl_small hji18
             obtain ⟨y115, hy115⟩ : ∃ y_ : List Int, y_ = (x3_1.set ((ji11) : Int).toNat (Go.bits .or .u8 (rd x3_1 (ji11)) (ji18))) := ⟨_, rfl⟩
             replace H : (nibble_two.l0 k1 a0 y115 (a0.size : Int) (wrap64 (x13_1 + 1))) = some r := by first | (rw [hy115]; with_reducible exact H) | (have H2_ := (Option.bind_some _ _).symm.trans H; rw [hy115]; with_reducible exact H2_) | (have H2_ := (Option.bind_some _ _).symm.trans H; with_reducible exact H2_) | with_reducible exact H | (rw [hy115]; exact H) | exact H
             have Ny115 := A0_.mk hy115
             clear hy115
             have H' := A0_.mk H
             clear H
             try go_wp2
             have n0_ := A0_.mk (Kd.R_drew HO_3.out)
             have n1_ := A0_.mk (wD HB.out)
             clear HO_3
             clear HB
             have HO_3 := n0_
             have HB := n1_
             clear n0_ n1_
             obtain ⟨Ao21, co21, eo21⟩ := Kd.R_slice HO_3.out
             (first | subst eo21 | (injection eo21 with f1_ f2_ f3_; have f4_ := f1_.symm; have f5_ := f3_.symm; clear f1_ f2_ f3_; subst f4_; subst f5_))
             have p114 : 0 ≤ ((ji11) : Int) := of_decide_eq_true (by first | (with_reducible assumption) | assumption)
             have q114 : (ji11) < (x3_1.length : Int) := of_decide_eq_true (by first | (with_reducible assumption) | assumption)
             obtain ⟨ad114, e114, hx114_0⟩ := Kd.at_int (Kd.R_reads' HO_3.out).2.2 (ji11) p114 q114
             cases e114
             replace p114 := eq_true p114
             replace q114 := eq_true q114
             have p16 : 0 ≤ (x13_1 : Int) := of_decide_eq_true (by first | (with_reducible assumption) | assumption)
             have q16 : x13_1 < (a0.size : Int) := of_decide_eq_true (by first | (with_reducible assumption) | assumption)
             have hx16 := bt_at a0 x13_1
             replace p16 := eq_true p16
             replace q16 := eq_true q16
             have p19 : 0 ≤ ((ji11) : Int) := of_decide_eq_true (by first | (with_reducible assumption) | assumption)
             have q19 : ((ji11) : Int) < ((x3_1.length : Int) : Int) := of_decide_eq_true (by first | (with_reducible assumption) | assumption)
             obtain ⟨go19, co19, eo19, gb19, gl19, cl19, HG19⟩ := Kd.R_form HO_3.out (by omega)
             (first | cases eo19 | (injection eo19 with ea_ en_ ec_; (first | subst ea_ | (injection ea_ with ea_; subst ea_)); subst ec_; clear en_))
             have GB19 := A0_.mk gb19
             have GG19 := A0_.mk HG19
             clear gb19 gl19 HG19
             (first | simp only [add_plain] at hx114_0 | skip)
             obtain ⟨hx19_0, hf19_0⟩ := Kd.R_celln 0 HO_3.out ((ji11) : Int) p19 q19
             replace p19 := eq_true p19
             replace q19 := eq_true q19
             have HP22 := Kd.R_putn HO_3.out ((ji11) : Int) (Go.bits .or .u8 (rd x3_1 (ji11)) (ji18))
             rw [← Ny115.out] at HP22
             have HQ22 := A0_.mk HP22
             clear HP22
             refine start_ (n := 13) (S := fun w' => w'.cell? ⟨go19, ((ji11)).toNat, none⟩ = some (.int .u8 (rd x3_1 (ji11)))) (ds := [12]) #[false, false, false, false, false, false, false, false, false, false, false, false, false] (by kernel_rfl) rfl rfl (hx114_0) (fun hHeld => ?_); refine with_tabW nibble_two.tab6 nibble_two.bits6 (fun HT_ HW_ => ?_)
             generalize wr.drew = w20 at HO_3 HB GG19 HQ22 hf19_0 hx114_0 hx19_0 hHeld ⊢
             refine pure_ (i := 0) (N := some 20) (v := ?_) (a' := ?_) #[true, false, false, false, false, false, false, false, false, false, false, false, false] rfl rfl (any_of HT_.out (by kernel_rfl)) (fun _ _ _ h => h) (Or.inl ⟨by rfl, ?_⟩) ?_ ?_
             rotate_left
             ·intro w'
              go_simp
              with_reducible rfl
             rotate_left
             ·simp only [Act.put, List.setIfInBounds_toArray, List.set_cons_zero, List.set_cons_succ, i64_w, i32_w]
              rfl
             refine pure_ (i := 1) (N := some 21) (v := ?_) (a' := ?_) #[true, true, false, false, false, false, false, false, false, false, false, false, false] rfl rfl (any_of HT_.out (by kernel_rfl)) (fun _ _ _ h => h) (Or.inl ⟨by rfl, ?_⟩) ?_ ?_
             rotate_left
             ·intro w'
              go_simp
              with_reducible rfl
             rotate_left
             ·simp only [Act.put, List.setIfInBounds_toArray, List.set_cons_zero, List.set_cons_succ, i64_w, i32_w]
              rfl
             refine pure_ (i := 2) (N := some 22) (v := ?_) (a' := ?_) #[true, true, true, false, false, false, false, false, false, false, false, false, false] rfl rfl (any_of HT_.out (by kernel_rfl)) (fun _ _ _ h => h) (Or.inl ⟨by rfl, ?_⟩) ?_ ?_
             rotate_left
             ·intro w'
              go_simp
              with_reducible rfl
             rotate_left
             ·simp only [Act.put, List.setIfInBounds_toArray, List.set_cons_zero, List.set_cons_succ, i64_w, i32_w]
              rfl
             refine pure_ (i := 3) (N := some 23) (v := ?_) (a' := ?_) #[true, true, true, true, false, false, false, false, false, false, false, false, false] rfl rfl (any_of HT_.out (by kernel_rfl)) (fun _ _ _ h => h) (Or.inl ⟨by rfl, ?_⟩) ?_ ?_
             rotate_left
             ·intro w'
              go_simp
              with_reducible rfl
             rotate_left
             ·simp only [Act.put, List.setIfInBounds_toArray, List.set_cons_zero, List.set_cons_succ, i64_w, i32_w]
              rfl
             refine pure_ (i := 5) (N := some 25) (v := ?_) (a' := ?_) #[true, true, true, true, false, true, false, false, false, false, false, false, false] rfl rfl (any_of HT_.out (by kernel_rfl)) (fun _ _ _ h => h) (Or.inl ⟨by rfl, ?_⟩) ?_ ?_
             rotate_left
             ·intro w'
              go_simp
              with_reducible rfl
             rotate_left
             ·simp only [Act.put, List.setIfInBounds_toArray, List.set_cons_zero, List.set_cons_succ, i64_w, i32_w]
              rfl
             refine pure_ (i := 6) (N := some 26) (v := ?_) (a' := ?_) #[true, true, true, true, false, true, true, false, false, false, false, false, false] rfl rfl (any_of HT_.out (by kernel_rfl)) (fun _ _ _ h => h) (Or.inl ⟨by rfl, ?_⟩) ?_ ?_
             rotate_left
             ·intro w'
              go_simp
              with_reducible rfl
             rotate_left
             ·simp only [Act.put, List.setIfInBounds_toArray, List.set_cons_zero, List.set_cons_succ, i64_w, i32_w]
              rfl
             refine pure_ (i := 8) (N := some 28) (v := ?_) (a' := ?_) #[true, true, true, true, false, true, true, false, true, false, false, false, false] rfl rfl (any_of HT_.out (by kernel_rfl)) (fun _ _ _ h => h) (Or.inl ⟨by rfl, ?_⟩) ?_ ?_
             rotate_left
             ·intro w'
              go_simp
              with_reducible rfl
             rotate_left
             ·simp only [Act.put, List.setIfInBounds_toArray, List.set_cons_zero, List.set_cons_succ, i64_w, i32_w]
              rfl
             refine take_ (i := 4) (N := some 24) (v := ?_) (a' := ?_) #[true, true, true, true, true, true, true, false, true, false, false, false, false] rfl rfl (take_ofW HT_.out HW_.out (by kernel_rfl)) (fun _ _ _ h => h) (Or.inl ⟨by rfl, ?_⟩) hHeld ?_ ?_
             rotate_left
             ·intro w' s0
              go_simp
              with_reducible rfl
             rotate_left
             ·simp only [Act.put, List.setIfInBounds_toArray, List.set_cons_zero, List.set_cons_succ, i64_w, i32_w]
              rfl
             refine take_ (i := 7) (N := some 27) (v := ?_) (a' := ?_) #[true, true, true, true, true, true, true, true, true, false, false, false, false] rfl rfl (take_ofW HT_.out HW_.out (by kernel_rfl)) (fun _ _ _ h => h) (Or.inl ⟨by rfl, ?_⟩) hHeld ?_ ?_
             rotate_left
             ·intro w' s0
              go_simp
              with_reducible rfl
             rotate_left
             ·simp only [Act.put, List.setIfInBounds_toArray, List.set_cons_zero, List.set_cons_succ, i64_w, i32_w]
              rfl
             refine pure_ (i := 9) (N := some 29) (v := ?_) (a' := ?_) #[true, true, true, true, true, true, true, true, true, true, false, false, false] rfl rfl (any_of HT_.out (by kernel_rfl)) (fun _ _ _ h => h) (Or.inl ⟨by rfl, ?_⟩) ?_ ?_
             rotate_left
             ·intro w'
              go_simp
              with_reducible rfl
             rotate_left
             ·simp only [Act.put, List.setIfInBounds_toArray, List.set_cons_zero, List.set_cons_succ, i64_w, i32_w]
              rfl
             refine pure_ (i := 10) (N := some 30) (v := ?_) (a' := ?_) #[true, true, true, true, true, true, true, true, true, true, true, false, false] rfl rfl (any_of HT_.out (by kernel_rfl)) (fun _ _ _ h => h) (Or.inl ⟨by rfl, ?_⟩) ?_ ?_
             rotate_left
             ·intro w'
              go_simp
              with_reducible rfl
             rotate_left
             ·simp only [Act.put, List.setIfInBounds_toArray, List.set_cons_zero, List.set_cons_succ, i64_w, i32_w]
              rfl
             refine pure_ (i := 11) (N := some 31) (v := ?_) (a' := ?_) #[true, true, true, true, true, true, true, true, true, true, true, true, false] rfl rfl (any_of HT_.out (by kernel_rfl)) (fun _ _ _ h => h) (Or.inl ⟨by rfl, ?_⟩) ?_ ?_
             rotate_left
             ·intro w'
              go_simp
              with_reducible rfl
             rotate_left
             ·simp only [Act.put, List.setIfInBounds_toArray, List.set_cons_zero, List.set_cons_succ, i64_w, i32_w]
              rfl
             refine last_ (i := 12) (N := none) #[true, true, true, true, true, true, true, true, true, true, true, true, true] rfl rfl (one_of HT_.out (by kernel_rfl)) (by decide) (fun K hK => ?_)
             refine skip_ (w1 := ?_) (by rfl) rfl ?_ ?_
             rotate_left
             ·go_simp
              rfl
             refine hK.out _ _ ?_
             clear hK K
             refine done_ (done_of HT_.out (by kernel_rfl)) ?_
             try go_wp2
             go_roundg k1
             case measure => have := HK1.out; omega
             case rel => exact ⟨(y115), (wrap64 (x13_1 + 1)), (by first | rfl | (simp; done) | (simp [*]; done)), H', ⟨by have := HK1.out; omega⟩, ⟨by (with_reducible repeat (first | apply Kd.R_alloc | apply Kd.R_drewN | apply Kd.R_drew)); exact HQ22.out⟩, ⟨by repeat (first | (with_reducible first | exact HB.out | apply wA | apply pN | apply wD | refine wS ?_ GB19.out) | exact HB.out)⟩⟩
            ·rw [if_neg c17] at H
             exact absurd H (by simp)
           ·rw [if_neg c15] at H
            exact absurd H (by simp)
          ·rw [if_neg c14] at H
           exact absurd H (by simp)
         ·rw [if_neg c13] at H
          exact absurd H (by simp)
        ·rw [if_neg c12] at H
         exact absurd H (by simp)
       ·rw [if_neg c10] at H
        exact absurd H (by simp)
      ·rw [if_neg c9] at H
       exact absurd H (by simp)
     ·rw [if_neg c7] at H
      have c7b0 : decide (x13_1 < (a0.size : Int)) = false := decide_eq_false c7
      clear c7
      obtain rfl := Option.some.inj H
      have hcv23 := own_string (P := Tryd.prog) Tryd.underlying42 Tryd.underlying5 Tryd.underlying9 (Kd.own_of_R HO_3.out)
      go_wp2
      go_ret
      exact ⟨by first | rfl | (simp [errW_none, errW_some] <;> rfl) | (simp only [← hji2]; first | rfl | (simp [errW_none, errW_some] <;> rfl)) | (simp [*, errW_none, errW_some] <;> rfl), by repeat (first | (with_reducible first | exact HB.out | apply wA | apply pN | apply wD) | exact HB.out)⟩
  ·rw [if_neg c4] at H
   exact absurd H (by simp)
 ·rw [if_neg c3] at H
  exact absurd H (by simp)

/-! ### nibble_Pack: function 21 -/
def nibble_Pack.f (k : Nat) (a0 : ByteArray) : Option (ByteArray × Bool) := (nibble_Good.f k a0).bind fun t116 => (if t116 = true then ((some (([((a0.size : Int)) % 256] : List Int) : List Int)).bind fun y117 => ((nibble_two.f k a0).bind fun t120 => (if (strOfNums y117).size + t120.size ≤ 9223372036854775807 then (some ((strOfNums y117) ++ t120, true)) else (none)))) else (some ((⟨#[]⟩ : ByteArray), false)))
def nibble_Pack.T3 : Bool × List (List Nat × List Nat) := (true, [([], []), ([0], [0]), ([1], [1]), ([2], [2]), ([3], [3]), ([], []), ([5], [5]), ([4, 6], [4, 6]), ([7, 6, 0, 1, 2, 3, 4, 5, 6, 7], [7]), ([8, 0, 1, 2, 3, 4, 5, 6, 7, 8], [])])
def nibble_Pack.B3 : List Nat := [0, 1, 3, 7, 15, 0, 32, 127, 255, 511]
theorem nibble_Pack.tab3 : rtab .any (opsOf Tryd.f21 3) = nibble_Pack.T3 := by kernel_rfl
theorem nibble_Pack.bits3 : waitsOk nibble_Pack.T3.2 nibble_Pack.B3 = true := by kernel_rfl
set_option maxHeartbeats 8000000 in
set_option maxRecDepth 100000 in
theorem nibble_Pack.calls (k : Nat) (a0 : ByteArray) (r1 : ByteArray) (r2 : Bool) (w : World) (h : nibble_Pack.f k a0 = some (r1, r2)) :
  Calls Tryd.prog 21 #[.string a0] w fun e w' => e = .returned (.tuple #[.string r1, .bool r2]) ∧ Below w.heap.size w w' := by
 have HB := A0_.mk (Below.refl w.heap.size w)
 have H : ((nibble_Good.f k a0).bind fun t116 => (if t116 = true then ((some (([((a0.size : Int)) % 256] : List Int) : List Int)).bind fun y117 => ((nibble_two.f k a0).bind fun t120 => (if (strOfNums y117).size + t120.size ≤ 9223372036854775807 then (some ((strOfNums y117) ++ t120, true)) else (none)))) else (some ((⟨#[]⟩ : ByteArray), false)))) = some (r1, r2) := h
 clear h
 replace H := Option.bind_eq_some_iff.mp H
 obtain ⟨t116, A20, H⟩ := H
 replace H : (if t116 = true then ((some (([((a0.size : Int)) % 256] : List Int) : List Int)).bind fun y117 => ((nibble_two.f k a0).bind fun t120 => (if (strOfNums y117).size + t120.size ≤ 9223372036854775807 then (some ((strOfNums y117) ++ t120, true)) else (none)))) else (some ((⟨#[]⟩ : ByteArray), false))) = some (r1, r2) := H
 have A2 := A0_.mk A20
 clear A20
 by_cases c3 : t116 = true
 ·subst c3
  have H1 : ((some (([((a0.size : Int)) % 256] : List Int) : List Int)).bind fun y117 => ((nibble_two.f k a0).bind fun t120 => (if (strOfNums y117).size + t120.size ≤ 9223372036854775807 then (some ((strOfNums y117) ++ t120, true)) else (none)))) = some (r1, r2) := by rw [if_pos rfl] at H; exact H
  clear H
  have H := H1
  clear H1
  obtain ⟨y117, hy117⟩ : ∃ y_ : List Int, y_ = (([((a0.size : Int)) % 256] : List Int)) := ⟨_, rfl⟩
  replace H : ((nibble_two.f k a0).bind fun t120 => (if (strOfNums y117).size + t120.size ≤ 9223372036854775807 then (some ((strOfNums y117) ++ t120, true)) else (none))) = some (r1, r2) := by first | (rw [hy117]; with_reducible exact H) | (have H2_ := (Option.bind_some _ _).symm.trans H; rw [hy117]; with_reducible exact H2_) | (have H2_ := (Option.bind_some _ _).symm.trans H; with_reducible exact H2_) | with_reducible exact H | (rw [hy117]; exact H) | exact H
  have Ny117 := A0_.mk hy117
  clear hy117
  replace H := Option.bind_eq_some_iff.mp H
  obtain ⟨t120, A40, H⟩ := H
  replace H : (if (strOfNums y117).size + t120.size ≤ 9223372036854775807 then (some ((strOfNums y117) ++ t120, true)) else (none)) = some (r1, r2) := H
  have A4 := A0_.mk A40
  clear A40
  by_cases c5 : (strOfNums y117).size + t120.size ≤ 9223372036854775807
  ·rw [if_pos c5] at H
   have c5b0 := eq_true c5
   have c5b1 : decide ((strOfNums y117).size + t120.size ≤ 9223372036854775807) = true := decide_eq_true c5
   try have c5b2 : (9223372036854775807 < (strOfNums y117).size + t120.size) = False := eq_false (Nat.not_lt.2 c5)
   simp only [Option.some.injEq, Prod.mk.injEq] at H
   obtain ⟨rfl, rfl⟩ := H
   go_enter Tryd.func21, Tryd.ntmps21
   try go_wp2_with (first | ((with_reducible refine gC (f := 27) rfl ?_); refine gL (some 5) rfl rfl Tryd.func27 (by kernel_rfl) rfl #[.string a0] rfl (by (try simp only [List.map_toArray, List.map_cons, List.map_nil]); first | done | rfl | (simp only [List.length_drop, List.length_take]; rfl)) ?_; (with_reducible refine (nibble_Good.calls k a0 true _ A2.out).mono ?_); rintro e w6 ⟨rfl, hb⟩; refine ⟨_, rfl, ?_⟩; have n0_ := A0_.mk (wT (by repeat (first | (with_reducible first | exact HB.out | apply wA | apply pN | apply wD) | exact HB.out)) hb); clear HB; have HB := n0_; clear n0_; (try clear hb); (try clear hb2); (try clear hk); (try clear hi)))
   have n0_ := A0_.mk (wD HB.out)
   clear HB
   have HB := n0_
   clear n0_
   refine start_ (n := 10) (S := fun w' => True) (ds := []) #[false, false, false, false, false, false, false, false, false, false] (by kernel_rfl) rfl rfl trivial (fun hHeld => ?_); refine with_tabW nibble_Pack.tab3 nibble_Pack.bits3 (fun HT_ HW_ => ?_)
   generalize w6.drew = w7 at HB hHeld ⊢
   refine pure_ (i := 0) (N := some 7) (v := ?_) (a' := ?_) #[true, false, false, false, false, false, false, false, false, false] rfl rfl (any_of HT_.out (by kernel_rfl)) (fun _ _ _ h => h) (Or.inl ⟨by rfl, ?_⟩) ?_ ?_
   rotate_left
   ·intro w'
    go_simp
    with_reducible rfl
   rotate_left
   ·simp only [Act.put, List.setIfInBounds_toArray, List.set_cons_zero, List.set_cons_succ, i64_w, i32_w]
    rfl
   refine pure_ (i := 1) (N := some 8) (v := ?_) (a' := ?_) #[true, true, false, false, false, false, false, false, false, false] rfl rfl (any_of HT_.out (by kernel_rfl)) (fun _ _ _ h => h) (Or.inl ⟨by rfl, ?_⟩) ?_ ?_
   rotate_left
   ·intro w'
    go_simp
    with_reducible rfl
   rotate_left
   ·simp only [Act.put, List.setIfInBounds_toArray, List.set_cons_zero, List.set_cons_succ, i64_w, i32_w]
    rfl
   refine pure_ (i := 2) (N := some 9) (v := ?_) (a' := ?_) #[true, true, true, false, false, false, false, false, false, false] rfl rfl (any_of HT_.out (by kernel_rfl)) (fun _ _ _ h => h) (Or.inl ⟨by rfl, ?_⟩) ?_ ?_
   rotate_left
   ·intro w'
    go_simp
    with_reducible rfl
   rotate_left
   ·simp only [Act.put, List.setIfInBounds_toArray, List.set_cons_zero, List.set_cons_succ, i64_w, i32_w]
    rfl
   refine pure_ (i := 5) (N := some 12) (v := ?_) (a' := ?_) #[true, true, true, false, false, true, false, false, false, false] rfl rfl (any_of HT_.out (by kernel_rfl)) (fun _ _ _ h => h) (Or.inl ⟨by rfl, ?_⟩) ?_ ?_
   rotate_left
   ·intro w'
    go_simp
    with_reducible rfl
   rotate_left
   ·simp only [Act.put, List.setIfInBounds_toArray, List.set_cons_zero, List.set_cons_succ, i64_w, i32_w]
    rfl
   refine join_ (σ := Value) 3 #[true, true, true, true, true, true, true, false, false, false] (fun s_ => [(10, s_), (11, .string (strOfNums y117)), (13, .string t120)]) (fun s_ w' => (Kd.R (Kd.int .u8) 5 w' w.heap.size (fun _ => True) s_ y117) ∧ (Below w.heap.size w w')) ?_ ?_
   rotate_left
   ·intro hCont
    refine two_ (i := 3) (j := 6) (Ni := some 10) (Nj := some 13) #[true, true, true, true, false, true, false, false, false, false] #[true, true, true, false, false, true, true, false, false, false] rfl rfl rfl rfl (two_of HT_.out (by kernel_rfl)) (by decide) (by decide) (fun K hK => ?_) (fun K hK => ?_)
    ·skip
     refine Kd.R_lit_step (Kd.int .u8) _ 5 ?hg (N := 10) ?hd (xs := ([((a0.size : Int)) % 256] : List Int)) (inner := [.int .u8 (((a0.size : Int)) % 256)]) (ok := fun _ => True) (okp := fun _ => True) ?hr ?hp (fun _ hk => hk) trivial (Below.refl _ _) (Nat.le_refl _) (by simp) ?_; (case hd => rfl); (case hg => rfl); (case hr => first | (go_simp; done) | (go_simp; rfl)); (case hp => exact (Reps.one (show Kd.M (Kd.int .u8) _ _ _ (((a0.size : Int)) % 256) [.int .u8 (((a0.size : Int)) % 256)] from rfl) (Reps.none _ _)))
     intro v118 w8 ho9 hb hg_ hnew_
     clear hg_ hnew_
     (first | rw [← Ny117.out] at ho9 | (simp only [Int.reduceToNat] at ho9; rw [← Ny117.out] at ho9))
     have n0_ := A0_.mk (Kd.R_lower ho9 (wZ (by repeat (first | (with_reducible first | exact HB.out | apply wA | apply pN | apply wD) | exact HB.out))))
     have n1_ := A0_.mk (wT (by repeat (first | (with_reducible first | exact HB.out | apply wA | apply pN | apply wD) | exact HB.out)) hb)
     clear HB
     have HO119 := n0_
     have HB := n1_
     clear n0_ n1_
     clear hb ho9
     refine hK.out _ _ trivial (fun hHeld => ?_)
     clear hK K
     refine norm_ (a' := ?_) ?_ ?_
     rotate_left
     ·show Act.put _ (some 10) _ = _
      simp only [Act.put, List.setIfInBounds_toArray, List.set_cons_zero, List.set_cons_succ, i64_w, i32_w]
      rfl
     refine two_ (i := 4) (j := 6) (Ni := some 11) (Nj := some 13) #[true, true, true, true, true, true, false, false, false, false] #[true, true, true, true, false, true, true, false, false, false] rfl rfl rfl rfl (two_of HT_.out (by kernel_rfl)) (by decide) (by decide) (fun K hK => ?_) (fun K hK => ?_)
     ·skip
      have hcv10 := own_string (P := Tryd.prog) Tryd.underlying42 Tryd.underlying5 Tryd.underlying9 (Kd.own_of_R HO119.out)
      refine value_ (w1 := ?_) (v := ?_) (by rfl) rfl ?_ ?_
      rotate_left 2
      ·go_simp
       constructor
       ·rfl
       ·rfl
      clear hcv10
      refine hK.out _ _ trivial (fun hHeld => ?_)
      clear hK K
      refine norm_ (a' := ?_) ?_ ?_
      rotate_left
      ·show Act.put _ (some 11) _ = _
       simp only [Act.put, List.setIfInBounds_toArray, List.set_cons_zero, List.set_cons_succ, i64_w, i32_w]
       rfl
      refine one_ (i := 6) (N := some 13) #[true, true, true, true, true, true, true, false, false, false] rfl rfl (one_of HT_.out (by kernel_rfl)) (by decide) (fun K hK => ?_)
      refine goes_ Tryd.func35 (by kernel_rfl) rfl #[.string a0] (by rfl) rfl rfl (by (try simp only [List.map_toArray, List.map_cons, List.map_nil]); first | done | rfl | (simp only [List.length_drop, List.length_take]; rfl)) ?_
      with_reducible refine (nibble_two.calls k a0 t120 _ A4.out).mono ?_
      rintro e w11 ⟨rfl, hb⟩
      refine ⟨_, rfl, ?_⟩
      have n0_ := A0_.mk (Kd.R_below (by (with_reducible repeat (first | apply Kd.R_alloc | apply Kd.R_drewN | apply Kd.R_drew)); exact HO119.out) hb)
      have n1_ := A0_.mk (wT (by repeat (first | (with_reducible first | exact HB.out | apply wA | apply pN | apply wD) | exact HB.out)) hb)
      clear HO119
      clear HB
      have HO119 := n0_
      have HB := n1_
      clear n0_ n1_
      (try clear hb)
      (try clear hb2)
      (try clear hk)
      (try clear hi)
      refine hK.out _ _ trivial (fun hHeld => ?_)
      clear hK K
      refine norm_ (a' := ?_) ?_ ?_
      rotate_left
      ·show Act.put _ (some 13) _ = _
       simp only [Act.put, List.setIfInBounds_toArray, List.set_cons_zero, List.set_cons_succ, i64_w, i32_w]
       rfl
      exact norm_ (by simp only [putAll, Act.put, List.setIfInBounds_toArray, List.set_cons_zero, List.set_cons_succ]) (hCont (v118) _ ⟨(by (with_reducible repeat (first | apply Kd.R_alloc | apply Kd.R_drewN | apply Kd.R_drew)); exact HO119.out), (by repeat (first | (with_reducible first | exact HB.out | apply wA | apply pN | apply wD) | exact HB.out))⟩)
     ·skip
      refine goes_ Tryd.func35 (by kernel_rfl) rfl #[.string a0] (by rfl) rfl rfl (by (try simp only [List.map_toArray, List.map_cons, List.map_nil]); first | done | rfl | (simp only [List.length_drop, List.length_take]; rfl)) ?_
      with_reducible refine (nibble_two.calls k a0 t120 _ A4.out).mono ?_
      rintro e w10 ⟨rfl, hb⟩
      refine ⟨_, rfl, ?_⟩
      have n0_ := A0_.mk (Kd.R_below (by (with_reducible repeat (first | apply Kd.R_alloc | apply Kd.R_drewN | apply Kd.R_drew)); exact HO119.out) hb)
      have n1_ := A0_.mk (wT (by repeat (first | (with_reducible first | exact HB.out | apply wA | apply pN | apply wD) | exact HB.out)) hb)
      clear HO119
      clear HB
      have HO119 := n0_
      have HB := n1_
      clear n0_ n1_
      (try clear hb)
      (try clear hb2)
      (try clear hk)
      (try clear hi)
      refine hK.out _ _ trivial (fun hHeld => ?_)
      clear hK K
      refine norm_ (a' := ?_) ?_ ?_
      rotate_left
      ·show Act.put _ (some 13) _ = _
       simp only [Act.put, List.setIfInBounds_toArray, List.set_cons_zero, List.set_cons_succ, i64_w, i32_w]
       rfl
      refine one_ (i := 4) (N := some 11) #[true, true, true, true, true, true, true, false, false, false] rfl rfl (one_of HT_.out (by kernel_rfl)) (by decide) (fun K hK => ?_)
      have hcv11 := own_string (P := Tryd.prog) Tryd.underlying42 Tryd.underlying5 Tryd.underlying9 (Kd.own_of_R HO119.out)
      refine value_ (w1 := ?_) (v := ?_) (by rfl) rfl ?_ ?_
      rotate_left 2
      ·go_simp
       constructor
       ·rfl
       ·rfl
      clear hcv11
      refine hK.out _ _ trivial (fun hHeld => ?_)
      clear hK K
      refine norm_ (a' := ?_) ?_ ?_
      rotate_left
      ·show Act.put _ (some 11) _ = _
       simp only [Act.put, List.setIfInBounds_toArray, List.set_cons_zero, List.set_cons_succ, i64_w, i32_w]
       rfl
      exact norm_ (by simp only [putAll, Act.put, List.setIfInBounds_toArray, List.set_cons_zero, List.set_cons_succ]) (hCont (v118) _ ⟨(by (with_reducible repeat (first | apply Kd.R_alloc | apply Kd.R_drewN | apply Kd.R_drew)); exact HO119.out), (by repeat (first | (with_reducible first | exact HB.out | apply wA | apply pN | apply wD) | exact HB.out))⟩)
    ·skip
     refine goes_ Tryd.func35 (by kernel_rfl) rfl #[.string a0] (by rfl) rfl rfl (by (try simp only [List.map_toArray, List.map_cons, List.map_nil]); first | done | rfl | (simp only [List.length_drop, List.length_take]; rfl)) ?_
     with_reducible refine (nibble_two.calls k a0 t120 _ A4.out).mono ?_
     rintro e w8 ⟨rfl, hb⟩
     refine ⟨_, rfl, ?_⟩
     have n0_ := A0_.mk (wT (by repeat (first | (with_reducible first | exact HB.out | apply wA | apply pN | apply wD) | exact HB.out)) hb)
     clear HB
     have HB := n0_
     clear n0_
     (try clear hb)
     (try clear hb2)
     (try clear hk)
     (try clear hi)
     refine hK.out _ _ trivial (fun hHeld => ?_)
     clear hK K
     refine norm_ (a' := ?_) ?_ ?_
     rotate_left
     ·show Act.put _ (some 13) _ = _
      simp only [Act.put, List.setIfInBounds_toArray, List.set_cons_zero, List.set_cons_succ, i64_w, i32_w]
      rfl
     refine one_ (i := 3) (N := some 10) #[true, true, true, true, false, true, true, false, false, false] rfl rfl (one_of HT_.out (by kernel_rfl)) (by decide) (fun K hK => ?_)
     refine Kd.R_lit_step (Kd.int .u8) _ 5 ?hg (N := 10) ?hd (xs := ([((a0.size : Int)) % 256] : List Int)) (inner := [.int .u8 (((a0.size : Int)) % 256)]) (ok := fun _ => True) (okp := fun _ => True) ?hr ?hp (fun _ hk => hk) trivial (Below.refl _ _) (Nat.le_refl _) (by simp) ?_; (case hd => rfl); (case hg => rfl); (case hr => first | (go_simp; done) | (go_simp; rfl)); (case hp => exact (Reps.one (show Kd.M (Kd.int .u8) _ _ _ (((a0.size : Int)) % 256) [.int .u8 (((a0.size : Int)) % 256)] from rfl) (Reps.none _ _)))
     intro v118 w9 ho10 hb hg_ hnew_
     clear hg_ hnew_
     (first | rw [← Ny117.out] at ho10 | (simp only [Int.reduceToNat] at ho10; rw [← Ny117.out] at ho10))
     have n0_ := A0_.mk (Kd.R_lower ho10 (wZ (by repeat (first | (with_reducible first | exact HB.out | apply wA | apply pN | apply wD) | exact HB.out))))
     have n1_ := A0_.mk (wT (by repeat (first | (with_reducible first | exact HB.out | apply wA | apply pN | apply wD) | exact HB.out)) hb)
     clear HB
     have HO119 := n0_
     have HB := n1_
     clear n0_ n1_
     clear hb ho10
     refine hK.out _ _ trivial (fun hHeld => ?_)
     clear hK K
     refine norm_ (a' := ?_) ?_ ?_
     rotate_left
     ·show Act.put _ (some 10) _ = _
      simp only [Act.put, List.setIfInBounds_toArray, List.set_cons_zero, List.set_cons_succ, i64_w, i32_w]
      rfl
     refine one_ (i := 4) (N := some 11) #[true, true, true, true, true, true, true, false, false, false] rfl rfl (one_of HT_.out (by kernel_rfl)) (by decide) (fun K hK => ?_)
     have hcv11 := own_string (P := Tryd.prog) Tryd.underlying42 Tryd.underlying5 Tryd.underlying9 (Kd.own_of_R HO119.out)
     refine value_ (w1 := ?_) (v := ?_) (by rfl) rfl ?_ ?_
     rotate_left 2
     ·go_simp
      constructor
      ·rfl
      ·rfl
     clear hcv11
     refine hK.out _ _ trivial (fun hHeld => ?_)
     clear hK K
     refine norm_ (a' := ?_) ?_ ?_
     rotate_left
     ·show Act.put _ (some 11) _ = _
      simp only [Act.put, List.setIfInBounds_toArray, List.set_cons_zero, List.set_cons_succ, i64_w, i32_w]
      rfl
     exact norm_ (by simp only [putAll, Act.put, List.setIfInBounds_toArray, List.set_cons_zero, List.set_cons_succ]) (hCont (v118) _ ⟨(by (with_reducible repeat (first | apply Kd.R_alloc | apply Kd.R_drewN | apply Kd.R_drew)); exact HO119.out), (by repeat (first | (with_reducible first | exact HB.out | apply wA | apply pN | apply wD) | exact HB.out))⟩)
   rintro v118 w12 ⟨h0_, h1_⟩
   have n0_ : A0_ (Kd.R (Kd.int .u8) 5 w12 w.heap.size (fun _ => True) v118 y117) := ⟨h0_⟩
   have n1_ : A0_ (Below w.heap.size w w12) := ⟨h1_⟩
   clear HB
   clear h0_ h1_
   have HO119 := n0_
   have HB := n1_
   clear n0_ n1_
   have hHeld := trivial
   refine norm_ (a' := ?_) ?_ ?_
   rotate_left
   ·simp only [putAll, Act.put, List.setIfInBounds_toArray, List.set_cons_zero, List.set_cons_succ]
    rfl
   refine pure_ (i := 7) (N := some 14) (v := ?_) (a' := ?_) #[true, true, true, true, true, true, true, true, false, false] rfl rfl (any_of HT_.out (by kernel_rfl)) (fun _ _ _ h => h) (Or.inl ⟨by rfl, ?_⟩) ?_ ?_
   rotate_left
   ·intro w'
    go_simp
    with_reducible rfl
   rotate_left
   ·simp only [Act.put, List.setIfInBounds_toArray, List.set_cons_zero, List.set_cons_succ, i64_w, i32_w]
    rfl
   refine pure_ (i := 8) (N := some 2) (v := ?_) (a' := ?_) #[true, true, true, true, true, true, true, true, true, false] rfl rfl (any_of HT_.out (by kernel_rfl)) (fun _ _ _ h => h) (Or.inl ⟨by rfl, ?_⟩) ?_ ?_
   rotate_left
   ·intro w'
    go_simp
    with_reducible rfl
   rotate_left
   ·simp only [Act.put, List.setIfInBounds_toArray, List.set_cons_zero, List.set_cons_succ, i64_w, i32_w]
    rfl
   refine pure_ (i := 9) (N := some 3) (v := ?_) (a' := ?_) #[true, true, true, true, true, true, true, true, true, true] rfl rfl (any_of HT_.out (by kernel_rfl)) (fun _ _ _ h => h) (Or.inl ⟨by rfl, ?_⟩) ?_ ?_
   rotate_left
   ·intro w'
    go_simp
    with_reducible rfl
   rotate_left
   ·simp only [Act.put, List.setIfInBounds_toArray, List.set_cons_zero, List.set_cons_succ, i64_w, i32_w]
    rfl
   refine done_ (done_of HT_.out (by kernel_rfl)) ?_
   try go_wp2
   go_ret2
   exact ⟨by first | rfl | (simp [errW_none, errW_some] <;> rfl) | (simp [*, errW_none, errW_some] <;> rfl), by repeat (first | (with_reducible first | exact HB.out | apply wA | apply pN | apply wD) | exact HB.out)⟩
  ·rw [if_neg c5] at H
   exact absurd H (by simp)
 ·replace c3 := Bool.eq_false_iff.mpr c3
  subst c3
  have H1 : (some ((⟨#[]⟩ : ByteArray), false)) = some (r1, r2) := by rw [if_neg (show ¬ (false = true) by decide)] at H; exact H
  clear H
  have H := H1
  clear H1
  simp only [Option.some.injEq, Prod.mk.injEq] at H
  obtain ⟨rfl, rfl⟩ := H
  go_enter Tryd.func21, Tryd.ntmps21
  go_wp2_with (first | ((with_reducible refine gC (f := 27) rfl ?_); refine gL (some 5) rfl rfl Tryd.func27 (by kernel_rfl) rfl #[.string a0] rfl (by (try simp only [List.map_toArray, List.map_cons, List.map_nil]); first | done | rfl | (simp only [List.length_drop, List.length_take]; rfl)) ?_; (with_reducible refine (nibble_Good.calls k a0 false _ A2.out).mono ?_); rintro e w13 ⟨rfl, hb⟩; refine ⟨_, rfl, ?_⟩; have n0_ := A0_.mk (wT (by repeat (first | (with_reducible first | exact HB.out | apply wA | apply pN | apply wD) | exact HB.out)) hb); clear HB; have HB := n0_; clear n0_; (try clear hb); (try clear hb2); (try clear hk); (try clear hi)))
  go_ret2
  exact ⟨by first | rfl | (simp [errW_none, errW_some] <;> rfl) | (simp [*, errW_none, errW_some] <;> rfl), by repeat (first | (with_reducible first | exact HB.out | apply wA | apply pN | apply wD) | exact HB.out)⟩

-- NOT PRINTED: function 65 (abi_NoEscape)

-- NOT PRINTED: function 53 (strings_Builder_copyCheck)

-- NOT PRINTED: function 66 (bytealg_MakeNoZero)

-- NOT PRINTED: function 54 (strings_Builder_grow)

-- NOT PRINTED: function 36 (strings_Builder_Grow)

-- NOT PRINTED: function 37 (strings_Builder_WriteString)

-- NOT PRINTED: function 38 (strings_Builder_String)

/-! ### strings_Join: function 22 -/
def strings_Join.f (l0 : List ByteArray) (a1 : ByteArray) : Option (ByteArray) := NodH.join_f l0 a1
theorem strings_Join.calls (A0 : Option Addr) (c0 : Nat) (l0 : List ByteArray) (a1 : ByteArray) (r : ByteArray) (w : World) (hr0 : Kd.C Kd.string w A0 l0.length l0) (hc0 : l0.length ≤ c0) (h : strings_Join.f l0 a1 = some r) :
  Calls Tryd.prog 22 #[.slice A0 l0.length c0, .string a1] w fun e w' => e = .returned (.string r) ∧ Below w.heap.size w w' := NodH.join_calls A0 c0 l0 a1 r w hr0 hc0 h


/-! ### node_value: function 23 -/
def node_value.f (a0 : ByteArray) : Option (ByteArray) := (some (([((a0.size : Int)) % 256] : List Int) : List Int)).bind fun y121 => (if (strOfNums y121).size + a0.size ≤ 9223372036854775807 then (some ((strOfNums y121) ++ a0)) else (none))
set_option maxHeartbeats 8000000 in
set_option maxRecDepth 100000 in
theorem node_value.calls (a0 : ByteArray) (r : ByteArray) (w : World) (h : node_value.f a0 = some r) :
  Calls Tryd.prog 23 #[.string a0] w fun e w' => e = .returned (.string r) ∧ Below w.heap.size w w' := by
 have HB := A0_.mk (Below.refl w.heap.size w)
 have H : ((some (([((a0.size : Int)) % 256] : List Int) : List Int)).bind fun y121 => (if (strOfNums y121).size + a0.size ≤ 9223372036854775807 then (some ((strOfNums y121) ++ a0)) else (none))) = some r := h
 clear h
 obtain ⟨y121, hy121⟩ : ∃ y_ : List Int, y_ = (([((a0.size : Int)) % 256] : List Int)) := ⟨_, rfl⟩
 replace H : (if (strOfNums y121).size + a0.size ≤ 9223372036854775807 then (some ((strOfNums y121) ++ a0)) else (none)) = some r := by first | (rw [hy121]; with_reducible exact H) | (have H2_ := (Option.bind_some _ _).symm.trans H; rw [hy121]; with_reducible exact H2_) | (have H2_ := (Option.bind_some _ _).symm.trans H; with_reducible exact H2_) | with_reducible exact H | (rw [hy121]; exact H) | exact H
 have Ny121 := A0_.mk hy121
 clear hy121
 by_cases c2 : (strOfNums y121).size + a0.size ≤ 9223372036854775807
 ·rw [if_pos c2] at H
  have c2b0 := eq_true c2
  have c2b1 : decide ((strOfNums y121).size + a0.size ≤ 9223372036854775807) = true := decide_eq_true c2
  try have c2b2 : (9223372036854775807 < (strOfNums y121).size + a0.size) = False := eq_false (Nat.not_lt.2 c2)
  obtain rfl := Option.some.inj H
  go_enter Tryd.func23, Tryd.ntmps23
  go_wp2_with (first | ((with_reducible refine gD (N := 6) rfl ?_); refine Kd.R_lit (Kd.int .u8) _ 5 ?hg (N := 6) ?hd (xs := ([((a0.size : Int)) % 256] : List Int)) (inner := [.int .u8 (((a0.size : Int)) % 256)]) (ok := fun _ => True) (okp := fun _ => True) ?hr ?hp (fun _ hk => hk) trivial (Below.refl _ _) (Nat.le_refl _) (by simp) ?_; (case hd => rfl); (case hg => rfl); (case hr => first | (go_simp; done) | (go_simp; rfl)); (case hp => exact (Reps.one (show Kd.M (Kd.int .u8) _ _ _ (((a0.size : Int)) % 256) [.int .u8 (((a0.size : Int)) % 256)] from rfl) (Reps.none _ _))); intro v122 w3 ho4 hb hg_ hnew_; clear hg_ hnew_; (first | rw [← Ny121.out] at ho4 | (simp only [Int.reduceToNat] at ho4; rw [← Ny121.out] at ho4)); have n0_ := A0_.mk (Kd.R_lower ho4 (wZ (by repeat (first | (with_reducible first | exact HB.out | apply wA | apply pN | apply wD) | exact HB.out)))); have n1_ := A0_.mk (wT (by repeat (first | (with_reducible first | exact HB.out | apply wA | apply pN | apply wD) | exact HB.out)) hb); clear HB; have HO123 := n0_; have HB := n1_; clear n0_ n1_; clear hb ho4; have hcv5 := own_string (P := Tryd.prog) Tryd.underlying42 Tryd.underlying5 Tryd.underlying9 (Kd.own_of_R HO123.out)))
  go_ret
  exact ⟨by first | rfl | (simp [errW_none, errW_some] <;> rfl) | (simp [*, errW_none, errW_some] <;> rfl), by repeat (first | (with_reducible first | exact HB.out | apply wA | apply pN | apply wD) | exact HB.out)⟩
 ·rw [if_neg c2] at H
  exact absurd H (by simp)

/-! ### node_Encode: function 9 -/
def node_Encode.f (k : Nat) (a0_0 : Int) (a0_1 : ByteArray) (a0_2 : Bool) (a0_3 : ByteArray) (a0_4 : Int) (l0_5 : List ByteArray) : Option (ByteArray × Bool) := (node_Good.f k a0_0 a0_1 a0_2 a0_3 a0_4 l0_5).bind fun t125 => (if t125 = true then ((some (([(a0_0) % 256] : List Int) : List Int)).bind fun y126 => ((nibble_Pack.f k a0_1).bind fun bt129 => ((strings_Join.f l0_5 (⟨#[]⟩ : ByteArray)).bind fun t131 => (if a0_0 = 1 then (if (strOfNums y126).size + bt129.1.size ≤ 9223372036854775807 then ((node_value.f a0_3).bind fun t132 => (if ((strOfNums y126) ++ bt129.1).size + t132.size ≤ 9223372036854775807 then (some (((strOfNums y126) ++ bt129.1) ++ t132, true)) else (none))) else (none)) else (if a0_0 = 2 then (if (strOfNums y126).size + bt129.1.size ≤ 9223372036854775807 then (if ((strOfNums y126) ++ bt129.1).size + t131.size ≤ 9223372036854775807 then (some (((strOfNums y126) ++ bt129.1) ++ t131, true)) else (none)) else (none)) else ((some (([(a0_4 / 256) % 256, (a0_4) % 256] : List Int) : List Int)).bind fun y133 => (if (strOfNums y126).size + (strOfNums y133).size ≤ 9223372036854775807 then (if a0_2 = true then (if ((strOfNums y126) ++ (strOfNums y133)).size + 1 ≤ 9223372036854775807 then ((node_value.f a0_3).bind fun t136 => (if (((strOfNums y126) ++ (strOfNums y133)) ++ (⟨#[1]⟩ : ByteArray)).size + t136.size ≤ 9223372036854775807 then (if ((((strOfNums y126) ++ (strOfNums y133)) ++ (⟨#[1]⟩ : ByteArray)) ++ t136).size + t131.size ≤ 9223372036854775807 then (some (((((strOfNums y126) ++ (strOfNums y133)) ++ (⟨#[1]⟩ : ByteArray)) ++ t136) ++ t131, true)) else (none)) else (none))) else (none)) else (if ((strOfNums y126) ++ (strOfNums y133)).size + 1 ≤ 9223372036854775807 then (if (((strOfNums y126) ++ (strOfNums y133)) ++ (⟨#[0]⟩ : ByteArray)).size + t131.size ≤ 9223372036854775807 then (some ((((strOfNums y126) ++ (strOfNums y133)) ++ (⟨#[0]⟩ : ByteArray)) ++ t131, true)) else (none)) else (none))) else (none)))))))) else (some ((⟨#[]⟩ : ByteArray), false)))
set_option maxHeartbeats 8000000 in
set_option maxRecDepth 100000 in
theorem node_Encode.calls (k : Nat) (a0_0 : Int) (a0_1 : ByteArray) (a0_2 : Bool) (a0_3 : ByteArray) (a0_4 : Int) (A0_5 : Option Addr) (c0_5 : Nat) (l0_5 : List ByteArray) (r1 : ByteArray) (r2 : Bool) (w : World) (hr0_5 : Kd.C Kd.string w A0_5 l0_5.length l0_5) (hc0_5 : l0_5.length ≤ c0_5) (h : node_Encode.f k a0_0 a0_1 a0_2 a0_3 a0_4 l0_5 = some (r1, r2)) :
  Calls Tryd.prog 9 #[.agg #[.int .i64 a0_0, .string a0_1, .bool a0_2, .string a0_3, .int .i64 a0_4, .slice A0_5 l0_5.length c0_5]] w fun e w' => e = .returned (.tuple #[.string r1, .bool r2]) ∧ Below w.heap.size w w' := by
 have hu24 := Tryd.underlying24
 have HR0_5 := A0_.mk hr0_5
 have HC0_5 := A0_.mk hc0_5
 clear hr0_5 hc0_5
 have HB := A0_.mk (Below.refl w.heap.size w)
 have H : ((node_Good.f k a0_0 a0_1 a0_2 a0_3 a0_4 l0_5).bind fun t125 => (if t125 = true then ((some (([(a0_0) % 256] : List Int) : List Int)).bind fun y126 => ((nibble_Pack.f k a0_1).bind fun bt129 => ((strings_Join.f l0_5 (⟨#[]⟩ : ByteArray)).bind fun t131 => (if a0_0 = 1 then (if (strOfNums y126).size + bt129.1.size ≤ 9223372036854775807 then ((node_value.f a0_3).bind fun t132 => (if ((strOfNums y126) ++ bt129.1).size + t132.size ≤ 9223372036854775807 then (some (((strOfNums y126) ++ bt129.1) ++ t132, true)) else (none))) else (none)) else (if a0_0 = 2 then (if (strOfNums y126).size + bt129.1.size ≤ 9223372036854775807 then (if ((strOfNums y126) ++ bt129.1).size + t131.size ≤ 9223372036854775807 then (some (((strOfNums y126) ++ bt129.1) ++ t131, true)) else (none)) else (none)) else ((some (([(a0_4 / 256) % 256, (a0_4) % 256] : List Int) : List Int)).bind fun y133 => (if (strOfNums y126).size + (strOfNums y133).size ≤ 9223372036854775807 then (if a0_2 = true then (if ((strOfNums y126) ++ (strOfNums y133)).size + 1 ≤ 9223372036854775807 then ((node_value.f a0_3).bind fun t136 => (if (((strOfNums y126) ++ (strOfNums y133)) ++ (⟨#[1]⟩ : ByteArray)).size + t136.size ≤ 9223372036854775807 then (if ((((strOfNums y126) ++ (strOfNums y133)) ++ (⟨#[1]⟩ : ByteArray)) ++ t136).size + t131.size ≤ 9223372036854775807 then (some (((((strOfNums y126) ++ (strOfNums y133)) ++ (⟨#[1]⟩ : ByteArray)) ++ t136) ++ t131, true)) else (none)) else (none))) else (none)) else (if ((strOfNums y126) ++ (strOfNums y133)).size + 1 ≤ 9223372036854775807 then (if (((strOfNums y126) ++ (strOfNums y133)) ++ (⟨#[0]⟩ : ByteArray)).size + t131.size ≤ 9223372036854775807 then (some ((((strOfNums y126) ++ (strOfNums y133)) ++ (⟨#[0]⟩ : ByteArray)) ++ t131, true)) else (none)) else (none))) else (none)))))))) else (some ((⟨#[]⟩ : ByteArray), false)))) = some (r1, r2) := h
 clear h
 replace H := Option.bind_eq_some_iff.mp H
 obtain ⟨t125, A20, H⟩ := H
 replace H : (if t125 = true then ((some (([(a0_0) % 256] : List Int) : List Int)).bind fun y126 => ((nibble_Pack.f k a0_1).bind fun bt129 => ((strings_Join.f l0_5 (⟨#[]⟩ : ByteArray)).bind fun t131 => (if a0_0 = 1 then (if (strOfNums y126).size + bt129.1.size ≤ 9223372036854775807 then ((node_value.f a0_3).bind fun t132 => (if ((strOfNums y126) ++ bt129.1).size + t132.size ≤ 9223372036854775807 then (some (((strOfNums y126) ++ bt129.1) ++ t132, true)) else (none))) else (none)) else (if a0_0 = 2 then (if (strOfNums y126).size + bt129.1.size ≤ 9223372036854775807 then (if ((strOfNums y126) ++ bt129.1).size + t131.size ≤ 9223372036854775807 then (some (((strOfNums y126) ++ bt129.1) ++ t131, true)) else (none)) else (none)) else ((some (([(a0_4 / 256) % 256, (a0_4) % 256] : List Int) : List Int)).bind fun y133 => (if (strOfNums y126).size + (strOfNums y133).size ≤ 9223372036854775807 then (if a0_2 = true then (if ((strOfNums y126) ++ (strOfNums y133)).size + 1 ≤ 9223372036854775807 then ((node_value.f a0_3).bind fun t136 => (if (((strOfNums y126) ++ (strOfNums y133)) ++ (⟨#[1]⟩ : ByteArray)).size + t136.size ≤ 9223372036854775807 then (if ((((strOfNums y126) ++ (strOfNums y133)) ++ (⟨#[1]⟩ : ByteArray)) ++ t136).size + t131.size ≤ 9223372036854775807 then (some (((((strOfNums y126) ++ (strOfNums y133)) ++ (⟨#[1]⟩ : ByteArray)) ++ t136) ++ t131, true)) else (none)) else (none))) else (none)) else (if ((strOfNums y126) ++ (strOfNums y133)).size + 1 ≤ 9223372036854775807 then (if (((strOfNums y126) ++ (strOfNums y133)) ++ (⟨#[0]⟩ : ByteArray)).size + t131.size ≤ 9223372036854775807 then (some ((((strOfNums y126) ++ (strOfNums y133)) ++ (⟨#[0]⟩ : ByteArray)) ++ t131, true)) else (none)) else (none))) else (none)))))))) else (some ((⟨#[]⟩ : ByteArray), false))) = some (r1, r2) := H
 have A2 := A0_.mk A20
 clear A20
 by_cases c3 : t125 = true
 ·subst c3
  have H1 : ((some (([(a0_0) % 256] : List Int) : List Int)).bind fun y126 => ((nibble_Pack.f k a0_1).bind fun bt129 => ((strings_Join.f l0_5 (⟨#[]⟩ : ByteArray)).bind fun t131 => (if a0_0 = 1 then (if (strOfNums y126).size + bt129.1.size ≤ 9223372036854775807 then ((node_value.f a0_3).bind fun t132 => (if ((strOfNums y126) ++ bt129.1).size + t132.size ≤ 9223372036854775807 then (some (((strOfNums y126) ++ bt129.1) ++ t132, true)) else (none))) else (none)) else (if a0_0 = 2 then (if (strOfNums y126).size + bt129.1.size ≤ 9223372036854775807 then (if ((strOfNums y126) ++ bt129.1).size + t131.size ≤ 9223372036854775807 then (some (((strOfNums y126) ++ bt129.1) ++ t131, true)) else (none)) else (none)) else ((some (([(a0_4 / 256) % 256, (a0_4) % 256] : List Int) : List Int)).bind fun y133 => (if (strOfNums y126).size + (strOfNums y133).size ≤ 9223372036854775807 then (if a0_2 = true then (if ((strOfNums y126) ++ (strOfNums y133)).size + 1 ≤ 9223372036854775807 then ((node_value.f a0_3).bind fun t136 => (if (((strOfNums y126) ++ (strOfNums y133)) ++ (⟨#[1]⟩ : ByteArray)).size + t136.size ≤ 9223372036854775807 then (if ((((strOfNums y126) ++ (strOfNums y133)) ++ (⟨#[1]⟩ : ByteArray)) ++ t136).size + t131.size ≤ 9223372036854775807 then (some (((((strOfNums y126) ++ (strOfNums y133)) ++ (⟨#[1]⟩ : ByteArray)) ++ t136) ++ t131, true)) else (none)) else (none))) else (none)) else (if ((strOfNums y126) ++ (strOfNums y133)).size + 1 ≤ 9223372036854775807 then (if (((strOfNums y126) ++ (strOfNums y133)) ++ (⟨#[0]⟩ : ByteArray)).size + t131.size ≤ 9223372036854775807 then (some ((((strOfNums y126) ++ (strOfNums y133)) ++ (⟨#[0]⟩ : ByteArray)) ++ t131, true)) else (none)) else (none))) else (none)))))))) = some (r1, r2) := by rw [if_pos rfl] at H; exact H
  clear H
  have H := H1
  clear H1
  obtain ⟨y126, hy126⟩ : ∃ y_ : List Int, y_ = (([(a0_0) % 256] : List Int)) := ⟨_, rfl⟩
  replace H : ((nibble_Pack.f k a0_1).bind fun bt129 => ((strings_Join.f l0_5 (⟨#[]⟩ : ByteArray)).bind fun t131 => (if a0_0 = 1 then (if (strOfNums y126).size + bt129.1.size ≤ 9223372036854775807 then ((node_value.f a0_3).bind fun t132 => (if ((strOfNums y126) ++ bt129.1).size + t132.size ≤ 9223372036854775807 then (some (((strOfNums y126) ++ bt129.1) ++ t132, true)) else (none))) else (none)) else (if a0_0 = 2 then (if (strOfNums y126).size + bt129.1.size ≤ 9223372036854775807 then (if ((strOfNums y126) ++ bt129.1).size + t131.size ≤ 9223372036854775807 then (some (((strOfNums y126) ++ bt129.1) ++ t131, true)) else (none)) else (none)) else ((some (([(a0_4 / 256) % 256, (a0_4) % 256] : List Int) : List Int)).bind fun y133 => (if (strOfNums y126).size + (strOfNums y133).size ≤ 9223372036854775807 then (if a0_2 = true then (if ((strOfNums y126) ++ (strOfNums y133)).size + 1 ≤ 9223372036854775807 then ((node_value.f a0_3).bind fun t136 => (if (((strOfNums y126) ++ (strOfNums y133)) ++ (⟨#[1]⟩ : ByteArray)).size + t136.size ≤ 9223372036854775807 then (if ((((strOfNums y126) ++ (strOfNums y133)) ++ (⟨#[1]⟩ : ByteArray)) ++ t136).size + t131.size ≤ 9223372036854775807 then (some (((((strOfNums y126) ++ (strOfNums y133)) ++ (⟨#[1]⟩ : ByteArray)) ++ t136) ++ t131, true)) else (none)) else (none))) else (none)) else (if ((strOfNums y126) ++ (strOfNums y133)).size + 1 ≤ 9223372036854775807 then (if (((strOfNums y126) ++ (strOfNums y133)) ++ (⟨#[0]⟩ : ByteArray)).size + t131.size ≤ 9223372036854775807 then (some ((((strOfNums y126) ++ (strOfNums y133)) ++ (⟨#[0]⟩ : ByteArray)) ++ t131, true)) else (none)) else (none))) else (none))))))) = some (r1, r2) := by first | (rw [hy126]; with_reducible exact H) | (have H2_ := (Option.bind_some _ _).symm.trans H; rw [hy126]; with_reducible exact H2_) | (have H2_ := (Option.bind_some _ _).symm.trans H; with_reducible exact H2_) | with_reducible exact H | (rw [hy126]; exact H) | exact H
  have Ny126 := A0_.mk hy126
  clear hy126
  replace H := Option.bind_eq_some_iff.mp H
  obtain ⟨⟨t129, t130⟩, A40, H⟩ := H
  replace H : ((strings_Join.f l0_5 (⟨#[]⟩ : ByteArray)).bind fun t131 => (if a0_0 = 1 then (if (strOfNums y126).size + t129.size ≤ 9223372036854775807 then ((node_value.f a0_3).bind fun t132 => (if ((strOfNums y126) ++ t129).size + t132.size ≤ 9223372036854775807 then (some (((strOfNums y126) ++ t129) ++ t132, true)) else (none))) else (none)) else (if a0_0 = 2 then (if (strOfNums y126).size + t129.size ≤ 9223372036854775807 then (if ((strOfNums y126) ++ t129).size + t131.size ≤ 9223372036854775807 then (some (((strOfNums y126) ++ t129) ++ t131, true)) else (none)) else (none)) else ((some (([(a0_4 / 256) % 256, (a0_4) % 256] : List Int) : List Int)).bind fun y133 => (if (strOfNums y126).size + (strOfNums y133).size ≤ 9223372036854775807 then (if a0_2 = true then (if ((strOfNums y126) ++ (strOfNums y133)).size + 1 ≤ 9223372036854775807 then ((node_value.f a0_3).bind fun t136 => (if (((strOfNums y126) ++ (strOfNums y133)) ++ (⟨#[1]⟩ : ByteArray)).size + t136.size ≤ 9223372036854775807 then (if ((((strOfNums y126) ++ (strOfNums y133)) ++ (⟨#[1]⟩ : ByteArray)) ++ t136).size + t131.size ≤ 9223372036854775807 then (some (((((strOfNums y126) ++ (strOfNums y133)) ++ (⟨#[1]⟩ : ByteArray)) ++ t136) ++ t131, true)) else (none)) else (none))) else (none)) else (if ((strOfNums y126) ++ (strOfNums y133)).size + 1 ≤ 9223372036854775807 then (if (((strOfNums y126) ++ (strOfNums y133)) ++ (⟨#[0]⟩ : ByteArray)).size + t131.size ≤ 9223372036854775807 then (some ((((strOfNums y126) ++ (strOfNums y133)) ++ (⟨#[0]⟩ : ByteArray)) ++ t131, true)) else (none)) else (none))) else (none)))))) = some (r1, r2) := H
  have A4 := A0_.mk A40
  clear A40
  replace H := Option.bind_eq_some_iff.mp H
  obtain ⟨t131, A50, H⟩ := H
  replace H : (if a0_0 = 1 then (if (strOfNums y126).size + t129.size ≤ 9223372036854775807 then ((node_value.f a0_3).bind fun t132 => (if ((strOfNums y126) ++ t129).size + t132.size ≤ 9223372036854775807 then (some (((strOfNums y126) ++ t129) ++ t132, true)) else (none))) else (none)) else (if a0_0 = 2 then (if (strOfNums y126).size + t129.size ≤ 9223372036854775807 then (if ((strOfNums y126) ++ t129).size + t131.size ≤ 9223372036854775807 then (some (((strOfNums y126) ++ t129) ++ t131, true)) else (none)) else (none)) else ((some (([(a0_4 / 256) % 256, (a0_4) % 256] : List Int) : List Int)).bind fun y133 => (if (strOfNums y126).size + (strOfNums y133).size ≤ 9223372036854775807 then (if a0_2 = true then (if ((strOfNums y126) ++ (strOfNums y133)).size + 1 ≤ 9223372036854775807 then ((node_value.f a0_3).bind fun t136 => (if (((strOfNums y126) ++ (strOfNums y133)) ++ (⟨#[1]⟩ : ByteArray)).size + t136.size ≤ 9223372036854775807 then (if ((((strOfNums y126) ++ (strOfNums y133)) ++ (⟨#[1]⟩ : ByteArray)) ++ t136).size + t131.size ≤ 9223372036854775807 then (some (((((strOfNums y126) ++ (strOfNums y133)) ++ (⟨#[1]⟩ : ByteArray)) ++ t136) ++ t131, true)) else (none)) else (none))) else (none)) else (if ((strOfNums y126) ++ (strOfNums y133)).size + 1 ≤ 9223372036854775807 then (if (((strOfNums y126) ++ (strOfNums y133)) ++ (⟨#[0]⟩ : ByteArray)).size + t131.size ≤ 9223372036854775807 then (some ((((strOfNums y126) ++ (strOfNums y133)) ++ (⟨#[0]⟩ : ByteArray)) ++ t131, true)) else (none)) else (none))) else (none))))) = some (r1, r2) := H
  have A5 := A0_.mk A50
  clear A50
  by_cases c6 : a0_0 = 1
  ·rw [if_pos c6] at H
   have c6b0 : (a0_0 == 1) = true := beq_iff_eq.mpr c6
   have c6b1 : (a0_0 != 1) = false := bne_eq_false_iff_eq.mpr c6
   clear c6
   by_cases c7 : (strOfNums y126).size + t129.size ≤ 9223372036854775807
   ·rw [if_pos c7] at H
    have c7b0 := eq_true c7
    have c7b1 : decide ((strOfNums y126).size + t129.size ≤ 9223372036854775807) = true := decide_eq_true c7
    try have c7b2 : (9223372036854775807 < (strOfNums y126).size + t129.size) = False := eq_false (Nat.not_lt.2 c7)
    replace H := Option.bind_eq_some_iff.mp H
    obtain ⟨t132, A80, H⟩ := H
    replace H : (if ((strOfNums y126) ++ t129).size + t132.size ≤ 9223372036854775807 then (some (((strOfNums y126) ++ t129) ++ t132, true)) else (none)) = some (r1, r2) := H
    have A8 := A0_.mk A80
    clear A80
    by_cases c9 : ((strOfNums y126) ++ t129).size + t132.size ≤ 9223372036854775807
    ·rw [if_pos c9] at H
     have c9b0 := eq_true c9
     have c9b1 : decide (((strOfNums y126) ++ t129).size + t132.size ≤ 9223372036854775807) = true := decide_eq_true c9
     try have c9b2 : (9223372036854775807 < ((strOfNums y126) ++ t129).size + t132.size) = False := eq_false (Nat.not_lt.2 c9)
     have c9z9 := c9b2
     try simp only [ByteArray.size_append] at c9z9
     try have c9z8 : ¬ _ := of_eq_false c9z9
     simp only [Option.some.injEq, Prod.mk.injEq] at H
     obtain ⟨rfl, rfl⟩ := H
     go_enter Tryd.func9, Tryd.ntmps9
     go_wp2_with (first | ((with_reducible refine gD (N := 1) rfl ?_); refine xE ?hg (N := 1) ?hd (cs := #[.int .i64 a0_0, .string a0_1, .bool a0_2, .string a0_3, .int .i64 a0_4, .slice A0_5 l0_5.length c0_5]) (t := 24) ?hr ?_; (case hd => rfl); (case hg => rfl); (case hr => first | (go_simp; done) | (go_simp; rfl)); intro gb124 hg w10 hbox hb; have n0_ := A0_.mk (wT (by repeat (first | (with_reducible first | exact HB.out | apply wA | apply pN | apply wD) | exact HB.out)) hb); have n1_ := A0_.mk (hbox); have n2_ := A0_.mk ((by rw [hg]; exact (wZ (by repeat (first | (with_reducible first | exact HB.out | apply wA | apply pN | apply wD) | exact HB.out))) : w.heap.size ≤ gb124)); have n3_ := A0_.mk ((by rw [hg]; exact (wZ (by repeat (first | (with_reducible first | exact HB.out | apply wA | apply pN | apply wD) | exact HB.out))) : w.heap.size ≤ gb124)); clear HB; have HB := n0_; have BK124 := n1_; have GW124 := n2_; have GE124 := n3_; clear n0_ n1_ n2_ n3_; clear hb hbox hg; have hcz11_0 : w10.cell? ⟨gb124, 0, none⟩ = some (.int .i64 a0_0) := (bC BK124.out 0).trans rfl; have hcz11_1 : w10.cell? ⟨gb124, 1, none⟩ = some (.string a0_1) := (bC BK124.out 1).trans rfl; have hcz11_2 : w10.cell? ⟨gb124, 2, none⟩ = some (.bool a0_2) := (bC BK124.out 2).trans rfl; have hcz11_3 : w10.cell? ⟨gb124, 3, none⟩ = some (.string a0_3) := (bC BK124.out 3).trans rfl; have hcz11_4 : w10.cell? ⟨gb124, 4, none⟩ = some (.int .i64 a0_4) := (bC BK124.out 4).trans rfl; have hcz11_5 : w10.cell? ⟨gb124, 5, none⟩ = some (.slice A0_5 l0_5.length c0_5) := (bC BK124.out 5).trans rfl; have hfz11_0 := bF BK124.out 0; have hfz11_1 := bF BK124.out 1; have hfz11_2 := bF BK124.out 2; have hfz11_3 := bF BK124.out 3; have hfz11_4 := bF BK124.out 4; have hfz11_5 := bF BK124.out 5) | ((with_reducible refine gC (f := 13) rfl ?_); refine gL (some 9) rfl rfl Tryd.func13 (by kernel_rfl) rfl #[.agg #[.int .i64 a0_0, .string a0_1, .bool a0_2, .string a0_3, .int .i64 a0_4, .slice A0_5 l0_5.length c0_5]] rfl (by (try simp only [List.map_toArray, List.map_cons, List.map_nil]); first | done | rfl | (simp only [List.length_drop, List.length_take]; rfl)) ?_; (with_reducible refine (node_Good.calls k a0_0 a0_1 a0_2 a0_3 a0_4 _ _ l0_5 true _ ?side1 ?side2 A2.out).mono ?_); (case side1 => repeat (first | exact (Kd.C_below HR0_5.out HB.out) | (with_reducible refine Kd.C_alloc ?_ _) | (with_reducible refine Kd.C_drewN ?_ _) | (with_reducible refine Kd.C_drew ?_))); (case side2 => exact HC0_5.out); rintro e w12 ⟨rfl, hb⟩; refine ⟨_, rfl, ?_⟩; have n0_ := A0_.mk (bB (g := gb124) (o := .cells #[.int .i64 a0_0, .string a0_1, .bool a0_2, .string a0_3, .int .i64 a0_4, .slice A0_5 l0_5.length c0_5] 24 (0, 0)) (by (with_reducible repeat (first | refine bN ?_ _ | refine bD ?_ | refine bA ?_ _)); exact BK124.out) hb); have n1_ := A0_.mk (wT (by repeat (first | (with_reducible first | exact HB.out | apply wA | apply pN | apply wD | refine wS ?_ GE124.out) | exact HB.out)) hb); clear BK124; clear HB; have BK124 := n0_; have HB := n1_; clear n0_ n1_; (try clear hb); (try clear hb2); (try clear hk); (try clear hi); have hcz13_0 : w12.cell? ⟨gb124, 0, none⟩ = some (.int .i64 a0_0) := (bC BK124.out 0).trans rfl; have hcz13_1 : w12.cell? ⟨gb124, 1, none⟩ = some (.string a0_1) := (bC BK124.out 1).trans rfl; have hcz13_2 : w12.cell? ⟨gb124, 2, none⟩ = some (.bool a0_2) := (bC BK124.out 2).trans rfl; have hcz13_3 : w12.cell? ⟨gb124, 3, none⟩ = some (.string a0_3) := (bC BK124.out 3).trans rfl; have hcz13_4 : w12.cell? ⟨gb124, 4, none⟩ = some (.int .i64 a0_4) := (bC BK124.out 4).trans rfl; have hcz13_5 : w12.cell? ⟨gb124, 5, none⟩ = some (.slice A0_5 l0_5.length c0_5) := (bC BK124.out 5).trans rfl; have hfz13_0 := bF BK124.out 0; have hfz13_1 := bF BK124.out 1; have hfz13_2 := bF BK124.out 2; have hfz13_3 := bF BK124.out 3; have hfz13_4 := bF BK124.out 4; have hfz13_5 := bF BK124.out 5) | ((with_reducible refine gD (N := 14) rfl ?_); refine Kd.R_lit (Kd.int .u8) _ 5 ?hg (N := 14) ?hd (xs := ([(a0_0) % 256] : List Int)) (inner := [.int .u8 ((a0_0) % 256)]) (ok := fun _ => True) (okp := fun _ => True) ?hr ?hp (fun _ hk => hk) trivial (Below.refl _ _) (Nat.le_refl _) (by simp) ?_; (case hd => rfl); (case hg => rfl); (case hr => first | (go_simp; done) | (go_simp; rfl)); (case hp => exact (Reps.one (show Kd.M (Kd.int .u8) _ _ _ ((a0_0) % 256) [.int .u8 ((a0_0) % 256)] from rfl) (Reps.none _ _))); intro v127 w14 ho15 hb hg_ hnew_; clear hg_ hnew_; (first | rw [← Ny126.out] at ho15 | (simp only [Int.reduceToNat] at ho15; rw [← Ny126.out] at ho15)); have n0_ := A0_.mk (Kd.R_lower ho15 (wZ (by repeat (first | (with_reducible first | exact HB.out | apply wA | apply pN | apply wD | refine wS ?_ GE124.out) | exact HB.out)))); have n1_ := A0_.mk (bB (g := gb124) (o := .cells #[.int .i64 a0_0, .string a0_1, .bool a0_2, .string a0_3, .int .i64 a0_4, .slice A0_5 l0_5.length c0_5] 24 (0, 0)) (by (with_reducible repeat (first | refine bN ?_ _ | refine bD ?_ | refine bA ?_ _)); exact BK124.out) hb); have n2_ := A0_.mk (wT (by repeat (first | (with_reducible first | exact HB.out | apply wA | apply pN | apply wD | refine wS ?_ GE124.out) | exact HB.out)) hb); clear BK124; clear HB; have HO128 := n0_; have BK124 := n1_; have HB := n2_; clear n0_ n1_ n2_; clear hb ho15; have hcv16 := own_string (P := Tryd.prog) Tryd.underlying42 Tryd.underlying5 Tryd.underlying9 (Kd.own_of_R HO128.out); have hcz17_0 : w14.cell? ⟨gb124, 0, none⟩ = some (.int .i64 a0_0) := (bC BK124.out 0).trans rfl; have hcz17_1 : w14.cell? ⟨gb124, 1, none⟩ = some (.string a0_1) := (bC BK124.out 1).trans rfl; have hcz17_2 : w14.cell? ⟨gb124, 2, none⟩ = some (.bool a0_2) := (bC BK124.out 2).trans rfl; have hcz17_3 : w14.cell? ⟨gb124, 3, none⟩ = some (.string a0_3) := (bC BK124.out 3).trans rfl; have hcz17_4 : w14.cell? ⟨gb124, 4, none⟩ = some (.int .i64 a0_4) := (bC BK124.out 4).trans rfl; have hcz17_5 : w14.cell? ⟨gb124, 5, none⟩ = some (.slice A0_5 l0_5.length c0_5) := (bC BK124.out 5).trans rfl; have hfz17_0 := bF BK124.out 0; have hfz17_1 := bF BK124.out 1; have hfz17_2 := bF BK124.out 2; have hfz17_3 := bF BK124.out 3; have hfz17_4 := bF BK124.out 4; have hfz17_5 := bF BK124.out 5) | ((with_reducible refine gC (f := 21) rfl ?_); refine gL (some 19) rfl rfl Tryd.func21 (by kernel_rfl) rfl #[.string a0_1] rfl (by (try simp only [List.map_toArray, List.map_cons, List.map_nil]); first | done | rfl | (simp only [List.length_drop, List.length_take]; rfl)) ?_; (with_reducible refine (nibble_Pack.calls k a0_1 t129 t130 _ A4.out).mono ?_); rintro e w18 ⟨rfl, hb⟩; refine ⟨_, rfl, ?_⟩; have n0_ := A0_.mk (Kd.R_below (by (with_reducible repeat (first | apply Kd.R_alloc | apply Kd.R_drewN | apply Kd.R_drew)); exact HO128.out) hb); have n1_ := A0_.mk (bB (g := gb124) (o := .cells #[.int .i64 a0_0, .string a0_1, .bool a0_2, .string a0_3, .int .i64 a0_4, .slice A0_5 l0_5.length c0_5] 24 (0, 0)) (by (with_reducible repeat (first | refine bN ?_ _ | refine bD ?_ | refine bA ?_ _)); exact BK124.out) hb); have n2_ := A0_.mk (wT (by repeat (first | (with_reducible first | exact HB.out | apply wA | apply pN | apply wD | refine wS ?_ GE124.out) | exact HB.out)) hb); clear HO128; clear BK124; clear HB; have HO128 := n0_; have BK124 := n1_; have HB := n2_; clear n0_ n1_ n2_; (try clear hb); (try clear hb2); (try clear hk); (try clear hi); have hcz19_0 : w18.cell? ⟨gb124, 0, none⟩ = some (.int .i64 a0_0) := (bC BK124.out 0).trans rfl; have hcz19_1 : w18.cell? ⟨gb124, 1, none⟩ = some (.string a0_1) := (bC BK124.out 1).trans rfl; have hcz19_2 : w18.cell? ⟨gb124, 2, none⟩ = some (.bool a0_2) := (bC BK124.out 2).trans rfl; have hcz19_3 : w18.cell? ⟨gb124, 3, none⟩ = some (.string a0_3) := (bC BK124.out 3).trans rfl; have hcz19_4 : w18.cell? ⟨gb124, 4, none⟩ = some (.int .i64 a0_4) := (bC BK124.out 4).trans rfl; have hcz19_5 : w18.cell? ⟨gb124, 5, none⟩ = some (.slice A0_5 l0_5.length c0_5) := (bC BK124.out 5).trans rfl; have hfz19_0 := bF BK124.out 0; have hfz19_1 := bF BK124.out 1; have hfz19_2 := bF BK124.out 2; have hfz19_3 := bF BK124.out 3; have hfz19_4 := bF BK124.out 4; have hfz19_5 := bF BK124.out 5) | ((with_reducible refine gC (f := 22) rfl ?_); refine gL (some 24) rfl rfl Tryd.func22 (by kernel_rfl) rfl #[.slice A0_5 l0_5.length c0_5, .string (⟨#[]⟩ : ByteArray)] rfl (by (try simp only [List.map_toArray, List.map_cons, List.map_nil]); first | done | rfl | (simp only [List.length_drop, List.length_take]; rfl)) ?_; (with_reducible refine (strings_Join.calls _ _ l0_5 (⟨#[]⟩ : ByteArray) t131 _ ?side1 ?side2 A5.out).mono ?_); (case side1 => repeat (first | exact (Kd.C_below HR0_5.out HB.out) | (with_reducible refine Kd.C_alloc ?_ _) | (with_reducible refine Kd.C_drewN ?_ _) | (with_reducible refine Kd.C_drew ?_))); (case side2 => exact HC0_5.out); rintro e w20 ⟨rfl, hb⟩; refine ⟨_, rfl, ?_⟩; have n0_ := A0_.mk (Kd.R_below (by (with_reducible repeat (first | apply Kd.R_alloc | apply Kd.R_drewN | apply Kd.R_drew)); exact HO128.out) hb); have n1_ := A0_.mk (bB (g := gb124) (o := .cells #[.int .i64 a0_0, .string a0_1, .bool a0_2, .string a0_3, .int .i64 a0_4, .slice A0_5 l0_5.length c0_5] 24 (0, 0)) (by (with_reducible repeat (first | refine bN ?_ _ | refine bD ?_ | refine bA ?_ _)); exact BK124.out) hb); have n2_ := A0_.mk (wT (by repeat (first | (with_reducible first | exact HB.out | apply wA | apply pN | apply wD | refine wS ?_ GE124.out) | exact HB.out)) hb); clear HO128; clear BK124; clear HB; have HO128 := n0_; have BK124 := n1_; have HB := n2_; clear n0_ n1_ n2_; (try clear hb); (try clear hb2); (try clear hk); (try clear hi); have hcz21_0 : w20.cell? ⟨gb124, 0, none⟩ = some (.int .i64 a0_0) := (bC BK124.out 0).trans rfl; have hcz21_1 : w20.cell? ⟨gb124, 1, none⟩ = some (.string a0_1) := (bC BK124.out 1).trans rfl; have hcz21_2 : w20.cell? ⟨gb124, 2, none⟩ = some (.bool a0_2) := (bC BK124.out 2).trans rfl; have hcz21_3 : w20.cell? ⟨gb124, 3, none⟩ = some (.string a0_3) := (bC BK124.out 3).trans rfl; have hcz21_4 : w20.cell? ⟨gb124, 4, none⟩ = some (.int .i64 a0_4) := (bC BK124.out 4).trans rfl; have hcz21_5 : w20.cell? ⟨gb124, 5, none⟩ = some (.slice A0_5 l0_5.length c0_5) := (bC BK124.out 5).trans rfl; have hfz21_0 := bF BK124.out 0; have hfz21_1 := bF BK124.out 1; have hfz21_2 := bF BK124.out 2; have hfz21_3 := bF BK124.out 3; have hfz21_4 := bF BK124.out 4; have hfz21_5 := bF BK124.out 5) | ((with_reducible refine gC (f := 23) rfl ?_); refine gL (some 34) rfl rfl Tryd.func23 (by kernel_rfl) rfl #[.string a0_3] rfl (by (try simp only [List.map_toArray, List.map_cons, List.map_nil]); first | done | rfl | (simp only [List.length_drop, List.length_take]; rfl)) ?_; (with_reducible refine (node_value.calls a0_3 t132 _ A8.out).mono ?_); rintro e w22 ⟨rfl, hb⟩; refine ⟨_, rfl, ?_⟩; have n0_ := A0_.mk (Kd.R_below (by (with_reducible repeat (first | apply Kd.R_alloc | apply Kd.R_drewN | apply Kd.R_drew)); exact HO128.out) hb); have n1_ := A0_.mk (bB (g := gb124) (o := .cells #[.int .i64 a0_0, .string a0_1, .bool a0_2, .string a0_3, .int .i64 a0_4, .slice A0_5 l0_5.length c0_5] 24 (0, 0)) (by (with_reducible repeat (first | refine bN ?_ _ | refine bD ?_ | refine bA ?_ _)); exact BK124.out) hb); have n2_ := A0_.mk (wT (by repeat (first | (with_reducible first | exact HB.out | apply wA | apply pN | apply wD | refine wS ?_ GE124.out) | exact HB.out)) hb); clear HO128; clear BK124; clear HB; have HO128 := n0_; have BK124 := n1_; have HB := n2_; clear n0_ n1_ n2_; (try clear hb); (try clear hb2); (try clear hk); (try clear hi)))
     go_ret2
     exact ⟨by first | rfl | (simp [errW_none, errW_some] <;> rfl) | (simp [*, errW_none, errW_some] <;> rfl), by repeat (first | (with_reducible first | exact HB.out | apply wA | apply pN | apply wD | refine wS ?_ GE124.out) | exact HB.out)⟩
    ·rw [if_neg c9] at H
     exact absurd H (by simp)
   ·rw [if_neg c7] at H
    exact absurd H (by simp)
  ·rw [if_neg c6] at H
   have c6b0 : (a0_0 == 1) = false := beq_eq_false_iff_ne.mpr c6
   have c6b1 : (a0_0 != 1) = true := bne_iff_ne.mpr c6
   by_cases c23 : a0_0 = 2
   ·rw [if_pos c23] at H
    have c23b0 : (a0_0 == 2) = true := beq_iff_eq.mpr c23
    have c23b1 : (a0_0 != 2) = false := bne_eq_false_iff_eq.mpr c23
    clear c23
    by_cases c24 : (strOfNums y126).size + t129.size ≤ 9223372036854775807
    ·rw [if_pos c24] at H
     have c24b0 := eq_true c24
     have c24b1 : decide ((strOfNums y126).size + t129.size ≤ 9223372036854775807) = true := decide_eq_true c24
     try have c24b2 : (9223372036854775807 < (strOfNums y126).size + t129.size) = False := eq_false (Nat.not_lt.2 c24)
     by_cases c25 : ((strOfNums y126) ++ t129).size + t131.size ≤ 9223372036854775807
     ·rw [if_pos c25] at H
      have c25b0 := eq_true c25
      have c25b1 : decide (((strOfNums y126) ++ t129).size + t131.size ≤ 9223372036854775807) = true := decide_eq_true c25
      try have c25b2 : (9223372036854775807 < ((strOfNums y126) ++ t129).size + t131.size) = False := eq_false (Nat.not_lt.2 c25)
      have c25z9 := c25b2
      try simp only [ByteArray.size_append] at c25z9
      try have c25z8 : ¬ _ := of_eq_false c25z9
      simp only [Option.some.injEq, Prod.mk.injEq] at H
      obtain ⟨rfl, rfl⟩ := H
      go_enter Tryd.func9, Tryd.ntmps9
      go_wp2_with (first | ((with_reducible refine gD (N := 1) rfl ?_); refine xE ?hg (N := 1) ?hd (cs := #[.int .i64 a0_0, .string a0_1, .bool a0_2, .string a0_3, .int .i64 a0_4, .slice A0_5 l0_5.length c0_5]) (t := 24) ?hr ?_; (case hd => rfl); (case hg => rfl); (case hr => first | (go_simp; done) | (go_simp; rfl)); intro gb124 hg w26 hbox hb; have n0_ := A0_.mk (wT (by repeat (first | (with_reducible first | exact HB.out | apply wA | apply pN | apply wD) | exact HB.out)) hb); have n1_ := A0_.mk (hbox); have n2_ := A0_.mk ((by rw [hg]; exact (wZ (by repeat (first | (with_reducible first | exact HB.out | apply wA | apply pN | apply wD) | exact HB.out))) : w.heap.size ≤ gb124)); have n3_ := A0_.mk ((by rw [hg]; exact (wZ (by repeat (first | (with_reducible first | exact HB.out | apply wA | apply pN | apply wD) | exact HB.out))) : w.heap.size ≤ gb124)); clear HB; have HB := n0_; have BK124 := n1_; have GW124 := n2_; have GE124 := n3_; clear n0_ n1_ n2_ n3_; clear hb hbox hg; have hcz27_0 : w26.cell? ⟨gb124, 0, none⟩ = some (.int .i64 a0_0) := (bC BK124.out 0).trans rfl; have hcz27_1 : w26.cell? ⟨gb124, 1, none⟩ = some (.string a0_1) := (bC BK124.out 1).trans rfl; have hcz27_2 : w26.cell? ⟨gb124, 2, none⟩ = some (.bool a0_2) := (bC BK124.out 2).trans rfl; have hcz27_3 : w26.cell? ⟨gb124, 3, none⟩ = some (.string a0_3) := (bC BK124.out 3).trans rfl; have hcz27_4 : w26.cell? ⟨gb124, 4, none⟩ = some (.int .i64 a0_4) := (bC BK124.out 4).trans rfl; have hcz27_5 : w26.cell? ⟨gb124, 5, none⟩ = some (.slice A0_5 l0_5.length c0_5) := (bC BK124.out 5).trans rfl; have hfz27_0 := bF BK124.out 0; have hfz27_1 := bF BK124.out 1; have hfz27_2 := bF BK124.out 2; have hfz27_3 := bF BK124.out 3; have hfz27_4 := bF BK124.out 4; have hfz27_5 := bF BK124.out 5) | ((with_reducible refine gC (f := 13) rfl ?_); refine gL (some 9) rfl rfl Tryd.func13 (by kernel_rfl) rfl #[.agg #[.int .i64 a0_0, .string a0_1, .bool a0_2, .string a0_3, .int .i64 a0_4, .slice A0_5 l0_5.length c0_5]] rfl (by (try simp only [List.map_toArray, List.map_cons, List.map_nil]); first | done | rfl | (simp only [List.length_drop, List.length_take]; rfl)) ?_; (with_reducible refine (node_Good.calls k a0_0 a0_1 a0_2 a0_3 a0_4 _ _ l0_5 true _ ?side1 ?side2 A2.out).mono ?_); (case side1 => repeat (first | exact (Kd.C_below HR0_5.out HB.out) | (with_reducible refine Kd.C_alloc ?_ _) | (with_reducible refine Kd.C_drewN ?_ _) | (with_reducible refine Kd.C_drew ?_))); (case side2 => exact HC0_5.out); rintro e w28 ⟨rfl, hb⟩; refine ⟨_, rfl, ?_⟩; have n0_ := A0_.mk (bB (g := gb124) (o := .cells #[.int .i64 a0_0, .string a0_1, .bool a0_2, .string a0_3, .int .i64 a0_4, .slice A0_5 l0_5.length c0_5] 24 (0, 0)) (by (with_reducible repeat (first | refine bN ?_ _ | refine bD ?_ | refine bA ?_ _)); exact BK124.out) hb); have n1_ := A0_.mk (wT (by repeat (first | (with_reducible first | exact HB.out | apply wA | apply pN | apply wD | refine wS ?_ GE124.out) | exact HB.out)) hb); clear BK124; clear HB; have BK124 := n0_; have HB := n1_; clear n0_ n1_; (try clear hb); (try clear hb2); (try clear hk); (try clear hi); have hcz29_0 : w28.cell? ⟨gb124, 0, none⟩ = some (.int .i64 a0_0) := (bC BK124.out 0).trans rfl; have hcz29_1 : w28.cell? ⟨gb124, 1, none⟩ = some (.string a0_1) := (bC BK124.out 1).trans rfl; have hcz29_2 : w28.cell? ⟨gb124, 2, none⟩ = some (.bool a0_2) := (bC BK124.out 2).trans rfl; have hcz29_3 : w28.cell? ⟨gb124, 3, none⟩ = some (.string a0_3) := (bC BK124.out 3).trans rfl; have hcz29_4 : w28.cell? ⟨gb124, 4, none⟩ = some (.int .i64 a0_4) := (bC BK124.out 4).trans rfl; have hcz29_5 : w28.cell? ⟨gb124, 5, none⟩ = some (.slice A0_5 l0_5.length c0_5) := (bC BK124.out 5).trans rfl; have hfz29_0 := bF BK124.out 0; have hfz29_1 := bF BK124.out 1; have hfz29_2 := bF BK124.out 2; have hfz29_3 := bF BK124.out 3; have hfz29_4 := bF BK124.out 4; have hfz29_5 := bF BK124.out 5) | ((with_reducible refine gD (N := 14) rfl ?_); refine Kd.R_lit (Kd.int .u8) _ 5 ?hg (N := 14) ?hd (xs := ([(a0_0) % 256] : List Int)) (inner := [.int .u8 ((a0_0) % 256)]) (ok := fun _ => True) (okp := fun _ => True) ?hr ?hp (fun _ hk => hk) trivial (Below.refl _ _) (Nat.le_refl _) (by simp) ?_; (case hd => rfl); (case hg => rfl); (case hr => first | (go_simp; done) | (go_simp; rfl)); (case hp => exact (Reps.one (show Kd.M (Kd.int .u8) _ _ _ ((a0_0) % 256) [.int .u8 ((a0_0) % 256)] from rfl) (Reps.none _ _))); intro v127 w30 ho31 hb hg_ hnew_; clear hg_ hnew_; (first | rw [← Ny126.out] at ho31 | (simp only [Int.reduceToNat] at ho31; rw [← Ny126.out] at ho31)); have n0_ := A0_.mk (Kd.R_lower ho31 (wZ (by repeat (first | (with_reducible first | exact HB.out | apply wA | apply pN | apply wD | refine wS ?_ GE124.out) | exact HB.out)))); have n1_ := A0_.mk (bB (g := gb124) (o := .cells #[.int .i64 a0_0, .string a0_1, .bool a0_2, .string a0_3, .int .i64 a0_4, .slice A0_5 l0_5.length c0_5] 24 (0, 0)) (by (with_reducible repeat (first | refine bN ?_ _ | refine bD ?_ | refine bA ?_ _)); exact BK124.out) hb); have n2_ := A0_.mk (wT (by repeat (first | (with_reducible first | exact HB.out | apply wA | apply pN | apply wD | refine wS ?_ GE124.out) | exact HB.out)) hb); clear BK124; clear HB; have HO128 := n0_; have BK124 := n1_; have HB := n2_; clear n0_ n1_ n2_; clear hb ho31; have hcv32 := own_string (P := Tryd.prog) Tryd.underlying42 Tryd.underlying5 Tryd.underlying9 (Kd.own_of_R HO128.out); have hcz33_0 : w30.cell? ⟨gb124, 0, none⟩ = some (.int .i64 a0_0) := (bC BK124.out 0).trans rfl; have hcz33_1 : w30.cell? ⟨gb124, 1, none⟩ = some (.string a0_1) := (bC BK124.out 1).trans rfl; have hcz33_2 : w30.cell? ⟨gb124, 2, none⟩ = some (.bool a0_2) := (bC BK124.out 2).trans rfl; have hcz33_3 : w30.cell? ⟨gb124, 3, none⟩ = some (.string a0_3) := (bC BK124.out 3).trans rfl; have hcz33_4 : w30.cell? ⟨gb124, 4, none⟩ = some (.int .i64 a0_4) := (bC BK124.out 4).trans rfl; have hcz33_5 : w30.cell? ⟨gb124, 5, none⟩ = some (.slice A0_5 l0_5.length c0_5) := (bC BK124.out 5).trans rfl; have hfz33_0 := bF BK124.out 0; have hfz33_1 := bF BK124.out 1; have hfz33_2 := bF BK124.out 2; have hfz33_3 := bF BK124.out 3; have hfz33_4 := bF BK124.out 4; have hfz33_5 := bF BK124.out 5) | ((with_reducible refine gC (f := 21) rfl ?_); refine gL (some 19) rfl rfl Tryd.func21 (by kernel_rfl) rfl #[.string a0_1] rfl (by (try simp only [List.map_toArray, List.map_cons, List.map_nil]); first | done | rfl | (simp only [List.length_drop, List.length_take]; rfl)) ?_; (with_reducible refine (nibble_Pack.calls k a0_1 t129 t130 _ A4.out).mono ?_); rintro e w34 ⟨rfl, hb⟩; refine ⟨_, rfl, ?_⟩; have n0_ := A0_.mk (Kd.R_below (by (with_reducible repeat (first | apply Kd.R_alloc | apply Kd.R_drewN | apply Kd.R_drew)); exact HO128.out) hb); have n1_ := A0_.mk (bB (g := gb124) (o := .cells #[.int .i64 a0_0, .string a0_1, .bool a0_2, .string a0_3, .int .i64 a0_4, .slice A0_5 l0_5.length c0_5] 24 (0, 0)) (by (with_reducible repeat (first | refine bN ?_ _ | refine bD ?_ | refine bA ?_ _)); exact BK124.out) hb); have n2_ := A0_.mk (wT (by repeat (first | (with_reducible first | exact HB.out | apply wA | apply pN | apply wD | refine wS ?_ GE124.out) | exact HB.out)) hb); clear HO128; clear BK124; clear HB; have HO128 := n0_; have BK124 := n1_; have HB := n2_; clear n0_ n1_ n2_; (try clear hb); (try clear hb2); (try clear hk); (try clear hi); have hcz35_0 : w34.cell? ⟨gb124, 0, none⟩ = some (.int .i64 a0_0) := (bC BK124.out 0).trans rfl; have hcz35_1 : w34.cell? ⟨gb124, 1, none⟩ = some (.string a0_1) := (bC BK124.out 1).trans rfl; have hcz35_2 : w34.cell? ⟨gb124, 2, none⟩ = some (.bool a0_2) := (bC BK124.out 2).trans rfl; have hcz35_3 : w34.cell? ⟨gb124, 3, none⟩ = some (.string a0_3) := (bC BK124.out 3).trans rfl; have hcz35_4 : w34.cell? ⟨gb124, 4, none⟩ = some (.int .i64 a0_4) := (bC BK124.out 4).trans rfl; have hcz35_5 : w34.cell? ⟨gb124, 5, none⟩ = some (.slice A0_5 l0_5.length c0_5) := (bC BK124.out 5).trans rfl; have hfz35_0 := bF BK124.out 0; have hfz35_1 := bF BK124.out 1; have hfz35_2 := bF BK124.out 2; have hfz35_3 := bF BK124.out 3; have hfz35_4 := bF BK124.out 4; have hfz35_5 := bF BK124.out 5) | ((with_reducible refine gC (f := 22) rfl ?_); refine gL (some 24) rfl rfl Tryd.func22 (by kernel_rfl) rfl #[.slice A0_5 l0_5.length c0_5, .string (⟨#[]⟩ : ByteArray)] rfl (by (try simp only [List.map_toArray, List.map_cons, List.map_nil]); first | done | rfl | (simp only [List.length_drop, List.length_take]; rfl)) ?_; (with_reducible refine (strings_Join.calls _ _ l0_5 (⟨#[]⟩ : ByteArray) t131 _ ?side1 ?side2 A5.out).mono ?_); (case side1 => repeat (first | exact (Kd.C_below HR0_5.out HB.out) | (with_reducible refine Kd.C_alloc ?_ _) | (with_reducible refine Kd.C_drewN ?_ _) | (with_reducible refine Kd.C_drew ?_))); (case side2 => exact HC0_5.out); rintro e w36 ⟨rfl, hb⟩; refine ⟨_, rfl, ?_⟩; have n0_ := A0_.mk (Kd.R_below (by (with_reducible repeat (first | apply Kd.R_alloc | apply Kd.R_drewN | apply Kd.R_drew)); exact HO128.out) hb); have n1_ := A0_.mk (bB (g := gb124) (o := .cells #[.int .i64 a0_0, .string a0_1, .bool a0_2, .string a0_3, .int .i64 a0_4, .slice A0_5 l0_5.length c0_5] 24 (0, 0)) (by (with_reducible repeat (first | refine bN ?_ _ | refine bD ?_ | refine bA ?_ _)); exact BK124.out) hb); have n2_ := A0_.mk (wT (by repeat (first | (with_reducible first | exact HB.out | apply wA | apply pN | apply wD | refine wS ?_ GE124.out) | exact HB.out)) hb); clear HO128; clear BK124; clear HB; have HO128 := n0_; have BK124 := n1_; have HB := n2_; clear n0_ n1_ n2_; (try clear hb); (try clear hb2); (try clear hk); (try clear hi); have hcz37_0 : w36.cell? ⟨gb124, 0, none⟩ = some (.int .i64 a0_0) := (bC BK124.out 0).trans rfl; have hcz37_1 : w36.cell? ⟨gb124, 1, none⟩ = some (.string a0_1) := (bC BK124.out 1).trans rfl; have hcz37_2 : w36.cell? ⟨gb124, 2, none⟩ = some (.bool a0_2) := (bC BK124.out 2).trans rfl; have hcz37_3 : w36.cell? ⟨gb124, 3, none⟩ = some (.string a0_3) := (bC BK124.out 3).trans rfl; have hcz37_4 : w36.cell? ⟨gb124, 4, none⟩ = some (.int .i64 a0_4) := (bC BK124.out 4).trans rfl; have hcz37_5 : w36.cell? ⟨gb124, 5, none⟩ = some (.slice A0_5 l0_5.length c0_5) := (bC BK124.out 5).trans rfl; have hfz37_0 := bF BK124.out 0; have hfz37_1 := bF BK124.out 1; have hfz37_2 := bF BK124.out 2; have hfz37_3 := bF BK124.out 3; have hfz37_4 := bF BK124.out 4; have hfz37_5 := bF BK124.out 5))
      go_ret2
      exact ⟨by first | rfl | (simp [errW_none, errW_some] <;> rfl) | (simp [*, errW_none, errW_some] <;> rfl), by repeat (first | (with_reducible first | exact HB.out | apply wA | apply pN | apply wD | refine wS ?_ GE124.out) | exact HB.out)⟩
     ·rw [if_neg c25] at H
      exact absurd H (by simp)
    ·rw [if_neg c24] at H
     exact absurd H (by simp)
   ·rw [if_neg c23] at H
    have c23b0 : (a0_0 == 2) = false := beq_eq_false_iff_ne.mpr c23
    have c23b1 : (a0_0 != 2) = true := bne_iff_ne.mpr c23
    obtain ⟨y133, hy133⟩ : ∃ y_ : List Int, y_ = (([(a0_4 / 256) % 256, (a0_4) % 256] : List Int)) := ⟨_, rfl⟩
    replace H : (if (strOfNums y126).size + (strOfNums y133).size ≤ 9223372036854775807 then (if a0_2 = true then (if ((strOfNums y126) ++ (strOfNums y133)).size + 1 ≤ 9223372036854775807 then ((node_value.f a0_3).bind fun t136 => (if (((strOfNums y126) ++ (strOfNums y133)) ++ (⟨#[1]⟩ : ByteArray)).size + t136.size ≤ 9223372036854775807 then (if ((((strOfNums y126) ++ (strOfNums y133)) ++ (⟨#[1]⟩ : ByteArray)) ++ t136).size + t131.size ≤ 9223372036854775807 then (some (((((strOfNums y126) ++ (strOfNums y133)) ++ (⟨#[1]⟩ : ByteArray)) ++ t136) ++ t131, true)) else (none)) else (none))) else (none)) else (if ((strOfNums y126) ++ (strOfNums y133)).size + 1 ≤ 9223372036854775807 then (if (((strOfNums y126) ++ (strOfNums y133)) ++ (⟨#[0]⟩ : ByteArray)).size + t131.size ≤ 9223372036854775807 then (some ((((strOfNums y126) ++ (strOfNums y133)) ++ (⟨#[0]⟩ : ByteArray)) ++ t131, true)) else (none)) else (none))) else (none)) = some (r1, r2) := by first | (rw [hy133]; with_reducible exact H) | (have H2_ := (Option.bind_some _ _).symm.trans H; rw [hy133]; with_reducible exact H2_) | (have H2_ := (Option.bind_some _ _).symm.trans H; with_reducible exact H2_) | with_reducible exact H | (rw [hy133]; exact H) | exact H
    have Ny133 := A0_.mk hy133
    clear hy133
    by_cases c38 : (strOfNums y126).size + (strOfNums y133).size ≤ 9223372036854775807
    ·rw [if_pos c38] at H
     have c38b0 := eq_true c38
     have c38b1 : decide ((strOfNums y126).size + (strOfNums y133).size ≤ 9223372036854775807) = true := decide_eq_true c38
     try have c38b2 : (9223372036854775807 < (strOfNums y126).size + (strOfNums y133).size) = False := eq_false (Nat.not_lt.2 c38)
     by_cases c39 : a0_2 = true
     ·subst c39
      have H1 : (if ((strOfNums y126) ++ (strOfNums y133)).size + 1 ≤ 9223372036854775807 then ((node_value.f a0_3).bind fun t136 => (if (((strOfNums y126) ++ (strOfNums y133)) ++ (⟨#[1]⟩ : ByteArray)).size + t136.size ≤ 9223372036854775807 then (if ((((strOfNums y126) ++ (strOfNums y133)) ++ (⟨#[1]⟩ : ByteArray)) ++ t136).size + t131.size ≤ 9223372036854775807 then (some (((((strOfNums y126) ++ (strOfNums y133)) ++ (⟨#[1]⟩ : ByteArray)) ++ t136) ++ t131, true)) else (none)) else (none))) else (none)) = some (r1, r2) := by rw [if_pos rfl] at H; exact H
      clear H
      have H := H1
      clear H1
      by_cases c40 : ((strOfNums y126) ++ (strOfNums y133)).size + 1 ≤ 9223372036854775807
      ·rw [if_pos c40] at H
       have c40b0 := eq_true c40
       have c40b1 : decide (((strOfNums y126) ++ (strOfNums y133)).size + 1 ≤ 9223372036854775807) = true := decide_eq_true c40
       try have c40b2 : (9223372036854775807 < ((strOfNums y126) ++ (strOfNums y133)).size + 1) = False := eq_false (Nat.not_lt.2 c40)
       have c40z9 := c40b2
       try simp only [ByteArray.size_append] at c40z9
       try have c40z8 : ¬ _ := of_eq_false c40z9
       replace H := Option.bind_eq_some_iff.mp H
       obtain ⟨t136, A410, H⟩ := H
       replace H : (if (((strOfNums y126) ++ (strOfNums y133)) ++ (⟨#[1]⟩ : ByteArray)).size + t136.size ≤ 9223372036854775807 then (if ((((strOfNums y126) ++ (strOfNums y133)) ++ (⟨#[1]⟩ : ByteArray)) ++ t136).size + t131.size ≤ 9223372036854775807 then (some (((((strOfNums y126) ++ (strOfNums y133)) ++ (⟨#[1]⟩ : ByteArray)) ++ t136) ++ t131, true)) else (none)) else (none)) = some (r1, r2) := H
       have A41 := A0_.mk A410
       clear A410
       by_cases c42 : (((strOfNums y126) ++ (strOfNums y133)) ++ (⟨#[1]⟩ : ByteArray)).size + t136.size ≤ 9223372036854775807
       ·rw [if_pos c42] at H
        have c42b0 := eq_true c42
        have c42b1 : decide ((((strOfNums y126) ++ (strOfNums y133)) ++ (⟨#[1]⟩ : ByteArray)).size + t136.size ≤ 9223372036854775807) = true := decide_eq_true c42
        try have c42b2 : (9223372036854775807 < (((strOfNums y126) ++ (strOfNums y133)) ++ (⟨#[1]⟩ : ByteArray)).size + t136.size) = False := eq_false (Nat.not_lt.2 c42)
        have c42z9 := c42b2
        try simp only [ByteArray.size_append] at c42z9
        try have c42z8 : ¬ _ := of_eq_false c42z9
        by_cases c43 : ((((strOfNums y126) ++ (strOfNums y133)) ++ (⟨#[1]⟩ : ByteArray)) ++ t136).size + t131.size ≤ 9223372036854775807
        ·rw [if_pos c43] at H
         have c43b0 := eq_true c43
         have c43b1 : decide (((((strOfNums y126) ++ (strOfNums y133)) ++ (⟨#[1]⟩ : ByteArray)) ++ t136).size + t131.size ≤ 9223372036854775807) = true := decide_eq_true c43
         try have c43b2 : (9223372036854775807 < ((((strOfNums y126) ++ (strOfNums y133)) ++ (⟨#[1]⟩ : ByteArray)) ++ t136).size + t131.size) = False := eq_false (Nat.not_lt.2 c43)
         have c43z9 := c43b2
         try simp only [ByteArray.size_append] at c43z9
         try have c43z8 : ¬ _ := of_eq_false c43z9
         simp only [Option.some.injEq, Prod.mk.injEq] at H
         obtain ⟨rfl, rfl⟩ := H
         go_enter Tryd.func9, Tryd.ntmps9
         go_wp2_with (first | ((with_reducible refine gD (N := 1) rfl ?_); refine xE ?hg (N := 1) ?hd (cs := #[.int .i64 a0_0, .string a0_1, .bool true, .string a0_3, .int .i64 a0_4, .slice A0_5 l0_5.length c0_5]) (t := 24) ?hr ?_; (case hd => rfl); (case hg => rfl); (case hr => first | (go_simp; done) | (go_simp; rfl)); intro gb124 hg w44 hbox hb; have n0_ := A0_.mk (wT (by repeat (first | (with_reducible first | exact HB.out | apply wA | apply pN | apply wD) | exact HB.out)) hb); have n1_ := A0_.mk (hbox); have n2_ := A0_.mk ((by rw [hg]; exact (wZ (by repeat (first | (with_reducible first | exact HB.out | apply wA | apply pN | apply wD) | exact HB.out))) : w.heap.size ≤ gb124)); have n3_ := A0_.mk ((by rw [hg]; exact (wZ (by repeat (first | (with_reducible first | exact HB.out | apply wA | apply pN | apply wD) | exact HB.out))) : w.heap.size ≤ gb124)); clear HB; have HB := n0_; have BK124 := n1_; have GW124 := n2_; have GE124 := n3_; clear n0_ n1_ n2_ n3_; clear hb hbox hg; have hcz45_0 : w44.cell? ⟨gb124, 0, none⟩ = some (.int .i64 a0_0) := (bC BK124.out 0).trans rfl; have hcz45_1 : w44.cell? ⟨gb124, 1, none⟩ = some (.string a0_1) := (bC BK124.out 1).trans rfl; have hcz45_2 : w44.cell? ⟨gb124, 2, none⟩ = some (.bool true) := (bC BK124.out 2).trans rfl; have hcz45_3 : w44.cell? ⟨gb124, 3, none⟩ = some (.string a0_3) := (bC BK124.out 3).trans rfl; have hcz45_4 : w44.cell? ⟨gb124, 4, none⟩ = some (.int .i64 a0_4) := (bC BK124.out 4).trans rfl; have hcz45_5 : w44.cell? ⟨gb124, 5, none⟩ = some (.slice A0_5 l0_5.length c0_5) := (bC BK124.out 5).trans rfl; have hfz45_0 := bF BK124.out 0; have hfz45_1 := bF BK124.out 1; have hfz45_2 := bF BK124.out 2; have hfz45_3 := bF BK124.out 3; have hfz45_4 := bF BK124.out 4; have hfz45_5 := bF BK124.out 5) | ((with_reducible refine gC (f := 13) rfl ?_); refine gL (some 9) rfl rfl Tryd.func13 (by kernel_rfl) rfl #[.agg #[.int .i64 a0_0, .string a0_1, .bool true, .string a0_3, .int .i64 a0_4, .slice A0_5 l0_5.length c0_5]] rfl (by (try simp only [List.map_toArray, List.map_cons, List.map_nil]); first | done | rfl | (simp only [List.length_drop, List.length_take]; rfl)) ?_; (with_reducible refine (node_Good.calls k a0_0 a0_1 true a0_3 a0_4 _ _ l0_5 true _ ?side1 ?side2 A2.out).mono ?_); (case side1 => repeat (first | exact (Kd.C_below HR0_5.out HB.out) | (with_reducible refine Kd.C_alloc ?_ _) | (with_reducible refine Kd.C_drewN ?_ _) | (with_reducible refine Kd.C_drew ?_))); (case side2 => exact HC0_5.out); rintro e w46 ⟨rfl, hb⟩; refine ⟨_, rfl, ?_⟩; have n0_ := A0_.mk (bB (g := gb124) (o := .cells #[.int .i64 a0_0, .string a0_1, .bool true, .string a0_3, .int .i64 a0_4, .slice A0_5 l0_5.length c0_5] 24 (0, 0)) (by (with_reducible repeat (first | refine bN ?_ _ | refine bD ?_ | refine bA ?_ _)); exact BK124.out) hb); have n1_ := A0_.mk (wT (by repeat (first | (with_reducible first | exact HB.out | apply wA | apply pN | apply wD | refine wS ?_ GE124.out) | exact HB.out)) hb); clear BK124; clear HB; have BK124 := n0_; have HB := n1_; clear n0_ n1_; (try clear hb); (try clear hb2); (try clear hk); (try clear hi); have hcz47_0 : w46.cell? ⟨gb124, 0, none⟩ = some (.int .i64 a0_0) := (bC BK124.out 0).trans rfl; have hcz47_1 : w46.cell? ⟨gb124, 1, none⟩ = some (.string a0_1) := (bC BK124.out 1).trans rfl; have hcz47_2 : w46.cell? ⟨gb124, 2, none⟩ = some (.bool true) := (bC BK124.out 2).trans rfl; have hcz47_3 : w46.cell? ⟨gb124, 3, none⟩ = some (.string a0_3) := (bC BK124.out 3).trans rfl; have hcz47_4 : w46.cell? ⟨gb124, 4, none⟩ = some (.int .i64 a0_4) := (bC BK124.out 4).trans rfl; have hcz47_5 : w46.cell? ⟨gb124, 5, none⟩ = some (.slice A0_5 l0_5.length c0_5) := (bC BK124.out 5).trans rfl; have hfz47_0 := bF BK124.out 0; have hfz47_1 := bF BK124.out 1; have hfz47_2 := bF BK124.out 2; have hfz47_3 := bF BK124.out 3; have hfz47_4 := bF BK124.out 4; have hfz47_5 := bF BK124.out 5) | ((with_reducible refine gD (N := 14) rfl ?_); refine Kd.R_lit (Kd.int .u8) _ 5 ?hg (N := 14) ?hd (xs := ([(a0_0) % 256] : List Int)) (inner := [.int .u8 ((a0_0) % 256)]) (ok := fun _ => True) (okp := fun _ => True) ?hr ?hp (fun _ hk => hk) trivial (Below.refl _ _) (Nat.le_refl _) (by simp) ?_; (case hd => rfl); (case hg => rfl); (case hr => first | (go_simp; done) | (go_simp; rfl)); (case hp => exact (Reps.one (show Kd.M (Kd.int .u8) _ _ _ ((a0_0) % 256) [.int .u8 ((a0_0) % 256)] from rfl) (Reps.none _ _))); intro v127 w48 ho49 hb hg_ hnew_; clear hg_ hnew_; (first | rw [← Ny126.out] at ho49 | (simp only [Int.reduceToNat] at ho49; rw [← Ny126.out] at ho49)); have n0_ := A0_.mk (Kd.R_lower ho49 (wZ (by repeat (first | (with_reducible first | exact HB.out | apply wA | apply pN | apply wD | refine wS ?_ GE124.out) | exact HB.out)))); have n1_ := A0_.mk (bB (g := gb124) (o := .cells #[.int .i64 a0_0, .string a0_1, .bool true, .string a0_3, .int .i64 a0_4, .slice A0_5 l0_5.length c0_5] 24 (0, 0)) (by (with_reducible repeat (first | refine bN ?_ _ | refine bD ?_ | refine bA ?_ _)); exact BK124.out) hb); have n2_ := A0_.mk (wT (by repeat (first | (with_reducible first | exact HB.out | apply wA | apply pN | apply wD | refine wS ?_ GE124.out) | exact HB.out)) hb); clear BK124; clear HB; have HO128 := n0_; have BK124 := n1_; have HB := n2_; clear n0_ n1_ n2_; clear hb ho49; have hcv50 := own_string (P := Tryd.prog) Tryd.underlying42 Tryd.underlying5 Tryd.underlying9 (Kd.own_of_R HO128.out); have hcz51_0 : w48.cell? ⟨gb124, 0, none⟩ = some (.int .i64 a0_0) := (bC BK124.out 0).trans rfl; have hcz51_1 : w48.cell? ⟨gb124, 1, none⟩ = some (.string a0_1) := (bC BK124.out 1).trans rfl; have hcz51_2 : w48.cell? ⟨gb124, 2, none⟩ = some (.bool true) := (bC BK124.out 2).trans rfl; have hcz51_3 : w48.cell? ⟨gb124, 3, none⟩ = some (.string a0_3) := (bC BK124.out 3).trans rfl; have hcz51_4 : w48.cell? ⟨gb124, 4, none⟩ = some (.int .i64 a0_4) := (bC BK124.out 4).trans rfl; have hcz51_5 : w48.cell? ⟨gb124, 5, none⟩ = some (.slice A0_5 l0_5.length c0_5) := (bC BK124.out 5).trans rfl; have hfz51_0 := bF BK124.out 0; have hfz51_1 := bF BK124.out 1; have hfz51_2 := bF BK124.out 2; have hfz51_3 := bF BK124.out 3; have hfz51_4 := bF BK124.out 4; have hfz51_5 := bF BK124.out 5) | ((with_reducible refine gC (f := 21) rfl ?_); refine gL (some 19) rfl rfl Tryd.func21 (by kernel_rfl) rfl #[.string a0_1] rfl (by (try simp only [List.map_toArray, List.map_cons, List.map_nil]); first | done | rfl | (simp only [List.length_drop, List.length_take]; rfl)) ?_; (with_reducible refine (nibble_Pack.calls k a0_1 t129 t130 _ A4.out).mono ?_); rintro e w52 ⟨rfl, hb⟩; refine ⟨_, rfl, ?_⟩; have n0_ := A0_.mk (Kd.R_below (by (with_reducible repeat (first | apply Kd.R_alloc | apply Kd.R_drewN | apply Kd.R_drew)); exact HO128.out) hb); have n1_ := A0_.mk (bB (g := gb124) (o := .cells #[.int .i64 a0_0, .string a0_1, .bool true, .string a0_3, .int .i64 a0_4, .slice A0_5 l0_5.length c0_5] 24 (0, 0)) (by (with_reducible repeat (first | refine bN ?_ _ | refine bD ?_ | refine bA ?_ _)); exact BK124.out) hb); have n2_ := A0_.mk (wT (by repeat (first | (with_reducible first | exact HB.out | apply wA | apply pN | apply wD | refine wS ?_ GE124.out) | exact HB.out)) hb); clear HO128; clear BK124; clear HB; have HO128 := n0_; have BK124 := n1_; have HB := n2_; clear n0_ n1_ n2_; (try clear hb); (try clear hb2); (try clear hk); (try clear hi); have hcz53_0 : w52.cell? ⟨gb124, 0, none⟩ = some (.int .i64 a0_0) := (bC BK124.out 0).trans rfl; have hcz53_1 : w52.cell? ⟨gb124, 1, none⟩ = some (.string a0_1) := (bC BK124.out 1).trans rfl; have hcz53_2 : w52.cell? ⟨gb124, 2, none⟩ = some (.bool true) := (bC BK124.out 2).trans rfl; have hcz53_3 : w52.cell? ⟨gb124, 3, none⟩ = some (.string a0_3) := (bC BK124.out 3).trans rfl; have hcz53_4 : w52.cell? ⟨gb124, 4, none⟩ = some (.int .i64 a0_4) := (bC BK124.out 4).trans rfl; have hcz53_5 : w52.cell? ⟨gb124, 5, none⟩ = some (.slice A0_5 l0_5.length c0_5) := (bC BK124.out 5).trans rfl; have hfz53_0 := bF BK124.out 0; have hfz53_1 := bF BK124.out 1; have hfz53_2 := bF BK124.out 2; have hfz53_3 := bF BK124.out 3; have hfz53_4 := bF BK124.out 4; have hfz53_5 := bF BK124.out 5) | ((with_reducible refine gC (f := 22) rfl ?_); refine gL (some 24) rfl rfl Tryd.func22 (by kernel_rfl) rfl #[.slice A0_5 l0_5.length c0_5, .string (⟨#[]⟩ : ByteArray)] rfl (by (try simp only [List.map_toArray, List.map_cons, List.map_nil]); first | done | rfl | (simp only [List.length_drop, List.length_take]; rfl)) ?_; (with_reducible refine (strings_Join.calls _ _ l0_5 (⟨#[]⟩ : ByteArray) t131 _ ?side1 ?side2 A5.out).mono ?_); (case side1 => repeat (first | exact (Kd.C_below HR0_5.out HB.out) | (with_reducible refine Kd.C_alloc ?_ _) | (with_reducible refine Kd.C_drewN ?_ _) | (with_reducible refine Kd.C_drew ?_))); (case side2 => exact HC0_5.out); rintro e w54 ⟨rfl, hb⟩; refine ⟨_, rfl, ?_⟩; have n0_ := A0_.mk (Kd.R_below (by (with_reducible repeat (first | apply Kd.R_alloc | apply Kd.R_drewN | apply Kd.R_drew)); exact HO128.out) hb); have n1_ := A0_.mk (bB (g := gb124) (o := .cells #[.int .i64 a0_0, .string a0_1, .bool true, .string a0_3, .int .i64 a0_4, .slice A0_5 l0_5.length c0_5] 24 (0, 0)) (by (with_reducible repeat (first | refine bN ?_ _ | refine bD ?_ | refine bA ?_ _)); exact BK124.out) hb); have n2_ := A0_.mk (wT (by repeat (first | (with_reducible first | exact HB.out | apply wA | apply pN | apply wD | refine wS ?_ GE124.out) | exact HB.out)) hb); clear HO128; clear BK124; clear HB; have HO128 := n0_; have BK124 := n1_; have HB := n2_; clear n0_ n1_ n2_; (try clear hb); (try clear hb2); (try clear hk); (try clear hi); have hcz55_0 : w54.cell? ⟨gb124, 0, none⟩ = some (.int .i64 a0_0) := (bC BK124.out 0).trans rfl; have hcz55_1 : w54.cell? ⟨gb124, 1, none⟩ = some (.string a0_1) := (bC BK124.out 1).trans rfl; have hcz55_2 : w54.cell? ⟨gb124, 2, none⟩ = some (.bool true) := (bC BK124.out 2).trans rfl; have hcz55_3 : w54.cell? ⟨gb124, 3, none⟩ = some (.string a0_3) := (bC BK124.out 3).trans rfl; have hcz55_4 : w54.cell? ⟨gb124, 4, none⟩ = some (.int .i64 a0_4) := (bC BK124.out 4).trans rfl; have hcz55_5 : w54.cell? ⟨gb124, 5, none⟩ = some (.slice A0_5 l0_5.length c0_5) := (bC BK124.out 5).trans rfl; have hfz55_0 := bF BK124.out 0; have hfz55_1 := bF BK124.out 1; have hfz55_2 := bF BK124.out 2; have hfz55_3 := bF BK124.out 3; have hfz55_4 := bF BK124.out 4; have hfz55_5 := bF BK124.out 5) | ((with_reducible refine gD (N := 51) rfl ?_); refine Kd.R_lit (Kd.int .u8) _ 5 ?hg (N := 51) ?hd (xs := ([(a0_4 / 256) % 256, (a0_4) % 256] : List Int)) (inner := [.int .u8 ((a0_4 / 256) % 256), .int .u8 ((a0_4) % 256)]) (ok := fun _ => True) (okp := fun _ => True) ?hr ?hp (fun _ hk => hk) trivial (Below.refl _ _) (Nat.le_refl _) (by simp) ?_; (case hd => rfl); (case hg => rfl); (case hr => first | (go_simp; done) | (go_simp; rfl)); (case hp => exact (Reps.one (show Kd.M (Kd.int .u8) _ _ _ ((a0_4 / 256) % 256) [.int .u8 ((a0_4 / 256) % 256)] from rfl) (Reps.one (show Kd.M (Kd.int .u8) _ _ _ ((a0_4) % 256) [.int .u8 ((a0_4) % 256)] from rfl) (Reps.none _ _)))); intro v134 w56 ho57 hb hg_ hnew_; clear hg_ hnew_; (first | rw [← Ny133.out] at ho57 | (simp only [Int.reduceToNat] at ho57; rw [← Ny133.out] at ho57)); have n0_ := A0_.mk (Kd.R_elder' (by (with_reducible repeat (first | apply Kd.R_alloc | apply Kd.R_drewN | apply Kd.R_drew)); exact HO128.out) (Kd.R_base ho57) hb); have n1_ := A0_.mk (Kd.R_lower (Kd.R_new' ho57 (Kd.R_lt (by (with_reducible repeat (first | apply Kd.R_alloc | apply Kd.R_drewN | apply Kd.R_drew)); exact HO128.out))) (wZ (by repeat (first | (with_reducible first | exact HB.out | apply wA | apply pN | apply wD | refine wS ?_ GE124.out) | exact HB.out)))); have n2_ := A0_.mk (bB (g := gb124) (o := .cells #[.int .i64 a0_0, .string a0_1, .bool true, .string a0_3, .int .i64 a0_4, .slice A0_5 l0_5.length c0_5] 24 (0, 0)) (by (with_reducible repeat (first | refine bN ?_ _ | refine bD ?_ | refine bA ?_ _)); exact BK124.out) hb); have n3_ := A0_.mk (wT (by repeat (first | (with_reducible first | exact HB.out | apply wA | apply pN | apply wD | refine wS ?_ GE124.out) | exact HB.out)) hb); clear HO128; clear BK124; clear HB; have HO128 := n0_; have HO135 := n1_; have BK124 := n2_; have HB := n3_; clear n0_ n1_ n2_ n3_; clear hb ho57; have hcv58 := own_string (P := Tryd.prog) Tryd.underlying42 Tryd.underlying5 Tryd.underlying9 (Kd.own_of_R HO135.out); have hcz59_0 : w56.cell? ⟨gb124, 0, none⟩ = some (.int .i64 a0_0) := (bC BK124.out 0).trans rfl; have hcz59_1 : w56.cell? ⟨gb124, 1, none⟩ = some (.string a0_1) := (bC BK124.out 1).trans rfl; have hcz59_2 : w56.cell? ⟨gb124, 2, none⟩ = some (.bool true) := (bC BK124.out 2).trans rfl; have hcz59_3 : w56.cell? ⟨gb124, 3, none⟩ = some (.string a0_3) := (bC BK124.out 3).trans rfl; have hcz59_4 : w56.cell? ⟨gb124, 4, none⟩ = some (.int .i64 a0_4) := (bC BK124.out 4).trans rfl; have hcz59_5 : w56.cell? ⟨gb124, 5, none⟩ = some (.slice A0_5 l0_5.length c0_5) := (bC BK124.out 5).trans rfl; have hfz59_0 := bF BK124.out 0; have hfz59_1 := bF BK124.out 1; have hfz59_2 := bF BK124.out 2; have hfz59_3 := bF BK124.out 3; have hfz59_4 := bF BK124.out 4; have hfz59_5 := bF BK124.out 5) | ((with_reducible refine gC (f := 23) rfl ?_); refine gL (some 65) rfl rfl Tryd.func23 (by kernel_rfl) rfl #[.string a0_3] rfl (by (try simp only [List.map_toArray, List.map_cons, List.map_nil]); first | done | rfl | (simp only [List.length_drop, List.length_take]; rfl)) ?_; (with_reducible refine (node_value.calls a0_3 t136 _ A41.out).mono ?_); rintro e w60 ⟨rfl, hb⟩; refine ⟨_, rfl, ?_⟩; have n0_ := A0_.mk (Kd.R_below (by (with_reducible repeat (first | apply Kd.R_alloc | apply Kd.R_drewN | apply Kd.R_drew)); exact HO128.out) hb); have n1_ := A0_.mk (Kd.R_below (by (with_reducible repeat (first | apply Kd.R_alloc | apply Kd.R_drewN | apply Kd.R_drew)); exact HO135.out) hb); have n2_ := A0_.mk (bB (g := gb124) (o := .cells #[.int .i64 a0_0, .string a0_1, .bool true, .string a0_3, .int .i64 a0_4, .slice A0_5 l0_5.length c0_5] 24 (0, 0)) (by (with_reducible repeat (first | refine bN ?_ _ | refine bD ?_ | refine bA ?_ _)); exact BK124.out) hb); have n3_ := A0_.mk (wT (by repeat (first | (with_reducible first | exact HB.out | apply wA | apply pN | apply wD | refine wS ?_ GE124.out) | exact HB.out)) hb); clear HO128; clear HO135; clear BK124; clear HB; have HO128 := n0_; have HO135 := n1_; have BK124 := n2_; have HB := n3_; clear n0_ n1_ n2_ n3_; (try clear hb); (try clear hb2); (try clear hk); (try clear hi)))
         go_ret2
         exact ⟨by first | rfl | (simp [errW_none, errW_some] <;> rfl) | (simp [*, errW_none, errW_some] <;> rfl), by repeat (first | (with_reducible first | exact HB.out | apply wA | apply pN | apply wD | refine wS ?_ GE124.out) | exact HB.out)⟩
        ·rw [if_neg c43] at H
         exact absurd H (by simp)
       ·rw [if_neg c42] at H
        exact absurd H (by simp)
      ·rw [if_neg c40] at H
       exact absurd H (by simp)
     ·replace c39 := Bool.eq_false_iff.mpr c39
      subst c39
      have H1 : (if ((strOfNums y126) ++ (strOfNums y133)).size + 1 ≤ 9223372036854775807 then (if (((strOfNums y126) ++ (strOfNums y133)) ++ (⟨#[0]⟩ : ByteArray)).size + t131.size ≤ 9223372036854775807 then (some ((((strOfNums y126) ++ (strOfNums y133)) ++ (⟨#[0]⟩ : ByteArray)) ++ t131, true)) else (none)) else (none)) = some (r1, r2) := by rw [if_neg (show ¬ (false = true) by decide)] at H; exact H
      clear H
      have H := H1
      clear H1
      by_cases c61 : ((strOfNums y126) ++ (strOfNums y133)).size + 1 ≤ 9223372036854775807
      ·rw [if_pos c61] at H
       have c61b0 := eq_true c61
       have c61b1 : decide (((strOfNums y126) ++ (strOfNums y133)).size + 1 ≤ 9223372036854775807) = true := decide_eq_true c61
       try have c61b2 : (9223372036854775807 < ((strOfNums y126) ++ (strOfNums y133)).size + 1) = False := eq_false (Nat.not_lt.2 c61)
       have c61z9 := c61b2
       try simp only [ByteArray.size_append] at c61z9
       try have c61z8 : ¬ _ := of_eq_false c61z9
       by_cases c62 : (((strOfNums y126) ++ (strOfNums y133)) ++ (⟨#[0]⟩ : ByteArray)).size + t131.size ≤ 9223372036854775807
       ·rw [if_pos c62] at H
        have c62b0 := eq_true c62
        have c62b1 : decide ((((strOfNums y126) ++ (strOfNums y133)) ++ (⟨#[0]⟩ : ByteArray)).size + t131.size ≤ 9223372036854775807) = true := decide_eq_true c62
        try have c62b2 : (9223372036854775807 < (((strOfNums y126) ++ (strOfNums y133)) ++ (⟨#[0]⟩ : ByteArray)).size + t131.size) = False := eq_false (Nat.not_lt.2 c62)
        have c62z9 := c62b2
        try simp only [ByteArray.size_append] at c62z9
        try have c62z8 : ¬ _ := of_eq_false c62z9
        simp only [Option.some.injEq, Prod.mk.injEq] at H
        obtain ⟨rfl, rfl⟩ := H
        go_enter Tryd.func9, Tryd.ntmps9
        go_wp2_with (first | ((with_reducible refine gD (N := 1) rfl ?_); refine xE ?hg (N := 1) ?hd (cs := #[.int .i64 a0_0, .string a0_1, .bool false, .string a0_3, .int .i64 a0_4, .slice A0_5 l0_5.length c0_5]) (t := 24) ?hr ?_; (case hd => rfl); (case hg => rfl); (case hr => first | (go_simp; done) | (go_simp; rfl)); intro gb124 hg w63 hbox hb; have n0_ := A0_.mk (wT (by repeat (first | (with_reducible first | exact HB.out | apply wA | apply pN | apply wD) | exact HB.out)) hb); have n1_ := A0_.mk (hbox); have n2_ := A0_.mk ((by rw [hg]; exact (wZ (by repeat (first | (with_reducible first | exact HB.out | apply wA | apply pN | apply wD) | exact HB.out))) : w.heap.size ≤ gb124)); have n3_ := A0_.mk ((by rw [hg]; exact (wZ (by repeat (first | (with_reducible first | exact HB.out | apply wA | apply pN | apply wD) | exact HB.out))) : w.heap.size ≤ gb124)); clear HB; have HB := n0_; have BK124 := n1_; have GW124 := n2_; have GE124 := n3_; clear n0_ n1_ n2_ n3_; clear hb hbox hg; have hcz64_0 : w63.cell? ⟨gb124, 0, none⟩ = some (.int .i64 a0_0) := (bC BK124.out 0).trans rfl; have hcz64_1 : w63.cell? ⟨gb124, 1, none⟩ = some (.string a0_1) := (bC BK124.out 1).trans rfl; have hcz64_2 : w63.cell? ⟨gb124, 2, none⟩ = some (.bool false) := (bC BK124.out 2).trans rfl; have hcz64_3 : w63.cell? ⟨gb124, 3, none⟩ = some (.string a0_3) := (bC BK124.out 3).trans rfl; have hcz64_4 : w63.cell? ⟨gb124, 4, none⟩ = some (.int .i64 a0_4) := (bC BK124.out 4).trans rfl; have hcz64_5 : w63.cell? ⟨gb124, 5, none⟩ = some (.slice A0_5 l0_5.length c0_5) := (bC BK124.out 5).trans rfl; have hfz64_0 := bF BK124.out 0; have hfz64_1 := bF BK124.out 1; have hfz64_2 := bF BK124.out 2; have hfz64_3 := bF BK124.out 3; have hfz64_4 := bF BK124.out 4; have hfz64_5 := bF BK124.out 5) | ((with_reducible refine gC (f := 13) rfl ?_); refine gL (some 9) rfl rfl Tryd.func13 (by kernel_rfl) rfl #[.agg #[.int .i64 a0_0, .string a0_1, .bool false, .string a0_3, .int .i64 a0_4, .slice A0_5 l0_5.length c0_5]] rfl (by (try simp only [List.map_toArray, List.map_cons, List.map_nil]); first | done | rfl | (simp only [List.length_drop, List.length_take]; rfl)) ?_; (with_reducible refine (node_Good.calls k a0_0 a0_1 false a0_3 a0_4 _ _ l0_5 true _ ?side1 ?side2 A2.out).mono ?_); (case side1 => repeat (first | exact (Kd.C_below HR0_5.out HB.out) | (with_reducible refine Kd.C_alloc ?_ _) | (with_reducible refine Kd.C_drewN ?_ _) | (with_reducible refine Kd.C_drew ?_))); (case side2 => exact HC0_5.out); rintro e w65 ⟨rfl, hb⟩; refine ⟨_, rfl, ?_⟩; have n0_ := A0_.mk (bB (g := gb124) (o := .cells #[.int .i64 a0_0, .string a0_1, .bool false, .string a0_3, .int .i64 a0_4, .slice A0_5 l0_5.length c0_5] 24 (0, 0)) (by (with_reducible repeat (first | refine bN ?_ _ | refine bD ?_ | refine bA ?_ _)); exact BK124.out) hb); have n1_ := A0_.mk (wT (by repeat (first | (with_reducible first | exact HB.out | apply wA | apply pN | apply wD | refine wS ?_ GE124.out) | exact HB.out)) hb); clear BK124; clear HB; have BK124 := n0_; have HB := n1_; clear n0_ n1_; (try clear hb); (try clear hb2); (try clear hk); (try clear hi); have hcz66_0 : w65.cell? ⟨gb124, 0, none⟩ = some (.int .i64 a0_0) := (bC BK124.out 0).trans rfl; have hcz66_1 : w65.cell? ⟨gb124, 1, none⟩ = some (.string a0_1) := (bC BK124.out 1).trans rfl; have hcz66_2 : w65.cell? ⟨gb124, 2, none⟩ = some (.bool false) := (bC BK124.out 2).trans rfl; have hcz66_3 : w65.cell? ⟨gb124, 3, none⟩ = some (.string a0_3) := (bC BK124.out 3).trans rfl; have hcz66_4 : w65.cell? ⟨gb124, 4, none⟩ = some (.int .i64 a0_4) := (bC BK124.out 4).trans rfl; have hcz66_5 : w65.cell? ⟨gb124, 5, none⟩ = some (.slice A0_5 l0_5.length c0_5) := (bC BK124.out 5).trans rfl; have hfz66_0 := bF BK124.out 0; have hfz66_1 := bF BK124.out 1; have hfz66_2 := bF BK124.out 2; have hfz66_3 := bF BK124.out 3; have hfz66_4 := bF BK124.out 4; have hfz66_5 := bF BK124.out 5) | ((with_reducible refine gD (N := 14) rfl ?_); refine Kd.R_lit (Kd.int .u8) _ 5 ?hg (N := 14) ?hd (xs := ([(a0_0) % 256] : List Int)) (inner := [.int .u8 ((a0_0) % 256)]) (ok := fun _ => True) (okp := fun _ => True) ?hr ?hp (fun _ hk => hk) trivial (Below.refl _ _) (Nat.le_refl _) (by simp) ?_; (case hd => rfl); (case hg => rfl); (case hr => first | (go_simp; done) | (go_simp; rfl)); (case hp => exact (Reps.one (show Kd.M (Kd.int .u8) _ _ _ ((a0_0) % 256) [.int .u8 ((a0_0) % 256)] from rfl) (Reps.none _ _))); intro v127 w67 ho68 hb hg_ hnew_; clear hg_ hnew_; (first | rw [← Ny126.out] at ho68 | (simp only [Int.reduceToNat] at ho68; rw [← Ny126.out] at ho68)); have n0_ := A0_.mk (Kd.R_lower ho68 (wZ (by repeat (first | (with_reducible first | exact HB.out | apply wA | apply pN | apply wD | refine wS ?_ GE124.out) | exact HB.out)))); have n1_ := A0_.mk (bB (g := gb124) (o := .cells #[.int .i64 a0_0, .string a0_1, .bool false, .string a0_3, .int .i64 a0_4, .slice A0_5 l0_5.length c0_5] 24 (0, 0)) (by (with_reducible repeat (first | refine bN ?_ _ | refine bD ?_ | refine bA ?_ _)); exact BK124.out) hb); have n2_ := A0_.mk (wT (by repeat (first | (with_reducible first | exact HB.out | apply wA | apply pN | apply wD | refine wS ?_ GE124.out) | exact HB.out)) hb); clear BK124; clear HB; have HO128 := n0_; have BK124 := n1_; have HB := n2_; clear n0_ n1_ n2_; clear hb ho68; have hcv69 := own_string (P := Tryd.prog) Tryd.underlying42 Tryd.underlying5 Tryd.underlying9 (Kd.own_of_R HO128.out); have hcz70_0 : w67.cell? ⟨gb124, 0, none⟩ = some (.int .i64 a0_0) := (bC BK124.out 0).trans rfl; have hcz70_1 : w67.cell? ⟨gb124, 1, none⟩ = some (.string a0_1) := (bC BK124.out 1).trans rfl; have hcz70_2 : w67.cell? ⟨gb124, 2, none⟩ = some (.bool false) := (bC BK124.out 2).trans rfl; have hcz70_3 : w67.cell? ⟨gb124, 3, none⟩ = some (.string a0_3) := (bC BK124.out 3).trans rfl; have hcz70_4 : w67.cell? ⟨gb124, 4, none⟩ = some (.int .i64 a0_4) := (bC BK124.out 4).trans rfl; have hcz70_5 : w67.cell? ⟨gb124, 5, none⟩ = some (.slice A0_5 l0_5.length c0_5) := (bC BK124.out 5).trans rfl; have hfz70_0 := bF BK124.out 0; have hfz70_1 := bF BK124.out 1; have hfz70_2 := bF BK124.out 2; have hfz70_3 := bF BK124.out 3; have hfz70_4 := bF BK124.out 4; have hfz70_5 := bF BK124.out 5) | ((with_reducible refine gC (f := 21) rfl ?_); refine gL (some 19) rfl rfl Tryd.func21 (by kernel_rfl) rfl #[.string a0_1] rfl (by (try simp only [List.map_toArray, List.map_cons, List.map_nil]); first | done | rfl | (simp only [List.length_drop, List.length_take]; rfl)) ?_; (with_reducible refine (nibble_Pack.calls k a0_1 t129 t130 _ A4.out).mono ?_); rintro e w71 ⟨rfl, hb⟩; refine ⟨_, rfl, ?_⟩; have n0_ := A0_.mk (Kd.R_below (by (with_reducible repeat (first | apply Kd.R_alloc | apply Kd.R_drewN | apply Kd.R_drew)); exact HO128.out) hb); have n1_ := A0_.mk (bB (g := gb124) (o := .cells #[.int .i64 a0_0, .string a0_1, .bool false, .string a0_3, .int .i64 a0_4, .slice A0_5 l0_5.length c0_5] 24 (0, 0)) (by (with_reducible repeat (first | refine bN ?_ _ | refine bD ?_ | refine bA ?_ _)); exact BK124.out) hb); have n2_ := A0_.mk (wT (by repeat (first | (with_reducible first | exact HB.out | apply wA | apply pN | apply wD | refine wS ?_ GE124.out) | exact HB.out)) hb); clear HO128; clear BK124; clear HB; have HO128 := n0_; have BK124 := n1_; have HB := n2_; clear n0_ n1_ n2_; (try clear hb); (try clear hb2); (try clear hk); (try clear hi); have hcz72_0 : w71.cell? ⟨gb124, 0, none⟩ = some (.int .i64 a0_0) := (bC BK124.out 0).trans rfl; have hcz72_1 : w71.cell? ⟨gb124, 1, none⟩ = some (.string a0_1) := (bC BK124.out 1).trans rfl; have hcz72_2 : w71.cell? ⟨gb124, 2, none⟩ = some (.bool false) := (bC BK124.out 2).trans rfl; have hcz72_3 : w71.cell? ⟨gb124, 3, none⟩ = some (.string a0_3) := (bC BK124.out 3).trans rfl; have hcz72_4 : w71.cell? ⟨gb124, 4, none⟩ = some (.int .i64 a0_4) := (bC BK124.out 4).trans rfl; have hcz72_5 : w71.cell? ⟨gb124, 5, none⟩ = some (.slice A0_5 l0_5.length c0_5) := (bC BK124.out 5).trans rfl; have hfz72_0 := bF BK124.out 0; have hfz72_1 := bF BK124.out 1; have hfz72_2 := bF BK124.out 2; have hfz72_3 := bF BK124.out 3; have hfz72_4 := bF BK124.out 4; have hfz72_5 := bF BK124.out 5) | ((with_reducible refine gC (f := 22) rfl ?_); refine gL (some 24) rfl rfl Tryd.func22 (by kernel_rfl) rfl #[.slice A0_5 l0_5.length c0_5, .string (⟨#[]⟩ : ByteArray)] rfl (by (try simp only [List.map_toArray, List.map_cons, List.map_nil]); first | done | rfl | (simp only [List.length_drop, List.length_take]; rfl)) ?_; (with_reducible refine (strings_Join.calls _ _ l0_5 (⟨#[]⟩ : ByteArray) t131 _ ?side1 ?side2 A5.out).mono ?_); (case side1 => repeat (first | exact (Kd.C_below HR0_5.out HB.out) | (with_reducible refine Kd.C_alloc ?_ _) | (with_reducible refine Kd.C_drewN ?_ _) | (with_reducible refine Kd.C_drew ?_))); (case side2 => exact HC0_5.out); rintro e w73 ⟨rfl, hb⟩; refine ⟨_, rfl, ?_⟩; have n0_ := A0_.mk (Kd.R_below (by (with_reducible repeat (first | apply Kd.R_alloc | apply Kd.R_drewN | apply Kd.R_drew)); exact HO128.out) hb); have n1_ := A0_.mk (bB (g := gb124) (o := .cells #[.int .i64 a0_0, .string a0_1, .bool false, .string a0_3, .int .i64 a0_4, .slice A0_5 l0_5.length c0_5] 24 (0, 0)) (by (with_reducible repeat (first | refine bN ?_ _ | refine bD ?_ | refine bA ?_ _)); exact BK124.out) hb); have n2_ := A0_.mk (wT (by repeat (first | (with_reducible first | exact HB.out | apply wA | apply pN | apply wD | refine wS ?_ GE124.out) | exact HB.out)) hb); clear HO128; clear BK124; clear HB; have HO128 := n0_; have BK124 := n1_; have HB := n2_; clear n0_ n1_ n2_; (try clear hb); (try clear hb2); (try clear hk); (try clear hi); have hcz74_0 : w73.cell? ⟨gb124, 0, none⟩ = some (.int .i64 a0_0) := (bC BK124.out 0).trans rfl; have hcz74_1 : w73.cell? ⟨gb124, 1, none⟩ = some (.string a0_1) := (bC BK124.out 1).trans rfl; have hcz74_2 : w73.cell? ⟨gb124, 2, none⟩ = some (.bool false) := (bC BK124.out 2).trans rfl; have hcz74_3 : w73.cell? ⟨gb124, 3, none⟩ = some (.string a0_3) := (bC BK124.out 3).trans rfl; have hcz74_4 : w73.cell? ⟨gb124, 4, none⟩ = some (.int .i64 a0_4) := (bC BK124.out 4).trans rfl; have hcz74_5 : w73.cell? ⟨gb124, 5, none⟩ = some (.slice A0_5 l0_5.length c0_5) := (bC BK124.out 5).trans rfl; have hfz74_0 := bF BK124.out 0; have hfz74_1 := bF BK124.out 1; have hfz74_2 := bF BK124.out 2; have hfz74_3 := bF BK124.out 3; have hfz74_4 := bF BK124.out 4; have hfz74_5 := bF BK124.out 5) | ((with_reducible refine gD (N := 51) rfl ?_); refine Kd.R_lit (Kd.int .u8) _ 5 ?hg (N := 51) ?hd (xs := ([(a0_4 / 256) % 256, (a0_4) % 256] : List Int)) (inner := [.int .u8 ((a0_4 / 256) % 256), .int .u8 ((a0_4) % 256)]) (ok := fun _ => True) (okp := fun _ => True) ?hr ?hp (fun _ hk => hk) trivial (Below.refl _ _) (Nat.le_refl _) (by simp) ?_; (case hd => rfl); (case hg => rfl); (case hr => first | (go_simp; done) | (go_simp; rfl)); (case hp => exact (Reps.one (show Kd.M (Kd.int .u8) _ _ _ ((a0_4 / 256) % 256) [.int .u8 ((a0_4 / 256) % 256)] from rfl) (Reps.one (show Kd.M (Kd.int .u8) _ _ _ ((a0_4) % 256) [.int .u8 ((a0_4) % 256)] from rfl) (Reps.none _ _)))); intro v134 w75 ho76 hb hg_ hnew_; clear hg_ hnew_; (first | rw [← Ny133.out] at ho76 | (simp only [Int.reduceToNat] at ho76; rw [← Ny133.out] at ho76)); have n0_ := A0_.mk (Kd.R_elder' (by (with_reducible repeat (first | apply Kd.R_alloc | apply Kd.R_drewN | apply Kd.R_drew)); exact HO128.out) (Kd.R_base ho76) hb); have n1_ := A0_.mk (Kd.R_lower (Kd.R_new' ho76 (Kd.R_lt (by (with_reducible repeat (first | apply Kd.R_alloc | apply Kd.R_drewN | apply Kd.R_drew)); exact HO128.out))) (wZ (by repeat (first | (with_reducible first | exact HB.out | apply wA | apply pN | apply wD | refine wS ?_ GE124.out) | exact HB.out)))); have n2_ := A0_.mk (bB (g := gb124) (o := .cells #[.int .i64 a0_0, .string a0_1, .bool false, .string a0_3, .int .i64 a0_4, .slice A0_5 l0_5.length c0_5] 24 (0, 0)) (by (with_reducible repeat (first | refine bN ?_ _ | refine bD ?_ | refine bA ?_ _)); exact BK124.out) hb); have n3_ := A0_.mk (wT (by repeat (first | (with_reducible first | exact HB.out | apply wA | apply pN | apply wD | refine wS ?_ GE124.out) | exact HB.out)) hb); clear HO128; clear BK124; clear HB; have HO128 := n0_; have HO135 := n1_; have BK124 := n2_; have HB := n3_; clear n0_ n1_ n2_ n3_; clear hb ho76; have hcv77 := own_string (P := Tryd.prog) Tryd.underlying42 Tryd.underlying5 Tryd.underlying9 (Kd.own_of_R HO135.out); have hcz78_0 : w75.cell? ⟨gb124, 0, none⟩ = some (.int .i64 a0_0) := (bC BK124.out 0).trans rfl; have hcz78_1 : w75.cell? ⟨gb124, 1, none⟩ = some (.string a0_1) := (bC BK124.out 1).trans rfl; have hcz78_2 : w75.cell? ⟨gb124, 2, none⟩ = some (.bool false) := (bC BK124.out 2).trans rfl; have hcz78_3 : w75.cell? ⟨gb124, 3, none⟩ = some (.string a0_3) := (bC BK124.out 3).trans rfl; have hcz78_4 : w75.cell? ⟨gb124, 4, none⟩ = some (.int .i64 a0_4) := (bC BK124.out 4).trans rfl; have hcz78_5 : w75.cell? ⟨gb124, 5, none⟩ = some (.slice A0_5 l0_5.length c0_5) := (bC BK124.out 5).trans rfl; have hfz78_0 := bF BK124.out 0; have hfz78_1 := bF BK124.out 1; have hfz78_2 := bF BK124.out 2; have hfz78_3 := bF BK124.out 3; have hfz78_4 := bF BK124.out 4; have hfz78_5 := bF BK124.out 5))
        go_ret2
        exact ⟨by first | rfl | (simp [errW_none, errW_some] <;> rfl) | (simp [*, errW_none, errW_some] <;> rfl), by repeat (first | (with_reducible first | exact HB.out | apply wA | apply pN | apply wD | refine wS ?_ GE124.out) | exact HB.out)⟩
       ·rw [if_neg c62] at H
        exact absurd H (by simp)
      ·rw [if_neg c61] at H
       exact absurd H (by simp)
    ·rw [if_neg c38] at H
     exact absurd H (by simp)
 ·replace c3 := Bool.eq_false_iff.mpr c3
  subst c3
  have H1 : (some ((⟨#[]⟩ : ByteArray), false)) = some (r1, r2) := by rw [if_neg (show ¬ (false = true) by decide)] at H; exact H
  clear H
  have H := H1
  clear H1
  simp only [Option.some.injEq, Prod.mk.injEq] at H
  obtain ⟨rfl, rfl⟩ := H
  go_enter Tryd.func9, Tryd.ntmps9
  go_wp2_with (first | ((with_reducible refine gD (N := 1) rfl ?_); refine xE ?hg (N := 1) ?hd (cs := #[.int .i64 a0_0, .string a0_1, .bool a0_2, .string a0_3, .int .i64 a0_4, .slice A0_5 l0_5.length c0_5]) (t := 24) ?hr ?_; (case hd => rfl); (case hg => rfl); (case hr => first | (go_simp; done) | (go_simp; rfl)); intro gb124 hg w79 hbox hb; have n0_ := A0_.mk (wT (by repeat (first | (with_reducible first | exact HB.out | apply wA | apply pN | apply wD) | exact HB.out)) hb); have n1_ := A0_.mk (hbox); have n2_ := A0_.mk ((by rw [hg]; exact (wZ (by repeat (first | (with_reducible first | exact HB.out | apply wA | apply pN | apply wD) | exact HB.out))) : w.heap.size ≤ gb124)); have n3_ := A0_.mk ((by rw [hg]; exact (wZ (by repeat (first | (with_reducible first | exact HB.out | apply wA | apply pN | apply wD) | exact HB.out))) : w.heap.size ≤ gb124)); clear HB; have HB := n0_; have BK124 := n1_; have GW124 := n2_; have GE124 := n3_; clear n0_ n1_ n2_ n3_; clear hb hbox hg; have hcz80_0 : w79.cell? ⟨gb124, 0, none⟩ = some (.int .i64 a0_0) := (bC BK124.out 0).trans rfl; have hcz80_1 : w79.cell? ⟨gb124, 1, none⟩ = some (.string a0_1) := (bC BK124.out 1).trans rfl; have hcz80_2 : w79.cell? ⟨gb124, 2, none⟩ = some (.bool a0_2) := (bC BK124.out 2).trans rfl; have hcz80_3 : w79.cell? ⟨gb124, 3, none⟩ = some (.string a0_3) := (bC BK124.out 3).trans rfl; have hcz80_4 : w79.cell? ⟨gb124, 4, none⟩ = some (.int .i64 a0_4) := (bC BK124.out 4).trans rfl; have hcz80_5 : w79.cell? ⟨gb124, 5, none⟩ = some (.slice A0_5 l0_5.length c0_5) := (bC BK124.out 5).trans rfl; have hfz80_0 := bF BK124.out 0; have hfz80_1 := bF BK124.out 1; have hfz80_2 := bF BK124.out 2; have hfz80_3 := bF BK124.out 3; have hfz80_4 := bF BK124.out 4; have hfz80_5 := bF BK124.out 5) | ((with_reducible refine gC (f := 13) rfl ?_); refine gL (some 9) rfl rfl Tryd.func13 (by kernel_rfl) rfl #[.agg #[.int .i64 a0_0, .string a0_1, .bool a0_2, .string a0_3, .int .i64 a0_4, .slice A0_5 l0_5.length c0_5]] rfl (by (try simp only [List.map_toArray, List.map_cons, List.map_nil]); first | done | rfl | (simp only [List.length_drop, List.length_take]; rfl)) ?_; (with_reducible refine (node_Good.calls k a0_0 a0_1 a0_2 a0_3 a0_4 _ _ l0_5 false _ ?side1 ?side2 A2.out).mono ?_); (case side1 => repeat (first | exact (Kd.C_below HR0_5.out HB.out) | (with_reducible refine Kd.C_alloc ?_ _) | (with_reducible refine Kd.C_drewN ?_ _) | (with_reducible refine Kd.C_drew ?_))); (case side2 => exact HC0_5.out); rintro e w81 ⟨rfl, hb⟩; refine ⟨_, rfl, ?_⟩; have n0_ := A0_.mk (bB (g := gb124) (o := .cells #[.int .i64 a0_0, .string a0_1, .bool a0_2, .string a0_3, .int .i64 a0_4, .slice A0_5 l0_5.length c0_5] 24 (0, 0)) (by (with_reducible repeat (first | refine bN ?_ _ | refine bD ?_ | refine bA ?_ _)); exact BK124.out) hb); have n1_ := A0_.mk (wT (by repeat (first | (with_reducible first | exact HB.out | apply wA | apply pN | apply wD | refine wS ?_ GE124.out) | exact HB.out)) hb); clear BK124; clear HB; have BK124 := n0_; have HB := n1_; clear n0_ n1_; (try clear hb); (try clear hb2); (try clear hk); (try clear hi)))
  go_ret2
  exact ⟨by first | rfl | (simp [errW_none, errW_some] <;> rfl) | (simp [*, errW_none, errW_some] <;> rfl), by repeat (first | (with_reducible first | exact HB.out | apply wA | apply pN | apply wD | refine wS ?_ GE124.out) | exact HB.out)⟩

end Go.Proofs.YtklakmooaffjpaaDoor.PNod
