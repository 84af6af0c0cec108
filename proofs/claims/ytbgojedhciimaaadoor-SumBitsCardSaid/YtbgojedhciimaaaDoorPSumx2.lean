-- Written by a program of this session for this seat. Not trusted: Lean checks it.
import Derived.Test.YtbgojedhciimaaaDoorPSumx0
import Derived.Test.YtbgojedhciimaaaDoorPSumx1
import Derived.Test.YtbgojedhciimaaaDoorSumW
namespace Go.Proofs.YtbgojedhciimaaaDoor.PSum
open Go.RowKit Go.Proofs.YtbgojedhciimaaaDoorW.PrintWords Go.Proofs.YtbgojedhciimaaaDoorW.PrintLast Go.Proofs.YtbgojedhciimaaaDoorW.PrintMore
attribute [local go_sem] max2_int min2_int max_two min_two max_three min_three max_four min_four   -- for this text's walks alone
set_option linter.unusedVariables false
set_option linter.unusedSimpArgs false
open Go.Proofs.YtbgojedhciimaaaDoor.HW Go.Proofs.YtbgojedhciimaaaDoor.SumH

/-! ### umbellaw03_SumBits: function 6 -/
def umbellaw03_SumBits.l0 : Nat → ByteArray → ByteArray → ByteArray → Int → List Int → Int → Option (Bool)
  | 0, _, _, _, _, _, _ => none
  | k + 1, x0, x1, x2, x7, x8, x9 => if x9 < x7 then (if 0 ≤ x9 then (if x9 < (x0.size : Int) then (if x9 < (x1.size : Int) then (if x9 < (x2.size : Int) then (if x8.length < 140737488355328 then (umbellaw03_SumBits.l0 k x0 x1 x2 x7 (x8 ++ [Go.bits .xor .u8 (Go.bits .xor .u8 (bt x0 x9) (bt x1 x9)) (bt x2 x9)]) (wrap64 (x9 + 1))) else (none)) else (none)) else (none)) else (none)) else (none)) else ((sum_Of.f (strOfNums x8)).bind fun t126 => (if 0 ≤ x7 then (if x7 ≤ (x0.size : Int) then ((sum_Of.f (x0.extract 0 (x7 : Int).toNat)).bind fun t127 => (if x7 ≤ (x1.size : Int) then ((sum_Of.f (x1.extract 0 (x7 : Int).toNat)).bind fun t128 => (if x7 ≤ (x2.size : Int) then ((sum_Of.f (x2.extract 0 (x7 : Int).toNat)).bind fun t129 => (if t126 = (Go.bits .xor .u32 (Go.bits .xor .u32 t127 t128) t129) then ((umbellaw03_wakes.f k).bind fun t130 => (some t130)) else (some false))) else (none))) else (none))) else (none)) else (none)))
def umbellaw03_SumBits.f (k : Nat) (a0 : ByteArray) (a1 : ByteArray) (a2 : ByteArray) : Option (Bool) := if (mn (mn (a0.size : Int) (a1.size : Int)) (a2.size : Int)) > 500 then ((umbellaw03_wakes.f k).bind fun t122 => (some t122)) else (umbellaw03_SumBits.l0 k a0 a1 a2 (mn (mn (a0.size : Int) (a1.size : Int)) (a2.size : Int)) ([] : List Int) 0)
theorem umbellaw03_SumBits.mono_l : ∀ k, (∀ y0 y1 y2 y3 y4 y5, LeO (umbellaw03_SumBits.l0 k y0 y1 y2 y3 y4 y5) (umbellaw03_SumBits.l0 (k + 1) y0 y1 y2 y3 y4 y5))
  | 0 => fun _ _ _ _ _ _ r h => by simp [umbellaw03_SumBits.l0] at h
  | k + 1 => by
    have ih0 := umbellaw03_SumBits.mono_l k
    · intro y0 y1 y2 y3 y4 y5
      unfold umbellaw03_SumBits.l0
      repeat' first
      | (with_reducible exact ih0 _ _ _ _ _ _)
      | (with_reducible exact umbellaw03_wakes.mono _)
      | (with_reducible exact LeO.refl _)
      | (with_reducible exact LeO.none _)
      | (with_reducible refine LeO.ite ?_ ?_)
      | (with_reducible refine LeO.bind ?_ (fun _ => ?_))
      | exact ih0 _ _ _ _ _ _
      | exact umbellaw03_wakes.mono _
      | exact LeO.none _
      | refine LeO.ite ?_ ?_
      | refine LeO.bind ?_ (fun _ => ?_)
theorem umbellaw03_SumBits.mono : ∀ a0 a1 a2 k, LeO (umbellaw03_SumBits.f k a0 a1 a2) (umbellaw03_SumBits.f (k + 1) a0 a1 a2) := by
  intro a0 a1 a2 k
  have ih0 := umbellaw03_SumBits.mono_l k
  unfold umbellaw03_SumBits.f
  repeat' first
      | (with_reducible exact ih0 _ _ _ _ _ _)
      | (with_reducible exact umbellaw03_wakes.mono _)
      | (with_reducible exact LeO.refl _)
      | (with_reducible exact LeO.none _)
      | (with_reducible refine LeO.ite ?_ ?_)
      | (with_reducible refine LeO.bind ?_ (fun _ => ?_))
      | exact ih0 _ _ _ _ _ _
      | exact umbellaw03_wakes.mono _
      | exact LeO.none _
      | refine LeO.ite ?_ ?_
      | refine LeO.bind ?_ (fun _ => ?_)
def umbellaw03_SumBits.T8 : Bool × List (List Nat × List Nat) := (true, [([], []), ([], []), ([], []), ([1, 2], [1, 2]), ([], []), ([], []), ([4, 5], [4, 5]), ([3, 6], [3, 6]), ([], []), ([], []), ([8, 9], [8, 9]), ([7, 10], [7, 10]), ([11], [11]), ([0, 12], [0, 12]), ([13, 13, 0, 1, 2, 3, 4, 5, 6, 7, 8, 9, 10, 11, 12, 13], [0, 13])])
def umbellaw03_SumBits.B8 : List Nat := [0, 0, 0, 6, 0, 0, 48, 126, 0, 0, 768, 2046, 4094, 8191, 16383]
theorem umbellaw03_SumBits.tab8 : rtab .any (opsOf Tryd.f6 8) = umbellaw03_SumBits.T8 := by kernel_rfl
theorem umbellaw03_SumBits.bits8 : waitsOk umbellaw03_SumBits.T8.2 umbellaw03_SumBits.B8 = true := by kernel_rfl
def umbellaw03_SumBits.T9 : Bool × List (List Nat × List Nat) := (true, [([], []), ([0], [0]), ([1], [1]), ([], []), ([], []), ([3, 4], [3, 4]), ([5, 2], [5]), ([], []), ([], []), ([7, 8], [7, 8]), ([9, 6], [9]), ([6, 10], [6, 10]), ([], []), ([], []), ([12, 13], [12, 13]), ([14, 10], [14]), ([11, 15], [11, 15]), ([2, 16], [2, 16]), ([17, 15], [17]), ([18, 18], [18]), ([18, 19], [18, 19]), ([20, 19, 0, 1, 2, 3, 4, 5, 6, 7, 8, 9, 10, 11, 12, 13, 14, 15, 16, 17, 18, 19, 20], [20])])
def umbellaw03_SumBits.B9 : List Nat := [0, 1, 3, 0, 0, 24, 63, 0, 0, 384, 1023, 2047, 0, 0, 12288, 30719, 65535, 131071, 262143, 524287, 1048575, 2097151]
theorem umbellaw03_SumBits.tab9 : rtab .any (opsOf Tryd.f6 9) = umbellaw03_SumBits.T9 := by kernel_rfl
theorem umbellaw03_SumBits.bits9 : waitsOk umbellaw03_SumBits.T9.2 umbellaw03_SumBits.B9 = true := by kernel_rfl
set_option maxHeartbeats 8000000 in
set_option maxRecDepth 100000 in
theorem umbellaw03_SumBits.calls (k : Nat) (a0 : ByteArray) (a1 : ByteArray) (a2 : ByteArray) (r : Bool) (w : World) (hG : Glob w) (h : umbellaw03_SumBits.f k a0 a1 a2 = some r) :
    Calls Tryd.prog 6 #[.string a0, .string a1, .string a2] w fun e w' => e = .returned (.bool r) ∧ Below w.heap.size w w' := by
  have HG := Aside0.mk hG
  clear hG
  have HB := Aside0.mk (Below.refl w.heap.size w)
  have H : (if (mn (mn (a0.size : Int) (a1.size : Int)) (a2.size : Int)) > 500 then ((umbellaw03_wakes.f k).bind fun t122 => (some t122)) else (umbellaw03_SumBits.l0 k a0 a1 a2 (mn (mn (a0.size : Int) (a1.size : Int)) (a2.size : Int)) ([] : List Int) 0)) = some r := h
  clear h
  obtain ⟨ji4, hji4⟩ : ∃ j_ : Int, (mn (a0.size : Int) (a1.size : Int)) = j_ := ⟨_, rfl⟩
  replace H : (if (mn (ji4) (a2.size : Int)) > 500 then ((umbellaw03_wakes.f k).bind fun t122 => (some t122)) else (umbellaw03_SumBits.l0 k a0 a1 a2 (mn (ji4) (a2.size : Int)) ([] : List Int) 0)) = some r := by first | (rw [hji4] at H; exact H) | (simp only [hji4] at H ⊢; exact H)
  (try (have hji4l : 0 ≤ ji4 := by (rw [← hji4]; unfold mn; (repeat' split) <;> omega)))
  (try (have hji4m : 0 ≤ ji4 := by omega))
  have hji4_ : (if (a1.size : Int) < (a0.size : Int) then (a1.size : Int) else (a0.size : Int)) = ji4 := hji4
  have hji4n : (if a1.size < a0.size then (a1.size : Int) else (a0.size : Int)) = ji4 := by rw [← hji4_]; simp only [Int.ofNat_lt]
  obtain ⟨ji5, hji5⟩ : ∃ j_ : Int, (mn (ji4) (a2.size : Int)) = j_ := ⟨_, rfl⟩
  replace H : (if (ji5) > 500 then ((umbellaw03_wakes.f k).bind fun t122 => (some t122)) else (umbellaw03_SumBits.l0 k a0 a1 a2 ji5 ([] : List Int) 0)) = some r := by first | (rw [hji5] at H; exact H) | (simp only [hji5] at H ⊢; exact H)
  have hji5_ : (if (a2.size : Int) < (ji4) then (a2.size : Int) else (ji4)) = ji5 := hji5
  by_cases c6 : (ji5) > 500
  · rw [if_pos c6] at H
    have c6b0 : decide (500 < (ji5)) = true := decide_eq_true c6
    clear c6
    replace H := Option.bind_eq_some_iff.mp H
    obtain ⟨t122, A70, H⟩ := H
    replace H : (some t122) = some r := H
    have A7 := Aside0.mk A70
    clear A70
    obtain rfl := Option.some.inj H
    go_enter Tryd.func6, Tryd.ntmps6
    go_wp2_with (first | ((with_reducible refine gate_callee (f := 7) rfl ?_); refine goesL_ (some 19) rfl rfl Tryd.func7 (by kernel_rfl) rfl #[] rfl (by (try simp only [List.map_toArray, List.map_cons, List.map_nil]); first | done | rfl | (simp only [List.length_drop, List.length_take]; rfl)) ?_; (with_reducible refine (umbellaw03_wakes.calls k  t122 _ ?side1 A7.out).mono ?_); (case side1 => exact Glob.below HG.out (by repeat (first | (with_reducible first | exact HB.out | apply below_alloc | apply pw_below_drewN | apply below_drew1) | exact HB.out))); rintro e w8 ⟨rfl, hb⟩; refine ⟨_, rfl, ?_⟩; have n0_ := Aside0.mk (below_step (by repeat (first | (with_reducible first | exact HB.out | apply below_alloc | apply pw_below_drewN | apply below_drew1) | exact HB.out)) hb); clear HB; have HB := n0_; clear n0_; (try clear hb); (try clear hb2); (try clear hk); (try clear hi)))
    go_ret
    exact ⟨by first | rfl | (simp [errW_none, errW_some] <;> rfl) | (simp only [← hji4, ← hji5]; first | rfl | (simp [errW_none, errW_some] <;> rfl)) | (simp [*, errW_none, errW_some] <;> rfl), by repeat (first | (with_reducible first | exact HB.out | apply below_alloc | apply pw_below_drewN | apply below_drew1) | exact HB.out)⟩
  · rw [if_neg c6] at H
    have c6b0 : decide (500 < (ji5)) = false := decide_eq_false c6
    clear c6
    have H' := Aside0.mk H
    clear H
    go_enter Tryd.func6, Tryd.ntmps6
    go_wp2
    go_loopg [8, 9] k (fun kq v8 v9 w' => ∃ (x8_1 : List Int) (x9_1 : Int), v9 = .int .i64 x9_1 ∧ Aside0 (umbellaw03_SumBits.l0 kq a0 a1 a2 ji5 x8_1 x9_1 = some r) ∧ Aside0 (kq ≤ k) ∧ Aside0 (Kd.R (Kd.int .u8) 5 w' w.heap.size (fun _ => True) v8 x8_1) ∧ Aside0 (Below w.heap.size w w'))
    case atStart => exact ⟨(([] : List Int)), (0), (by first | rfl | (simp; done) | (simp [*]; done)), H', ⟨Nat.le_refl _⟩, ⟨by first | exact Kd.R_nil _ _ _ _ _ | exact Kd.N_nil _ _ _ _ _ | exact Kd.V_nil _ _ _ _ _ | exact Kd.Q_nil _ _ _ _ _ | exact Kd.S_nil _ _ _ _ _⟩, ⟨by repeat (first | (with_reducible first | exact HB.out | apply below_alloc | apply pw_below_drewN | apply below_drew1) | exact HB.out)⟩⟩
    case round =>
      clear H'
      try clear p2
      try clear c6
      try clear c6b0
      try clear c7
      obtain ⟨x8_1, x9_1, rfl, HA, HK1, HO_8, HB⟩ := hrel
      cases gk with
      | zero => exact absurd HA.out (by simp [umbellaw03_SumBits.l0])
      | succ k1 =>
        have H := HA.out
        clear HA
        simp only [umbellaw03_SumBits.l0] at H
        by_cases c9 : x9_1 < ji5
        · rw [if_pos c9] at H
          have c9b0 : decide (x9_1 < ji5) = true := decide_eq_true c9
          clear c9
          by_cases c10 : 0 ≤ x9_1
          · rw [if_pos c10] at H
            have c10b0 : decide (0 ≤ x9_1) = true := decide_eq_true c10
            clear c10
            by_cases c11 : x9_1 < (a0.size : Int)
            · rw [if_pos c11] at H
              have c11b0 : decide (x9_1 < (a0.size : Int)) = true := decide_eq_true c11
              clear c11
              by_cases c13 : x9_1 < (a1.size : Int)
              · rw [if_pos c13] at H
                have c13b0 : decide (x9_1 < (a1.size : Int)) = true := decide_eq_true c13
                clear c13
                by_cases c15 : x9_1 < (a2.size : Int)
                · rw [if_pos c15] at H
                  have c15b0 : decide (x9_1 < (a2.size : Int)) = true := decide_eq_true c15
                  clear c15
                  by_cases c17 : x8_1.length < 140737488355328
                  · rw [if_pos c17] at H
                    have LMc17 := Aside0.mk c17
                    clear c17
                    obtain ⟨y123, hy123⟩ : ∃ y_ : List Int, y_ = (x8_1 ++ [Go.bits .xor .u8 (Go.bits .xor .u8 (bt a0 x9_1) (bt a1 x9_1)) (bt a2 x9_1)]) := ⟨_, rfl⟩
                    replace H : (umbellaw03_SumBits.l0 k1 a0 a1 a2 ji5 y123 (wrap64 (x9_1 + 1))) = some r := by first | (rw [hy123]; with_reducible exact H) | (have H2_ := (Option.bind_some _ _).symm.trans H; rw [hy123]; with_reducible exact H2_) | (have H2_ := (Option.bind_some _ _).symm.trans H; with_reducible exact H2_) | with_reducible exact H | (rw [hy123]; exact H) | exact H
                    have Ny123 := Aside0.mk hy123
                    clear hy123
                    have H' := Aside0.mk H
                    clear H
                    try go_wp2
                    have n0_ := Aside0.mk (Kd.R_drew HO_8.out)
                    have n1_ := Aside0.mk (below_drew1 HB.out)
                    clear HO_8
                    clear HB
                    have HO_8 := n0_
                    have HB := n1_
                    clear n0_ n1_
                    have p12 : 0 ≤ (x9_1 : Int) := of_decide_eq_true (by first | (with_reducible assumption) | assumption)
                    have q12 : x9_1 < (a0.size : Int) := of_decide_eq_true (by first | (with_reducible assumption) | assumption)
                    have hx12 := bt_at a0 x9_1
                    replace p12 := eq_true p12
                    replace q12 := eq_true q12
                    have p14 : 0 ≤ (x9_1 : Int) := of_decide_eq_true (by first | (with_reducible assumption) | assumption)
                    have q14 : x9_1 < (a1.size : Int) := of_decide_eq_true (by first | (with_reducible assumption) | assumption)
                    have hx14 := bt_at a1 x9_1
                    replace p14 := eq_true p14
                    replace q14 := eq_true q14
                    have p16 : 0 ≤ (x9_1 : Int) := of_decide_eq_true (by first | (with_reducible assumption) | assumption)
                    have q16 : x9_1 < (a2.size : Int) := of_decide_eq_true (by first | (with_reducible assumption) | assumption)
                    have hx16 := bt_at a2 x9_1
                    replace p16 := eq_true p16
                    replace q16 := eq_true q16
                    refine start_ (n := 15) (S := fun w' => True) (ds := []) #[false, false, false, false, false, false, false, false, false, false, false, false, false, false, false] (by kernel_rfl) rfl rfl trivial (fun hHeld => ?_); refine with_tabW umbellaw03_SumBits.tab8 umbellaw03_SumBits.bits8 (fun HT_ HW_ => ?_)
                    generalize wr.drew = w18 at HO_8 HB hHeld ⊢
                    refine pure_ (i := 0) (N := some 25) (v := ?_) (a' := ?_) #[true, false, false, false, false, false, false, false, false, false, false, false, false, false, false] rfl rfl (any_of HT_.out (by kernel_rfl)) (fun _ _ _ h => h) (Or.inl ⟨by rfl, ?_⟩) ?_ ?_
                    rotate_left
                    · intro w'
                      go_simp
                      with_reducible rfl
                    rotate_left
                    · simp only [Act.put, List.setIfInBounds_toArray, List.set_cons_zero, List.set_cons_succ, i64_w, i32_w]
                      rfl
                    refine pure_ (i := 1) (N := some 26) (v := ?_) (a' := ?_) #[true, true, false, false, false, false, false, false, false, false, false, false, false, false, false] rfl rfl (any_of HT_.out (by kernel_rfl)) (fun _ _ _ h => h) (Or.inl ⟨by rfl, ?_⟩) ?_ ?_
                    rotate_left
                    · intro w'
                      go_simp
                      with_reducible rfl
                    rotate_left
                    · simp only [Act.put, List.setIfInBounds_toArray, List.set_cons_zero, List.set_cons_succ, i64_w, i32_w]
                      rfl
                    refine pure_ (i := 2) (N := some 27) (v := ?_) (a' := ?_) #[true, true, true, false, false, false, false, false, false, false, false, false, false, false, false] rfl rfl (any_of HT_.out (by kernel_rfl)) (fun _ _ _ h => h) (Or.inl ⟨by rfl, ?_⟩) ?_ ?_
                    rotate_left
                    · intro w'
                      go_simp
                      with_reducible rfl
                    rotate_left
                    · simp only [Act.put, List.setIfInBounds_toArray, List.set_cons_zero, List.set_cons_succ, i64_w, i32_w]
                      rfl
                    refine pure_ (i := 4) (N := some 29) (v := ?_) (a' := ?_) #[true, true, true, false, true, false, false, false, false, false, false, false, false, false, false] rfl rfl (any_of HT_.out (by kernel_rfl)) (fun _ _ _ h => h) (Or.inl ⟨by rfl, ?_⟩) ?_ ?_
                    rotate_left
                    · intro w'
                      go_simp
                      with_reducible rfl
                    rotate_left
                    · simp only [Act.put, List.setIfInBounds_toArray, List.set_cons_zero, List.set_cons_succ, i64_w, i32_w]
                      rfl
                    refine pure_ (i := 5) (N := some 30) (v := ?_) (a' := ?_) #[true, true, true, false, true, true, false, false, false, false, false, false, false, false, false] rfl rfl (any_of HT_.out (by kernel_rfl)) (fun _ _ _ h => h) (Or.inl ⟨by rfl, ?_⟩) ?_ ?_
                    rotate_left
                    · intro w'
                      go_simp
                      with_reducible rfl
                    rotate_left
                    · simp only [Act.put, List.setIfInBounds_toArray, List.set_cons_zero, List.set_cons_succ, i64_w, i32_w]
                      rfl
                    refine pure_ (i := 8) (N := some 33) (v := ?_) (a' := ?_) #[true, true, true, false, true, true, false, false, true, false, false, false, false, false, false] rfl rfl (any_of HT_.out (by kernel_rfl)) (fun _ _ _ h => h) (Or.inl ⟨by rfl, ?_⟩) ?_ ?_
                    rotate_left
                    · intro w'
                      go_simp
                      with_reducible rfl
                    rotate_left
                    · simp only [Act.put, List.setIfInBounds_toArray, List.set_cons_zero, List.set_cons_succ, i64_w, i32_w]
                      rfl
                    refine pure_ (i := 9) (N := some 34) (v := ?_) (a' := ?_) #[true, true, true, false, true, true, false, false, true, true, false, false, false, false, false] rfl rfl (any_of HT_.out (by kernel_rfl)) (fun _ _ _ h => h) (Or.inl ⟨by rfl, ?_⟩) ?_ ?_
                    rotate_left
                    · intro w'
                      go_simp
                      with_reducible rfl
                    rotate_left
                    · simp only [Act.put, List.setIfInBounds_toArray, List.set_cons_zero, List.set_cons_succ, i64_w, i32_w]
                      rfl
                    refine take_ (i := 3) (N := some 28) (v := ?_) (a' := ?_) #[true, true, true, true, true, true, false, false, true, true, false, false, false, false, false] rfl rfl (take_ofW HT_.out HW_.out (by kernel_rfl)) (fun _ _ _ h => h) (Or.inl ⟨by rfl, ?_⟩) hHeld ?_ ?_
                    rotate_left
                    · intro w' _
                      go_simp
                      with_reducible rfl
                    rotate_left
                    · simp only [Act.put, List.setIfInBounds_toArray, List.set_cons_zero, List.set_cons_succ, i64_w, i32_w]
                      rfl
                    refine take_ (i := 6) (N := some 31) (v := ?_) (a' := ?_) #[true, true, true, true, true, true, true, false, true, true, false, false, false, false, false] rfl rfl (take_ofW HT_.out HW_.out (by kernel_rfl)) (fun _ _ _ h => h) (Or.inl ⟨by rfl, ?_⟩) hHeld ?_ ?_
                    rotate_left
                    · intro w' _
                      go_simp
                      with_reducible rfl
                    rotate_left
                    · simp only [Act.put, List.setIfInBounds_toArray, List.set_cons_zero, List.set_cons_succ, i64_w, i32_w]
                      rfl
                    refine pure_ (i := 7) (N := some 32) (v := ?_) (a' := ?_) #[true, true, true, true, true, true, true, true, true, true, false, false, false, false, false] rfl rfl (any_of HT_.out (by kernel_rfl)) (fun _ _ _ h => h) (Or.inl ⟨by rfl, ?_⟩) ?_ ?_
                    rotate_left
                    · intro w'
                      go_simp
                      with_reducible rfl
                    rotate_left
                    · simp only [Act.put, List.setIfInBounds_toArray, List.set_cons_zero, List.set_cons_succ, i64_w, i32_w]
                      rfl
                    refine take_ (i := 10) (N := some 35) (v := ?_) (a' := ?_) #[true, true, true, true, true, true, true, true, true, true, true, false, false, false, false] rfl rfl (take_ofW HT_.out HW_.out (by kernel_rfl)) (fun _ _ _ h => h) (Or.inl ⟨by rfl, ?_⟩) hHeld ?_ ?_
                    rotate_left
                    · intro w' _
                      go_simp
                      with_reducible rfl
                    rotate_left
                    · simp only [Act.put, List.setIfInBounds_toArray, List.set_cons_zero, List.set_cons_succ, i64_w, i32_w]
                      rfl
                    refine pure_ (i := 11) (N := some 36) (v := ?_) (a' := ?_) #[true, true, true, true, true, true, true, true, true, true, true, true, false, false, false] rfl rfl (any_of HT_.out (by kernel_rfl)) (fun _ _ _ h => h) (Or.inl ⟨by rfl, ?_⟩) ?_ ?_
                    rotate_left
                    · intro w'
                      go_simp
                      with_reducible rfl
                    rotate_left
                    · simp only [Act.put, List.setIfInBounds_toArray, List.set_cons_zero, List.set_cons_succ, i64_w, i32_w]
                      rfl
                    refine one_ (i := 12) (N := some 37) #[true, true, true, true, true, true, true, true, true, true, true, true, true, false, false] rfl rfl (one_of HT_.out (by kernel_rfl)) (by decide) (fun K hK => ?_)
                    refine value_ (w1 := ?_) (v := ?_) (by rfl) rfl ?_ ?_
                    rotate_left 2
                    · go_simp
                      constructor
                      · rfl
                      · rfl
                    refine hK.out _ _ trivial (fun hHeld => ?_)
                    clear hK K
                    refine norm_ (a' := ?_) ?_ ?_
                    rotate_left
                    · show Act.put _ (some 37) _ = _
                      simp only [Act.put, List.setIfInBounds_toArray, List.set_cons_zero, List.set_cons_succ, i64_w, i32_w]
                      rfl
                    refine one_ (i := 13) (N := some 38) #[true, true, true, true, true, true, true, true, true, true, true, true, true, true, false] rfl rfl (one_of HT_.out (by kernel_rfl)) (by decide) (fun K hK => ?_)
                    refine Kd.R_append_step (Kd.int .u8) (w0 := w) w.heap.size (by rfl) (.tmp 25) (.tmp 37) 32 5 (.int .u8 0) 1 rfl Tryd.underlying32 info5 rfl (by decide) (by omega) u8 x8_1 (Go.bits .xor .u8 (Go.bits .xor .u8 (bt a0 x9_1) (bt a1 x9_1)) (bt a2 x9_1)) [.int .u8 (Go.bits .xor .u8 (Go.bits .xor .u8 (bt a0 x9_1) (bt a1 x9_1)) (bt a2 x9_1))] (fun _ => True) (fun _ => False) rfl rfl ?aP (fun _ hk => hk.elim) ?aF ?aO ?aB ?aS ?aL ?_
                    (case aP => exact rfl)
                    (case aB => exact (by repeat (first | (with_reducible first | exact HB.out | apply below_alloc | apply pw_below_drewN | apply below_drew1) | exact HB.out)))
                    (case aF => exact (fun _ _ => trivial))
                    (case aO => exact (by (with_reducible repeat (first | apply Kd.R_alloc | apply Kd.R_drewN | apply Kd.R_drew)); exact HO_8.out))
                    (case aS => exact (below_size (by repeat (first | (with_reducible first | exact HB.out | apply below_alloc | apply pw_below_drewN | apply below_drew1) | exact HB.out))))
                    (case aL => have := LMc17.out; omega)
                    intro v124 w19 ho hb hg hat
                    rw [← Ny123.out] at ho
                    have n0_ := Aside0.mk (hb)
                    have n1_ := Aside0.mk (ho)
                    clear HB
                    clear HO_8
                    have HB := n0_
                    have HO125 := n1_
                    clear n0_ n1_
                    clear ho hb hg hat
                    refine hK.out _ _ trivial (fun hHeld => ?_)
                    clear hK K
                    refine norm_ (a' := ?_) ?_ ?_
                    rotate_left
                    · show Act.put _ (some 38) _ = _
                      simp only [Act.put, List.setIfInBounds_toArray, List.set_cons_zero, List.set_cons_succ, i64_w, i32_w]
                      rfl
                    refine pure_ (i := 14) (N := some 8) (v := ?_) (a' := ?_) #[true, true, true, true, true, true, true, true, true, true, true, true, true, true, true] rfl rfl (any_of HT_.out (by kernel_rfl)) (fun _ _ _ h => h) (Or.inl ⟨by rfl, ?_⟩) ?_ ?_
                    rotate_left
                    · intro w'
                      go_simp
                      with_reducible rfl
                    rotate_left
                    · simp only [Act.put, List.setIfInBounds_toArray, List.set_cons_zero, List.set_cons_succ, i64_w, i32_w]
                      rfl
                    refine done_ (done_of HT_.out (by kernel_rfl)) ?_
                    try go_wp2
                    go_roundg k1
                    case measure => have := HK1.out; omega
                    case rel => exact ⟨(y123), (wrap64 (x9_1 + 1)), (by first | rfl | (simp; done) | (simp [*]; done)), H', ⟨by have := HK1.out; omega⟩, ⟨by (with_reducible repeat (first | apply Kd.R_alloc | apply Kd.R_drewN | apply Kd.R_drew)); exact HO125.out⟩, ⟨by repeat (first | (with_reducible first | exact HB.out | apply below_alloc | apply pw_below_drewN | apply below_drew1) | exact HB.out)⟩⟩
                  · rw [if_neg c17] at H
                    exact absurd H (by simp)
                · rw [if_neg c15] at H
                  exact absurd H (by simp)
              · rw [if_neg c13] at H
                exact absurd H (by simp)
            · rw [if_neg c11] at H
              exact absurd H (by simp)
          · rw [if_neg c10] at H
            exact absurd H (by simp)
        · rw [if_neg c9] at H
          have c9b0 : decide (x9_1 < ji5) = false := decide_eq_false c9
          clear c9
          replace H := Option.bind_eq_some_iff.mp H
          obtain ⟨t126, A200, H⟩ := H
          replace H : (if 0 ≤ ji5 then (if ji5 ≤ (a0.size : Int) then ((sum_Of.f (a0.extract 0 (ji5 : Int).toNat)).bind fun t127 => (if ji5 ≤ (a1.size : Int) then ((sum_Of.f (a1.extract 0 (ji5 : Int).toNat)).bind fun t128 => (if ji5 ≤ (a2.size : Int) then ((sum_Of.f (a2.extract 0 (ji5 : Int).toNat)).bind fun t129 => (if t126 = (Go.bits .xor .u32 (Go.bits .xor .u32 t127 t128) t129) then ((umbellaw03_wakes.f k1).bind fun t130 => (some t130)) else (some false))) else (none))) else (none))) else (none)) else (none)) = some r := H
          have A20 := Aside0.mk A200
          clear A200
          by_cases c21 : 0 ≤ ji5
          · rw [if_pos c21] at H
            have c21b0 := eq_true c21
            have c21b1 : decide (0 ≤ ji5) = true := decide_eq_true c21
            clear c21
            by_cases c22 : ji5 ≤ (a0.size : Int)
            · rw [if_pos c22] at H
              have c22b0 := eq_true c22
              have c22b1 : decide (ji5 ≤ (a0.size : Int)) = true := decide_eq_true c22
              clear c22
              replace H := Option.bind_eq_some_iff.mp H
              obtain ⟨t127, A230, H⟩ := H
              replace H : (if ji5 ≤ (a1.size : Int) then ((sum_Of.f (a1.extract 0 (ji5 : Int).toNat)).bind fun t128 => (if ji5 ≤ (a2.size : Int) then ((sum_Of.f (a2.extract 0 (ji5 : Int).toNat)).bind fun t129 => (if t126 = (Go.bits .xor .u32 (Go.bits .xor .u32 t127 t128) t129) then ((umbellaw03_wakes.f k1).bind fun t130 => (some t130)) else (some false))) else (none))) else (none)) = some r := H
              have A23 := Aside0.mk A230
              clear A230
              have c24b0 := eq_true (of_decide_eq_true (by first | (with_reducible assumption) | assumption | (rw [← hji5]; assumption)) : 0 ≤ ji5)
              by_cases c25 : ji5 ≤ (a1.size : Int)
              · rw [if_pos c25] at H
                have c25b0 := eq_true c25
                have c25b1 : decide (ji5 ≤ (a1.size : Int)) = true := decide_eq_true c25
                clear c25
                replace H := Option.bind_eq_some_iff.mp H
                obtain ⟨t128, A260, H⟩ := H
                replace H : (if ji5 ≤ (a2.size : Int) then ((sum_Of.f (a2.extract 0 (ji5 : Int).toNat)).bind fun t129 => (if t126 = (Go.bits .xor .u32 (Go.bits .xor .u32 t127 t128) t129) then ((umbellaw03_wakes.f k1).bind fun t130 => (some t130)) else (some false))) else (none)) = some r := H
                have A26 := Aside0.mk A260
                clear A260
                have c27b0 := eq_true (of_decide_eq_true (by first | (with_reducible assumption) | assumption | (rw [← hji5]; assumption)) : 0 ≤ ji5)
                by_cases c28 : ji5 ≤ (a2.size : Int)
                · rw [if_pos c28] at H
                  have c28b0 := eq_true c28
                  have c28b1 : decide (ji5 ≤ (a2.size : Int)) = true := decide_eq_true c28
                  clear c28
                  replace H := Option.bind_eq_some_iff.mp H
                  obtain ⟨t129, A290, H⟩ := H
                  replace H : (if t126 = (Go.bits .xor .u32 (Go.bits .xor .u32 t127 t128) t129) then ((umbellaw03_wakes.f k1).bind fun t130 => (some t130)) else (some false)) = some r := H
                  have A29 := Aside0.mk A290
                  clear A290
                  by_cases c30 : t126 = (Go.bits .xor .u32 (Go.bits .xor .u32 t127 t128) t129)
                  · rw [if_pos c30] at H
                    have c30b0 : (t126 == (Go.bits .xor .u32 (Go.bits .xor .u32 t127 t128) t129)) = true := beq_iff_eq.mpr c30
                    have c30b1 : (t126 != (Go.bits .xor .u32 (Go.bits .xor .u32 t127 t128) t129)) = false := bne_eq_false_iff_eq.mpr c30
                    clear c30
                    replace H := Option.bind_eq_some_iff.mp H
                    obtain ⟨t130, A310, H⟩ := H
                    replace H : (some t130) = some r := H
                    have A31 := Aside0.mk A310
                    clear A310
                    obtain rfl := Option.some.inj H
                    go_wp2_with fail
                    have hcv : ∀ w', Cm.Calm wr w' → (convert 32 9 u8).run Tryd.prog w' = .ok (.string (strOfNums x8_1)) w' := fun w' hw => own_string (P := Tryd.prog) Tryd.underlying32 Tryd.underlying5 Tryd.underlying9 (Kd.own_of_R (Kd.R_below HO_8.out hw.below))
                    have HGr := Glob.below HG.out HB.out
                    have hC0 := Cm.Calm.refl wr
                    refine Cm.wp_region_calm_lit wr (by kernel_rfl) (by kernel_rfl) hC0 ?_
                    repeat (first | go_big_quiet_step (fail) | (refine wpQuiet_step (fun K hK => ?_); go_simp; first | (refine hK _ ?_; clear hK K) | (refine ⟨_, fun _ _ => rfl, hK _ ?_⟩; clear hK K) | (refine ⟨.string (strOfNums x8_1), fun w' hw => by rw [hcv w' hw]; exact ⟨rfl, rfl⟩, hK _ ?_⟩; clear hK K) | (apply Exists.intro; refine ⟨fun _ hc_ => ?_, hK _ ?_⟩; (first | exact Cm.Calm.call hc_ (SumW.of_b _ _ _ (Glob.below HGr hc_.below) A20.out) | exact Cm.Calm.call hc_ (SumW.of_b _ _ _ (Glob.below HGr hc_.below) A23.out) | exact Cm.Calm.call hc_ (SumW.of_b _ _ _ (Glob.below HGr hc_.below) A26.out) | exact Cm.Calm.call hc_ (SumW.of_b _ _ _ (Glob.below HGr hc_.below) A29.out) | exact Cm.Calm.call hc_ (umbellaw03_wakes.calls _ _ _ (Glob.below HGr hc_.below) A31.out)); clear hK K)))
                    refine wpQuiet_nil ?_
                    intro w7 hC7
                    go_wp2
                    go_ret
                    exact ⟨rfl, (Cm.Calm.trans ⟨HB.out⟩ hC7).below⟩
                  · rw [if_neg c30] at H
                    have c30b0 : (t126 == (Go.bits .xor .u32 (Go.bits .xor .u32 t127 t128) t129)) = false := beq_eq_false_iff_ne.mpr c30
                    have c30b1 : (t126 != (Go.bits .xor .u32 (Go.bits .xor .u32 t127 t128) t129)) = true := bne_iff_ne.mpr c30
                    obtain rfl := Option.some.inj H
                    go_wp2_with fail
                    have hcv : ∀ w', Cm.Calm wr w' → (convert 32 9 u8).run Tryd.prog w' = .ok (.string (strOfNums x8_1)) w' := fun w' hw => own_string (P := Tryd.prog) Tryd.underlying32 Tryd.underlying5 Tryd.underlying9 (Kd.own_of_R (Kd.R_below HO_8.out hw.below))
                    have HGr := Glob.below HG.out HB.out
                    have hC0 := Cm.Calm.refl wr
                    refine Cm.wp_region_calm_lit wr (by kernel_rfl) (by kernel_rfl) hC0 ?_
                    repeat (first | go_big_quiet_step (fail) | (refine wpQuiet_step (fun K hK => ?_); go_simp; first | (refine hK _ ?_; clear hK K) | (refine ⟨_, fun _ _ => rfl, hK _ ?_⟩; clear hK K) | (refine ⟨.string (strOfNums x8_1), fun w' hw => by rw [hcv w' hw]; exact ⟨rfl, rfl⟩, hK _ ?_⟩; clear hK K) | (apply Exists.intro; refine ⟨fun _ hc_ => ?_, hK _ ?_⟩; (first | exact Cm.Calm.call hc_ (SumW.of_b _ _ _ (Glob.below HGr hc_.below) A20.out) | exact Cm.Calm.call hc_ (SumW.of_b _ _ _ (Glob.below HGr hc_.below) A23.out) | exact Cm.Calm.call hc_ (SumW.of_b _ _ _ (Glob.below HGr hc_.below) A26.out) | exact Cm.Calm.call hc_ (SumW.of_b _ _ _ (Glob.below HGr hc_.below) A29.out) | exact Cm.Calm.call hc_ (umbellaw03_wakes.calls _ _ _ (Glob.below HGr hc_.below) A31.out)); clear hK K)))
                    refine wpQuiet_nil ?_
                    intro w7 hC7
                    go_wp2
                    go_ret
                    exact ⟨rfl, (Cm.Calm.trans ⟨HB.out⟩ hC7).below⟩
                · rw [if_neg c28] at H
                  exact absurd H (by simp)
              · rw [if_neg c25] at H
                exact absurd H (by simp)
            · rw [if_neg c22] at H
              exact absurd H (by simp)
          · rw [if_neg c21] at H
            exact absurd H (by simp)

/-- THE ONE PURE STATEMENT of umbellaw03_SumBits: yours. -/
def umbellaw03_SumBits.Pure : Prop := ∀ (a0 : ByteArray) (a1 : ByteArray) (a2 : ByteArray), a0.size ≤ 140737488351232 → a1.size ≤ 140737488351232 → a2.size ≤ 140737488351232 → ∃ k, umbellaw03_SumBits.f k a0 a1 a2 = some true
theorem umbellaw03_SumBits.walk (P : umbellaw03_SumBits.Pure) (a0 : ByteArray) (a1 : ByteArray) (a2 : ByteArray) (w : World) (hG : Glob w) (w0 : a0.size ≤ 140737488351232) (w1 : a1.size ≤ 140737488351232) (w2 : a2.size ≤ 140737488351232) :
    Calls Tryd.prog 6 #[.string a0, .string a1, .string a2] w fun e w' => e = .returned (.bool true) ∧ Below w.heap.size w w' := by
  obtain ⟨k, h⟩ := P a0 a1 a2 w0 w1 w2
  refine (umbellaw03_SumBits.calls k a0 a1 a2 true w hG h).mono ?_
  rintro e w' ⟨rfl, hd⟩
  exact ⟨rfl, hd⟩

end Go.Proofs.YtbgojedhciimaaaDoor.PSum
