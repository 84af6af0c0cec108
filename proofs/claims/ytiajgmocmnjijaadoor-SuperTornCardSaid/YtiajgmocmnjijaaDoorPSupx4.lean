-- Written by a program of this session for this seat. Not trusted: Lean checks it.
import Derived.Test.YtiajgmocmnjijaaDoorPSupx0
import Derived.Test.YtiajgmocmnjijaaDoorPSupx2
import Derived.Test.YtiajgmocmnjijaaDoorPSupx3
namespace Go.Proofs.YtiajgmocmnjijaaDoor.PSup
open Go.RowKit Go.Proofs.YtiajgmocmnjijaaDoorW.PrintWords Go.Proofs.YtiajgmocmnjijaaDoorW.PrintLast Go.Proofs.YtiajgmocmnjijaaDoorW.PrintMore
attribute [local go_sem] max2_int min2_int max_two min_two max_three min_three max_four min_four   -- for this text's walks alone
set_option linter.unusedVariables false
set_option linter.unusedSimpArgs false
open Go.Proofs.YtiajgmocmnjijaaDoor.HW Go.Proofs.YtiajgmocmnjijaaDoor.SumH

/-! ### super_Decode: function 20 -/
def super_Decode.f (k : Nat) (a0 : ByteArray) : Option (Int × Int × Int × Int × Int × Int × Bool) := if (a0.size : Int) = 256 then (if 4 ≤ 8 then (if 8 ≤ (a0.size : Int) then ((super_number.f k (a0.extract 4 8)).bind fun t135 => (if 8 ≤ 12 then (if 12 ≤ (a0.size : Int) then ((super_number.f k (a0.extract 8 12)).bind fun t136 => (if 12 ≤ 14 then (if 14 ≤ (a0.size : Int) then ((super_number.f k (a0.extract 12 14)).bind fun t137 => (if 14 ≤ 16 then (if 16 ≤ (a0.size : Int) then ((super_number.f k (a0.extract 14 16)).bind fun t138 => (if 16 ≤ 18 then (if 18 ≤ (a0.size : Int) then ((super_number.f k (a0.extract 16 18)).bind fun t139 => (if 18 ≤ 19 then (if 19 ≤ (a0.size : Int) then ((super_number.f k (a0.extract 18 19)).bind fun t140 => ((super_Good.f t135 t136 t137 t138 t139 t140).bind fun t142 => (if t142 = true then ((super_sector.f k t135 t136 t137 t138 t139 t140).bind fun t143 => (if 0 ≤ 64 then (if 64 ≤ (a0.size : Int) then (if t143.toList = (a0.extract 0 64).toList then (some (t135, t136, t137, t138, t139, t140, true)) else (some (0, 0, 0, 0, 0, 0, false))) else (none)) else (none))) else (some (0, 0, 0, 0, 0, 0, false))))) else (none)) else (none))) else (none)) else (none))) else (none)) else (none))) else (none)) else (none))) else (none)) else (none))) else (none)) else (none)) else (some (0, 0, 0, 0, 0, 0, false))
def super_Decode.T3 : Bool × List (List Nat × List Nat) := (true, [([], []), ([0], [0]), ([1], [1]), ([], []), ([3], [3]), ([4, 2], [4]), ([], []), ([6], [6]), ([7, 5], [7]), ([], []), ([9], [9]), ([10, 8], [10]), ([], []), ([12], [12]), ([13, 11], [13]), ([], []), ([15], [15]), ([16, 14], [16]), ([2, 5, 8, 11, 14, 17], [2, 5, 8, 11, 14, 17]), ([], []), ([19, 18, 17, 0, 1, 2, 3, 4, 5, 6, 7, 8, 9, 10, 11, 12, 13, 14, 15, 16, 17, 18, 19], [18, 19])])
def super_Decode.B3 : List Nat := [0, 1, 3, 0, 8, 31, 0, 64, 255, 0, 512, 2047, 0, 4096, 16383, 0, 32768, 131071, 262143, 0, 1048575]
theorem super_Decode.tab3 : rtab .any (opsOf Tryd.f20 3) = super_Decode.T3 := by kernel_rfl
theorem super_Decode.bits3 : waitsOk super_Decode.T3.2 super_Decode.B3 = true := by kernel_rfl
def super_Decode.T4 : Bool × List (List Nat × List Nat) := (true, [([], []), ([0], [0]), ([1], [1]), ([2, 1], [2]), ([3], [3]), ([4, 3, 3], [3, 4]), ([3], [3]), ([6, 3], [3, 6]), ([5, 7, 3], [3, 5, 7]), ([3, 8], [3, 8])])
def super_Decode.B4 : List Nat := [0, 1, 3, 7, 15, 31, 15, 79, 255, 511]
theorem super_Decode.tab4 : rtab .any (opsOf Tryd.f20 4) = super_Decode.T4 := by kernel_rfl
theorem super_Decode.bits4 : waitsOk super_Decode.T4.2 super_Decode.B4 = true := by kernel_rfl
set_option maxHeartbeats 8000000 in
set_option maxRecDepth 100000 in
theorem super_Decode.calls (k : Nat) (a0 : ByteArray) (r1 : Int) (r2 : Int) (r3 : Int) (r4 : Int) (r5 : Int) (r6 : Int) (r7 : Bool) (w : World) (hG : Glob w) (h : super_Decode.f k a0 = some (r1, r2, r3, r4, r5, r6, r7)) :
    Calls Tryd.prog 20 #[.string a0] w fun e w' => e = .returned (.tuple #[.agg #[.int .i64 r1, .int .i64 r2, .int .i64 r3, .int .i64 r4, .int .i64 r5, .int .i64 r6], .bool r7]) ∧ Below w.heap.size w w' := by
  have hu43 := Tryd.underlying43
  have HG := Aside0.mk hG
  clear hG
  have HB := Aside0.mk (Below.refl w.heap.size w)
  have H : (if (a0.size : Int) = 256 then (if 4 ≤ 8 then (if 8 ≤ (a0.size : Int) then ((super_number.f k (a0.extract 4 8)).bind fun t135 => (if 8 ≤ 12 then (if 12 ≤ (a0.size : Int) then ((super_number.f k (a0.extract 8 12)).bind fun t136 => (if 12 ≤ 14 then (if 14 ≤ (a0.size : Int) then ((super_number.f k (a0.extract 12 14)).bind fun t137 => (if 14 ≤ 16 then (if 16 ≤ (a0.size : Int) then ((super_number.f k (a0.extract 14 16)).bind fun t138 => (if 16 ≤ 18 then (if 18 ≤ (a0.size : Int) then ((super_number.f k (a0.extract 16 18)).bind fun t139 => (if 18 ≤ 19 then (if 19 ≤ (a0.size : Int) then ((super_number.f k (a0.extract 18 19)).bind fun t140 => ((super_Good.f t135 t136 t137 t138 t139 t140).bind fun t142 => (if t142 = true then ((super_sector.f k t135 t136 t137 t138 t139 t140).bind fun t143 => (if 0 ≤ 64 then (if 64 ≤ (a0.size : Int) then (if t143.toList = (a0.extract 0 64).toList then (some (t135, t136, t137, t138, t139, t140, true)) else (some (0, 0, 0, 0, 0, 0, false))) else (none)) else (none))) else (some (0, 0, 0, 0, 0, 0, false))))) else (none)) else (none))) else (none)) else (none))) else (none)) else (none))) else (none)) else (none))) else (none)) else (none))) else (none)) else (none)) else (some (0, 0, 0, 0, 0, 0, false))) = some (r1, r2, r3, r4, r5, r6, r7) := h
  clear h
  by_cases c2 : (a0.size : Int) = 256
  · rw [if_pos c2] at H
    have c2b0 : ((a0.size : Int) == 256) = true := beq_iff_eq.mpr c2
    have c2b1 : ((a0.size : Int) != 256) = false := bne_eq_false_iff_eq.mpr c2
    clear c2
    by_cases c3 : 4 ≤ 8
    · rw [if_pos c3] at H
      have c3b0 := eq_true c3
      have c3b1 : decide (4 ≤ 8) = true := decide_eq_true c3
      clear c3
      by_cases c4 : 8 ≤ (a0.size : Int)
      · rw [if_pos c4] at H
        have c4b0 := eq_true c4
        have c4b1 : decide (8 ≤ (a0.size : Int)) = true := decide_eq_true c4
        clear c4
        replace H := Option.bind_eq_some_iff.mp H
        obtain ⟨t135, A50, H⟩ := H
        replace H : (if 8 ≤ 12 then (if 12 ≤ (a0.size : Int) then ((super_number.f k (a0.extract 8 12)).bind fun t136 => (if 12 ≤ 14 then (if 14 ≤ (a0.size : Int) then ((super_number.f k (a0.extract 12 14)).bind fun t137 => (if 14 ≤ 16 then (if 16 ≤ (a0.size : Int) then ((super_number.f k (a0.extract 14 16)).bind fun t138 => (if 16 ≤ 18 then (if 18 ≤ (a0.size : Int) then ((super_number.f k (a0.extract 16 18)).bind fun t139 => (if 18 ≤ 19 then (if 19 ≤ (a0.size : Int) then ((super_number.f k (a0.extract 18 19)).bind fun t140 => ((super_Good.f t135 t136 t137 t138 t139 t140).bind fun t142 => (if t142 = true then ((super_sector.f k t135 t136 t137 t138 t139 t140).bind fun t143 => (if 0 ≤ 64 then (if 64 ≤ (a0.size : Int) then (if t143.toList = (a0.extract 0 64).toList then (some (t135, t136, t137, t138, t139, t140, true)) else (some (0, 0, 0, 0, 0, 0, false))) else (none)) else (none))) else (some (0, 0, 0, 0, 0, 0, false))))) else (none)) else (none))) else (none)) else (none))) else (none)) else (none))) else (none)) else (none))) else (none)) else (none)) = some (r1, r2, r3, r4, r5, r6, r7) := H
        have A5 := Aside0.mk A50
        clear A50
        by_cases c6 : 8 ≤ 12
        · rw [if_pos c6] at H
          have c6b0 := eq_true c6
          have c6b1 : decide (8 ≤ 12) = true := decide_eq_true c6
          clear c6
          by_cases c7 : 12 ≤ (a0.size : Int)
          · rw [if_pos c7] at H
            have c7b0 := eq_true c7
            have c7b1 : decide (12 ≤ (a0.size : Int)) = true := decide_eq_true c7
            clear c7
            replace H := Option.bind_eq_some_iff.mp H
            obtain ⟨t136, A80, H⟩ := H
            replace H : (if 12 ≤ 14 then (if 14 ≤ (a0.size : Int) then ((super_number.f k (a0.extract 12 14)).bind fun t137 => (if 14 ≤ 16 then (if 16 ≤ (a0.size : Int) then ((super_number.f k (a0.extract 14 16)).bind fun t138 => (if 16 ≤ 18 then (if 18 ≤ (a0.size : Int) then ((super_number.f k (a0.extract 16 18)).bind fun t139 => (if 18 ≤ 19 then (if 19 ≤ (a0.size : Int) then ((super_number.f k (a0.extract 18 19)).bind fun t140 => ((super_Good.f t135 t136 t137 t138 t139 t140).bind fun t142 => (if t142 = true then ((super_sector.f k t135 t136 t137 t138 t139 t140).bind fun t143 => (if 0 ≤ 64 then (if 64 ≤ (a0.size : Int) then (if t143.toList = (a0.extract 0 64).toList then (some (t135, t136, t137, t138, t139, t140, true)) else (some (0, 0, 0, 0, 0, 0, false))) else (none)) else (none))) else (some (0, 0, 0, 0, 0, 0, false))))) else (none)) else (none))) else (none)) else (none))) else (none)) else (none))) else (none)) else (none)) = some (r1, r2, r3, r4, r5, r6, r7) := H
            have A8 := Aside0.mk A80
            clear A80
            by_cases c9 : 12 ≤ 14
            · rw [if_pos c9] at H
              have c9b0 := eq_true c9
              have c9b1 : decide (12 ≤ 14) = true := decide_eq_true c9
              clear c9
              by_cases c10 : 14 ≤ (a0.size : Int)
              · rw [if_pos c10] at H
                have c10b0 := eq_true c10
                have c10b1 : decide (14 ≤ (a0.size : Int)) = true := decide_eq_true c10
                clear c10
                replace H := Option.bind_eq_some_iff.mp H
                obtain ⟨t137, A110, H⟩ := H
                replace H : (if 14 ≤ 16 then (if 16 ≤ (a0.size : Int) then ((super_number.f k (a0.extract 14 16)).bind fun t138 => (if 16 ≤ 18 then (if 18 ≤ (a0.size : Int) then ((super_number.f k (a0.extract 16 18)).bind fun t139 => (if 18 ≤ 19 then (if 19 ≤ (a0.size : Int) then ((super_number.f k (a0.extract 18 19)).bind fun t140 => ((super_Good.f t135 t136 t137 t138 t139 t140).bind fun t142 => (if t142 = true then ((super_sector.f k t135 t136 t137 t138 t139 t140).bind fun t143 => (if 0 ≤ 64 then (if 64 ≤ (a0.size : Int) then (if t143.toList = (a0.extract 0 64).toList then (some (t135, t136, t137, t138, t139, t140, true)) else (some (0, 0, 0, 0, 0, 0, false))) else (none)) else (none))) else (some (0, 0, 0, 0, 0, 0, false))))) else (none)) else (none))) else (none)) else (none))) else (none)) else (none)) = some (r1, r2, r3, r4, r5, r6, r7) := H
                have A11 := Aside0.mk A110
                clear A110
                by_cases c12 : 14 ≤ 16
                · rw [if_pos c12] at H
                  have c12b0 := eq_true c12
                  have c12b1 : decide (14 ≤ 16) = true := decide_eq_true c12
                  clear c12
                  by_cases c13 : 16 ≤ (a0.size : Int)
                  · rw [if_pos c13] at H
                    have c13b0 := eq_true c13
                    have c13b1 : decide (16 ≤ (a0.size : Int)) = true := decide_eq_true c13
                    clear c13
                    replace H := Option.bind_eq_some_iff.mp H
                    obtain ⟨t138, A140, H⟩ := H
                    replace H : (if 16 ≤ 18 then (if 18 ≤ (a0.size : Int) then ((super_number.f k (a0.extract 16 18)).bind fun t139 => (if 18 ≤ 19 then (if 19 ≤ (a0.size : Int) then ((super_number.f k (a0.extract 18 19)).bind fun t140 => ((super_Good.f t135 t136 t137 t138 t139 t140).bind fun t142 => (if t142 = true then ((super_sector.f k t135 t136 t137 t138 t139 t140).bind fun t143 => (if 0 ≤ 64 then (if 64 ≤ (a0.size : Int) then (if t143.toList = (a0.extract 0 64).toList then (some (t135, t136, t137, t138, t139, t140, true)) else (some (0, 0, 0, 0, 0, 0, false))) else (none)) else (none))) else (some (0, 0, 0, 0, 0, 0, false))))) else (none)) else (none))) else (none)) else (none)) = some (r1, r2, r3, r4, r5, r6, r7) := H
                    have A14 := Aside0.mk A140
                    clear A140
                    by_cases c15 : 16 ≤ 18
                    · rw [if_pos c15] at H
                      have c15b0 := eq_true c15
                      have c15b1 : decide (16 ≤ 18) = true := decide_eq_true c15
                      clear c15
                      by_cases c16 : 18 ≤ (a0.size : Int)
                      · rw [if_pos c16] at H
                        have c16b0 := eq_true c16
                        have c16b1 : decide (18 ≤ (a0.size : Int)) = true := decide_eq_true c16
                        clear c16
                        replace H := Option.bind_eq_some_iff.mp H
                        obtain ⟨t139, A170, H⟩ := H
                        replace H : (if 18 ≤ 19 then (if 19 ≤ (a0.size : Int) then ((super_number.f k (a0.extract 18 19)).bind fun t140 => ((super_Good.f t135 t136 t137 t138 t139 t140).bind fun t142 => (if t142 = true then ((super_sector.f k t135 t136 t137 t138 t139 t140).bind fun t143 => (if 0 ≤ 64 then (if 64 ≤ (a0.size : Int) then (if t143.toList = (a0.extract 0 64).toList then (some (t135, t136, t137, t138, t139, t140, true)) else (some (0, 0, 0, 0, 0, 0, false))) else (none)) else (none))) else (some (0, 0, 0, 0, 0, 0, false))))) else (none)) else (none)) = some (r1, r2, r3, r4, r5, r6, r7) := H
                        have A17 := Aside0.mk A170
                        clear A170
                        by_cases c18 : 18 ≤ 19
                        · rw [if_pos c18] at H
                          have c18b0 := eq_true c18
                          have c18b1 : decide (18 ≤ 19) = true := decide_eq_true c18
                          clear c18
                          by_cases c19 : 19 ≤ (a0.size : Int)
                          · rw [if_pos c19] at H
                            have c19b0 := eq_true c19
                            have c19b1 : decide (19 ≤ (a0.size : Int)) = true := decide_eq_true c19
                            clear c19
                            replace H := Option.bind_eq_some_iff.mp H
                            obtain ⟨t140, A200, H⟩ := H
                            replace H : ((super_Good.f t135 t136 t137 t138 t139 t140).bind fun t142 => (if t142 = true then ((super_sector.f k t135 t136 t137 t138 t139 t140).bind fun t143 => (if 0 ≤ 64 then (if 64 ≤ (a0.size : Int) then (if t143.toList = (a0.extract 0 64).toList then (some (t135, t136, t137, t138, t139, t140, true)) else (some (0, 0, 0, 0, 0, 0, false))) else (none)) else (none))) else (some (0, 0, 0, 0, 0, 0, false)))) = some (r1, r2, r3, r4, r5, r6, r7) := H
                            have A20 := Aside0.mk A200
                            clear A200
                            replace H := Option.bind_eq_some_iff.mp H
                            obtain ⟨t142, A210, H⟩ := H
                            replace H : (if t142 = true then ((super_sector.f k t135 t136 t137 t138 t139 t140).bind fun t143 => (if 0 ≤ 64 then (if 64 ≤ (a0.size : Int) then (if t143.toList = (a0.extract 0 64).toList then (some (t135, t136, t137, t138, t139, t140, true)) else (some (0, 0, 0, 0, 0, 0, false))) else (none)) else (none))) else (some (0, 0, 0, 0, 0, 0, false))) = some (r1, r2, r3, r4, r5, r6, r7) := H
                            have A21 := Aside0.mk A210
                            clear A210
                            have HC_ := Aside0.mk H
                            clear H
                            go_enter Tryd.func20, Tryd.ntmps20
                            try go_wp2_with (first | ((with_reducible refine gate_dst (N := 2) rfl ?_); refine box_event ?hg (N := 2) ?hd (cs := #[.int .i64 0, .int .i64 0, .int .i64 0, .int .i64 0, .int .i64 0, .int .i64 0]) (t := 43) ?hr ?_; (case hd => rfl); (case hg => rfl); (case hr => first | (go_simp; done) | (go_simp; rfl)); intro gb134 hg w27 hbox hb; have n0_ := Aside0.mk (below_step (by repeat (first | (with_reducible first | exact HB.out | apply below_alloc | apply pw_below_drewN | apply below_drew1) | exact HB.out)) hb); have n1_ := Aside0.mk (hbox); have n2_ := Aside0.mk ((by rw [hg]; exact (below_size (by repeat (first | (with_reducible first | exact HB.out | apply below_alloc | apply pw_below_drewN | apply below_drew1) | exact HB.out))) : w.heap.size ≤ gb134)); have n3_ := Aside0.mk ((by rw [hg]; exact (below_size (by repeat (first | (with_reducible first | exact HB.out | apply below_alloc | apply pw_below_drewN | apply below_drew1) | exact HB.out))) : w.heap.size ≤ gb134)); clear HB; have HB := n0_; have BK134 := n1_; have GW134 := n2_; have GE134 := n3_; clear n0_ n1_ n2_ n3_; clear hb hbox hg))
                            have n0_ := Aside0.mk (blk_drew BK134.out)
                            have n1_ := Aside0.mk (below_drew1 HB.out)
                            clear BK134
                            clear HB
                            have BK134 := n0_
                            have HB := n1_
                            clear n0_ n1_
                            refine start_ (n := 21) (S := fun w' => True) (ds := []) #[false, false, false, false, false, false, false, false, false, false, false, false, false, false, false, false, false, false, false, false, false] (by kernel_rfl) rfl rfl trivial (fun hHeld => ?_); refine with_tabW super_Decode.tab3 super_Decode.bits3 (fun HT_ HW_ => ?_)
                            generalize w27.drew = w28 at BK134 HB hHeld ⊢
                            refine pure_ (i := 0) (N := some 9) (v := ?_) (a' := ?_) #[true, false, false, false, false, false, false, false, false, false, false, false, false, false, false, false, false, false, false, false, false] rfl rfl (any_of HT_.out (by kernel_rfl)) (fun _ _ _ h => h) (Or.inl ⟨by rfl, ?_⟩) ?_ ?_
                            rotate_left
                            · intro w'
                              go_simp
                              with_reducible rfl
                            rotate_left
                            · simp only [Act.put, List.setIfInBounds_toArray, List.set_cons_zero, List.set_cons_succ, i64_w, i32_w]
                              rfl
                            refine pure_ (i := 1) (N := some 10) (v := ?_) (a' := ?_) #[true, true, false, false, false, false, false, false, false, false, false, false, false, false, false, false, false, false, false, false, false] rfl rfl (any_of HT_.out (by kernel_rfl)) (fun _ _ _ h => h) (Or.inl ⟨by rfl, ?_⟩) ?_ ?_
                            rotate_left
                            · intro w'
                              go_simp
                              with_reducible rfl
                            rotate_left
                            · simp only [Act.put, List.setIfInBounds_toArray, List.set_cons_zero, List.set_cons_succ, i64_w, i32_w]
                              rfl
                            refine pure_ (i := 3) (N := some 12) (v := ?_) (a' := ?_) #[true, true, false, true, false, false, false, false, false, false, false, false, false, false, false, false, false, false, false, false, false] rfl rfl (any_of HT_.out (by kernel_rfl)) (fun _ _ _ h => h) (Or.inl ⟨by rfl, ?_⟩) ?_ ?_
                            rotate_left
                            · intro w'
                              go_simp
                              with_reducible rfl
                            rotate_left
                            · simp only [Act.put, List.setIfInBounds_toArray, List.set_cons_zero, List.set_cons_succ, i64_w, i32_w]
                              rfl
                            refine pure_ (i := 4) (N := some 13) (v := ?_) (a' := ?_) #[true, true, false, true, true, false, false, false, false, false, false, false, false, false, false, false, false, false, false, false, false] rfl rfl (any_of HT_.out (by kernel_rfl)) (fun _ _ _ h => h) (Or.inl ⟨by rfl, ?_⟩) ?_ ?_
                            rotate_left
                            · intro w'
                              go_simp
                              with_reducible rfl
                            rotate_left
                            · simp only [Act.put, List.setIfInBounds_toArray, List.set_cons_zero, List.set_cons_succ, i64_w, i32_w]
                              rfl
                            refine pure_ (i := 6) (N := some 15) (v := ?_) (a' := ?_) #[true, true, false, true, true, false, true, false, false, false, false, false, false, false, false, false, false, false, false, false, false] rfl rfl (any_of HT_.out (by kernel_rfl)) (fun _ _ _ h => h) (Or.inl ⟨by rfl, ?_⟩) ?_ ?_
                            rotate_left
                            · intro w'
                              go_simp
                              with_reducible rfl
                            rotate_left
                            · simp only [Act.put, List.setIfInBounds_toArray, List.set_cons_zero, List.set_cons_succ, i64_w, i32_w]
                              rfl
                            refine pure_ (i := 7) (N := some 16) (v := ?_) (a' := ?_) #[true, true, false, true, true, false, true, true, false, false, false, false, false, false, false, false, false, false, false, false, false] rfl rfl (any_of HT_.out (by kernel_rfl)) (fun _ _ _ h => h) (Or.inl ⟨by rfl, ?_⟩) ?_ ?_
                            rotate_left
                            · intro w'
                              go_simp
                              with_reducible rfl
                            rotate_left
                            · simp only [Act.put, List.setIfInBounds_toArray, List.set_cons_zero, List.set_cons_succ, i64_w, i32_w]
                              rfl
                            refine pure_ (i := 9) (N := some 18) (v := ?_) (a' := ?_) #[true, true, false, true, true, false, true, true, false, true, false, false, false, false, false, false, false, false, false, false, false] rfl rfl (any_of HT_.out (by kernel_rfl)) (fun _ _ _ h => h) (Or.inl ⟨by rfl, ?_⟩) ?_ ?_
                            rotate_left
                            · intro w'
                              go_simp
                              with_reducible rfl
                            rotate_left
                            · simp only [Act.put, List.setIfInBounds_toArray, List.set_cons_zero, List.set_cons_succ, i64_w, i32_w]
                              rfl
                            refine pure_ (i := 10) (N := some 19) (v := ?_) (a' := ?_) #[true, true, false, true, true, false, true, true, false, true, true, false, false, false, false, false, false, false, false, false, false] rfl rfl (any_of HT_.out (by kernel_rfl)) (fun _ _ _ h => h) (Or.inl ⟨by rfl, ?_⟩) ?_ ?_
                            rotate_left
                            · intro w'
                              go_simp
                              with_reducible rfl
                            rotate_left
                            · simp only [Act.put, List.setIfInBounds_toArray, List.set_cons_zero, List.set_cons_succ, i64_w, i32_w]
                              rfl
                            refine pure_ (i := 12) (N := some 21) (v := ?_) (a' := ?_) #[true, true, false, true, true, false, true, true, false, true, true, false, true, false, false, false, false, false, false, false, false] rfl rfl (any_of HT_.out (by kernel_rfl)) (fun _ _ _ h => h) (Or.inl ⟨by rfl, ?_⟩) ?_ ?_
                            rotate_left
                            · intro w'
                              go_simp
                              with_reducible rfl
                            rotate_left
                            · simp only [Act.put, List.setIfInBounds_toArray, List.set_cons_zero, List.set_cons_succ, i64_w, i32_w]
                              rfl
                            refine pure_ (i := 13) (N := some 22) (v := ?_) (a' := ?_) #[true, true, false, true, true, false, true, true, false, true, true, false, true, true, false, false, false, false, false, false, false] rfl rfl (any_of HT_.out (by kernel_rfl)) (fun _ _ _ h => h) (Or.inl ⟨by rfl, ?_⟩) ?_ ?_
                            rotate_left
                            · intro w'
                              go_simp
                              with_reducible rfl
                            rotate_left
                            · simp only [Act.put, List.setIfInBounds_toArray, List.set_cons_zero, List.set_cons_succ, i64_w, i32_w]
                              rfl
                            refine pure_ (i := 15) (N := some 24) (v := ?_) (a' := ?_) #[true, true, false, true, true, false, true, true, false, true, true, false, true, true, false, true, false, false, false, false, false] rfl rfl (any_of HT_.out (by kernel_rfl)) (fun _ _ _ h => h) (Or.inl ⟨by rfl, ?_⟩) ?_ ?_
                            rotate_left
                            · intro w'
                              go_simp
                              with_reducible rfl
                            rotate_left
                            · simp only [Act.put, List.setIfInBounds_toArray, List.set_cons_zero, List.set_cons_succ, i64_w, i32_w]
                              rfl
                            refine pure_ (i := 16) (N := some 25) (v := ?_) (a' := ?_) #[true, true, false, true, true, false, true, true, false, true, true, false, true, true, false, true, true, false, false, false, false] rfl rfl (any_of HT_.out (by kernel_rfl)) (fun _ _ _ h => h) (Or.inl ⟨by rfl, ?_⟩) ?_ ?_
                            rotate_left
                            · intro w'
                              go_simp
                              with_reducible rfl
                            rotate_left
                            · simp only [Act.put, List.setIfInBounds_toArray, List.set_cons_zero, List.set_cons_succ, i64_w, i32_w]
                              rfl
                            refine join_ (σ := Nat) 1 #[true, true, true, true, true, true, true, true, true, true, true, true, true, true, true, true, true, true, true, true, false] (fun s_ => [(11, .int .i64 t135), (14, .int .i64 t136), (17, .int .i64 t137), (20, .int .i64 t138), (23, .int .i64 t139), (26, .int .i64 t140), (4, .pointer (some ⟨s_, 0, none⟩)), (27, .agg #[.int .i64 t135, .int .i64 t136, .int .i64 t137, .int .i64 t138, .int .i64 t139, .int .i64 t140])]) (fun s_ w' => (w'.heap[gb134]? = some (.cells #[.int .i64 0, .int .i64 0, .int .i64 0, .int .i64 0, .int .i64 0, .int .i64 0] 43 (0, 0))) ∧ (w'.heap[s_]? = some (.cells #[.int .i64 0, .int .i64 0, .int .i64 0, .int .i64 0, .int .i64 0, .int .i64 0] 43 (0, 0))) ∧ (w.heap.size ≤ s_) ∧ (w.heap.size ≤ s_) ∧ (gb134 ≠ s_) ∧ (s_ ≠ gb134) ∧ (Below w.heap.size w w')) ?_ ?_
                            rotate_left
                            · intro hJ2_5_8_11_14_17_19
                              refine join_ (σ := Unit) 2 #[true, true, true, true, true, true, true, true, true, true, true, true, true, true, true, true, true, true, true, false, false] (fun s_ => [(11, .int .i64 t135), (14, .int .i64 t136), (17, .int .i64 t137), (20, .int .i64 t138), (23, .int .i64 t139), (26, .int .i64 t140), (27, .agg #[.int .i64 t135, .int .i64 t136, .int .i64 t137, .int .i64 t138, .int .i64 t139, .int .i64 t140])]) (fun s_ w' => (w'.heap[gb134]? = some (.cells #[.int .i64 0, .int .i64 0, .int .i64 0, .int .i64 0, .int .i64 0, .int .i64 0] 43 (0, 0))) ∧ (Below w.heap.size w w')) ?_ ?_
                              rotate_left
                              · intro hJ2_5_8_11_14_17
                                refine join_ (σ := Nat) 3 #[true, true, true, true, true, true, true, true, true, true, true, true, true, true, true, true, true, false, false, true, false] (fun s_ => [(11, .int .i64 t135), (14, .int .i64 t136), (17, .int .i64 t137), (20, .int .i64 t138), (23, .int .i64 t139), (4, .pointer (some ⟨s_, 0, none⟩))]) (fun s_ w' => (w'.heap[gb134]? = some (.cells #[.int .i64 0, .int .i64 0, .int .i64 0, .int .i64 0, .int .i64 0, .int .i64 0] 43 (0, 0))) ∧ (w'.heap[s_]? = some (.cells #[.int .i64 0, .int .i64 0, .int .i64 0, .int .i64 0, .int .i64 0, .int .i64 0] 43 (0, 0))) ∧ (w.heap.size ≤ s_) ∧ (w.heap.size ≤ s_) ∧ (gb134 ≠ s_) ∧ (s_ ≠ gb134) ∧ (Below w.heap.size w w')) ?_ ?_
                                rotate_left
                                · intro hJ2_5_8_11_14_19
                                  refine join_ (σ := Unit) 4 #[true, true, true, true, true, true, true, true, true, true, true, true, true, true, true, true, true, false, false, false, false] (fun s_ => [(11, .int .i64 t135), (14, .int .i64 t136), (17, .int .i64 t137), (20, .int .i64 t138), (23, .int .i64 t139)]) (fun s_ w' => (w'.heap[gb134]? = some (.cells #[.int .i64 0, .int .i64 0, .int .i64 0, .int .i64 0, .int .i64 0, .int .i64 0] 43 (0, 0))) ∧ (Below w.heap.size w w')) ?_ ?_
                                  rotate_left
                                  · intro hJ2_5_8_11_14
                                    refine join_ (σ := Nat) 4 #[true, true, true, true, true, true, true, true, true, true, true, true, true, true, false, true, true, false, false, true, false] (fun s_ => [(11, .int .i64 t135), (14, .int .i64 t136), (17, .int .i64 t137), (20, .int .i64 t138), (4, .pointer (some ⟨s_, 0, none⟩))]) (fun s_ w' => (w'.heap[gb134]? = some (.cells #[.int .i64 0, .int .i64 0, .int .i64 0, .int .i64 0, .int .i64 0, .int .i64 0] 43 (0, 0))) ∧ (w'.heap[s_]? = some (.cells #[.int .i64 0, .int .i64 0, .int .i64 0, .int .i64 0, .int .i64 0, .int .i64 0] 43 (0, 0))) ∧ (w.heap.size ≤ s_) ∧ (w.heap.size ≤ s_) ∧ (gb134 ≠ s_) ∧ (s_ ≠ gb134) ∧ (Below w.heap.size w w')) ?_ ?_
                                    rotate_left
                                    · intro hJ2_5_8_11_19
                                      refine join_ (σ := Unit) 5 #[true, true, true, true, true, true, true, true, true, true, true, true, true, true, false, true, true, false, false, false, false] (fun s_ => [(11, .int .i64 t135), (14, .int .i64 t136), (17, .int .i64 t137), (20, .int .i64 t138)]) (fun s_ w' => (w'.heap[gb134]? = some (.cells #[.int .i64 0, .int .i64 0, .int .i64 0, .int .i64 0, .int .i64 0, .int .i64 0] 43 (0, 0))) ∧ (Below w.heap.size w w')) ?_ ?_
                                      rotate_left
                                      · intro hJ2_5_8_11
                                        refine join_ (σ := Nat) 5 #[true, true, true, true, true, true, true, true, true, true, true, false, true, true, false, true, true, false, false, true, false] (fun s_ => [(11, .int .i64 t135), (14, .int .i64 t136), (17, .int .i64 t137), (4, .pointer (some ⟨s_, 0, none⟩))]) (fun s_ w' => (w'.heap[gb134]? = some (.cells #[.int .i64 0, .int .i64 0, .int .i64 0, .int .i64 0, .int .i64 0, .int .i64 0] 43 (0, 0))) ∧ (w'.heap[s_]? = some (.cells #[.int .i64 0, .int .i64 0, .int .i64 0, .int .i64 0, .int .i64 0, .int .i64 0] 43 (0, 0))) ∧ (w.heap.size ≤ s_) ∧ (w.heap.size ≤ s_) ∧ (gb134 ≠ s_) ∧ (s_ ≠ gb134) ∧ (Below w.heap.size w w')) ?_ ?_
                                        rotate_left
                                        · intro hJ2_5_8_19
                                          refine join_ (σ := Unit) 6 #[true, true, true, true, true, true, true, true, true, true, true, false, true, true, false, true, true, false, false, false, false] (fun s_ => [(11, .int .i64 t135), (14, .int .i64 t136), (17, .int .i64 t137)]) (fun s_ w' => (w'.heap[gb134]? = some (.cells #[.int .i64 0, .int .i64 0, .int .i64 0, .int .i64 0, .int .i64 0, .int .i64 0] 43 (0, 0))) ∧ (Below w.heap.size w w')) ?_ ?_
                                          rotate_left
                                          · intro hJ2_5_8
                                            refine join_ (σ := Nat) 6 #[true, true, true, true, true, true, true, true, false, true, true, false, true, true, false, true, true, false, false, true, false] (fun s_ => [(11, .int .i64 t135), (14, .int .i64 t136), (4, .pointer (some ⟨s_, 0, none⟩))]) (fun s_ w' => (w'.heap[gb134]? = some (.cells #[.int .i64 0, .int .i64 0, .int .i64 0, .int .i64 0, .int .i64 0, .int .i64 0] 43 (0, 0))) ∧ (w'.heap[s_]? = some (.cells #[.int .i64 0, .int .i64 0, .int .i64 0, .int .i64 0, .int .i64 0, .int .i64 0] 43 (0, 0))) ∧ (w.heap.size ≤ s_) ∧ (w.heap.size ≤ s_) ∧ (gb134 ≠ s_) ∧ (s_ ≠ gb134) ∧ (Below w.heap.size w w')) ?_ ?_
                                            rotate_left
                                            · intro hJ2_5_19
                                              refine join_ (σ := Unit) 7 #[true, true, true, true, true, true, true, true, false, true, true, false, true, true, false, true, true, false, false, false, false] (fun s_ => [(11, .int .i64 t135), (14, .int .i64 t136)]) (fun s_ w' => (w'.heap[gb134]? = some (.cells #[.int .i64 0, .int .i64 0, .int .i64 0, .int .i64 0, .int .i64 0, .int .i64 0] 43 (0, 0))) ∧ (Below w.heap.size w w')) ?_ ?_
                                              rotate_left
                                              · intro hJ2_5
                                                refine join_ (σ := Nat) 7 #[true, true, true, true, true, false, true, true, false, true, true, false, true, true, false, true, true, false, false, true, false] (fun s_ => [(11, .int .i64 t135), (4, .pointer (some ⟨s_, 0, none⟩))]) (fun s_ w' => (w'.heap[gb134]? = some (.cells #[.int .i64 0, .int .i64 0, .int .i64 0, .int .i64 0, .int .i64 0, .int .i64 0] 43 (0, 0))) ∧ (w'.heap[s_]? = some (.cells #[.int .i64 0, .int .i64 0, .int .i64 0, .int .i64 0, .int .i64 0, .int .i64 0] 43 (0, 0))) ∧ (w.heap.size ≤ s_) ∧ (w.heap.size ≤ s_) ∧ (gb134 ≠ s_) ∧ (s_ ≠ gb134) ∧ (Below w.heap.size w w')) ?_ ?_
                                                rotate_left
                                                · intro hJ2_19
                                                  refine join_ (σ := Unit) 8 #[true, true, true, true, true, false, true, true, false, true, true, false, true, true, false, true, true, false, false, false, false] (fun s_ => [(11, .int .i64 t135)]) (fun s_ w' => (w'.heap[gb134]? = some (.cells #[.int .i64 0, .int .i64 0, .int .i64 0, .int .i64 0, .int .i64 0, .int .i64 0] 43 (0, 0))) ∧ (Below w.heap.size w w')) ?_ ?_
                                                  rotate_left
                                                  · intro hJ2
                                                    refine join_ (σ := Nat) 8 #[true, true, false, true, true, false, true, true, false, true, true, false, true, true, false, true, true, false, false, true, false] (fun s_ => [(4, .pointer (some ⟨s_, 0, none⟩))]) (fun s_ w' => (w'.heap[gb134]? = some (.cells #[.int .i64 0, .int .i64 0, .int .i64 0, .int .i64 0, .int .i64 0, .int .i64 0] 43 (0, 0))) ∧ (w'.heap[s_]? = some (.cells #[.int .i64 0, .int .i64 0, .int .i64 0, .int .i64 0, .int .i64 0, .int .i64 0] 43 (0, 0))) ∧ (w.heap.size ≤ s_) ∧ (w.heap.size ≤ s_) ∧ (gb134 ≠ s_) ∧ (s_ ≠ gb134) ∧ (Below w.heap.size w w')) ?_ ?_
                                                    rotate_left
                                                    · intro hJ19
                                                      refine two_ (i := 2) (j := 19) (Ni := some 11) (Nj := some 4) #[true, true, true, true, true, false, true, true, false, true, true, false, true, true, false, true, true, false, false, false, false] #[true, true, false, true, true, false, true, true, false, true, true, false, true, true, false, true, true, false, false, true, false] rfl rfl rfl rfl (two_of HT_.out (by kernel_rfl)) (by decide) (by decide) (fun K hK => ?_) (fun K hK => ?_)
                                                      · skip
                                                        refine goes_ Tryd.func39 (by kernel_rfl) rfl #[.string (a0.extract 4 8)] (by rfl) rfl rfl (by (try simp only [List.map_toArray, List.map_cons, List.map_nil]); first | done | rfl | (simp only [List.length_drop, List.length_take]; rfl)) ?_
                                                        with_reducible refine (super_number.calls k (a0.extract 4 8) t135 _ A5.out).mono ?_
                                                        rintro e w' ⟨rfl, ⟨nd, rfl⟩⟩
                                                        refine ⟨_, rfl, ?_⟩
                                                        refine hK.out _ _ trivial (fun hHeld => ?_)
                                                        clear hK K
                                                        refine norm_ (a' := ?_) ?_ ?_
                                                        rotate_left
                                                        · show Act.put _ (some 11) _ = _
                                                          simp only [Act.put, List.setIfInBounds_toArray, List.set_cons_zero, List.set_cons_succ, i64_w, i32_w]
                                                          rfl
                                                        exact norm_ (by first | (simp only [putAll, Act.put, List.setIfInBounds_toArray, List.set_cons_zero, List.set_cons_succ]; done) | (simp only [putAll, Act.put, List.setIfInBounds_toArray, List.set_cons_zero, List.set_cons_succ]; rfl)) (hJ2 () _ ⟨(by (with_reducible repeat (first | refine blk_drewN ?_ _ | refine blk_drew ?_ | refine blk_alloc ?_ _)); exact BK134.out), (by repeat (first | (with_reducible first | exact HB.out | apply below_alloc | apply pw_below_drewN | apply below_drew1 | refine below_set ?_ GE134.out) | exact HB.out))⟩)
                                                      · skip
                                                        refine box_step ?hg (N := 4) ?hd (cs := #[.int .i64 0, .int .i64 0, .int .i64 0, .int .i64 0, .int .i64 0, .int .i64 0]) (t := 43) ?hr ?_; (case hd => rfl); (case hg => rfl); (case hr => first | (go_simp; done) | (go_simp; rfl))
                                                        intro gb141 hg w29 hbox hb
                                                        have n0_ := Aside0.mk (blk_below (g := gb134) (o := .cells #[.int .i64 0, .int .i64 0, .int .i64 0, .int .i64 0, .int .i64 0, .int .i64 0] 43 (0, 0)) (by (with_reducible repeat (first | refine blk_drewN ?_ _ | refine blk_drew ?_ | refine blk_alloc ?_ _)); exact BK134.out) hb)
                                                        have n1_ := Aside0.mk (below_step (by repeat (first | (with_reducible first | exact HB.out | apply below_alloc | apply pw_below_drewN | apply below_drew1 | refine below_set ?_ GE134.out) | exact HB.out)) hb)
                                                        have n2_ := Aside0.mk (hbox)
                                                        have n3_ := Aside0.mk ((by rw [hg]; exact (below_size (by repeat (first | (with_reducible first | exact HB.out | apply below_alloc | apply pw_below_drewN | apply below_drew1 | refine below_set ?_ GE134.out) | exact HB.out))) : w.heap.size ≤ gb141))
                                                        have n4_ := Aside0.mk ((by rw [hg]; exact (below_size (by repeat (first | (with_reducible first | exact HB.out | apply below_alloc | apply pw_below_drewN | apply below_drew1 | refine below_set ?_ GE134.out) | exact HB.out))) : w.heap.size ≤ gb141))
                                                        have n5_ := Aside0.mk ((by rw [hg]; exact Nat.ne_of_lt (blk_lt (g := gb134) (o := .cells #[.int .i64 0, .int .i64 0, .int .i64 0, .int .i64 0, .int .i64 0, .int .i64 0] 43 (0, 0)) (by (with_reducible repeat (first | refine blk_drewN ?_ _ | refine blk_drew ?_ | refine blk_alloc ?_ _)); exact BK134.out)) : gb134 ≠ gb141))
                                                        have n6_ := Aside0.mk ((by rw [hg]; exact Nat.ne_of_gt (blk_lt (g := gb134) (o := .cells #[.int .i64 0, .int .i64 0, .int .i64 0, .int .i64 0, .int .i64 0, .int .i64 0] 43 (0, 0)) (by (with_reducible repeat (first | refine blk_drewN ?_ _ | refine blk_drew ?_ | refine blk_alloc ?_ _)); exact BK134.out)) : gb141 ≠ gb134))
                                                        clear BK134
                                                        clear HB
                                                        have BK134 := n0_
                                                        have HB := n1_
                                                        have BK141 := n2_
                                                        have GW141 := n3_
                                                        have GE141 := n4_
                                                        have NB134_141 := n5_
                                                        have NB141_134 := n6_
                                                        clear n0_ n1_ n2_ n3_ n4_ n5_ n6_
                                                        clear hb hbox hg
                                                        refine hK.out _ _ trivial (fun hHeld => ?_)
                                                        clear hK K
                                                        refine norm_ (a' := ?_) ?_ ?_
                                                        rotate_left
                                                        · show Act.put _ (some 4) _ = _
                                                          simp only [Act.put, List.setIfInBounds_toArray, List.set_cons_zero, List.set_cons_succ, i64_w, i32_w]
                                                          rfl
                                                        exact norm_ (by first | (simp only [putAll, Act.put, List.setIfInBounds_toArray, List.set_cons_zero, List.set_cons_succ]; done) | (simp only [putAll, Act.put, List.setIfInBounds_toArray, List.set_cons_zero, List.set_cons_succ]; rfl)) (hJ19 (gb141) _ ⟨(by (with_reducible repeat (first | refine blk_drewN ?_ _ | refine blk_drew ?_ | refine blk_alloc ?_ _)); exact BK134.out), (by (with_reducible repeat (first | refine blk_drewN ?_ _ | refine blk_drew ?_ | refine blk_alloc ?_ _)); exact BK141.out), GW141.out, GE141.out, NB134_141.out, NB141_134.out, (by repeat (first | (with_reducible first | exact HB.out | apply below_alloc | apply pw_below_drewN | apply below_drew1 | refine below_set ?_ GE134.out | refine below_set ?_ GE141.out) | exact HB.out))⟩)
                                                    · skip
                                                      rintro gb141 w30 ⟨h0_, h1_, h2_, h3_, h4_, h5_, h6_⟩
                                                      have n0_ : Aside0 (w30.heap[gb134]? = some (.cells #[.int .i64 0, .int .i64 0, .int .i64 0, .int .i64 0, .int .i64 0, .int .i64 0] 43 (0, 0))) := ⟨h0_⟩
                                                      have n1_ : Aside0 (w30.heap[gb141]? = some (.cells #[.int .i64 0, .int .i64 0, .int .i64 0, .int .i64 0, .int .i64 0, .int .i64 0] 43 (0, 0))) := ⟨h1_⟩
                                                      have n2_ : Aside0 (w.heap.size ≤ gb141) := ⟨h2_⟩
                                                      have n3_ : Aside0 (w.heap.size ≤ gb141) := ⟨h3_⟩
                                                      have n4_ : Aside0 (gb134 ≠ gb141) := ⟨h4_⟩
                                                      have n5_ : Aside0 (gb141 ≠ gb134) := ⟨h5_⟩
                                                      have n6_ : Aside0 (Below w.heap.size w w30) := ⟨h6_⟩
                                                      clear BK134
                                                      clear HB
                                                      clear h0_ h1_ h2_ h3_ h4_ h5_ h6_
                                                      have BK134 := n0_
                                                      have BK141 := n1_
                                                      have GW141 := n2_
                                                      have GE141 := n3_
                                                      have NB134_141 := n4_
                                                      have NB141_134 := n5_
                                                      have HB := n6_
                                                      clear n0_ n1_ n2_ n3_ n4_ n5_ n6_
                                                      have hHeld := trivial
                                                      refine norm_ (a' := ?_) ?_ ?_
                                                      rotate_left
                                                      · simp only [putAll, Act.put, List.setIfInBounds_toArray, List.set_cons_zero, List.set_cons_succ]
                                                        rfl
                                                      refine one_ (i := 2) (N := some 11) #[true, true, true, true, true, false, true, true, false, true, true, false, true, true, false, true, true, false, false, true, false] rfl rfl (one_of HT_.out (by kernel_rfl)) (by decide) (fun K hK => ?_)
                                                      refine goes_ Tryd.func39 (by kernel_rfl) rfl #[.string (a0.extract 4 8)] (by rfl) rfl rfl (by (try simp only [List.map_toArray, List.map_cons, List.map_nil]); first | done | rfl | (simp only [List.length_drop, List.length_take]; rfl)) ?_
                                                      with_reducible refine (super_number.calls k (a0.extract 4 8) t135 _ A5.out).mono ?_
                                                      rintro e w' ⟨rfl, ⟨nd, rfl⟩⟩
                                                      refine ⟨_, rfl, ?_⟩
                                                      refine hK.out _ _ trivial (fun hHeld => ?_)
                                                      clear hK K
                                                      refine norm_ (a' := ?_) ?_ ?_
                                                      rotate_left
                                                      · show Act.put _ (some 11) _ = _
                                                        simp only [Act.put, List.setIfInBounds_toArray, List.set_cons_zero, List.set_cons_succ, i64_w, i32_w]
                                                        rfl
                                                      exact norm_ (by first | (simp only [putAll, Act.put, List.setIfInBounds_toArray, List.set_cons_zero, List.set_cons_succ]; done) | (simp only [putAll, Act.put, List.setIfInBounds_toArray, List.set_cons_zero, List.set_cons_succ]; rfl)) (hJ2_19 (gb141) _ ⟨(by (with_reducible repeat (first | refine blk_drewN ?_ _ | refine blk_drew ?_ | refine blk_alloc ?_ _)); exact BK134.out), (by (with_reducible repeat (first | refine blk_drewN ?_ _ | refine blk_drew ?_ | refine blk_alloc ?_ _)); exact BK141.out), GW141.out, GE141.out, NB134_141.out, NB141_134.out, (by repeat (first | (with_reducible first | exact HB.out | apply below_alloc | apply pw_below_drewN | apply below_drew1 | refine below_set ?_ GE134.out | refine below_set ?_ GE141.out) | exact HB.out))⟩)
                                                  · skip
                                                    rintro _ w29 ⟨h0_, h1_⟩
                                                    have n0_ : Aside0 (w29.heap[gb134]? = some (.cells #[.int .i64 0, .int .i64 0, .int .i64 0, .int .i64 0, .int .i64 0, .int .i64 0] 43 (0, 0))) := ⟨h0_⟩
                                                    have n1_ : Aside0 (Below w.heap.size w w29) := ⟨h1_⟩
                                                    clear BK134
                                                    clear HB
                                                    clear h0_ h1_
                                                    have BK134 := n0_
                                                    have HB := n1_
                                                    clear n0_ n1_
                                                    have hHeld := trivial
                                                    refine norm_ (a' := ?_) ?_ ?_
                                                    rotate_left
                                                    · simp only [putAll, Act.put, List.setIfInBounds_toArray, List.set_cons_zero, List.set_cons_succ]
                                                      rfl
                                                    refine two_ (i := 5) (j := 19) (Ni := some 14) (Nj := some 4) #[true, true, true, true, true, true, true, true, false, true, true, false, true, true, false, true, true, false, false, false, false] #[true, true, true, true, true, false, true, true, false, true, true, false, true, true, false, true, true, false, false, true, false] rfl rfl rfl rfl (two_of HT_.out (by kernel_rfl)) (by decide) (by decide) (fun K hK => ?_) (fun K hK => ?_)
                                                    · skip
                                                      refine goes_ Tryd.func39 (by kernel_rfl) rfl #[.string (a0.extract 8 12)] (by rfl) rfl rfl (by (try simp only [List.map_toArray, List.map_cons, List.map_nil]); first | done | rfl | (simp only [List.length_drop, List.length_take]; rfl)) ?_
                                                      with_reducible refine (super_number.calls k (a0.extract 8 12) t136 _ A8.out).mono ?_
                                                      rintro e w' ⟨rfl, ⟨nd, rfl⟩⟩
                                                      refine ⟨_, rfl, ?_⟩
                                                      refine hK.out _ _ trivial (fun hHeld => ?_)
                                                      clear hK K
                                                      refine norm_ (a' := ?_) ?_ ?_
                                                      rotate_left
                                                      · show Act.put _ (some 14) _ = _
                                                        simp only [Act.put, List.setIfInBounds_toArray, List.set_cons_zero, List.set_cons_succ, i64_w, i32_w]
                                                        rfl
                                                      exact norm_ (by first | (simp only [putAll, Act.put, List.setIfInBounds_toArray, List.set_cons_zero, List.set_cons_succ]; done) | (simp only [putAll, Act.put, List.setIfInBounds_toArray, List.set_cons_zero, List.set_cons_succ]; rfl)) (hJ2_5 () _ ⟨(by (with_reducible repeat (first | refine blk_drewN ?_ _ | refine blk_drew ?_ | refine blk_alloc ?_ _)); exact BK134.out), (by repeat (first | (with_reducible first | exact HB.out | apply below_alloc | apply pw_below_drewN | apply below_drew1 | refine below_set ?_ GE134.out) | exact HB.out))⟩)
                                                    · skip
                                                      refine box_step ?hg (N := 4) ?hd (cs := #[.int .i64 0, .int .i64 0, .int .i64 0, .int .i64 0, .int .i64 0, .int .i64 0]) (t := 43) ?hr ?_; (case hd => rfl); (case hg => rfl); (case hr => first | (go_simp; done) | (go_simp; rfl))
                                                      intro gb141 hg w30 hbox hb
                                                      have n0_ := Aside0.mk (blk_below (g := gb134) (o := .cells #[.int .i64 0, .int .i64 0, .int .i64 0, .int .i64 0, .int .i64 0, .int .i64 0] 43 (0, 0)) (by (with_reducible repeat (first | refine blk_drewN ?_ _ | refine blk_drew ?_ | refine blk_alloc ?_ _)); exact BK134.out) hb)
                                                      have n1_ := Aside0.mk (below_step (by repeat (first | (with_reducible first | exact HB.out | apply below_alloc | apply pw_below_drewN | apply below_drew1 | refine below_set ?_ GE134.out) | exact HB.out)) hb)
                                                      have n2_ := Aside0.mk (hbox)
                                                      have n3_ := Aside0.mk ((by rw [hg]; exact (below_size (by repeat (first | (with_reducible first | exact HB.out | apply below_alloc | apply pw_below_drewN | apply below_drew1 | refine below_set ?_ GE134.out) | exact HB.out))) : w.heap.size ≤ gb141))
                                                      have n4_ := Aside0.mk ((by rw [hg]; exact (below_size (by repeat (first | (with_reducible first | exact HB.out | apply below_alloc | apply pw_below_drewN | apply below_drew1 | refine below_set ?_ GE134.out) | exact HB.out))) : w.heap.size ≤ gb141))
                                                      have n5_ := Aside0.mk ((by rw [hg]; exact Nat.ne_of_lt (blk_lt (g := gb134) (o := .cells #[.int .i64 0, .int .i64 0, .int .i64 0, .int .i64 0, .int .i64 0, .int .i64 0] 43 (0, 0)) (by (with_reducible repeat (first | refine blk_drewN ?_ _ | refine blk_drew ?_ | refine blk_alloc ?_ _)); exact BK134.out)) : gb134 ≠ gb141))
                                                      have n6_ := Aside0.mk ((by rw [hg]; exact Nat.ne_of_gt (blk_lt (g := gb134) (o := .cells #[.int .i64 0, .int .i64 0, .int .i64 0, .int .i64 0, .int .i64 0, .int .i64 0] 43 (0, 0)) (by (with_reducible repeat (first | refine blk_drewN ?_ _ | refine blk_drew ?_ | refine blk_alloc ?_ _)); exact BK134.out)) : gb141 ≠ gb134))
                                                      clear BK134
                                                      clear HB
                                                      have BK134 := n0_
                                                      have HB := n1_
                                                      have BK141 := n2_
                                                      have GW141 := n3_
                                                      have GE141 := n4_
                                                      have NB134_141 := n5_
                                                      have NB141_134 := n6_
                                                      clear n0_ n1_ n2_ n3_ n4_ n5_ n6_
                                                      clear hb hbox hg
                                                      refine hK.out _ _ trivial (fun hHeld => ?_)
                                                      clear hK K
                                                      refine norm_ (a' := ?_) ?_ ?_
                                                      rotate_left
                                                      · show Act.put _ (some 4) _ = _
                                                        simp only [Act.put, List.setIfInBounds_toArray, List.set_cons_zero, List.set_cons_succ, i64_w, i32_w]
                                                        rfl
                                                      exact norm_ (by first | (simp only [putAll, Act.put, List.setIfInBounds_toArray, List.set_cons_zero, List.set_cons_succ]; done) | (simp only [putAll, Act.put, List.setIfInBounds_toArray, List.set_cons_zero, List.set_cons_succ]; rfl)) (hJ2_19 (gb141) _ ⟨(by (with_reducible repeat (first | refine blk_drewN ?_ _ | refine blk_drew ?_ | refine blk_alloc ?_ _)); exact BK134.out), (by (with_reducible repeat (first | refine blk_drewN ?_ _ | refine blk_drew ?_ | refine blk_alloc ?_ _)); exact BK141.out), GW141.out, GE141.out, NB134_141.out, NB141_134.out, (by repeat (first | (with_reducible first | exact HB.out | apply below_alloc | apply pw_below_drewN | apply below_drew1 | refine below_set ?_ GE134.out | refine below_set ?_ GE141.out) | exact HB.out))⟩)
                                                · skip
                                                  rintro gb141 w30 ⟨h0_, h1_, h2_, h3_, h4_, h5_, h6_⟩
                                                  have n0_ : Aside0 (w30.heap[gb134]? = some (.cells #[.int .i64 0, .int .i64 0, .int .i64 0, .int .i64 0, .int .i64 0, .int .i64 0] 43 (0, 0))) := ⟨h0_⟩
                                                  have n1_ : Aside0 (w30.heap[gb141]? = some (.cells #[.int .i64 0, .int .i64 0, .int .i64 0, .int .i64 0, .int .i64 0, .int .i64 0] 43 (0, 0))) := ⟨h1_⟩
                                                  have n2_ : Aside0 (w.heap.size ≤ gb141) := ⟨h2_⟩
                                                  have n3_ : Aside0 (w.heap.size ≤ gb141) := ⟨h3_⟩
                                                  have n4_ : Aside0 (gb134 ≠ gb141) := ⟨h4_⟩
                                                  have n5_ : Aside0 (gb141 ≠ gb134) := ⟨h5_⟩
                                                  have n6_ : Aside0 (Below w.heap.size w w30) := ⟨h6_⟩
                                                  clear BK134
                                                  clear HB
                                                  clear h0_ h1_ h2_ h3_ h4_ h5_ h6_
                                                  have BK134 := n0_
                                                  have BK141 := n1_
                                                  have GW141 := n2_
                                                  have GE141 := n3_
                                                  have NB134_141 := n4_
                                                  have NB141_134 := n5_
                                                  have HB := n6_
                                                  clear n0_ n1_ n2_ n3_ n4_ n5_ n6_
                                                  have hHeld := trivial
                                                  refine norm_ (a' := ?_) ?_ ?_
                                                  rotate_left
                                                  · simp only [putAll, Act.put, List.setIfInBounds_toArray, List.set_cons_zero, List.set_cons_succ]
                                                    rfl
                                                  refine one_ (i := 5) (N := some 14) #[true, true, true, true, true, true, true, true, false, true, true, false, true, true, false, true, true, false, false, true, false] rfl rfl (one_of HT_.out (by kernel_rfl)) (by decide) (fun K hK => ?_)
                                                  refine goes_ Tryd.func39 (by kernel_rfl) rfl #[.string (a0.extract 8 12)] (by rfl) rfl rfl (by (try simp only [List.map_toArray, List.map_cons, List.map_nil]); first | done | rfl | (simp only [List.length_drop, List.length_take]; rfl)) ?_
                                                  with_reducible refine (super_number.calls k (a0.extract 8 12) t136 _ A8.out).mono ?_
                                                  rintro e w' ⟨rfl, ⟨nd, rfl⟩⟩
                                                  refine ⟨_, rfl, ?_⟩
                                                  refine hK.out _ _ trivial (fun hHeld => ?_)
                                                  clear hK K
                                                  refine norm_ (a' := ?_) ?_ ?_
                                                  rotate_left
                                                  · show Act.put _ (some 14) _ = _
                                                    simp only [Act.put, List.setIfInBounds_toArray, List.set_cons_zero, List.set_cons_succ, i64_w, i32_w]
                                                    rfl
                                                  exact norm_ (by first | (simp only [putAll, Act.put, List.setIfInBounds_toArray, List.set_cons_zero, List.set_cons_succ]; done) | (simp only [putAll, Act.put, List.setIfInBounds_toArray, List.set_cons_zero, List.set_cons_succ]; rfl)) (hJ2_5_19 (gb141) _ ⟨(by (with_reducible repeat (first | refine blk_drewN ?_ _ | refine blk_drew ?_ | refine blk_alloc ?_ _)); exact BK134.out), (by (with_reducible repeat (first | refine blk_drewN ?_ _ | refine blk_drew ?_ | refine blk_alloc ?_ _)); exact BK141.out), GW141.out, GE141.out, NB134_141.out, NB141_134.out, (by repeat (first | (with_reducible first | exact HB.out | apply below_alloc | apply pw_below_drewN | apply below_drew1 | refine below_set ?_ GE134.out | refine below_set ?_ GE141.out) | exact HB.out))⟩)
                                              · skip
                                                rintro _ w29 ⟨h0_, h1_⟩
                                                have n0_ : Aside0 (w29.heap[gb134]? = some (.cells #[.int .i64 0, .int .i64 0, .int .i64 0, .int .i64 0, .int .i64 0, .int .i64 0] 43 (0, 0))) := ⟨h0_⟩
                                                have n1_ : Aside0 (Below w.heap.size w w29) := ⟨h1_⟩
                                                clear BK134
                                                clear HB
                                                clear h0_ h1_
                                                have BK134 := n0_
                                                have HB := n1_
                                                clear n0_ n1_
                                                have hHeld := trivial
                                                refine norm_ (a' := ?_) ?_ ?_
                                                rotate_left
                                                · simp only [putAll, Act.put, List.setIfInBounds_toArray, List.set_cons_zero, List.set_cons_succ]
                                                  rfl
                                                refine two_ (i := 8) (j := 19) (Ni := some 17) (Nj := some 4) #[true, true, true, true, true, true, true, true, true, true, true, false, true, true, false, true, true, false, false, false, false] #[true, true, true, true, true, true, true, true, false, true, true, false, true, true, false, true, true, false, false, true, false] rfl rfl rfl rfl (two_of HT_.out (by kernel_rfl)) (by decide) (by decide) (fun K hK => ?_) (fun K hK => ?_)
                                                · skip
                                                  refine goes_ Tryd.func39 (by kernel_rfl) rfl #[.string (a0.extract 12 14)] (by rfl) rfl rfl (by (try simp only [List.map_toArray, List.map_cons, List.map_nil]); first | done | rfl | (simp only [List.length_drop, List.length_take]; rfl)) ?_
                                                  with_reducible refine (super_number.calls k (a0.extract 12 14) t137 _ A11.out).mono ?_
                                                  rintro e w' ⟨rfl, ⟨nd, rfl⟩⟩
                                                  refine ⟨_, rfl, ?_⟩
                                                  refine hK.out _ _ trivial (fun hHeld => ?_)
                                                  clear hK K
                                                  refine norm_ (a' := ?_) ?_ ?_
                                                  rotate_left
                                                  · show Act.put _ (some 17) _ = _
                                                    simp only [Act.put, List.setIfInBounds_toArray, List.set_cons_zero, List.set_cons_succ, i64_w, i32_w]
                                                    rfl
                                                  exact norm_ (by first | (simp only [putAll, Act.put, List.setIfInBounds_toArray, List.set_cons_zero, List.set_cons_succ]; done) | (simp only [putAll, Act.put, List.setIfInBounds_toArray, List.set_cons_zero, List.set_cons_succ]; rfl)) (hJ2_5_8 () _ ⟨(by (with_reducible repeat (first | refine blk_drewN ?_ _ | refine blk_drew ?_ | refine blk_alloc ?_ _)); exact BK134.out), (by repeat (first | (with_reducible first | exact HB.out | apply below_alloc | apply pw_below_drewN | apply below_drew1 | refine below_set ?_ GE134.out) | exact HB.out))⟩)
                                                · skip
                                                  refine box_step ?hg (N := 4) ?hd (cs := #[.int .i64 0, .int .i64 0, .int .i64 0, .int .i64 0, .int .i64 0, .int .i64 0]) (t := 43) ?hr ?_; (case hd => rfl); (case hg => rfl); (case hr => first | (go_simp; done) | (go_simp; rfl))
                                                  intro gb141 hg w30 hbox hb
                                                  have n0_ := Aside0.mk (blk_below (g := gb134) (o := .cells #[.int .i64 0, .int .i64 0, .int .i64 0, .int .i64 0, .int .i64 0, .int .i64 0] 43 (0, 0)) (by (with_reducible repeat (first | refine blk_drewN ?_ _ | refine blk_drew ?_ | refine blk_alloc ?_ _)); exact BK134.out) hb)
                                                  have n1_ := Aside0.mk (below_step (by repeat (first | (with_reducible first | exact HB.out | apply below_alloc | apply pw_below_drewN | apply below_drew1 | refine below_set ?_ GE134.out) | exact HB.out)) hb)
                                                  have n2_ := Aside0.mk (hbox)
                                                  have n3_ := Aside0.mk ((by rw [hg]; exact (below_size (by repeat (first | (with_reducible first | exact HB.out | apply below_alloc | apply pw_below_drewN | apply below_drew1 | refine below_set ?_ GE134.out) | exact HB.out))) : w.heap.size ≤ gb141))
                                                  have n4_ := Aside0.mk ((by rw [hg]; exact (below_size (by repeat (first | (with_reducible first | exact HB.out | apply below_alloc | apply pw_below_drewN | apply below_drew1 | refine below_set ?_ GE134.out) | exact HB.out))) : w.heap.size ≤ gb141))
                                                  have n5_ := Aside0.mk ((by rw [hg]; exact Nat.ne_of_lt (blk_lt (g := gb134) (o := .cells #[.int .i64 0, .int .i64 0, .int .i64 0, .int .i64 0, .int .i64 0, .int .i64 0] 43 (0, 0)) (by (with_reducible repeat (first | refine blk_drewN ?_ _ | refine blk_drew ?_ | refine blk_alloc ?_ _)); exact BK134.out)) : gb134 ≠ gb141))
                                                  have n6_ := Aside0.mk ((by rw [hg]; exact Nat.ne_of_gt (blk_lt (g := gb134) (o := .cells #[.int .i64 0, .int .i64 0, .int .i64 0, .int .i64 0, .int .i64 0, .int .i64 0] 43 (0, 0)) (by (with_reducible repeat (first | refine blk_drewN ?_ _ | refine blk_drew ?_ | refine blk_alloc ?_ _)); exact BK134.out)) : gb141 ≠ gb134))
                                                  clear BK134
                                                  clear HB
                                                  have BK134 := n0_
                                                  have HB := n1_
                                                  have BK141 := n2_
                                                  have GW141 := n3_
                                                  have GE141 := n4_
                                                  have NB134_141 := n5_
                                                  have NB141_134 := n6_
                                                  clear n0_ n1_ n2_ n3_ n4_ n5_ n6_
                                                  clear hb hbox hg
                                                  refine hK.out _ _ trivial (fun hHeld => ?_)
                                                  clear hK K
                                                  refine norm_ (a' := ?_) ?_ ?_
                                                  rotate_left
                                                  · show Act.put _ (some 4) _ = _
                                                    simp only [Act.put, List.setIfInBounds_toArray, List.set_cons_zero, List.set_cons_succ, i64_w, i32_w]
                                                    rfl
                                                  exact norm_ (by first | (simp only [putAll, Act.put, List.setIfInBounds_toArray, List.set_cons_zero, List.set_cons_succ]; done) | (simp only [putAll, Act.put, List.setIfInBounds_toArray, List.set_cons_zero, List.set_cons_succ]; rfl)) (hJ2_5_19 (gb141) _ ⟨(by (with_reducible repeat (first | refine blk_drewN ?_ _ | refine blk_drew ?_ | refine blk_alloc ?_ _)); exact BK134.out), (by (with_reducible repeat (first | refine blk_drewN ?_ _ | refine blk_drew ?_ | refine blk_alloc ?_ _)); exact BK141.out), GW141.out, GE141.out, NB134_141.out, NB141_134.out, (by repeat (first | (with_reducible first | exact HB.out | apply below_alloc | apply pw_below_drewN | apply below_drew1 | refine below_set ?_ GE134.out | refine below_set ?_ GE141.out) | exact HB.out))⟩)
                                            · skip
                                              rintro gb141 w30 ⟨h0_, h1_, h2_, h3_, h4_, h5_, h6_⟩
                                              have n0_ : Aside0 (w30.heap[gb134]? = some (.cells #[.int .i64 0, .int .i64 0, .int .i64 0, .int .i64 0, .int .i64 0, .int .i64 0] 43 (0, 0))) := ⟨h0_⟩
                                              have n1_ : Aside0 (w30.heap[gb141]? = some (.cells #[.int .i64 0, .int .i64 0, .int .i64 0, .int .i64 0, .int .i64 0, .int .i64 0] 43 (0, 0))) := ⟨h1_⟩
                                              have n2_ : Aside0 (w.heap.size ≤ gb141) := ⟨h2_⟩
                                              have n3_ : Aside0 (w.heap.size ≤ gb141) := ⟨h3_⟩
                                              have n4_ : Aside0 (gb134 ≠ gb141) := ⟨h4_⟩
                                              have n5_ : Aside0 (gb141 ≠ gb134) := ⟨h5_⟩
                                              have n6_ : Aside0 (Below w.heap.size w w30) := ⟨h6_⟩
                                              clear BK134
                                              clear HB
                                              clear h0_ h1_ h2_ h3_ h4_ h5_ h6_
                                              have BK134 := n0_
                                              have BK141 := n1_
                                              have GW141 := n2_
                                              have GE141 := n3_
                                              have NB134_141 := n4_
                                              have NB141_134 := n5_
                                              have HB := n6_
                                              clear n0_ n1_ n2_ n3_ n4_ n5_ n6_
                                              have hHeld := trivial
                                              refine norm_ (a' := ?_) ?_ ?_
                                              rotate_left
                                              · simp only [putAll, Act.put, List.setIfInBounds_toArray, List.set_cons_zero, List.set_cons_succ]
                                                rfl
                                              refine one_ (i := 8) (N := some 17) #[true, true, true, true, true, true, true, true, true, true, true, false, true, true, false, true, true, false, false, true, false] rfl rfl (one_of HT_.out (by kernel_rfl)) (by decide) (fun K hK => ?_)
                                              refine goes_ Tryd.func39 (by kernel_rfl) rfl #[.string (a0.extract 12 14)] (by rfl) rfl rfl (by (try simp only [List.map_toArray, List.map_cons, List.map_nil]); first | done | rfl | (simp only [List.length_drop, List.length_take]; rfl)) ?_
                                              with_reducible refine (super_number.calls k (a0.extract 12 14) t137 _ A11.out).mono ?_
                                              rintro e w' ⟨rfl, ⟨nd, rfl⟩⟩
                                              refine ⟨_, rfl, ?_⟩
                                              refine hK.out _ _ trivial (fun hHeld => ?_)
                                              clear hK K
                                              refine norm_ (a' := ?_) ?_ ?_
                                              rotate_left
                                              · show Act.put _ (some 17) _ = _
                                                simp only [Act.put, List.setIfInBounds_toArray, List.set_cons_zero, List.set_cons_succ, i64_w, i32_w]
                                                rfl
                                              exact norm_ (by first | (simp only [putAll, Act.put, List.setIfInBounds_toArray, List.set_cons_zero, List.set_cons_succ]; done) | (simp only [putAll, Act.put, List.setIfInBounds_toArray, List.set_cons_zero, List.set_cons_succ]; rfl)) (hJ2_5_8_19 (gb141) _ ⟨(by (with_reducible repeat (first | refine blk_drewN ?_ _ | refine blk_drew ?_ | refine blk_alloc ?_ _)); exact BK134.out), (by (with_reducible repeat (first | refine blk_drewN ?_ _ | refine blk_drew ?_ | refine blk_alloc ?_ _)); exact BK141.out), GW141.out, GE141.out, NB134_141.out, NB141_134.out, (by repeat (first | (with_reducible first | exact HB.out | apply below_alloc | apply pw_below_drewN | apply below_drew1 | refine below_set ?_ GE134.out | refine below_set ?_ GE141.out) | exact HB.out))⟩)
                                          · skip
                                            rintro _ w29 ⟨h0_, h1_⟩
                                            have n0_ : Aside0 (w29.heap[gb134]? = some (.cells #[.int .i64 0, .int .i64 0, .int .i64 0, .int .i64 0, .int .i64 0, .int .i64 0] 43 (0, 0))) := ⟨h0_⟩
                                            have n1_ : Aside0 (Below w.heap.size w w29) := ⟨h1_⟩
                                            clear BK134
                                            clear HB
                                            clear h0_ h1_
                                            have BK134 := n0_
                                            have HB := n1_
                                            clear n0_ n1_
                                            have hHeld := trivial
                                            refine norm_ (a' := ?_) ?_ ?_
                                            rotate_left
                                            · simp only [putAll, Act.put, List.setIfInBounds_toArray, List.set_cons_zero, List.set_cons_succ]
                                              rfl
                                            refine two_ (i := 11) (j := 19) (Ni := some 20) (Nj := some 4) #[true, true, true, true, true, true, true, true, true, true, true, true, true, true, false, true, true, false, false, false, false] #[true, true, true, true, true, true, true, true, true, true, true, false, true, true, false, true, true, false, false, true, false] rfl rfl rfl rfl (two_of HT_.out (by kernel_rfl)) (by decide) (by decide) (fun K hK => ?_) (fun K hK => ?_)
                                            · skip
                                              refine goes_ Tryd.func39 (by kernel_rfl) rfl #[.string (a0.extract 14 16)] (by rfl) rfl rfl (by (try simp only [List.map_toArray, List.map_cons, List.map_nil]); first | done | rfl | (simp only [List.length_drop, List.length_take]; rfl)) ?_
                                              with_reducible refine (super_number.calls k (a0.extract 14 16) t138 _ A14.out).mono ?_
                                              rintro e w' ⟨rfl, ⟨nd, rfl⟩⟩
                                              refine ⟨_, rfl, ?_⟩
                                              refine hK.out _ _ trivial (fun hHeld => ?_)
                                              clear hK K
                                              refine norm_ (a' := ?_) ?_ ?_
                                              rotate_left
                                              · show Act.put _ (some 20) _ = _
                                                simp only [Act.put, List.setIfInBounds_toArray, List.set_cons_zero, List.set_cons_succ, i64_w, i32_w]
                                                rfl
                                              exact norm_ (by first | (simp only [putAll, Act.put, List.setIfInBounds_toArray, List.set_cons_zero, List.set_cons_succ]; done) | (simp only [putAll, Act.put, List.setIfInBounds_toArray, List.set_cons_zero, List.set_cons_succ]; rfl)) (hJ2_5_8_11 () _ ⟨(by (with_reducible repeat (first | refine blk_drewN ?_ _ | refine blk_drew ?_ | refine blk_alloc ?_ _)); exact BK134.out), (by repeat (first | (with_reducible first | exact HB.out | apply below_alloc | apply pw_below_drewN | apply below_drew1 | refine below_set ?_ GE134.out) | exact HB.out))⟩)
                                            · skip
                                              refine box_step ?hg (N := 4) ?hd (cs := #[.int .i64 0, .int .i64 0, .int .i64 0, .int .i64 0, .int .i64 0, .int .i64 0]) (t := 43) ?hr ?_; (case hd => rfl); (case hg => rfl); (case hr => first | (go_simp; done) | (go_simp; rfl))
                                              intro gb141 hg w30 hbox hb
                                              have n0_ := Aside0.mk (blk_below (g := gb134) (o := .cells #[.int .i64 0, .int .i64 0, .int .i64 0, .int .i64 0, .int .i64 0, .int .i64 0] 43 (0, 0)) (by (with_reducible repeat (first | refine blk_drewN ?_ _ | refine blk_drew ?_ | refine blk_alloc ?_ _)); exact BK134.out) hb)
                                              have n1_ := Aside0.mk (below_step (by repeat (first | (with_reducible first | exact HB.out | apply below_alloc | apply pw_below_drewN | apply below_drew1 | refine below_set ?_ GE134.out) | exact HB.out)) hb)
                                              have n2_ := Aside0.mk (hbox)
                                              have n3_ := Aside0.mk ((by rw [hg]; exact (below_size (by repeat (first | (with_reducible first | exact HB.out | apply below_alloc | apply pw_below_drewN | apply below_drew1 | refine below_set ?_ GE134.out) | exact HB.out))) : w.heap.size ≤ gb141))
                                              have n4_ := Aside0.mk ((by rw [hg]; exact (below_size (by repeat (first | (with_reducible first | exact HB.out | apply below_alloc | apply pw_below_drewN | apply below_drew1 | refine below_set ?_ GE134.out) | exact HB.out))) : w.heap.size ≤ gb141))
                                              have n5_ := Aside0.mk ((by rw [hg]; exact Nat.ne_of_lt (blk_lt (g := gb134) (o := .cells #[.int .i64 0, .int .i64 0, .int .i64 0, .int .i64 0, .int .i64 0, .int .i64 0] 43 (0, 0)) (by (with_reducible repeat (first | refine blk_drewN ?_ _ | refine blk_drew ?_ | refine blk_alloc ?_ _)); exact BK134.out)) : gb134 ≠ gb141))
                                              have n6_ := Aside0.mk ((by rw [hg]; exact Nat.ne_of_gt (blk_lt (g := gb134) (o := .cells #[.int .i64 0, .int .i64 0, .int .i64 0, .int .i64 0, .int .i64 0, .int .i64 0] 43 (0, 0)) (by (with_reducible repeat (first | refine blk_drewN ?_ _ | refine blk_drew ?_ | refine blk_alloc ?_ _)); exact BK134.out)) : gb141 ≠ gb134))
                                              clear BK134
                                              clear HB
                                              have BK134 := n0_
                                              have HB := n1_
                                              have BK141 := n2_
                                              have GW141 := n3_
                                              have GE141 := n4_
                                              have NB134_141 := n5_
                                              have NB141_134 := n6_
                                              clear n0_ n1_ n2_ n3_ n4_ n5_ n6_
                                              clear hb hbox hg
                                              refine hK.out _ _ trivial (fun hHeld => ?_)
                                              clear hK K
                                              refine norm_ (a' := ?_) ?_ ?_
                                              rotate_left
                                              · show Act.put _ (some 4) _ = _
                                                simp only [Act.put, List.setIfInBounds_toArray, List.set_cons_zero, List.set_cons_succ, i64_w, i32_w]
                                                rfl
                                              exact norm_ (by first | (simp only [putAll, Act.put, List.setIfInBounds_toArray, List.set_cons_zero, List.set_cons_succ]; done) | (simp only [putAll, Act.put, List.setIfInBounds_toArray, List.set_cons_zero, List.set_cons_succ]; rfl)) (hJ2_5_8_19 (gb141) _ ⟨(by (with_reducible repeat (first | refine blk_drewN ?_ _ | refine blk_drew ?_ | refine blk_alloc ?_ _)); exact BK134.out), (by (with_reducible repeat (first | refine blk_drewN ?_ _ | refine blk_drew ?_ | refine blk_alloc ?_ _)); exact BK141.out), GW141.out, GE141.out, NB134_141.out, NB141_134.out, (by repeat (first | (with_reducible first | exact HB.out | apply below_alloc | apply pw_below_drewN | apply below_drew1 | refine below_set ?_ GE134.out | refine below_set ?_ GE141.out) | exact HB.out))⟩)
                                        · skip
                                          rintro gb141 w30 ⟨h0_, h1_, h2_, h3_, h4_, h5_, h6_⟩
                                          have n0_ : Aside0 (w30.heap[gb134]? = some (.cells #[.int .i64 0, .int .i64 0, .int .i64 0, .int .i64 0, .int .i64 0, .int .i64 0] 43 (0, 0))) := ⟨h0_⟩
                                          have n1_ : Aside0 (w30.heap[gb141]? = some (.cells #[.int .i64 0, .int .i64 0, .int .i64 0, .int .i64 0, .int .i64 0, .int .i64 0] 43 (0, 0))) := ⟨h1_⟩
                                          have n2_ : Aside0 (w.heap.size ≤ gb141) := ⟨h2_⟩
                                          have n3_ : Aside0 (w.heap.size ≤ gb141) := ⟨h3_⟩
                                          have n4_ : Aside0 (gb134 ≠ gb141) := ⟨h4_⟩
                                          have n5_ : Aside0 (gb141 ≠ gb134) := ⟨h5_⟩
                                          have n6_ : Aside0 (Below w.heap.size w w30) := ⟨h6_⟩
                                          clear BK134
                                          clear HB
                                          clear h0_ h1_ h2_ h3_ h4_ h5_ h6_
                                          have BK134 := n0_
                                          have BK141 := n1_
                                          have GW141 := n2_
                                          have GE141 := n3_
                                          have NB134_141 := n4_
                                          have NB141_134 := n5_
                                          have HB := n6_
                                          clear n0_ n1_ n2_ n3_ n4_ n5_ n6_
                                          have hHeld := trivial
                                          refine norm_ (a' := ?_) ?_ ?_
                                          rotate_left
                                          · simp only [putAll, Act.put, List.setIfInBounds_toArray, List.set_cons_zero, List.set_cons_succ]
                                            rfl
                                          refine one_ (i := 11) (N := some 20) #[true, true, true, true, true, true, true, true, true, true, true, true, true, true, false, true, true, false, false, true, false] rfl rfl (one_of HT_.out (by kernel_rfl)) (by decide) (fun K hK => ?_)
                                          refine goes_ Tryd.func39 (by kernel_rfl) rfl #[.string (a0.extract 14 16)] (by rfl) rfl rfl (by (try simp only [List.map_toArray, List.map_cons, List.map_nil]); first | done | rfl | (simp only [List.length_drop, List.length_take]; rfl)) ?_
                                          with_reducible refine (super_number.calls k (a0.extract 14 16) t138 _ A14.out).mono ?_
                                          rintro e w' ⟨rfl, ⟨nd, rfl⟩⟩
                                          refine ⟨_, rfl, ?_⟩
                                          refine hK.out _ _ trivial (fun hHeld => ?_)
                                          clear hK K
                                          refine norm_ (a' := ?_) ?_ ?_
                                          rotate_left
                                          · show Act.put _ (some 20) _ = _
                                            simp only [Act.put, List.setIfInBounds_toArray, List.set_cons_zero, List.set_cons_succ, i64_w, i32_w]
                                            rfl
                                          exact norm_ (by first | (simp only [putAll, Act.put, List.setIfInBounds_toArray, List.set_cons_zero, List.set_cons_succ]; done) | (simp only [putAll, Act.put, List.setIfInBounds_toArray, List.set_cons_zero, List.set_cons_succ]; rfl)) (hJ2_5_8_11_19 (gb141) _ ⟨(by (with_reducible repeat (first | refine blk_drewN ?_ _ | refine blk_drew ?_ | refine blk_alloc ?_ _)); exact BK134.out), (by (with_reducible repeat (first | refine blk_drewN ?_ _ | refine blk_drew ?_ | refine blk_alloc ?_ _)); exact BK141.out), GW141.out, GE141.out, NB134_141.out, NB141_134.out, (by repeat (first | (with_reducible first | exact HB.out | apply below_alloc | apply pw_below_drewN | apply below_drew1 | refine below_set ?_ GE134.out | refine below_set ?_ GE141.out) | exact HB.out))⟩)
                                      · skip
                                        rintro _ w29 ⟨h0_, h1_⟩
                                        have n0_ : Aside0 (w29.heap[gb134]? = some (.cells #[.int .i64 0, .int .i64 0, .int .i64 0, .int .i64 0, .int .i64 0, .int .i64 0] 43 (0, 0))) := ⟨h0_⟩
                                        have n1_ : Aside0 (Below w.heap.size w w29) := ⟨h1_⟩
                                        clear BK134
                                        clear HB
                                        clear h0_ h1_
                                        have BK134 := n0_
                                        have HB := n1_
                                        clear n0_ n1_
                                        have hHeld := trivial
                                        refine norm_ (a' := ?_) ?_ ?_
                                        rotate_left
                                        · simp only [putAll, Act.put, List.setIfInBounds_toArray, List.set_cons_zero, List.set_cons_succ]
                                          rfl
                                        refine two_ (i := 14) (j := 19) (Ni := some 23) (Nj := some 4) #[true, true, true, true, true, true, true, true, true, true, true, true, true, true, true, true, true, false, false, false, false] #[true, true, true, true, true, true, true, true, true, true, true, true, true, true, false, true, true, false, false, true, false] rfl rfl rfl rfl (two_of HT_.out (by kernel_rfl)) (by decide) (by decide) (fun K hK => ?_) (fun K hK => ?_)
                                        · skip
                                          refine goes_ Tryd.func39 (by kernel_rfl) rfl #[.string (a0.extract 16 18)] (by rfl) rfl rfl (by (try simp only [List.map_toArray, List.map_cons, List.map_nil]); first | done | rfl | (simp only [List.length_drop, List.length_take]; rfl)) ?_
                                          with_reducible refine (super_number.calls k (a0.extract 16 18) t139 _ A17.out).mono ?_
                                          rintro e w' ⟨rfl, ⟨nd, rfl⟩⟩
                                          refine ⟨_, rfl, ?_⟩
                                          refine hK.out _ _ trivial (fun hHeld => ?_)
                                          clear hK K
                                          refine norm_ (a' := ?_) ?_ ?_
                                          rotate_left
                                          · show Act.put _ (some 23) _ = _
                                            simp only [Act.put, List.setIfInBounds_toArray, List.set_cons_zero, List.set_cons_succ, i64_w, i32_w]
                                            rfl
                                          exact norm_ (by first | (simp only [putAll, Act.put, List.setIfInBounds_toArray, List.set_cons_zero, List.set_cons_succ]; done) | (simp only [putAll, Act.put, List.setIfInBounds_toArray, List.set_cons_zero, List.set_cons_succ]; rfl)) (hJ2_5_8_11_14 () _ ⟨(by (with_reducible repeat (first | refine blk_drewN ?_ _ | refine blk_drew ?_ | refine blk_alloc ?_ _)); exact BK134.out), (by repeat (first | (with_reducible first | exact HB.out | apply below_alloc | apply pw_below_drewN | apply below_drew1 | refine below_set ?_ GE134.out) | exact HB.out))⟩)
                                        · skip
                                          refine box_step ?hg (N := 4) ?hd (cs := #[.int .i64 0, .int .i64 0, .int .i64 0, .int .i64 0, .int .i64 0, .int .i64 0]) (t := 43) ?hr ?_; (case hd => rfl); (case hg => rfl); (case hr => first | (go_simp; done) | (go_simp; rfl))
                                          intro gb141 hg w30 hbox hb
                                          have n0_ := Aside0.mk (blk_below (g := gb134) (o := .cells #[.int .i64 0, .int .i64 0, .int .i64 0, .int .i64 0, .int .i64 0, .int .i64 0] 43 (0, 0)) (by (with_reducible repeat (first | refine blk_drewN ?_ _ | refine blk_drew ?_ | refine blk_alloc ?_ _)); exact BK134.out) hb)
                                          have n1_ := Aside0.mk (below_step (by repeat (first | (with_reducible first | exact HB.out | apply below_alloc | apply pw_below_drewN | apply below_drew1 | refine below_set ?_ GE134.out) | exact HB.out)) hb)
                                          have n2_ := Aside0.mk (hbox)
                                          have n3_ := Aside0.mk ((by rw [hg]; exact (below_size (by repeat (first | (with_reducible first | exact HB.out | apply below_alloc | apply pw_below_drewN | apply below_drew1 | refine below_set ?_ GE134.out) | exact HB.out))) : w.heap.size ≤ gb141))
                                          have n4_ := Aside0.mk ((by rw [hg]; exact (below_size (by repeat (first | (with_reducible first | exact HB.out | apply below_alloc | apply pw_below_drewN | apply below_drew1 | refine below_set ?_ GE134.out) | exact HB.out))) : w.heap.size ≤ gb141))
                                          have n5_ := Aside0.mk ((by rw [hg]; exact Nat.ne_of_lt (blk_lt (g := gb134) (o := .cells #[.int .i64 0, .int .i64 0, .int .i64 0, .int .i64 0, .int .i64 0, .int .i64 0] 43 (0, 0)) (by (with_reducible repeat (first | refine blk_drewN ?_ _ | refine blk_drew ?_ | refine blk_alloc ?_ _)); exact BK134.out)) : gb134 ≠ gb141))
                                          have n6_ := Aside0.mk ((by rw [hg]; exact Nat.ne_of_gt (blk_lt (g := gb134) (o := .cells #[.int .i64 0, .int .i64 0, .int .i64 0, .int .i64 0, .int .i64 0, .int .i64 0] 43 (0, 0)) (by (with_reducible repeat (first | refine blk_drewN ?_ _ | refine blk_drew ?_ | refine blk_alloc ?_ _)); exact BK134.out)) : gb141 ≠ gb134))
                                          clear BK134
                                          clear HB
                                          have BK134 := n0_
                                          have HB := n1_
                                          have BK141 := n2_
                                          have GW141 := n3_
                                          have GE141 := n4_
                                          have NB134_141 := n5_
                                          have NB141_134 := n6_
                                          clear n0_ n1_ n2_ n3_ n4_ n5_ n6_
                                          clear hb hbox hg
                                          refine hK.out _ _ trivial (fun hHeld => ?_)
                                          clear hK K
                                          refine norm_ (a' := ?_) ?_ ?_
                                          rotate_left
                                          · show Act.put _ (some 4) _ = _
                                            simp only [Act.put, List.setIfInBounds_toArray, List.set_cons_zero, List.set_cons_succ, i64_w, i32_w]
                                            rfl
                                          exact norm_ (by first | (simp only [putAll, Act.put, List.setIfInBounds_toArray, List.set_cons_zero, List.set_cons_succ]; done) | (simp only [putAll, Act.put, List.setIfInBounds_toArray, List.set_cons_zero, List.set_cons_succ]; rfl)) (hJ2_5_8_11_19 (gb141) _ ⟨(by (with_reducible repeat (first | refine blk_drewN ?_ _ | refine blk_drew ?_ | refine blk_alloc ?_ _)); exact BK134.out), (by (with_reducible repeat (first | refine blk_drewN ?_ _ | refine blk_drew ?_ | refine blk_alloc ?_ _)); exact BK141.out), GW141.out, GE141.out, NB134_141.out, NB141_134.out, (by repeat (first | (with_reducible first | exact HB.out | apply below_alloc | apply pw_below_drewN | apply below_drew1 | refine below_set ?_ GE134.out | refine below_set ?_ GE141.out) | exact HB.out))⟩)
                                    · skip
                                      rintro gb141 w30 ⟨h0_, h1_, h2_, h3_, h4_, h5_, h6_⟩
                                      have n0_ : Aside0 (w30.heap[gb134]? = some (.cells #[.int .i64 0, .int .i64 0, .int .i64 0, .int .i64 0, .int .i64 0, .int .i64 0] 43 (0, 0))) := ⟨h0_⟩
                                      have n1_ : Aside0 (w30.heap[gb141]? = some (.cells #[.int .i64 0, .int .i64 0, .int .i64 0, .int .i64 0, .int .i64 0, .int .i64 0] 43 (0, 0))) := ⟨h1_⟩
                                      have n2_ : Aside0 (w.heap.size ≤ gb141) := ⟨h2_⟩
                                      have n3_ : Aside0 (w.heap.size ≤ gb141) := ⟨h3_⟩
                                      have n4_ : Aside0 (gb134 ≠ gb141) := ⟨h4_⟩
                                      have n5_ : Aside0 (gb141 ≠ gb134) := ⟨h5_⟩
                                      have n6_ : Aside0 (Below w.heap.size w w30) := ⟨h6_⟩
                                      clear BK134
                                      clear HB
                                      clear h0_ h1_ h2_ h3_ h4_ h5_ h6_
                                      have BK134 := n0_
                                      have BK141 := n1_
                                      have GW141 := n2_
                                      have GE141 := n3_
                                      have NB134_141 := n4_
                                      have NB141_134 := n5_
                                      have HB := n6_
                                      clear n0_ n1_ n2_ n3_ n4_ n5_ n6_
                                      have hHeld := trivial
                                      refine norm_ (a' := ?_) ?_ ?_
                                      rotate_left
                                      · simp only [putAll, Act.put, List.setIfInBounds_toArray, List.set_cons_zero, List.set_cons_succ]
                                        rfl
                                      refine one_ (i := 14) (N := some 23) #[true, true, true, true, true, true, true, true, true, true, true, true, true, true, true, true, true, false, false, true, false] rfl rfl (one_of HT_.out (by kernel_rfl)) (by decide) (fun K hK => ?_)
                                      refine goes_ Tryd.func39 (by kernel_rfl) rfl #[.string (a0.extract 16 18)] (by rfl) rfl rfl (by (try simp only [List.map_toArray, List.map_cons, List.map_nil]); first | done | rfl | (simp only [List.length_drop, List.length_take]; rfl)) ?_
                                      with_reducible refine (super_number.calls k (a0.extract 16 18) t139 _ A17.out).mono ?_
                                      rintro e w' ⟨rfl, ⟨nd, rfl⟩⟩
                                      refine ⟨_, rfl, ?_⟩
                                      refine hK.out _ _ trivial (fun hHeld => ?_)
                                      clear hK K
                                      refine norm_ (a' := ?_) ?_ ?_
                                      rotate_left
                                      · show Act.put _ (some 23) _ = _
                                        simp only [Act.put, List.setIfInBounds_toArray, List.set_cons_zero, List.set_cons_succ, i64_w, i32_w]
                                        rfl
                                      exact norm_ (by first | (simp only [putAll, Act.put, List.setIfInBounds_toArray, List.set_cons_zero, List.set_cons_succ]; done) | (simp only [putAll, Act.put, List.setIfInBounds_toArray, List.set_cons_zero, List.set_cons_succ]; rfl)) (hJ2_5_8_11_14_19 (gb141) _ ⟨(by (with_reducible repeat (first | refine blk_drewN ?_ _ | refine blk_drew ?_ | refine blk_alloc ?_ _)); exact BK134.out), (by (with_reducible repeat (first | refine blk_drewN ?_ _ | refine blk_drew ?_ | refine blk_alloc ?_ _)); exact BK141.out), GW141.out, GE141.out, NB134_141.out, NB141_134.out, (by repeat (first | (with_reducible first | exact HB.out | apply below_alloc | apply pw_below_drewN | apply below_drew1 | refine below_set ?_ GE134.out | refine below_set ?_ GE141.out) | exact HB.out))⟩)
                                  · skip
                                    rintro _ w29 ⟨h0_, h1_⟩
                                    have n0_ : Aside0 (w29.heap[gb134]? = some (.cells #[.int .i64 0, .int .i64 0, .int .i64 0, .int .i64 0, .int .i64 0, .int .i64 0] 43 (0, 0))) := ⟨h0_⟩
                                    have n1_ : Aside0 (Below w.heap.size w w29) := ⟨h1_⟩
                                    clear BK134
                                    clear HB
                                    clear h0_ h1_
                                    have BK134 := n0_
                                    have HB := n1_
                                    clear n0_ n1_
                                    have hHeld := trivial
                                    refine norm_ (a' := ?_) ?_ ?_
                                    rotate_left
                                    · simp only [putAll, Act.put, List.setIfInBounds_toArray, List.set_cons_zero, List.set_cons_succ]
                                      rfl
                                    refine two_ (i := 17) (j := 19) (Ni := some 26) (Nj := some 4) #[true, true, true, true, true, true, true, true, true, true, true, true, true, true, true, true, true, true, false, false, false] #[true, true, true, true, true, true, true, true, true, true, true, true, true, true, true, true, true, false, false, true, false] rfl rfl rfl rfl (two_of HT_.out (by kernel_rfl)) (by decide) (by decide) (fun K hK => ?_) (fun K hK => ?_)
                                    · skip
                                      refine goes_ Tryd.func39 (by kernel_rfl) rfl #[.string (a0.extract 18 19)] (by rfl) rfl rfl (by (try simp only [List.map_toArray, List.map_cons, List.map_nil]); first | done | rfl | (simp only [List.length_drop, List.length_take]; rfl)) ?_
                                      with_reducible refine (super_number.calls k (a0.extract 18 19) t140 _ A20.out).mono ?_
                                      rintro e w' ⟨rfl, ⟨nd, rfl⟩⟩
                                      refine ⟨_, rfl, ?_⟩
                                      refine hK.out _ _ trivial (fun hHeld => ?_)
                                      clear hK K
                                      refine norm_ (a' := ?_) ?_ ?_
                                      rotate_left
                                      · show Act.put _ (some 26) _ = _
                                        simp only [Act.put, List.setIfInBounds_toArray, List.set_cons_zero, List.set_cons_succ, i64_w, i32_w]
                                        rfl
                                      refine pure_ (i := 18) (N := some 27) (v := ?_) (a' := ?_) #[true, true, true, true, true, true, true, true, true, true, true, true, true, true, true, true, true, true, true, false, false] rfl rfl (any_of HT_.out (by kernel_rfl)) (fun _ _ _ h => h) (Or.inl ⟨by rfl, ?_⟩) ?_ ?_
                                      rotate_left
                                      · intro w'
                                        go_simp
                                        with_reducible rfl
                                      rotate_left
                                      · simp only [Act.put, List.setIfInBounds_toArray, List.set_cons_zero, List.set_cons_succ, i64_w, i32_w]
                                        rfl
                                      exact norm_ (by first | (simp only [putAll, Act.put, List.setIfInBounds_toArray, List.set_cons_zero, List.set_cons_succ]; done) | (simp only [putAll, Act.put, List.setIfInBounds_toArray, List.set_cons_zero, List.set_cons_succ]; rfl)) (hJ2_5_8_11_14_17 () _ ⟨(by (with_reducible repeat (first | refine blk_drewN ?_ _ | refine blk_drew ?_ | refine blk_alloc ?_ _)); exact BK134.out), (by repeat (first | (with_reducible first | exact HB.out | apply below_alloc | apply pw_below_drewN | apply below_drew1 | refine below_set ?_ GE134.out) | exact HB.out))⟩)
                                    · skip
                                      refine box_step ?hg (N := 4) ?hd (cs := #[.int .i64 0, .int .i64 0, .int .i64 0, .int .i64 0, .int .i64 0, .int .i64 0]) (t := 43) ?hr ?_; (case hd => rfl); (case hg => rfl); (case hr => first | (go_simp; done) | (go_simp; rfl))
                                      intro gb141 hg w30 hbox hb
                                      have n0_ := Aside0.mk (blk_below (g := gb134) (o := .cells #[.int .i64 0, .int .i64 0, .int .i64 0, .int .i64 0, .int .i64 0, .int .i64 0] 43 (0, 0)) (by (with_reducible repeat (first | refine blk_drewN ?_ _ | refine blk_drew ?_ | refine blk_alloc ?_ _)); exact BK134.out) hb)
                                      have n1_ := Aside0.mk (below_step (by repeat (first | (with_reducible first | exact HB.out | apply below_alloc | apply pw_below_drewN | apply below_drew1 | refine below_set ?_ GE134.out) | exact HB.out)) hb)
                                      have n2_ := Aside0.mk (hbox)
                                      have n3_ := Aside0.mk ((by rw [hg]; exact (below_size (by repeat (first | (with_reducible first | exact HB.out | apply below_alloc | apply pw_below_drewN | apply below_drew1 | refine below_set ?_ GE134.out) | exact HB.out))) : w.heap.size ≤ gb141))
                                      have n4_ := Aside0.mk ((by rw [hg]; exact (below_size (by repeat (first | (with_reducible first | exact HB.out | apply below_alloc | apply pw_below_drewN | apply below_drew1 | refine below_set ?_ GE134.out) | exact HB.out))) : w.heap.size ≤ gb141))
                                      have n5_ := Aside0.mk ((by rw [hg]; exact Nat.ne_of_lt (blk_lt (g := gb134) (o := .cells #[.int .i64 0, .int .i64 0, .int .i64 0, .int .i64 0, .int .i64 0, .int .i64 0] 43 (0, 0)) (by (with_reducible repeat (first | refine blk_drewN ?_ _ | refine blk_drew ?_ | refine blk_alloc ?_ _)); exact BK134.out)) : gb134 ≠ gb141))
                                      have n6_ := Aside0.mk ((by rw [hg]; exact Nat.ne_of_gt (blk_lt (g := gb134) (o := .cells #[.int .i64 0, .int .i64 0, .int .i64 0, .int .i64 0, .int .i64 0, .int .i64 0] 43 (0, 0)) (by (with_reducible repeat (first | refine blk_drewN ?_ _ | refine blk_drew ?_ | refine blk_alloc ?_ _)); exact BK134.out)) : gb141 ≠ gb134))
                                      clear BK134
                                      clear HB
                                      have BK134 := n0_
                                      have HB := n1_
                                      have BK141 := n2_
                                      have GW141 := n3_
                                      have GE141 := n4_
                                      have NB134_141 := n5_
                                      have NB141_134 := n6_
                                      clear n0_ n1_ n2_ n3_ n4_ n5_ n6_
                                      clear hb hbox hg
                                      refine hK.out _ _ trivial (fun hHeld => ?_)
                                      clear hK K
                                      refine norm_ (a' := ?_) ?_ ?_
                                      rotate_left
                                      · show Act.put _ (some 4) _ = _
                                        simp only [Act.put, List.setIfInBounds_toArray, List.set_cons_zero, List.set_cons_succ, i64_w, i32_w]
                                        rfl
                                      exact norm_ (by first | (simp only [putAll, Act.put, List.setIfInBounds_toArray, List.set_cons_zero, List.set_cons_succ]; done) | (simp only [putAll, Act.put, List.setIfInBounds_toArray, List.set_cons_zero, List.set_cons_succ]; rfl)) (hJ2_5_8_11_14_19 (gb141) _ ⟨(by (with_reducible repeat (first | refine blk_drewN ?_ _ | refine blk_drew ?_ | refine blk_alloc ?_ _)); exact BK134.out), (by (with_reducible repeat (first | refine blk_drewN ?_ _ | refine blk_drew ?_ | refine blk_alloc ?_ _)); exact BK141.out), GW141.out, GE141.out, NB134_141.out, NB141_134.out, (by repeat (first | (with_reducible first | exact HB.out | apply below_alloc | apply pw_below_drewN | apply below_drew1 | refine below_set ?_ GE134.out | refine below_set ?_ GE141.out) | exact HB.out))⟩)
                                · skip
                                  rintro gb141 w30 ⟨h0_, h1_, h2_, h3_, h4_, h5_, h6_⟩
                                  have n0_ : Aside0 (w30.heap[gb134]? = some (.cells #[.int .i64 0, .int .i64 0, .int .i64 0, .int .i64 0, .int .i64 0, .int .i64 0] 43 (0, 0))) := ⟨h0_⟩
                                  have n1_ : Aside0 (w30.heap[gb141]? = some (.cells #[.int .i64 0, .int .i64 0, .int .i64 0, .int .i64 0, .int .i64 0, .int .i64 0] 43 (0, 0))) := ⟨h1_⟩
                                  have n2_ : Aside0 (w.heap.size ≤ gb141) := ⟨h2_⟩
                                  have n3_ : Aside0 (w.heap.size ≤ gb141) := ⟨h3_⟩
                                  have n4_ : Aside0 (gb134 ≠ gb141) := ⟨h4_⟩
                                  have n5_ : Aside0 (gb141 ≠ gb134) := ⟨h5_⟩
                                  have n6_ : Aside0 (Below w.heap.size w w30) := ⟨h6_⟩
                                  clear BK134
                                  clear HB
                                  clear h0_ h1_ h2_ h3_ h4_ h5_ h6_
                                  have BK134 := n0_
                                  have BK141 := n1_
                                  have GW141 := n2_
                                  have GE141 := n3_
                                  have NB134_141 := n4_
                                  have NB141_134 := n5_
                                  have HB := n6_
                                  clear n0_ n1_ n2_ n3_ n4_ n5_ n6_
                                  have hHeld := trivial
                                  refine norm_ (a' := ?_) ?_ ?_
                                  rotate_left
                                  · simp only [putAll, Act.put, List.setIfInBounds_toArray, List.set_cons_zero, List.set_cons_succ]
                                    rfl
                                  refine one_ (i := 17) (N := some 26) #[true, true, true, true, true, true, true, true, true, true, true, true, true, true, true, true, true, true, false, true, false] rfl rfl (one_of HT_.out (by kernel_rfl)) (by decide) (fun K hK => ?_)
                                  refine goes_ Tryd.func39 (by kernel_rfl) rfl #[.string (a0.extract 18 19)] (by rfl) rfl rfl (by (try simp only [List.map_toArray, List.map_cons, List.map_nil]); first | done | rfl | (simp only [List.length_drop, List.length_take]; rfl)) ?_
                                  with_reducible refine (super_number.calls k (a0.extract 18 19) t140 _ A20.out).mono ?_
                                  rintro e w' ⟨rfl, ⟨nd, rfl⟩⟩
                                  refine ⟨_, rfl, ?_⟩
                                  refine hK.out _ _ trivial (fun hHeld => ?_)
                                  clear hK K
                                  refine norm_ (a' := ?_) ?_ ?_
                                  rotate_left
                                  · show Act.put _ (some 26) _ = _
                                    simp only [Act.put, List.setIfInBounds_toArray, List.set_cons_zero, List.set_cons_succ, i64_w, i32_w]
                                    rfl
                                  refine pure_ (i := 18) (N := some 27) (v := ?_) (a' := ?_) #[true, true, true, true, true, true, true, true, true, true, true, true, true, true, true, true, true, true, true, true, false] rfl rfl (any_of HT_.out (by kernel_rfl)) (fun _ _ _ h => h) (Or.inl ⟨by rfl, ?_⟩) ?_ ?_
                                  rotate_left
                                  · intro w'
                                    go_simp
                                    with_reducible rfl
                                  rotate_left
                                  · simp only [Act.put, List.setIfInBounds_toArray, List.set_cons_zero, List.set_cons_succ, i64_w, i32_w]
                                    rfl
                                  exact norm_ (by first | (simp only [putAll, Act.put, List.setIfInBounds_toArray, List.set_cons_zero, List.set_cons_succ]; done) | (simp only [putAll, Act.put, List.setIfInBounds_toArray, List.set_cons_zero, List.set_cons_succ]; rfl)) (hJ2_5_8_11_14_17_19 (gb141) _ ⟨(by (with_reducible repeat (first | refine blk_drewN ?_ _ | refine blk_drew ?_ | refine blk_alloc ?_ _)); exact BK134.out), (by (with_reducible repeat (first | refine blk_drewN ?_ _ | refine blk_drew ?_ | refine blk_alloc ?_ _)); exact BK141.out), GW141.out, GE141.out, NB134_141.out, NB141_134.out, (by repeat (first | (with_reducible first | exact HB.out | apply below_alloc | apply pw_below_drewN | apply below_drew1 | refine below_set ?_ GE134.out | refine below_set ?_ GE141.out) | exact HB.out))⟩)
                              · skip
                                rintro _ w29 ⟨h0_, h1_⟩
                                have n0_ : Aside0 (w29.heap[gb134]? = some (.cells #[.int .i64 0, .int .i64 0, .int .i64 0, .int .i64 0, .int .i64 0, .int .i64 0] 43 (0, 0))) := ⟨h0_⟩
                                have n1_ : Aside0 (Below w.heap.size w w29) := ⟨h1_⟩
                                clear BK134
                                clear HB
                                clear h0_ h1_
                                have BK134 := n0_
                                have HB := n1_
                                clear n0_ n1_
                                have hHeld := trivial
                                refine norm_ (a' := ?_) ?_ ?_
                                rotate_left
                                · simp only [putAll, Act.put, List.setIfInBounds_toArray, List.set_cons_zero, List.set_cons_succ]
                                  rfl
                                refine one_ (i := 19) (N := some 4) #[true, true, true, true, true, true, true, true, true, true, true, true, true, true, true, true, true, true, true, true, false] rfl rfl (one_of HT_.out (by kernel_rfl)) (by decide) (fun K hK => ?_)
                                refine box_step ?hg (N := 4) ?hd (cs := #[.int .i64 0, .int .i64 0, .int .i64 0, .int .i64 0, .int .i64 0, .int .i64 0]) (t := 43) ?hr ?_; (case hd => rfl); (case hg => rfl); (case hr => first | (go_simp; done) | (go_simp; rfl))
                                intro gb141 hg w30 hbox hb
                                have n0_ := Aside0.mk (blk_below (g := gb134) (o := .cells #[.int .i64 0, .int .i64 0, .int .i64 0, .int .i64 0, .int .i64 0, .int .i64 0] 43 (0, 0)) (by (with_reducible repeat (first | refine blk_drewN ?_ _ | refine blk_drew ?_ | refine blk_alloc ?_ _)); exact BK134.out) hb)
                                have n1_ := Aside0.mk (below_step (by repeat (first | (with_reducible first | exact HB.out | apply below_alloc | apply pw_below_drewN | apply below_drew1 | refine below_set ?_ GE134.out) | exact HB.out)) hb)
                                have n2_ := Aside0.mk (hbox)
                                have n3_ := Aside0.mk ((by rw [hg]; exact (below_size (by repeat (first | (with_reducible first | exact HB.out | apply below_alloc | apply pw_below_drewN | apply below_drew1 | refine below_set ?_ GE134.out) | exact HB.out))) : w.heap.size ≤ gb141))
                                have n4_ := Aside0.mk ((by rw [hg]; exact (below_size (by repeat (first | (with_reducible first | exact HB.out | apply below_alloc | apply pw_below_drewN | apply below_drew1 | refine below_set ?_ GE134.out) | exact HB.out))) : w.heap.size ≤ gb141))
                                have n5_ := Aside0.mk ((by rw [hg]; exact Nat.ne_of_lt (blk_lt (g := gb134) (o := .cells #[.int .i64 0, .int .i64 0, .int .i64 0, .int .i64 0, .int .i64 0, .int .i64 0] 43 (0, 0)) (by (with_reducible repeat (first | refine blk_drewN ?_ _ | refine blk_drew ?_ | refine blk_alloc ?_ _)); exact BK134.out)) : gb134 ≠ gb141))
                                have n6_ := Aside0.mk ((by rw [hg]; exact Nat.ne_of_gt (blk_lt (g := gb134) (o := .cells #[.int .i64 0, .int .i64 0, .int .i64 0, .int .i64 0, .int .i64 0, .int .i64 0] 43 (0, 0)) (by (with_reducible repeat (first | refine blk_drewN ?_ _ | refine blk_drew ?_ | refine blk_alloc ?_ _)); exact BK134.out)) : gb141 ≠ gb134))
                                clear BK134
                                clear HB
                                have BK134 := n0_
                                have HB := n1_
                                have BK141 := n2_
                                have GW141 := n3_
                                have GE141 := n4_
                                have NB134_141 := n5_
                                have NB141_134 := n6_
                                clear n0_ n1_ n2_ n3_ n4_ n5_ n6_
                                clear hb hbox hg
                                refine hK.out _ _ trivial (fun hHeld => ?_)
                                clear hK K
                                refine norm_ (a' := ?_) ?_ ?_
                                rotate_left
                                · show Act.put _ (some 4) _ = _
                                  simp only [Act.put, List.setIfInBounds_toArray, List.set_cons_zero, List.set_cons_succ, i64_w, i32_w]
                                  rfl
                                exact norm_ (by first | (simp only [putAll, Act.put, List.setIfInBounds_toArray, List.set_cons_zero, List.set_cons_succ]; done) | (simp only [putAll, Act.put, List.setIfInBounds_toArray, List.set_cons_zero, List.set_cons_succ]; rfl)) (hJ2_5_8_11_14_17_19 (gb141) _ ⟨(by (with_reducible repeat (first | refine blk_drewN ?_ _ | refine blk_drew ?_ | refine blk_alloc ?_ _)); exact BK134.out), (by (with_reducible repeat (first | refine blk_drewN ?_ _ | refine blk_drew ?_ | refine blk_alloc ?_ _)); exact BK141.out), GW141.out, GE141.out, NB134_141.out, NB141_134.out, (by repeat (first | (with_reducible first | exact HB.out | apply below_alloc | apply pw_below_drewN | apply below_drew1 | refine below_set ?_ GE134.out | refine below_set ?_ GE141.out) | exact HB.out))⟩)
                            rintro gb141 w30 ⟨h0_, h1_, h2_, h3_, h4_, h5_, h6_⟩
                            have n0_ : Aside0 (w30.heap[gb134]? = some (.cells #[.int .i64 0, .int .i64 0, .int .i64 0, .int .i64 0, .int .i64 0, .int .i64 0] 43 (0, 0))) := ⟨h0_⟩
                            have n1_ : Aside0 (w30.heap[gb141]? = some (.cells #[.int .i64 0, .int .i64 0, .int .i64 0, .int .i64 0, .int .i64 0, .int .i64 0] 43 (0, 0))) := ⟨h1_⟩
                            have n2_ : Aside0 (w.heap.size ≤ gb141) := ⟨h2_⟩
                            have n3_ : Aside0 (w.heap.size ≤ gb141) := ⟨h3_⟩
                            have n4_ : Aside0 (gb134 ≠ gb141) := ⟨h4_⟩
                            have n5_ : Aside0 (gb141 ≠ gb134) := ⟨h5_⟩
                            have n6_ : Aside0 (Below w.heap.size w w30) := ⟨h6_⟩
                            clear BK134
                            clear HB
                            clear h0_ h1_ h2_ h3_ h4_ h5_ h6_
                            have BK134 := n0_
                            have BK141 := n1_
                            have GW141 := n2_
                            have GE141 := n3_
                            have NB134_141 := n4_
                            have NB141_134 := n5_
                            have HB := n6_
                            clear n0_ n1_ n2_ n3_ n4_ n5_ n6_
                            have hHeld := trivial
                            refine norm_ (a' := ?_) ?_ ?_
                            rotate_left
                            · simp only [putAll, Act.put, List.setIfInBounds_toArray, List.set_cons_zero, List.set_cons_succ]
                              rfl
                            refine one_ (i := 20) (N := none) #[true, true, true, true, true, true, true, true, true, true, true, true, true, true, true, true, true, true, true, true, true] rfl rfl (one_of HT_.out (by kernel_rfl)) (by decide) (fun K hK => ?_)
                            have hs31 : w30.cell? ⟨gb141, 0, none⟩ = some (.int .i64 0) := (blk_cell BK141.out 0).trans rfl
                            have hfs31 := blk_frozen BK141.out 0
                            have hns31_0 := NB134_141.out
                            have hms31_0 := NB141_134.out
                            have hs32 : w30.cell? ⟨gb141, 1, none⟩ = some (.int .i64 0) := (blk_cell BK141.out 1).trans rfl
                            have hfs32 := blk_frozen BK141.out 1
                            have hns32_0 := NB134_141.out
                            have hms32_0 := NB141_134.out
                            have hs33 : w30.cell? ⟨gb141, 2, none⟩ = some (.int .i64 0) := (blk_cell BK141.out 2).trans rfl
                            have hfs33 := blk_frozen BK141.out 2
                            have hns33_0 := NB134_141.out
                            have hms33_0 := NB141_134.out
                            have hs34 : w30.cell? ⟨gb141, 3, none⟩ = some (.int .i64 0) := (blk_cell BK141.out 3).trans rfl
                            have hfs34 := blk_frozen BK141.out 3
                            have hns34_0 := NB134_141.out
                            have hms34_0 := NB141_134.out
                            have hs35 : w30.cell? ⟨gb141, 4, none⟩ = some (.int .i64 0) := (blk_cell BK141.out 4).trans rfl
                            have hfs35 := blk_frozen BK141.out 4
                            have hns35_0 := NB134_141.out
                            have hms35_0 := NB141_134.out
                            have hs36 : w30.cell? ⟨gb141, 5, none⟩ = some (.int .i64 0) := (blk_cell BK141.out 5).trans rfl
                            have hfs36 := blk_frozen BK141.out 5
                            have hns36_0 := NB134_141.out
                            have hms36_0 := NB141_134.out
                            refine skip_ (w1 := ?_) (by rfl) rfl ?_ ?_
                            rotate_left
                            · go_simp
                              rfl
                            refine hK.out _ _ trivial (fun hHeld => ?_)
                            clear hK K
                            refine done_ (done_of HT_.out (by kernel_rfl)) ?_
                            have H := HC_.out
                            clear HC_
                            by_cases c22 : t142 = true
                            · subst c22
                              have H1 : ((super_sector.f k t135 t136 t137 t138 t139 t140).bind fun t143 => (if 0 ≤ 64 then (if 64 ≤ (a0.size : Int) then (if t143.toList = (a0.extract 0 64).toList then (some (t135, t136, t137, t138, t139, t140, true)) else (some (0, 0, 0, 0, 0, 0, false))) else (none)) else (none))) = some (r1, r2, r3, r4, r5, r6, r7) := by rw [if_pos rfl] at H; exact H
                              clear H
                              have H := H1
                              clear H1
                              replace H := Option.bind_eq_some_iff.mp H
                              obtain ⟨t143, A230, H⟩ := H
                              replace H : (if 0 ≤ 64 then (if 64 ≤ (a0.size : Int) then (if t143.toList = (a0.extract 0 64).toList then (some (t135, t136, t137, t138, t139, t140, true)) else (some (0, 0, 0, 0, 0, 0, false))) else (none)) else (none)) = some (r1, r2, r3, r4, r5, r6, r7) := H
                              have A23 := Aside0.mk A230
                              clear A230
                              by_cases c24 : 0 ≤ 64
                              · rw [if_pos c24] at H
                                have c24b0 := eq_true c24
                                have c24b1 : decide (0 ≤ 64) = true := decide_eq_true c24
                                clear c24
                                by_cases c25 : 64 ≤ (a0.size : Int)
                                · rw [if_pos c25] at H
                                  have c25b0 := eq_true c25
                                  have c25b1 : decide (64 ≤ (a0.size : Int)) = true := decide_eq_true c25
                                  clear c25
                                  by_cases c26 : t143.toList = (a0.extract 0 64).toList
                                  · rw [if_pos c26] at H
                                    have c26b0 : (t143.toList == (a0.extract 0 64).toList) = true := beq_iff_eq.mpr c26
                                    have c26b1 : (t143.toList != (a0.extract 0 64).toList) = false := bne_eq_false_iff_eq.mpr c26
                                    clear c26
                                    simp only [Option.some.injEq, Prod.mk.injEq] at H
                                    obtain ⟨rfl, rfl, rfl, rfl, rfl, rfl, rfl⟩ := H
                                    try go_wp2
                                    have n0_ : Aside0 (((((((w30.setCell ⟨gb141, 0, none⟩ (.int .i64 t135)).setCell ⟨gb141, 1, none⟩ (.int .i64 t136)).setCell ⟨gb141, 2, none⟩ (.int .i64 t137)).setCell ⟨gb141, 3, none⟩ (.int .i64 t138)).setCell ⟨gb141, 4, none⟩ (.int .i64 t139)).setCell ⟨gb141, 5, none⟩ (.int .i64 t140)).heap[gb134]? = some (.cells #[.int .i64 0, .int .i64 0, .int .i64 0, .int .i64 0, .int .i64 0, .int .i64 0] 43 (0, 0))) := ⟨by (with_reducible repeat (first | refine blk_drewN ?_ _ | refine blk_drew ?_ | refine blk_alloc ?_ _)); refine blk_far ?_ NB134_141.out _; (with_reducible repeat (first | refine blk_drewN ?_ _ | refine blk_drew ?_ | refine blk_alloc ?_ _)); refine blk_far ?_ NB134_141.out _; (with_reducible repeat (first | refine blk_drewN ?_ _ | refine blk_drew ?_ | refine blk_alloc ?_ _)); refine blk_far ?_ NB134_141.out _; (with_reducible repeat (first | refine blk_drewN ?_ _ | refine blk_drew ?_ | refine blk_alloc ?_ _)); refine blk_far ?_ NB134_141.out _; (with_reducible repeat (first | refine blk_drewN ?_ _ | refine blk_drew ?_ | refine blk_alloc ?_ _)); refine blk_far ?_ NB134_141.out _; (with_reducible repeat (first | refine blk_drewN ?_ _ | refine blk_drew ?_ | refine blk_alloc ?_ _)); refine blk_far ?_ NB134_141.out _; (with_reducible repeat (first | refine blk_drewN ?_ _ | refine blk_drew ?_ | refine blk_alloc ?_ _)); exact BK134.out⟩
                                    have n1_ : Aside0 (((((((w30.setCell ⟨gb141, 0, none⟩ (.int .i64 t135)).setCell ⟨gb141, 1, none⟩ (.int .i64 t136)).setCell ⟨gb141, 2, none⟩ (.int .i64 t137)).setCell ⟨gb141, 3, none⟩ (.int .i64 t138)).setCell ⟨gb141, 4, none⟩ (.int .i64 t139)).setCell ⟨gb141, 5, none⟩ (.int .i64 t140)).heap[gb141]? = some (.cells #[.int .i64 t135, .int .i64 t136, .int .i64 t137, .int .i64 t138, .int .i64 t139, .int .i64 t140] 43 (0, 0))) := ⟨by (with_reducible repeat (first | refine blk_drewN ?_ _ | refine blk_drew ?_ | refine blk_alloc ?_ _)); refine blk_put (cs := #[.int .i64 t135, .int .i64 t136, .int .i64 t137, .int .i64 t138, .int .i64 t139, .int .i64 0]) ?_ 5 _ rfl; (with_reducible repeat (first | refine blk_drewN ?_ _ | refine blk_drew ?_ | refine blk_alloc ?_ _)); refine blk_put (cs := #[.int .i64 t135, .int .i64 t136, .int .i64 t137, .int .i64 t138, .int .i64 0, .int .i64 0]) ?_ 4 _ rfl; (with_reducible repeat (first | refine blk_drewN ?_ _ | refine blk_drew ?_ | refine blk_alloc ?_ _)); refine blk_put (cs := #[.int .i64 t135, .int .i64 t136, .int .i64 t137, .int .i64 0, .int .i64 0, .int .i64 0]) ?_ 3 _ rfl; (with_reducible repeat (first | refine blk_drewN ?_ _ | refine blk_drew ?_ | refine blk_alloc ?_ _)); refine blk_put (cs := #[.int .i64 t135, .int .i64 t136, .int .i64 0, .int .i64 0, .int .i64 0, .int .i64 0]) ?_ 2 _ rfl; (with_reducible repeat (first | refine blk_drewN ?_ _ | refine blk_drew ?_ | refine blk_alloc ?_ _)); refine blk_put (cs := #[.int .i64 t135, .int .i64 0, .int .i64 0, .int .i64 0, .int .i64 0, .int .i64 0]) ?_ 1 _ rfl; (with_reducible repeat (first | refine blk_drewN ?_ _ | refine blk_drew ?_ | refine blk_alloc ?_ _)); refine blk_put (cs := #[.int .i64 0, .int .i64 0, .int .i64 0, .int .i64 0, .int .i64 0, .int .i64 0]) ?_ 0 _ rfl; (with_reducible repeat (first | refine blk_drewN ?_ _ | refine blk_drew ?_ | refine blk_alloc ?_ _)); exact BK141.out⟩
                                    have n2_ : Aside0 (Below w.heap.size w ((((((w30.setCell ⟨gb141, 0, none⟩ (.int .i64 t135)).setCell ⟨gb141, 1, none⟩ (.int .i64 t136)).setCell ⟨gb141, 2, none⟩ (.int .i64 t137)).setCell ⟨gb141, 3, none⟩ (.int .i64 t138)).setCell ⟨gb141, 4, none⟩ (.int .i64 t139)).setCell ⟨gb141, 5, none⟩ (.int .i64 t140))) := ⟨by repeat (first | (with_reducible first | exact HB.out | apply below_alloc | apply pw_below_drewN | apply below_drew1 | refine below_set ?_ GE134.out | refine below_set ?_ GE141.out) | exact HB.out)⟩
                                    (try clear BK134)
                                    (try clear BK141)
                                    (try clear HB)
                                    generalize ((((((w30.setCell ⟨gb141, 0, none⟩ (.int .i64 t135)).setCell ⟨gb141, 1, none⟩ (.int .i64 t136)).setCell ⟨gb141, 2, none⟩ (.int .i64 t137)).setCell ⟨gb141, 3, none⟩ (.int .i64 t138)).setCell ⟨gb141, 4, none⟩ (.int .i64 t139)).setCell ⟨gb141, 5, none⟩ (.int .i64 t140)) = w37 at n0_ n1_ n2_ ⊢
                                    have BK134 := n0_
                                    have BK141 := n1_
                                    have HB := n2_
                                    clear n0_ n1_ n2_
                                    have n0_ := Aside0.mk (blk_drew BK134.out)
                                    have n1_ := Aside0.mk (blk_drew BK141.out)
                                    have n2_ := Aside0.mk (below_drew1 HB.out)
                                    clear BK134
                                    clear BK141
                                    clear HB
                                    have BK134 := n0_
                                    have BK141 := n1_
                                    have HB := n2_
                                    clear n0_ n1_ n2_
                                    refine start_ (n := 10) (S := fun w' => w'.cell? ⟨gb141, 0, none⟩ = some (.int .i64 t135) ∧ w'.cell? ⟨gb141, 1, none⟩ = some (.int .i64 t136) ∧ w'.cell? ⟨gb141, 2, none⟩ = some (.int .i64 t137) ∧ w'.cell? ⟨gb141, 3, none⟩ = some (.int .i64 t138) ∧ w'.cell? ⟨gb141, 4, none⟩ = some (.int .i64 t139) ∧ w'.cell? ⟨gb141, 5, none⟩ = some (.int .i64 t140)) (ds := []) #[false, false, false, false, false, false, false, false, false, false] (by kernel_rfl) rfl rfl ⟨(blk_cell BK141.out 0).trans rfl, (blk_cell BK141.out 1).trans rfl, (blk_cell BK141.out 2).trans rfl, (blk_cell BK141.out 3).trans rfl, (blk_cell BK141.out 4).trans rfl, (blk_cell BK141.out 5).trans rfl⟩ (fun hHeld => ?_); refine with_tabW super_Decode.tab4 super_Decode.bits4 (fun HT_ HW_ => ?_)
                                    generalize w37.drew = w38 at BK134 BK141 HB hHeld ⊢
                                    refine take_ (i := 0) (N := some 28) (v := ?_) (a' := ?_) #[true, false, false, false, false, false, false, false, false, false] rfl rfl (take_ofW HT_.out HW_.out (by kernel_rfl)) (fun _ _ _ h => h) (Or.inl ⟨by rfl, ?_⟩) hHeld ?_ ?_
                                    rotate_left
                                    · rintro w' ⟨s0, s1, s2, s3, s4, s5⟩
                                      go_simp
                                      with_reducible rfl
                                    rotate_left
                                    · simp only [Act.put, List.setIfInBounds_toArray, List.set_cons_zero, List.set_cons_succ, i64_w, i32_w]
                                      rfl
                                    refine one_ (i := 1) (N := some 29) #[true, true, false, false, false, false, false, false, false, false] rfl rfl (one_of HT_.out (by kernel_rfl)) (by decide) (fun K hK => ?_)
                                    refine goes_ Tryd.func24 (by kernel_rfl) rfl #[.agg #[.int .i64 t135, .int .i64 t136, .int .i64 t137, .int .i64 t138, .int .i64 t139, .int .i64 t140]] (by rfl) rfl rfl (by (try simp only [List.map_toArray, List.map_cons, List.map_nil]); first | done | rfl | (simp only [List.length_drop, List.length_take]; rfl)) ?_
                                    with_reducible refine (super_Good.calls t135 t136 t137 t138 t139 t140 true _ A21.out).mono ?_
                                    rintro e w39 ⟨rfl, hb⟩
                                    refine ⟨_, rfl, ?_⟩
                                    have n0_ := Aside0.mk (blk_below (g := gb134) (o := .cells #[.int .i64 0, .int .i64 0, .int .i64 0, .int .i64 0, .int .i64 0, .int .i64 0] 43 (0, 0)) (by (with_reducible repeat (first | refine blk_drewN ?_ _ | refine blk_drew ?_ | refine blk_alloc ?_ _)); exact BK134.out) hb)
                                    have n1_ := Aside0.mk (blk_below (g := gb141) (o := .cells #[.int .i64 t135, .int .i64 t136, .int .i64 t137, .int .i64 t138, .int .i64 t139, .int .i64 t140] 43 (0, 0)) (by (with_reducible repeat (first | refine blk_drewN ?_ _ | refine blk_drew ?_ | refine blk_alloc ?_ _)); exact BK141.out) hb)
                                    have n2_ := Aside0.mk (below_step (by repeat (first | (with_reducible first | exact HB.out | apply below_alloc | apply pw_below_drewN | apply below_drew1 | refine below_set ?_ GE134.out | refine below_set ?_ GE141.out) | exact HB.out)) hb)
                                    clear BK134
                                    clear BK141
                                    clear HB
                                    have BK134 := n0_
                                    have BK141 := n1_
                                    have HB := n2_
                                    clear n0_ n1_ n2_
                                    (try clear hb)
                                    (try clear hb2)
                                    (try clear hk)
                                    (try clear hi)
                                    refine hK.out _ _ ⟨(blk_cell BK141.out 0).trans rfl, (blk_cell BK141.out 1).trans rfl, (blk_cell BK141.out 2).trans rfl, (blk_cell BK141.out 3).trans rfl, (blk_cell BK141.out 4).trans rfl, (blk_cell BK141.out 5).trans rfl⟩ (fun hHeld => ?_)
                                    clear hK K
                                    refine norm_ (a' := ?_) ?_ ?_
                                    rotate_left
                                    · show Act.put _ (some 29) _ = _
                                      simp only [Act.put, List.setIfInBounds_toArray, List.set_cons_zero, List.set_cons_succ, i64_w, i32_w]
                                      rfl
                                    refine pure_ (i := 2) (N := some 30) (v := ?_) (a' := ?_) #[true, true, true, false, false, false, false, false, false, false] rfl rfl (any_of HT_.out (by kernel_rfl)) (fun _ _ _ h => h) (Or.inl ⟨by rfl, ?_⟩) ?_ ?_
                                    rotate_left
                                    · intro w'
                                      go_simp
                                      with_reducible rfl
                                    rotate_left
                                    · simp only [Act.put, List.setIfInBounds_toArray, List.set_cons_zero, List.set_cons_succ, i64_w, i32_w]
                                      rfl
                                    refine pure_ (i := 3) (N := some 31) (v := ?_) (a' := ?_) #[true, true, true, true, false, false, false, false, false, false] rfl rfl (any_of HT_.out (by kernel_rfl)) (fun _ _ _ h => h) (Or.inl ⟨by rfl, ?_⟩) ?_ ?_
                                    rotate_left
                                    · intro w'
                                      go_simp
                                      with_reducible rfl
                                    rotate_left
                                    · simp only [Act.put, List.setIfInBounds_toArray, List.set_cons_zero, List.set_cons_succ, i64_w, i32_w]
                                      rfl
                                    refine pure_ (i := 6) (N := some 34) (v := ?_) (a' := ?_) #[true, true, true, true, false, false, true, false, false, false] rfl rfl (any_of HT_.out (by kernel_rfl)) (fun _ _ _ h => h) (Or.inl ⟨by rfl, ?_⟩) ?_ ?_
                                    rotate_left
                                    · intro w'
                                      go_simp
                                      with_reducible rfl
                                    rotate_left
                                    · simp only [Act.put, List.setIfInBounds_toArray, List.set_cons_zero, List.set_cons_succ, i64_w, i32_w]
                                      rfl
                                    refine pure_ (i := 7) (N := some 35) (v := ?_) (a' := ?_) #[true, true, true, true, false, false, true, true, false, false] rfl rfl (any_of HT_.out (by kernel_rfl)) (fun _ _ _ h => h) (Or.inl ⟨by rfl, ?_⟩) ?_ ?_
                                    rotate_left
                                    · intro w'
                                      go_simp
                                      with_reducible rfl
                                    rotate_left
                                    · simp only [Act.put, List.setIfInBounds_toArray, List.set_cons_zero, List.set_cons_succ, i64_w, i32_w]
                                      rfl
                                    refine take_ (i := 4) (N := some 32) (v := ?_) (a' := ?_) #[true, true, true, true, true, false, true, true, false, false] rfl rfl (take_ofW HT_.out HW_.out (by kernel_rfl)) (fun _ _ _ h => h) (Or.inl ⟨by rfl, ?_⟩) hHeld ?_ ?_
                                    rotate_left
                                    · rintro w' ⟨s0, s1, s2, s3, s4, s5⟩
                                      go_simp
                                      with_reducible rfl
                                    rotate_left
                                    · simp only [Act.put, List.setIfInBounds_toArray, List.set_cons_zero, List.set_cons_succ, i64_w, i32_w]
                                      rfl
                                    refine one_ (i := 5) (N := some 33) #[true, true, true, true, true, true, true, true, false, false] rfl rfl (one_of HT_.out (by kernel_rfl)) (by decide) (fun K hK => ?_)
                                    refine goes_ Tryd.func37 (by kernel_rfl) rfl #[.agg #[.int .i64 t135, .int .i64 t136, .int .i64 t137, .int .i64 t138, .int .i64 t139, .int .i64 t140]] (by rfl) rfl rfl (by (try simp only [List.map_toArray, List.map_cons, List.map_nil]); first | done | rfl | (simp only [List.length_drop, List.length_take]; rfl)) ?_
                                    with_reducible refine (super_sector.calls k t135 t136 t137 t138 t139 t140 t143 _ ?side1 A23.out).mono ?_
                                    (case side1 => exact Glob.below HG.out (by repeat (first | (with_reducible first | exact HB.out | apply below_alloc | apply pw_below_drewN | apply below_drew1 | refine below_set ?_ GE134.out | refine below_set ?_ GE141.out) | exact HB.out)))
                                    rintro e w40 ⟨rfl, hb⟩
                                    refine ⟨_, rfl, ?_⟩
                                    have n0_ := Aside0.mk (blk_below (g := gb134) (o := .cells #[.int .i64 0, .int .i64 0, .int .i64 0, .int .i64 0, .int .i64 0, .int .i64 0] 43 (0, 0)) (by (with_reducible repeat (first | refine blk_drewN ?_ _ | refine blk_drew ?_ | refine blk_alloc ?_ _)); exact BK134.out) hb)
                                    have n1_ := Aside0.mk (blk_below (g := gb141) (o := .cells #[.int .i64 t135, .int .i64 t136, .int .i64 t137, .int .i64 t138, .int .i64 t139, .int .i64 t140] 43 (0, 0)) (by (with_reducible repeat (first | refine blk_drewN ?_ _ | refine blk_drew ?_ | refine blk_alloc ?_ _)); exact BK141.out) hb)
                                    have n2_ := Aside0.mk (below_step (by repeat (first | (with_reducible first | exact HB.out | apply below_alloc | apply pw_below_drewN | apply below_drew1 | refine below_set ?_ GE134.out | refine below_set ?_ GE141.out) | exact HB.out)) hb)
                                    clear BK134
                                    clear BK141
                                    clear HB
                                    have BK134 := n0_
                                    have BK141 := n1_
                                    have HB := n2_
                                    clear n0_ n1_ n2_
                                    (try clear hb)
                                    (try clear hb2)
                                    (try clear hk)
                                    (try clear hi)
                                    refine hK.out _ _ ⟨(blk_cell BK141.out 0).trans rfl, (blk_cell BK141.out 1).trans rfl, (blk_cell BK141.out 2).trans rfl, (blk_cell BK141.out 3).trans rfl, (blk_cell BK141.out 4).trans rfl, (blk_cell BK141.out 5).trans rfl⟩ (fun hHeld => ?_)
                                    clear hK K
                                    refine norm_ (a' := ?_) ?_ ?_
                                    rotate_left
                                    · show Act.put _ (some 33) _ = _
                                      simp only [Act.put, List.setIfInBounds_toArray, List.set_cons_zero, List.set_cons_succ, i64_w, i32_w]
                                      rfl
                                    refine pure_ (i := 8) (N := some 36) (v := ?_) (a' := ?_) #[true, true, true, true, true, true, true, true, true, false] rfl rfl (any_of HT_.out (by kernel_rfl)) (fun _ _ _ h => h) (Or.inl ⟨by rfl, ?_⟩) ?_ ?_
                                    rotate_left
                                    · intro w'
                                      go_simp
                                      with_reducible rfl
                                    rotate_left
                                    · simp only [Act.put, List.setIfInBounds_toArray, List.set_cons_zero, List.set_cons_succ, i64_w, i32_w]
                                      rfl
                                    refine pure_ (i := 9) (N := some 37) (v := ?_) (a' := ?_) #[true, true, true, true, true, true, true, true, true, true] rfl rfl (any_of HT_.out (by kernel_rfl)) (fun _ _ _ h => h) (Or.inl ⟨by rfl, ?_⟩) ?_ ?_
                                    rotate_left
                                    · intro w'
                                      go_simp
                                      with_reducible rfl
                                    rotate_left
                                    · simp only [Act.put, List.setIfInBounds_toArray, List.set_cons_zero, List.set_cons_succ, i64_w, i32_w]
                                      rfl
                                    refine done_ (done_of HT_.out (by kernel_rfl)) ?_
                                    have hnb41 := NB141_134.out
                                    have hnc41 := NB134_141.out
                                    have hcz42_0 : w40.cell? ⟨gb141, 0, none⟩ = some (.int .i64 t135) := (blk_cell BK141.out 0).trans rfl
                                    have hcz42_1 : w40.cell? ⟨gb141, 1, none⟩ = some (.int .i64 t136) := (blk_cell BK141.out 1).trans rfl
                                    have hcz42_2 : w40.cell? ⟨gb141, 2, none⟩ = some (.int .i64 t137) := (blk_cell BK141.out 2).trans rfl
                                    have hcz42_3 : w40.cell? ⟨gb141, 3, none⟩ = some (.int .i64 t138) := (blk_cell BK141.out 3).trans rfl
                                    have hcz42_4 : w40.cell? ⟨gb141, 4, none⟩ = some (.int .i64 t139) := (blk_cell BK141.out 4).trans rfl
                                    have hcz42_5 : w40.cell? ⟨gb141, 5, none⟩ = some (.int .i64 t140) := (blk_cell BK141.out 5).trans rfl
                                    have hfz42_0 := blk_frozen BK141.out 0
                                    have hfz42_1 := blk_frozen BK141.out 1
                                    have hfz42_2 := blk_frozen BK141.out 2
                                    have hfz42_3 := blk_frozen BK141.out 3
                                    have hfz42_4 := blk_frozen BK141.out 4
                                    have hfz42_5 := blk_frozen BK141.out 5
                                    have hcz43_0 : w40.cell? ⟨gb134, 0, none⟩ = some (.int .i64 0) := (blk_cell BK134.out 0).trans rfl
                                    have hcz43_1 : w40.cell? ⟨gb134, 1, none⟩ = some (.int .i64 0) := (blk_cell BK134.out 1).trans rfl
                                    have hcz43_2 : w40.cell? ⟨gb134, 2, none⟩ = some (.int .i64 0) := (blk_cell BK134.out 2).trans rfl
                                    have hcz43_3 : w40.cell? ⟨gb134, 3, none⟩ = some (.int .i64 0) := (blk_cell BK134.out 3).trans rfl
                                    have hcz43_4 : w40.cell? ⟨gb134, 4, none⟩ = some (.int .i64 0) := (blk_cell BK134.out 4).trans rfl
                                    have hcz43_5 : w40.cell? ⟨gb134, 5, none⟩ = some (.int .i64 0) := (blk_cell BK134.out 5).trans rfl
                                    have hfz43_0 := blk_frozen BK134.out 0
                                    have hfz43_1 := blk_frozen BK134.out 1
                                    have hfz43_2 := blk_frozen BK134.out 2
                                    have hfz43_3 := blk_frozen BK134.out 3
                                    have hfz43_4 := blk_frozen BK134.out 4
                                    have hfz43_5 := blk_frozen BK134.out 5
                                    try go_wp2
                                    refine bodyPost_ret (results_ct rfl _ _ gb134 43 #[.int .i64 t135, .int .i64 t136, .int .i64 t137, .int .i64 t138, .int .i64 t139, .int .i64 t140] (0, 0) _ rfl (by (with_reducible repeat (first | refine blk_drewN ?_ _ | refine blk_drew ?_ | refine blk_alloc ?_ _)); refine blk_put (cs := #[.int .i64 t135, .int .i64 t136, .int .i64 t137, .int .i64 t138, .int .i64 t139, .int .i64 0]) ?_ 5 _ rfl; (with_reducible repeat (first | refine blk_drewN ?_ _ | refine blk_drew ?_ | refine blk_alloc ?_ _)); refine blk_put (cs := #[.int .i64 t135, .int .i64 t136, .int .i64 t137, .int .i64 t138, .int .i64 0, .int .i64 0]) ?_ 4 _ rfl; (with_reducible repeat (first | refine blk_drewN ?_ _ | refine blk_drew ?_ | refine blk_alloc ?_ _)); refine blk_put (cs := #[.int .i64 t135, .int .i64 t136, .int .i64 t137, .int .i64 0, .int .i64 0, .int .i64 0]) ?_ 3 _ rfl; (with_reducible repeat (first | refine blk_drewN ?_ _ | refine blk_drew ?_ | refine blk_alloc ?_ _)); refine blk_put (cs := #[.int .i64 t135, .int .i64 t136, .int .i64 0, .int .i64 0, .int .i64 0, .int .i64 0]) ?_ 2 _ rfl; (with_reducible repeat (first | refine blk_drewN ?_ _ | refine blk_drew ?_ | refine blk_alloc ?_ _)); refine blk_put (cs := #[.int .i64 t135, .int .i64 0, .int .i64 0, .int .i64 0, .int .i64 0, .int .i64 0]) ?_ 1 _ rfl; (with_reducible repeat (first | refine blk_drewN ?_ _ | refine blk_drew ?_ | refine blk_alloc ?_ _)); refine blk_put (cs := #[.int .i64 0, .int .i64 0, .int .i64 0, .int .i64 0, .int .i64 0, .int .i64 0]) ?_ 0 _ rfl; (with_reducible repeat (first | refine blk_drewN ?_ _ | refine blk_drew ?_ | refine blk_alloc ?_ _)); exact BK134.out) Tryd.underlying43 rfl (by kernel_rfl)) rfl ?_
                                    exact ⟨by first | rfl | (simp [errW_none, errW_some] <;> rfl) | (simp [*, errW_none, errW_some] <;> rfl), by repeat (first | (with_reducible first | exact HB.out | apply below_alloc | apply pw_below_drewN | apply below_drew1 | refine below_set ?_ GE134.out | refine below_set ?_ GE141.out) | exact HB.out)⟩
                                  · rw [if_neg c26] at H
                                    have c26b0 : (t143.toList == (a0.extract 0 64).toList) = false := beq_eq_false_iff_ne.mpr c26
                                    have c26b1 : (t143.toList != (a0.extract 0 64).toList) = true := bne_iff_ne.mpr c26
                                    simp only [Option.some.injEq, Prod.mk.injEq] at H
                                    obtain ⟨rfl, rfl, rfl, rfl, rfl, rfl, rfl⟩ := H
                                    try go_wp2
                                    have n0_ : Aside0 (((((((w30.setCell ⟨gb141, 0, none⟩ (.int .i64 t135)).setCell ⟨gb141, 1, none⟩ (.int .i64 t136)).setCell ⟨gb141, 2, none⟩ (.int .i64 t137)).setCell ⟨gb141, 3, none⟩ (.int .i64 t138)).setCell ⟨gb141, 4, none⟩ (.int .i64 t139)).setCell ⟨gb141, 5, none⟩ (.int .i64 t140)).heap[gb134]? = some (.cells #[.int .i64 0, .int .i64 0, .int .i64 0, .int .i64 0, .int .i64 0, .int .i64 0] 43 (0, 0))) := ⟨by (with_reducible repeat (first | refine blk_drewN ?_ _ | refine blk_drew ?_ | refine blk_alloc ?_ _)); refine blk_far ?_ NB134_141.out _; (with_reducible repeat (first | refine blk_drewN ?_ _ | refine blk_drew ?_ | refine blk_alloc ?_ _)); refine blk_far ?_ NB134_141.out _; (with_reducible repeat (first | refine blk_drewN ?_ _ | refine blk_drew ?_ | refine blk_alloc ?_ _)); refine blk_far ?_ NB134_141.out _; (with_reducible repeat (first | refine blk_drewN ?_ _ | refine blk_drew ?_ | refine blk_alloc ?_ _)); refine blk_far ?_ NB134_141.out _; (with_reducible repeat (first | refine blk_drewN ?_ _ | refine blk_drew ?_ | refine blk_alloc ?_ _)); refine blk_far ?_ NB134_141.out _; (with_reducible repeat (first | refine blk_drewN ?_ _ | refine blk_drew ?_ | refine blk_alloc ?_ _)); refine blk_far ?_ NB134_141.out _; (with_reducible repeat (first | refine blk_drewN ?_ _ | refine blk_drew ?_ | refine blk_alloc ?_ _)); exact BK134.out⟩
                                    have n1_ : Aside0 (((((((w30.setCell ⟨gb141, 0, none⟩ (.int .i64 t135)).setCell ⟨gb141, 1, none⟩ (.int .i64 t136)).setCell ⟨gb141, 2, none⟩ (.int .i64 t137)).setCell ⟨gb141, 3, none⟩ (.int .i64 t138)).setCell ⟨gb141, 4, none⟩ (.int .i64 t139)).setCell ⟨gb141, 5, none⟩ (.int .i64 t140)).heap[gb141]? = some (.cells #[.int .i64 t135, .int .i64 t136, .int .i64 t137, .int .i64 t138, .int .i64 t139, .int .i64 t140] 43 (0, 0))) := ⟨by (with_reducible repeat (first | refine blk_drewN ?_ _ | refine blk_drew ?_ | refine blk_alloc ?_ _)); refine blk_put (cs := #[.int .i64 t135, .int .i64 t136, .int .i64 t137, .int .i64 t138, .int .i64 t139, .int .i64 0]) ?_ 5 _ rfl; (with_reducible repeat (first | refine blk_drewN ?_ _ | refine blk_drew ?_ | refine blk_alloc ?_ _)); refine blk_put (cs := #[.int .i64 t135, .int .i64 t136, .int .i64 t137, .int .i64 t138, .int .i64 0, .int .i64 0]) ?_ 4 _ rfl; (with_reducible repeat (first | refine blk_drewN ?_ _ | refine blk_drew ?_ | refine blk_alloc ?_ _)); refine blk_put (cs := #[.int .i64 t135, .int .i64 t136, .int .i64 t137, .int .i64 0, .int .i64 0, .int .i64 0]) ?_ 3 _ rfl; (with_reducible repeat (first | refine blk_drewN ?_ _ | refine blk_drew ?_ | refine blk_alloc ?_ _)); refine blk_put (cs := #[.int .i64 t135, .int .i64 t136, .int .i64 0, .int .i64 0, .int .i64 0, .int .i64 0]) ?_ 2 _ rfl; (with_reducible repeat (first | refine blk_drewN ?_ _ | refine blk_drew ?_ | refine blk_alloc ?_ _)); refine blk_put (cs := #[.int .i64 t135, .int .i64 0, .int .i64 0, .int .i64 0, .int .i64 0, .int .i64 0]) ?_ 1 _ rfl; (with_reducible repeat (first | refine blk_drewN ?_ _ | refine blk_drew ?_ | refine blk_alloc ?_ _)); refine blk_put (cs := #[.int .i64 0, .int .i64 0, .int .i64 0, .int .i64 0, .int .i64 0, .int .i64 0]) ?_ 0 _ rfl; (with_reducible repeat (first | refine blk_drewN ?_ _ | refine blk_drew ?_ | refine blk_alloc ?_ _)); exact BK141.out⟩
                                    have n2_ : Aside0 (Below w.heap.size w ((((((w30.setCell ⟨gb141, 0, none⟩ (.int .i64 t135)).setCell ⟨gb141, 1, none⟩ (.int .i64 t136)).setCell ⟨gb141, 2, none⟩ (.int .i64 t137)).setCell ⟨gb141, 3, none⟩ (.int .i64 t138)).setCell ⟨gb141, 4, none⟩ (.int .i64 t139)).setCell ⟨gb141, 5, none⟩ (.int .i64 t140))) := ⟨by repeat (first | (with_reducible first | exact HB.out | apply below_alloc | apply pw_below_drewN | apply below_drew1 | refine below_set ?_ GE134.out | refine below_set ?_ GE141.out) | exact HB.out)⟩
                                    (try clear BK134)
                                    (try clear BK141)
                                    (try clear HB)
                                    generalize ((((((w30.setCell ⟨gb141, 0, none⟩ (.int .i64 t135)).setCell ⟨gb141, 1, none⟩ (.int .i64 t136)).setCell ⟨gb141, 2, none⟩ (.int .i64 t137)).setCell ⟨gb141, 3, none⟩ (.int .i64 t138)).setCell ⟨gb141, 4, none⟩ (.int .i64 t139)).setCell ⟨gb141, 5, none⟩ (.int .i64 t140)) = w54 at n0_ n1_ n2_ ⊢
                                    have BK134 := n0_
                                    have BK141 := n1_
                                    have HB := n2_
                                    clear n0_ n1_ n2_
                                    have n0_ := Aside0.mk (blk_drew BK134.out)
                                    have n1_ := Aside0.mk (blk_drew BK141.out)
                                    have n2_ := Aside0.mk (below_drew1 HB.out)
                                    clear BK134
                                    clear BK141
                                    clear HB
                                    have BK134 := n0_
                                    have BK141 := n1_
                                    have HB := n2_
                                    clear n0_ n1_ n2_
                                    refine start_ (n := 10) (S := fun w' => w'.cell? ⟨gb141, 0, none⟩ = some (.int .i64 t135) ∧ w'.cell? ⟨gb141, 1, none⟩ = some (.int .i64 t136) ∧ w'.cell? ⟨gb141, 2, none⟩ = some (.int .i64 t137) ∧ w'.cell? ⟨gb141, 3, none⟩ = some (.int .i64 t138) ∧ w'.cell? ⟨gb141, 4, none⟩ = some (.int .i64 t139) ∧ w'.cell? ⟨gb141, 5, none⟩ = some (.int .i64 t140)) (ds := []) #[false, false, false, false, false, false, false, false, false, false] (by kernel_rfl) rfl rfl ⟨(blk_cell BK141.out 0).trans rfl, (blk_cell BK141.out 1).trans rfl, (blk_cell BK141.out 2).trans rfl, (blk_cell BK141.out 3).trans rfl, (blk_cell BK141.out 4).trans rfl, (blk_cell BK141.out 5).trans rfl⟩ (fun hHeld => ?_); refine with_tabW super_Decode.tab4 super_Decode.bits4 (fun HT_ HW_ => ?_)
                                    generalize w54.drew = w55 at BK134 BK141 HB hHeld ⊢
                                    refine take_ (i := 0) (N := some 28) (v := ?_) (a' := ?_) #[true, false, false, false, false, false, false, false, false, false] rfl rfl (take_ofW HT_.out HW_.out (by kernel_rfl)) (fun _ _ _ h => h) (Or.inl ⟨by rfl, ?_⟩) hHeld ?_ ?_
                                    rotate_left
                                    · rintro w' ⟨s0, s1, s2, s3, s4, s5⟩
                                      go_simp
                                      with_reducible rfl
                                    rotate_left
                                    · simp only [Act.put, List.setIfInBounds_toArray, List.set_cons_zero, List.set_cons_succ, i64_w, i32_w]
                                      rfl
                                    refine one_ (i := 1) (N := some 29) #[true, true, false, false, false, false, false, false, false, false] rfl rfl (one_of HT_.out (by kernel_rfl)) (by decide) (fun K hK => ?_)
                                    refine goes_ Tryd.func24 (by kernel_rfl) rfl #[.agg #[.int .i64 t135, .int .i64 t136, .int .i64 t137, .int .i64 t138, .int .i64 t139, .int .i64 t140]] (by rfl) rfl rfl (by (try simp only [List.map_toArray, List.map_cons, List.map_nil]); first | done | rfl | (simp only [List.length_drop, List.length_take]; rfl)) ?_
                                    with_reducible refine (super_Good.calls t135 t136 t137 t138 t139 t140 true _ A21.out).mono ?_
                                    rintro e w56 ⟨rfl, hb⟩
                                    refine ⟨_, rfl, ?_⟩
                                    have n0_ := Aside0.mk (blk_below (g := gb134) (o := .cells #[.int .i64 0, .int .i64 0, .int .i64 0, .int .i64 0, .int .i64 0, .int .i64 0] 43 (0, 0)) (by (with_reducible repeat (first | refine blk_drewN ?_ _ | refine blk_drew ?_ | refine blk_alloc ?_ _)); exact BK134.out) hb)
                                    have n1_ := Aside0.mk (blk_below (g := gb141) (o := .cells #[.int .i64 t135, .int .i64 t136, .int .i64 t137, .int .i64 t138, .int .i64 t139, .int .i64 t140] 43 (0, 0)) (by (with_reducible repeat (first | refine blk_drewN ?_ _ | refine blk_drew ?_ | refine blk_alloc ?_ _)); exact BK141.out) hb)
                                    have n2_ := Aside0.mk (below_step (by repeat (first | (with_reducible first | exact HB.out | apply below_alloc | apply pw_below_drewN | apply below_drew1 | refine below_set ?_ GE134.out | refine below_set ?_ GE141.out) | exact HB.out)) hb)
                                    clear BK134
                                    clear BK141
                                    clear HB
                                    have BK134 := n0_
                                    have BK141 := n1_
                                    have HB := n2_
                                    clear n0_ n1_ n2_
                                    (try clear hb)
                                    (try clear hb2)
                                    (try clear hk)
                                    (try clear hi)
                                    refine hK.out _ _ ⟨(blk_cell BK141.out 0).trans rfl, (blk_cell BK141.out 1).trans rfl, (blk_cell BK141.out 2).trans rfl, (blk_cell BK141.out 3).trans rfl, (blk_cell BK141.out 4).trans rfl, (blk_cell BK141.out 5).trans rfl⟩ (fun hHeld => ?_)
                                    clear hK K
                                    refine norm_ (a' := ?_) ?_ ?_
                                    rotate_left
                                    · show Act.put _ (some 29) _ = _
                                      simp only [Act.put, List.setIfInBounds_toArray, List.set_cons_zero, List.set_cons_succ, i64_w, i32_w]
                                      rfl
                                    refine pure_ (i := 2) (N := some 30) (v := ?_) (a' := ?_) #[true, true, true, false, false, false, false, false, false, false] rfl rfl (any_of HT_.out (by kernel_rfl)) (fun _ _ _ h => h) (Or.inl ⟨by rfl, ?_⟩) ?_ ?_
                                    rotate_left
                                    · intro w'
                                      go_simp
                                      with_reducible rfl
                                    rotate_left
                                    · simp only [Act.put, List.setIfInBounds_toArray, List.set_cons_zero, List.set_cons_succ, i64_w, i32_w]
                                      rfl
                                    refine pure_ (i := 3) (N := some 31) (v := ?_) (a' := ?_) #[true, true, true, true, false, false, false, false, false, false] rfl rfl (any_of HT_.out (by kernel_rfl)) (fun _ _ _ h => h) (Or.inl ⟨by rfl, ?_⟩) ?_ ?_
                                    rotate_left
                                    · intro w'
                                      go_simp
                                      with_reducible rfl
                                    rotate_left
                                    · simp only [Act.put, List.setIfInBounds_toArray, List.set_cons_zero, List.set_cons_succ, i64_w, i32_w]
                                      rfl
                                    refine pure_ (i := 6) (N := some 34) (v := ?_) (a' := ?_) #[true, true, true, true, false, false, true, false, false, false] rfl rfl (any_of HT_.out (by kernel_rfl)) (fun _ _ _ h => h) (Or.inl ⟨by rfl, ?_⟩) ?_ ?_
                                    rotate_left
                                    · intro w'
                                      go_simp
                                      with_reducible rfl
                                    rotate_left
                                    · simp only [Act.put, List.setIfInBounds_toArray, List.set_cons_zero, List.set_cons_succ, i64_w, i32_w]
                                      rfl
                                    refine pure_ (i := 7) (N := some 35) (v := ?_) (a' := ?_) #[true, true, true, true, false, false, true, true, false, false] rfl rfl (any_of HT_.out (by kernel_rfl)) (fun _ _ _ h => h) (Or.inl ⟨by rfl, ?_⟩) ?_ ?_
                                    rotate_left
                                    · intro w'
                                      go_simp
                                      with_reducible rfl
                                    rotate_left
                                    · simp only [Act.put, List.setIfInBounds_toArray, List.set_cons_zero, List.set_cons_succ, i64_w, i32_w]
                                      rfl
                                    refine take_ (i := 4) (N := some 32) (v := ?_) (a' := ?_) #[true, true, true, true, true, false, true, true, false, false] rfl rfl (take_ofW HT_.out HW_.out (by kernel_rfl)) (fun _ _ _ h => h) (Or.inl ⟨by rfl, ?_⟩) hHeld ?_ ?_
                                    rotate_left
                                    · rintro w' ⟨s0, s1, s2, s3, s4, s5⟩
                                      go_simp
                                      with_reducible rfl
                                    rotate_left
                                    · simp only [Act.put, List.setIfInBounds_toArray, List.set_cons_zero, List.set_cons_succ, i64_w, i32_w]
                                      rfl
                                    refine one_ (i := 5) (N := some 33) #[true, true, true, true, true, true, true, true, false, false] rfl rfl (one_of HT_.out (by kernel_rfl)) (by decide) (fun K hK => ?_)
                                    refine goes_ Tryd.func37 (by kernel_rfl) rfl #[.agg #[.int .i64 t135, .int .i64 t136, .int .i64 t137, .int .i64 t138, .int .i64 t139, .int .i64 t140]] (by rfl) rfl rfl (by (try simp only [List.map_toArray, List.map_cons, List.map_nil]); first | done | rfl | (simp only [List.length_drop, List.length_take]; rfl)) ?_
                                    with_reducible refine (super_sector.calls k t135 t136 t137 t138 t139 t140 t143 _ ?side1 A23.out).mono ?_
                                    (case side1 => exact Glob.below HG.out (by repeat (first | (with_reducible first | exact HB.out | apply below_alloc | apply pw_below_drewN | apply below_drew1 | refine below_set ?_ GE134.out | refine below_set ?_ GE141.out) | exact HB.out)))
                                    rintro e w57 ⟨rfl, hb⟩
                                    refine ⟨_, rfl, ?_⟩
                                    have n0_ := Aside0.mk (blk_below (g := gb134) (o := .cells #[.int .i64 0, .int .i64 0, .int .i64 0, .int .i64 0, .int .i64 0, .int .i64 0] 43 (0, 0)) (by (with_reducible repeat (first | refine blk_drewN ?_ _ | refine blk_drew ?_ | refine blk_alloc ?_ _)); exact BK134.out) hb)
                                    have n1_ := Aside0.mk (blk_below (g := gb141) (o := .cells #[.int .i64 t135, .int .i64 t136, .int .i64 t137, .int .i64 t138, .int .i64 t139, .int .i64 t140] 43 (0, 0)) (by (with_reducible repeat (first | refine blk_drewN ?_ _ | refine blk_drew ?_ | refine blk_alloc ?_ _)); exact BK141.out) hb)
                                    have n2_ := Aside0.mk (below_step (by repeat (first | (with_reducible first | exact HB.out | apply below_alloc | apply pw_below_drewN | apply below_drew1 | refine below_set ?_ GE134.out | refine below_set ?_ GE141.out) | exact HB.out)) hb)
                                    clear BK134
                                    clear BK141
                                    clear HB
                                    have BK134 := n0_
                                    have BK141 := n1_
                                    have HB := n2_
                                    clear n0_ n1_ n2_
                                    (try clear hb)
                                    (try clear hb2)
                                    (try clear hk)
                                    (try clear hi)
                                    refine hK.out _ _ ⟨(blk_cell BK141.out 0).trans rfl, (blk_cell BK141.out 1).trans rfl, (blk_cell BK141.out 2).trans rfl, (blk_cell BK141.out 3).trans rfl, (blk_cell BK141.out 4).trans rfl, (blk_cell BK141.out 5).trans rfl⟩ (fun hHeld => ?_)
                                    clear hK K
                                    refine norm_ (a' := ?_) ?_ ?_
                                    rotate_left
                                    · show Act.put _ (some 33) _ = _
                                      simp only [Act.put, List.setIfInBounds_toArray, List.set_cons_zero, List.set_cons_succ, i64_w, i32_w]
                                      rfl
                                    refine pure_ (i := 8) (N := some 36) (v := ?_) (a' := ?_) #[true, true, true, true, true, true, true, true, true, false] rfl rfl (any_of HT_.out (by kernel_rfl)) (fun _ _ _ h => h) (Or.inl ⟨by rfl, ?_⟩) ?_ ?_
                                    rotate_left
                                    · intro w'
                                      go_simp
                                      with_reducible rfl
                                    rotate_left
                                    · simp only [Act.put, List.setIfInBounds_toArray, List.set_cons_zero, List.set_cons_succ, i64_w, i32_w]
                                      rfl
                                    refine pure_ (i := 9) (N := some 37) (v := ?_) (a' := ?_) #[true, true, true, true, true, true, true, true, true, true] rfl rfl (any_of HT_.out (by kernel_rfl)) (fun _ _ _ h => h) (Or.inl ⟨by rfl, ?_⟩) ?_ ?_
                                    rotate_left
                                    · intro w'
                                      go_simp
                                      with_reducible rfl
                                    rotate_left
                                    · simp only [Act.put, List.setIfInBounds_toArray, List.set_cons_zero, List.set_cons_succ, i64_w, i32_w]
                                      rfl
                                    refine done_ (done_of HT_.out (by kernel_rfl)) ?_
                                    have hnb58 := NB134_141.out
                                    have hnc58 := NB141_134.out
                                    have hcz59_0 : w57.cell? ⟨gb134, 0, none⟩ = some (.int .i64 0) := (blk_cell BK134.out 0).trans rfl
                                    have hcz59_1 : w57.cell? ⟨gb134, 1, none⟩ = some (.int .i64 0) := (blk_cell BK134.out 1).trans rfl
                                    have hcz59_2 : w57.cell? ⟨gb134, 2, none⟩ = some (.int .i64 0) := (blk_cell BK134.out 2).trans rfl
                                    have hcz59_3 : w57.cell? ⟨gb134, 3, none⟩ = some (.int .i64 0) := (blk_cell BK134.out 3).trans rfl
                                    have hcz59_4 : w57.cell? ⟨gb134, 4, none⟩ = some (.int .i64 0) := (blk_cell BK134.out 4).trans rfl
                                    have hcz59_5 : w57.cell? ⟨gb134, 5, none⟩ = some (.int .i64 0) := (blk_cell BK134.out 5).trans rfl
                                    have hfz59_0 := blk_frozen BK134.out 0
                                    have hfz59_1 := blk_frozen BK134.out 1
                                    have hfz59_2 := blk_frozen BK134.out 2
                                    have hfz59_3 := blk_frozen BK134.out 3
                                    have hfz59_4 := blk_frozen BK134.out 4
                                    have hfz59_5 := blk_frozen BK134.out 5
                                    try go_wp2
                                    refine bodyPost_ret (results_ct rfl _ _ gb134 43 #[.int .i64 0, .int .i64 0, .int .i64 0, .int .i64 0, .int .i64 0, .int .i64 0] (0, 0) _ rfl (by (with_reducible repeat (first | refine blk_drewN ?_ _ | refine blk_drew ?_ | refine blk_alloc ?_ _)); refine blk_put (cs := #[.int .i64 0, .int .i64 0, .int .i64 0, .int .i64 0, .int .i64 0, .int .i64 0]) ?_ 5 _ rfl; (with_reducible repeat (first | refine blk_drewN ?_ _ | refine blk_drew ?_ | refine blk_alloc ?_ _)); refine blk_put (cs := #[.int .i64 0, .int .i64 0, .int .i64 0, .int .i64 0, .int .i64 0, .int .i64 0]) ?_ 4 _ rfl; (with_reducible repeat (first | refine blk_drewN ?_ _ | refine blk_drew ?_ | refine blk_alloc ?_ _)); refine blk_put (cs := #[.int .i64 0, .int .i64 0, .int .i64 0, .int .i64 0, .int .i64 0, .int .i64 0]) ?_ 3 _ rfl; (with_reducible repeat (first | refine blk_drewN ?_ _ | refine blk_drew ?_ | refine blk_alloc ?_ _)); refine blk_put (cs := #[.int .i64 0, .int .i64 0, .int .i64 0, .int .i64 0, .int .i64 0, .int .i64 0]) ?_ 2 _ rfl; (with_reducible repeat (first | refine blk_drewN ?_ _ | refine blk_drew ?_ | refine blk_alloc ?_ _)); refine blk_put (cs := #[.int .i64 0, .int .i64 0, .int .i64 0, .int .i64 0, .int .i64 0, .int .i64 0]) ?_ 1 _ rfl; (with_reducible repeat (first | refine blk_drewN ?_ _ | refine blk_drew ?_ | refine blk_alloc ?_ _)); refine blk_put (cs := #[.int .i64 0, .int .i64 0, .int .i64 0, .int .i64 0, .int .i64 0, .int .i64 0]) ?_ 0 _ rfl; (with_reducible repeat (first | refine blk_drewN ?_ _ | refine blk_drew ?_ | refine blk_alloc ?_ _)); exact BK134.out) Tryd.underlying43 rfl (by kernel_rfl)) rfl ?_
                                    exact ⟨by first | rfl | (simp [errW_none, errW_some] <;> rfl) | (simp [*, errW_none, errW_some] <;> rfl), by repeat (first | (with_reducible first | exact HB.out | apply below_alloc | apply pw_below_drewN | apply below_drew1 | refine below_set ?_ GE134.out | refine below_set ?_ GE141.out) | exact HB.out)⟩
                                · rw [if_neg c25] at H
                                  exact absurd H (by simp)
                              · rw [if_neg c24] at H
                                exact absurd H (by simp)
                            · replace c22 := Bool.eq_false_iff.mpr c22
                              subst c22
                              have H1 : (some (0, 0, 0, 0, 0, 0, false)) = some (r1, r2, r3, r4, r5, r6, r7) := by rw [if_neg (show ¬ (false = true) by decide)] at H; exact H
                              clear H
                              have H := H1
                              clear H1
                              simp only [Option.some.injEq, Prod.mk.injEq] at H
                              obtain ⟨rfl, rfl, rfl, rfl, rfl, rfl, rfl⟩ := H
                              try go_wp2
                              have n0_ : Aside0 (((((((w30.setCell ⟨gb141, 0, none⟩ (.int .i64 t135)).setCell ⟨gb141, 1, none⟩ (.int .i64 t136)).setCell ⟨gb141, 2, none⟩ (.int .i64 t137)).setCell ⟨gb141, 3, none⟩ (.int .i64 t138)).setCell ⟨gb141, 4, none⟩ (.int .i64 t139)).setCell ⟨gb141, 5, none⟩ (.int .i64 t140)).heap[gb134]? = some (.cells #[.int .i64 0, .int .i64 0, .int .i64 0, .int .i64 0, .int .i64 0, .int .i64 0] 43 (0, 0))) := ⟨by (with_reducible repeat (first | refine blk_drewN ?_ _ | refine blk_drew ?_ | refine blk_alloc ?_ _)); refine blk_far ?_ NB134_141.out _; (with_reducible repeat (first | refine blk_drewN ?_ _ | refine blk_drew ?_ | refine blk_alloc ?_ _)); refine blk_far ?_ NB134_141.out _; (with_reducible repeat (first | refine blk_drewN ?_ _ | refine blk_drew ?_ | refine blk_alloc ?_ _)); refine blk_far ?_ NB134_141.out _; (with_reducible repeat (first | refine blk_drewN ?_ _ | refine blk_drew ?_ | refine blk_alloc ?_ _)); refine blk_far ?_ NB134_141.out _; (with_reducible repeat (first | refine blk_drewN ?_ _ | refine blk_drew ?_ | refine blk_alloc ?_ _)); refine blk_far ?_ NB134_141.out _; (with_reducible repeat (first | refine blk_drewN ?_ _ | refine blk_drew ?_ | refine blk_alloc ?_ _)); refine blk_far ?_ NB134_141.out _; (with_reducible repeat (first | refine blk_drewN ?_ _ | refine blk_drew ?_ | refine blk_alloc ?_ _)); exact BK134.out⟩
                              have n1_ : Aside0 (((((((w30.setCell ⟨gb141, 0, none⟩ (.int .i64 t135)).setCell ⟨gb141, 1, none⟩ (.int .i64 t136)).setCell ⟨gb141, 2, none⟩ (.int .i64 t137)).setCell ⟨gb141, 3, none⟩ (.int .i64 t138)).setCell ⟨gb141, 4, none⟩ (.int .i64 t139)).setCell ⟨gb141, 5, none⟩ (.int .i64 t140)).heap[gb141]? = some (.cells #[.int .i64 t135, .int .i64 t136, .int .i64 t137, .int .i64 t138, .int .i64 t139, .int .i64 t140] 43 (0, 0))) := ⟨by (with_reducible repeat (first | refine blk_drewN ?_ _ | refine blk_drew ?_ | refine blk_alloc ?_ _)); refine blk_put (cs := #[.int .i64 t135, .int .i64 t136, .int .i64 t137, .int .i64 t138, .int .i64 t139, .int .i64 0]) ?_ 5 _ rfl; (with_reducible repeat (first | refine blk_drewN ?_ _ | refine blk_drew ?_ | refine blk_alloc ?_ _)); refine blk_put (cs := #[.int .i64 t135, .int .i64 t136, .int .i64 t137, .int .i64 t138, .int .i64 0, .int .i64 0]) ?_ 4 _ rfl; (with_reducible repeat (first | refine blk_drewN ?_ _ | refine blk_drew ?_ | refine blk_alloc ?_ _)); refine blk_put (cs := #[.int .i64 t135, .int .i64 t136, .int .i64 t137, .int .i64 0, .int .i64 0, .int .i64 0]) ?_ 3 _ rfl; (with_reducible repeat (first | refine blk_drewN ?_ _ | refine blk_drew ?_ | refine blk_alloc ?_ _)); refine blk_put (cs := #[.int .i64 t135, .int .i64 t136, .int .i64 0, .int .i64 0, .int .i64 0, .int .i64 0]) ?_ 2 _ rfl; (with_reducible repeat (first | refine blk_drewN ?_ _ | refine blk_drew ?_ | refine blk_alloc ?_ _)); refine blk_put (cs := #[.int .i64 t135, .int .i64 0, .int .i64 0, .int .i64 0, .int .i64 0, .int .i64 0]) ?_ 1 _ rfl; (with_reducible repeat (first | refine blk_drewN ?_ _ | refine blk_drew ?_ | refine blk_alloc ?_ _)); refine blk_put (cs := #[.int .i64 0, .int .i64 0, .int .i64 0, .int .i64 0, .int .i64 0, .int .i64 0]) ?_ 0 _ rfl; (with_reducible repeat (first | refine blk_drewN ?_ _ | refine blk_drew ?_ | refine blk_alloc ?_ _)); exact BK141.out⟩
                              have n2_ : Aside0 (Below w.heap.size w ((((((w30.setCell ⟨gb141, 0, none⟩ (.int .i64 t135)).setCell ⟨gb141, 1, none⟩ (.int .i64 t136)).setCell ⟨gb141, 2, none⟩ (.int .i64 t137)).setCell ⟨gb141, 3, none⟩ (.int .i64 t138)).setCell ⟨gb141, 4, none⟩ (.int .i64 t139)).setCell ⟨gb141, 5, none⟩ (.int .i64 t140))) := ⟨by repeat (first | (with_reducible first | exact HB.out | apply below_alloc | apply pw_below_drewN | apply below_drew1 | refine below_set ?_ GE134.out | refine below_set ?_ GE141.out) | exact HB.out)⟩
                              (try clear BK134)
                              (try clear BK141)
                              (try clear HB)
                              generalize ((((((w30.setCell ⟨gb141, 0, none⟩ (.int .i64 t135)).setCell ⟨gb141, 1, none⟩ (.int .i64 t136)).setCell ⟨gb141, 2, none⟩ (.int .i64 t137)).setCell ⟨gb141, 3, none⟩ (.int .i64 t138)).setCell ⟨gb141, 4, none⟩ (.int .i64 t139)).setCell ⟨gb141, 5, none⟩ (.int .i64 t140)) = w70 at n0_ n1_ n2_ ⊢
                              have BK134 := n0_
                              have BK141 := n1_
                              have HB := n2_
                              clear n0_ n1_ n2_
                              have n0_ := Aside0.mk (blk_drew BK134.out)
                              have n1_ := Aside0.mk (blk_drew BK141.out)
                              have n2_ := Aside0.mk (below_drew1 HB.out)
                              clear BK134
                              clear BK141
                              clear HB
                              have BK134 := n0_
                              have BK141 := n1_
                              have HB := n2_
                              clear n0_ n1_ n2_
                              refine start_ (n := 10) (S := fun w' => w'.cell? ⟨gb141, 0, none⟩ = some (.int .i64 t135) ∧ w'.cell? ⟨gb141, 1, none⟩ = some (.int .i64 t136) ∧ w'.cell? ⟨gb141, 2, none⟩ = some (.int .i64 t137) ∧ w'.cell? ⟨gb141, 3, none⟩ = some (.int .i64 t138) ∧ w'.cell? ⟨gb141, 4, none⟩ = some (.int .i64 t139) ∧ w'.cell? ⟨gb141, 5, none⟩ = some (.int .i64 t140)) (ds := []) #[false, false, false, false, false, false, false, false, false, false] (by kernel_rfl) rfl rfl ⟨(blk_cell BK141.out 0).trans rfl, (blk_cell BK141.out 1).trans rfl, (blk_cell BK141.out 2).trans rfl, (blk_cell BK141.out 3).trans rfl, (blk_cell BK141.out 4).trans rfl, (blk_cell BK141.out 5).trans rfl⟩ (fun hHeld => ?_); refine with_tabW super_Decode.tab4 super_Decode.bits4 (fun HT_ HW_ => ?_)
                              generalize w70.drew = w71 at BK134 BK141 HB hHeld ⊢
                              refine take_ (i := 0) (N := some 28) (v := ?_) (a' := ?_) #[true, false, false, false, false, false, false, false, false, false] rfl rfl (take_ofW HT_.out HW_.out (by kernel_rfl)) (fun _ _ _ h => h) (Or.inl ⟨by rfl, ?_⟩) hHeld ?_ ?_
                              rotate_left
                              · rintro w' ⟨s0, s1, s2, s3, s4, s5⟩
                                go_simp
                                with_reducible rfl
                              rotate_left
                              · simp only [Act.put, List.setIfInBounds_toArray, List.set_cons_zero, List.set_cons_succ, i64_w, i32_w]
                                rfl
                              refine one_ (i := 1) (N := some 29) #[true, true, false, false, false, false, false, false, false, false] rfl rfl (one_of HT_.out (by kernel_rfl)) (by decide) (fun K hK => ?_)
                              refine goes_ Tryd.func24 (by kernel_rfl) rfl #[.agg #[.int .i64 t135, .int .i64 t136, .int .i64 t137, .int .i64 t138, .int .i64 t139, .int .i64 t140]] (by rfl) rfl rfl (by (try simp only [List.map_toArray, List.map_cons, List.map_nil]); first | done | rfl | (simp only [List.length_drop, List.length_take]; rfl)) ?_
                              with_reducible refine (super_Good.calls t135 t136 t137 t138 t139 t140 false _ A21.out).mono ?_
                              rintro e w72 ⟨rfl, hb⟩
                              refine ⟨_, rfl, ?_⟩
                              have n0_ := Aside0.mk (blk_below (g := gb134) (o := .cells #[.int .i64 0, .int .i64 0, .int .i64 0, .int .i64 0, .int .i64 0, .int .i64 0] 43 (0, 0)) (by (with_reducible repeat (first | refine blk_drewN ?_ _ | refine blk_drew ?_ | refine blk_alloc ?_ _)); exact BK134.out) hb)
                              have n1_ := Aside0.mk (blk_below (g := gb141) (o := .cells #[.int .i64 t135, .int .i64 t136, .int .i64 t137, .int .i64 t138, .int .i64 t139, .int .i64 t140] 43 (0, 0)) (by (with_reducible repeat (first | refine blk_drewN ?_ _ | refine blk_drew ?_ | refine blk_alloc ?_ _)); exact BK141.out) hb)
                              have n2_ := Aside0.mk (below_step (by repeat (first | (with_reducible first | exact HB.out | apply below_alloc | apply pw_below_drewN | apply below_drew1 | refine below_set ?_ GE134.out | refine below_set ?_ GE141.out) | exact HB.out)) hb)
                              clear BK134
                              clear BK141
                              clear HB
                              have BK134 := n0_
                              have BK141 := n1_
                              have HB := n2_
                              clear n0_ n1_ n2_
                              (try clear hb)
                              (try clear hb2)
                              (try clear hk)
                              (try clear hi)
                              refine hK.out _ _ ⟨(blk_cell BK141.out 0).trans rfl, (blk_cell BK141.out 1).trans rfl, (blk_cell BK141.out 2).trans rfl, (blk_cell BK141.out 3).trans rfl, (blk_cell BK141.out 4).trans rfl, (blk_cell BK141.out 5).trans rfl⟩ (fun hHeld => ?_)
                              clear hK K
                              refine norm_ (a' := ?_) ?_ ?_
                              rotate_left
                              · show Act.put _ (some 29) _ = _
                                simp only [Act.put, List.setIfInBounds_toArray, List.set_cons_zero, List.set_cons_succ, i64_w, i32_w]
                                rfl
                              refine pure_ (i := 2) (N := some 30) (v := ?_) (a' := ?_) #[true, true, true, false, false, false, false, false, false, false] rfl rfl (any_of HT_.out (by kernel_rfl)) (fun _ _ _ h => h) (Or.inl ⟨by rfl, ?_⟩) ?_ ?_
                              rotate_left
                              · intro w'
                                go_simp
                                with_reducible rfl
                              rotate_left
                              · simp only [Act.put, List.setIfInBounds_toArray, List.set_cons_zero, List.set_cons_succ, i64_w, i32_w]
                                rfl
                              refine pure_ (i := 3) (N := some 31) (v := ?_) (a' := ?_) #[true, true, true, true, false, false, false, false, false, false] rfl rfl (any_of HT_.out (by kernel_rfl)) (fun _ _ _ h => h) (Or.inl ⟨by rfl, ?_⟩) ?_ ?_
                              rotate_left
                              · intro w'
                                go_simp
                                with_reducible rfl
                              rotate_left
                              · simp only [Act.put, List.setIfInBounds_toArray, List.set_cons_zero, List.set_cons_succ, i64_w, i32_w]
                                rfl
                              refine pure_ (i := 4) (N := some 32) (v := undef) (a' := ?_) #[true, true, true, true, true, false, false, false, false, false] rfl rfl (any_of HT_.out (by kernel_rfl)) (fun _ _ _ h => h) (Or.inr ⟨by rfl, rfl⟩) ?_ ?_
                              rotate_left
                              · simp only [Act.put, List.setIfInBounds_toArray, List.set_cons_zero, List.set_cons_succ, i64_w, i32_w]
                                rfl
                              refine pure_ (i := 5) (N := some 33) (v := undef) (a' := ?_) #[true, true, true, true, true, true, false, false, false, false] rfl rfl (any_of HT_.out (by kernel_rfl)) (fun _ _ _ h => h) (Or.inr ⟨by rfl, rfl⟩) ?_ ?_
                              rotate_left
                              · simp only [Act.put, List.setIfInBounds_toArray, List.set_cons_zero, List.set_cons_succ, i64_w, i32_w]
                                rfl
                              refine pure_ (i := 6) (N := some 34) (v := undef) (a' := ?_) #[true, true, true, true, true, true, true, false, false, false] rfl rfl (any_of HT_.out (by kernel_rfl)) (fun _ _ _ h => h) (Or.inr ⟨by rfl, rfl⟩) ?_ ?_
                              rotate_left
                              · simp only [Act.put, List.setIfInBounds_toArray, List.set_cons_zero, List.set_cons_succ, i64_w, i32_w]
                                rfl
                              refine pure_ (i := 7) (N := some 35) (v := undef) (a' := ?_) #[true, true, true, true, true, true, true, true, false, false] rfl rfl (any_of HT_.out (by kernel_rfl)) (fun _ _ _ h => h) (Or.inr ⟨by rfl, rfl⟩) ?_ ?_
                              rotate_left
                              · simp only [Act.put, List.setIfInBounds_toArray, List.set_cons_zero, List.set_cons_succ, i64_w, i32_w]
                                rfl
                              refine pure_ (i := 8) (N := some 36) (v := undef) (a' := ?_) #[true, true, true, true, true, true, true, true, true, false] rfl rfl (any_of HT_.out (by kernel_rfl)) (fun _ _ _ h => h) (Or.inr ⟨by rfl, rfl⟩) ?_ ?_
                              rotate_left
                              · simp only [Act.put, List.setIfInBounds_toArray, List.set_cons_zero, List.set_cons_succ, i64_w, i32_w]
                                rfl
                              refine pure_ (i := 9) (N := some 37) (v := ?_) (a' := ?_) #[true, true, true, true, true, true, true, true, true, true] rfl rfl (any_of HT_.out (by kernel_rfl)) (fun _ _ _ h => h) (Or.inl ⟨by rfl, ?_⟩) ?_ ?_
                              rotate_left
                              · intro w'
                                go_simp
                                with_reducible rfl
                              rotate_left
                              · simp only [Act.put, List.setIfInBounds_toArray, List.set_cons_zero, List.set_cons_succ, i64_w, i32_w]
                                rfl
                              refine done_ (done_of HT_.out (by kernel_rfl)) ?_
                              have hnb73 := NB134_141.out
                              have hnc73 := NB141_134.out
                              have hcz74_0 : w72.cell? ⟨gb134, 0, none⟩ = some (.int .i64 0) := (blk_cell BK134.out 0).trans rfl
                              have hcz74_1 : w72.cell? ⟨gb134, 1, none⟩ = some (.int .i64 0) := (blk_cell BK134.out 1).trans rfl
                              have hcz74_2 : w72.cell? ⟨gb134, 2, none⟩ = some (.int .i64 0) := (blk_cell BK134.out 2).trans rfl
                              have hcz74_3 : w72.cell? ⟨gb134, 3, none⟩ = some (.int .i64 0) := (blk_cell BK134.out 3).trans rfl
                              have hcz74_4 : w72.cell? ⟨gb134, 4, none⟩ = some (.int .i64 0) := (blk_cell BK134.out 4).trans rfl
                              have hcz74_5 : w72.cell? ⟨gb134, 5, none⟩ = some (.int .i64 0) := (blk_cell BK134.out 5).trans rfl
                              have hfz74_0 := blk_frozen BK134.out 0
                              have hfz74_1 := blk_frozen BK134.out 1
                              have hfz74_2 := blk_frozen BK134.out 2
                              have hfz74_3 := blk_frozen BK134.out 3
                              have hfz74_4 := blk_frozen BK134.out 4
                              have hfz74_5 := blk_frozen BK134.out 5
                              try go_wp2
                              refine bodyPost_ret (results_ct rfl _ _ gb134 43 #[.int .i64 0, .int .i64 0, .int .i64 0, .int .i64 0, .int .i64 0, .int .i64 0] (0, 0) _ rfl (by (with_reducible repeat (first | refine blk_drewN ?_ _ | refine blk_drew ?_ | refine blk_alloc ?_ _)); refine blk_put (cs := #[.int .i64 0, .int .i64 0, .int .i64 0, .int .i64 0, .int .i64 0, .int .i64 0]) ?_ 5 _ rfl; (with_reducible repeat (first | refine blk_drewN ?_ _ | refine blk_drew ?_ | refine blk_alloc ?_ _)); refine blk_put (cs := #[.int .i64 0, .int .i64 0, .int .i64 0, .int .i64 0, .int .i64 0, .int .i64 0]) ?_ 4 _ rfl; (with_reducible repeat (first | refine blk_drewN ?_ _ | refine blk_drew ?_ | refine blk_alloc ?_ _)); refine blk_put (cs := #[.int .i64 0, .int .i64 0, .int .i64 0, .int .i64 0, .int .i64 0, .int .i64 0]) ?_ 3 _ rfl; (with_reducible repeat (first | refine blk_drewN ?_ _ | refine blk_drew ?_ | refine blk_alloc ?_ _)); refine blk_put (cs := #[.int .i64 0, .int .i64 0, .int .i64 0, .int .i64 0, .int .i64 0, .int .i64 0]) ?_ 2 _ rfl; (with_reducible repeat (first | refine blk_drewN ?_ _ | refine blk_drew ?_ | refine blk_alloc ?_ _)); refine blk_put (cs := #[.int .i64 0, .int .i64 0, .int .i64 0, .int .i64 0, .int .i64 0, .int .i64 0]) ?_ 1 _ rfl; (with_reducible repeat (first | refine blk_drewN ?_ _ | refine blk_drew ?_ | refine blk_alloc ?_ _)); refine blk_put (cs := #[.int .i64 0, .int .i64 0, .int .i64 0, .int .i64 0, .int .i64 0, .int .i64 0]) ?_ 0 _ rfl; (with_reducible repeat (first | refine blk_drewN ?_ _ | refine blk_drew ?_ | refine blk_alloc ?_ _)); exact BK134.out) Tryd.underlying43 rfl (by kernel_rfl)) rfl ?_
                              exact ⟨by first | rfl | (simp [errW_none, errW_some] <;> rfl) | (simp [*, errW_none, errW_some] <;> rfl), by repeat (first | (with_reducible first | exact HB.out | apply below_alloc | apply pw_below_drewN | apply below_drew1 | refine below_set ?_ GE134.out | refine below_set ?_ GE141.out) | exact HB.out)⟩
                          · rw [if_neg c19] at H
                            exact absurd H (by simp)
                        · rw [if_neg c18] at H
                          exact absurd H (by simp)
                      · rw [if_neg c16] at H
                        exact absurd H (by simp)
                    · rw [if_neg c15] at H
                      exact absurd H (by simp)
                  · rw [if_neg c13] at H
                    exact absurd H (by simp)
                · rw [if_neg c12] at H
                  exact absurd H (by simp)
              · rw [if_neg c10] at H
                exact absurd H (by simp)
            · rw [if_neg c9] at H
              exact absurd H (by simp)
          · rw [if_neg c7] at H
            exact absurd H (by simp)
        · rw [if_neg c6] at H
          exact absurd H (by simp)
      · rw [if_neg c4] at H
        exact absurd H (by simp)
    · rw [if_neg c3] at H
      exact absurd H (by simp)
  · rw [if_neg c2] at H
    have c2b0 : ((a0.size : Int) == 256) = false := beq_eq_false_iff_ne.mpr c2
    have c2b1 : ((a0.size : Int) != 256) = true := bne_iff_ne.mpr c2
    simp only [Option.some.injEq, Prod.mk.injEq] at H
    obtain ⟨rfl, rfl, rfl, rfl, rfl, rfl, rfl⟩ := H
    go_enter Tryd.func20, Tryd.ntmps20
    go_wp2_with (first | ((with_reducible refine gate_dst (N := 2) rfl ?_); refine box_event ?hg (N := 2) ?hd (cs := #[.int .i64 0, .int .i64 0, .int .i64 0, .int .i64 0, .int .i64 0, .int .i64 0]) (t := 43) ?hr ?_; (case hd => rfl); (case hg => rfl); (case hr => first | (go_simp; done) | (go_simp; rfl)); intro gb134 hg w75 hbox hb; have n0_ := Aside0.mk (below_step (by repeat (first | (with_reducible first | exact HB.out | apply below_alloc | apply pw_below_drewN | apply below_drew1) | exact HB.out)) hb); have n1_ := Aside0.mk (hbox); have n2_ := Aside0.mk ((by rw [hg]; exact (below_size (by repeat (first | (with_reducible first | exact HB.out | apply below_alloc | apply pw_below_drewN | apply below_drew1) | exact HB.out))) : w.heap.size ≤ gb134)); have n3_ := Aside0.mk ((by rw [hg]; exact (below_size (by repeat (first | (with_reducible first | exact HB.out | apply below_alloc | apply pw_below_drewN | apply below_drew1) | exact HB.out))) : w.heap.size ≤ gb134)); clear HB; have HB := n0_; have BK134 := n1_; have GW134 := n2_; have GE134 := n3_; clear n0_ n1_ n2_ n3_; clear hb hbox hg; have hcz76_0 : w75.cell? ⟨gb134, 0, none⟩ = some (.int .i64 0) := (blk_cell BK134.out 0).trans rfl; have hcz76_1 : w75.cell? ⟨gb134, 1, none⟩ = some (.int .i64 0) := (blk_cell BK134.out 1).trans rfl; have hcz76_2 : w75.cell? ⟨gb134, 2, none⟩ = some (.int .i64 0) := (blk_cell BK134.out 2).trans rfl; have hcz76_3 : w75.cell? ⟨gb134, 3, none⟩ = some (.int .i64 0) := (blk_cell BK134.out 3).trans rfl; have hcz76_4 : w75.cell? ⟨gb134, 4, none⟩ = some (.int .i64 0) := (blk_cell BK134.out 4).trans rfl; have hcz76_5 : w75.cell? ⟨gb134, 5, none⟩ = some (.int .i64 0) := (blk_cell BK134.out 5).trans rfl; have hfz76_0 := blk_frozen BK134.out 0; have hfz76_1 := blk_frozen BK134.out 1; have hfz76_2 := blk_frozen BK134.out 2; have hfz76_3 := blk_frozen BK134.out 3; have hfz76_4 := blk_frozen BK134.out 4; have hfz76_5 := blk_frozen BK134.out 5))
    refine bodyPost_ret (results_ct rfl _ _ gb134 43 #[.int .i64 0, .int .i64 0, .int .i64 0, .int .i64 0, .int .i64 0, .int .i64 0] (0, 0) _ rfl (by (with_reducible repeat (first | refine blk_drewN ?_ _ | refine blk_drew ?_ | refine blk_alloc ?_ _)); refine blk_put (cs := #[.int .i64 0, .int .i64 0, .int .i64 0, .int .i64 0, .int .i64 0, .int .i64 0]) ?_ 5 _ rfl; (with_reducible repeat (first | refine blk_drewN ?_ _ | refine blk_drew ?_ | refine blk_alloc ?_ _)); refine blk_put (cs := #[.int .i64 0, .int .i64 0, .int .i64 0, .int .i64 0, .int .i64 0, .int .i64 0]) ?_ 4 _ rfl; (with_reducible repeat (first | refine blk_drewN ?_ _ | refine blk_drew ?_ | refine blk_alloc ?_ _)); refine blk_put (cs := #[.int .i64 0, .int .i64 0, .int .i64 0, .int .i64 0, .int .i64 0, .int .i64 0]) ?_ 3 _ rfl; (with_reducible repeat (first | refine blk_drewN ?_ _ | refine blk_drew ?_ | refine blk_alloc ?_ _)); refine blk_put (cs := #[.int .i64 0, .int .i64 0, .int .i64 0, .int .i64 0, .int .i64 0, .int .i64 0]) ?_ 2 _ rfl; (with_reducible repeat (first | refine blk_drewN ?_ _ | refine blk_drew ?_ | refine blk_alloc ?_ _)); refine blk_put (cs := #[.int .i64 0, .int .i64 0, .int .i64 0, .int .i64 0, .int .i64 0, .int .i64 0]) ?_ 1 _ rfl; (with_reducible repeat (first | refine blk_drewN ?_ _ | refine blk_drew ?_ | refine blk_alloc ?_ _)); refine blk_put (cs := #[.int .i64 0, .int .i64 0, .int .i64 0, .int .i64 0, .int .i64 0, .int .i64 0]) ?_ 0 _ rfl; (with_reducible repeat (first | refine blk_drewN ?_ _ | refine blk_drew ?_ | refine blk_alloc ?_ _)); exact BK134.out) Tryd.underlying43 rfl (by kernel_rfl)) rfl ?_
    exact ⟨by first | rfl | (simp [errW_none, errW_some] <;> rfl) | (simp [*, errW_none, errW_some] <;> rfl), by repeat (first | (with_reducible first | exact HB.out | apply below_alloc | apply pw_below_drewN | apply below_drew1 | refine below_set ?_ GE134.out) | exact HB.out)⟩

end Go.Proofs.YtiajgmocmnjijaaDoor.PSup
