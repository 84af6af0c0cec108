-- Written by a program of this session for this seat. Not trusted: Lean checks it.
import Derived.Test.YtbphehijikdkjaaDoorPRngx0
import Derived.Test.YtbphehijikdkjaaDoorPRngx8
namespace Go.Proofs.YtbphehijikdkjaaDoor.PRng
open Go.RowKit Go.Proofs.YtbphehijikdkjaaDoorW.PrintWords Go.Proofs.YtbphehijikdkjaaDoorW.PrintLast Go.Proofs.YtbphehijikdkjaaDoorW.PrintMore
attribute [local go_sem] max2_int min2_int max_two min_two max_three min_three max_four min_four   -- for this text's walks alone
set_option linter.unusedVariables false
set_option linter.unusedSimpArgs false
open Go.Proofs.YtbphehijikdkjaaDoor.HW Go.Proofs.YtbphehijikdkjaaDoor.DgsB

/-! ### umbelref21_Decode: function 24 -/
mutual
def umbelref21_Decode.j0 : Nat → ByteArray → Bool → Option ((List (S49)) × Bool)
  | 0, _, _ => none
  | k + 1, x0, x18 => if x18 = true then (some (([] : List (S49)), false)) else (umbelref21_Decode.l0 k x0 ([] : List (S49)) 1)
def umbelref21_Decode.l0 : Nat → ByteArray → List (S49) → Int → Option ((List (S49)) × Bool)
  | 0, _, _, _ => none
  | k + 1, x0, x3, x4 => if x4 < (x0.size : Int) then (if 0 ≤ (wrap64 (x4 + 32)) then (if (wrap64 (x4 + 32)) ≤ (wrap64 (x4 + 38)) then (if (wrap64 (x4 + 38)) ≤ (x0.size : Int) then (if 0 ≤ x4 then (if x4 ≤ (wrap64 (x4 + 32)) then (if (wrap64 (x4 + 32)) ≤ (x0.size : Int) then (if 0 < ((x0.extract ((wrap64 (x4 + 32)) : Int).toNat ((wrap64 (x4 + 38)) : Int).toNat).size : Int) then (if 1 < ((x0.extract ((wrap64 (x4 + 32)) : Int).toNat ((wrap64 (x4 + 38)) : Int).toNat).size : Int) then (if 2 < ((x0.extract ((wrap64 (x4 + 32)) : Int).toNat ((wrap64 (x4 + 38)) : Int).toNat).size : Int) then (if 3 < ((x0.extract ((wrap64 (x4 + 32)) : Int).toNat ((wrap64 (x4 + 38)) : Int).toNat).size : Int) then (if 4 < ((x0.extract ((wrap64 (x4 + 32)) : Int).toNat ((wrap64 (x4 + 38)) : Int).toNat).size : Int) then (if 5 < ((x0.extract ((wrap64 (x4 + 32)) : Int).toNat ((wrap64 (x4 + 38)) : Int).toNat).size : Int) then (if x3.length < 4398046511104 then (umbelref21_Decode.l0 k x0 (x3 ++ [(⟨x0.extract (x4 : Int).toNat ((wrap64 (x4 + 32)) : Int).toNat, Go.bits .or .i64 (wrap64 ((wrap64 (bt (x0.extract ((wrap64 (x4 + 32)) : Int).toNat ((wrap64 (x4 + 38)) : Int).toNat) 0)) * 256)) (wrap64 (bt (x0.extract ((wrap64 (x4 + 32)) : Int).toNat ((wrap64 (x4 + 38)) : Int).toNat) 1)), Go.bits .or .i64 (Go.bits .or .i64 (Go.bits .or .i64 (wrap64 ((wrap64 (bt (x0.extract ((wrap64 (x4 + 32)) : Int).toNat ((wrap64 (x4 + 38)) : Int).toNat) 2)) * 16777216)) (wrap64 ((wrap64 (bt (x0.extract ((wrap64 (x4 + 32)) : Int).toNat ((wrap64 (x4 + 38)) : Int).toNat) 3)) * 65536))) (wrap64 ((wrap64 (bt (x0.extract ((wrap64 (x4 + 32)) : Int).toNat ((wrap64 (x4 + 38)) : Int).toNat) 4)) * 256))) (wrap64 (bt (x0.extract ((wrap64 (x4 + 32)) : Int).toNat ((wrap64 (x4 + 38)) : Int).toNat) 5))⟩ : S49)]) (wrap64 (x4 + 38))) else (none)) else (none)) else (none)) else (none)) else (none)) else (none)) else (none)) else (none)) else (none)) else (none)) else (none)) else (none)) else (none)) else ((umbelref21_Encode.f k x3).bind fun t203 => (if t203.toList = x0.toList then (some (x3, true)) else (some (([] : List (S49)), false))))
end
def umbelref21_Decode.f (k : Nat) (a0 : ByteArray) : Option ((List (S49)) × Bool) := if (a0.size : Int) < 1 then (umbelref21_Decode.j0 k a0 true) else (if 0 < (a0.size : Int) then (umbelref21_Decode.j0 k a0 ((a0.size : Int) != (wrap64 (1 + (wrap64 (38 * (wrap64 (bt a0 0)))))))) else (none))
def umbelref21_Decode.T8 : Bool × List (List Nat × List Nat) := (true, [([], []), ([], []), ([], []), ([], []), ([3], [3]), ([1, 2, 4], [1, 2, 4]), ([], []), ([6], [6]), ([7], [7]), ([8], [8]), ([], []), ([10], [10]), ([11], [11]), ([9, 12], [9, 12]), ([], []), ([14], [14]), ([15], [15]), ([16], [16]), ([], []), ([18], [18]), ([19], [19]), ([20], [20]), ([17, 21], [17, 21]), ([], []), ([23], [23]), ([24], [24]), ([25], [25]), ([22, 26], [22, 26]), ([], []), ([28], [28]), ([29], [29]), ([27, 30], [27, 30]), ([5, 13, 31], [5, 13, 31]), ([32], [32]), ([0, 33], [0, 33]), ([34, 34, 0, 1, 2, 3, 4, 5, 6, 7, 8, 9, 10, 11, 12, 13, 14, 15, 16, 17, 18, 19, 20, 21, 22, 23, 24, 25, 26, 27, 28, 29, 30, 31, 32, 33, 34], [0, 34])])
def umbelref21_Decode.B8 : List Nat := [0, 0, 0, 0, 8, 30, 0, 64, 192, 448, 0, 1024, 3072, 8128, 0, 16384, 49152, 114688, 0, 262144, 786432, 1835008, 4177920, 0, 8388608, 25165824, 58720256, 134201344, 0, 268435456, 805306368, 2147467264, 4294967294, 8589934590, 17179869183, 34359738367]
theorem umbelref21_Decode.tab8 : rtab .any (opsOf Tryd.f24 8) = umbelref21_Decode.T8 := by kernel_rfl
theorem umbelref21_Decode.bits8 : waitsOk umbelref21_Decode.T8.2 umbelref21_Decode.B8 = true := by kernel_rfl
set_option maxHeartbeats 8000000 in
set_option maxRecDepth 100000 in
theorem umbelref21_Decode.calls (k : Nat) (a0 : ByteArray) (r1 : List (S49)) (r2 : Bool) (w : World) (h : umbelref21_Decode.f k a0 = some (r1, r2)) :
    Calls Tryd.prog 24 #[.string a0] w fun e w' => ∃ v0_ : Value, e = .returned (.agg #[v0_, .bool r2]) ∧ Kd.R k49 49 w' w.heap.size (fun _ => True) v0_ r1 ∧ Below w.heap.size w w' := by
  have hu44 := Tryd.underlying44
  have hu49 := Tryd.underlying49
  have HB := Aside0.mk (Below.refl w.heap.size w)
  have H : (if (a0.size : Int) < 1 then (umbelref21_Decode.j0 k a0 true) else (if 0 < (a0.size : Int) then (umbelref21_Decode.j0 k a0 ((a0.size : Int) != (wrap64 (1 + (wrap64 (38 * (wrap64 (bt a0 0)))))))) else (none))) = some (r1, r2) := h
  clear h
  have HC2 := Aside0.mk H
  clear H
  go_enter Tryd.func24, Tryd.ntmps24
  go_upto_region 1 with (first | ((with_reducible refine gate_dst (N := 2) rfl ?_); (try (refine gate_guard (by rfl) ?_; dsimp only)); refine box_event ?hg (N := 2) ?hd (cs := #[.slice none 0 0, .bool false]) (t := 44) ?hr ?_; (case hd => rfl); (case hg => rfl); (case hr => first | (go_simp; done) | (go_simp; rfl)); intro gb199 hg w3 hbox hb; have n0_ := Aside0.mk (below_step (by repeat (first | (with_reducible first | exact HB.out | apply below_alloc | apply pw_below_drewN | apply below_drew1) | exact HB.out)) hb); have n1_ := Aside0.mk (hbox); have n2_ := Aside0.mk ((by rw [hg]; exact (below_size (by repeat (first | (with_reducible first | exact HB.out | apply below_alloc | apply pw_below_drewN | apply below_drew1) | exact HB.out))) : w.heap.size ≤ gb199)); have n3_ := Aside0.mk ((by rw [hg]; exact (below_size (by repeat (first | (with_reducible first | exact HB.out | apply below_alloc | apply pw_below_drewN | apply below_drew1) | exact HB.out))) : w.heap.size ≤ gb199)); clear HB; have HB := n0_; have BK199 := n1_; have GW199 := n2_; have GE199 := n3_; clear n0_ n1_ n2_ n3_; clear hb hbox hg))
  (try simp only [Act.put, List.setIfInBounds_toArray, List.set_cons_zero, List.set_cons_succ])
  go_cut [18] (fun v18 wc => ∃ (kq : Nat) (x18_1 : Bool), v18 = .bool x18_1 ∧ Aside0 (umbelref21_Decode.j0 kq a0 x18_1 = some (r1, r2)) ∧ Aside0 (kq ≤ k) ∧ Aside0 (wc.heap[gb199]? = some (.cells #[(.slice none 0 0), .bool false] 44 (0, 0))) ∧ Aside0 (Below w.heap.size w wc))
  case first =>
    have H := HC2.out
    clear HC2
    by_cases c4 : (a0.size : Int) < 1
    · rw [if_pos c4] at H
      have c4b0 : decide ((a0.size : Int) < 1) = true := decide_eq_true c4
      have c4b1 : decide (a0.size < 1) = true := decide_eq_true (by omega)
      clear c4
      (first | rw [c4b0] | (simp only [i64_w, i32_w]; rw [c4b0]) | skip)
      have H' := Aside0.mk H
      clear H
      go_wp2
      go_meet
      case rel => exact ⟨_, (true), (by first | rfl | (simp; done) | (simp [*]; done)), H', ⟨by first | omega | exact Nat.le_refl _⟩, ⟨by (with_reducible repeat (first | refine blk_drewN ?_ _ | refine blk_drew ?_ | refine blk_alloc ?_ _)); exact BK199.out⟩, ⟨by repeat (first | (with_reducible first | exact HB.out | apply below_alloc | apply pw_below_drewN | apply below_drew1 | refine below_set ?_ GE199.out) | exact HB.out)⟩⟩
    · rw [if_neg c4] at H
      have c4b0 : decide ((a0.size : Int) < 1) = false := decide_eq_false c4
      have c4b1 : decide (a0.size < 1) = false := decide_eq_false (by omega)
      clear c4
      (first | rw [c4b0] | (simp only [i64_w, i32_w]; rw [c4b0]) | skip)
      by_cases c5 : 0 < (a0.size : Int)
      · rw [if_pos c5] at H
        have c5b0 : decide (0 < (a0.size : Int)) = true := decide_eq_true c5
        have c5b1 : decide (0 < a0.size) = true := decide_eq_true (by omega)
        clear c5
        have H' := Aside0.mk H
        clear H
        have p6 : 0 ≤ (0 : Int) := (by omega)
        have q6 : 0 < a0.size := (by have : (0 : Int) < (a0.size : Int) := of_decide_eq_true (by first | (with_reducible assumption) | assumption); omega)
        have hx6 : ∀ h : 0 < a0.size, ((a0[0]'h).toNat : Int) = bt a0 0 := bt_at a0 0
        clear p6
        have qi6 : (0 < (a0.size : Int)) = True := eq_true (of_decide_eq_true (by first | (with_reducible assumption) | assumption))
        replace q6 := eq_true q6
        go_wp2
        go_meet
        case rel => exact ⟨_, (((a0.size : Int) != (wrap64 (1 + (wrap64 (38 * (wrap64 (bt a0 0)))))))), (by first | rfl | (simp; done) | (simp [*]; done)), H', ⟨by first | omega | exact Nat.le_refl _⟩, ⟨by (with_reducible repeat (first | refine blk_drewN ?_ _ | refine blk_drew ?_ | refine blk_alloc ?_ _)); exact BK199.out⟩, ⟨by repeat (first | (with_reducible first | exact HB.out | apply below_alloc | apply pw_below_drewN | apply below_drew1 | refine below_set ?_ GE199.out) | exact HB.out)⟩⟩
      · rw [if_neg c5] at H
        exact absurd H (by simp)
  case rest =>
    clear HC2
    try clear c2
    try clear p2
    try clear c4
    try clear c4b0
    try clear c4b1
    try clear c5
    try clear c5b0
    try clear c5b1
    try clear p6
    try clear q6
    try clear hx6
    try clear qi6
    try clear p6
    try clear q6
    obtain ⟨kq, x18_1, rfl, HA, HJ1, BK199, HB⟩ := hcut
    cases kq with
    | zero => exact absurd HA.out (by simp [umbelref21_Decode.j0])
    | succ kj1 =>
      have H := HA.out
      clear HA
      simp only [umbelref21_Decode.j0] at H
      by_cases c7 : x18_1 = true
      · subst c7
        have H1 : (some (([] : List (S49)), false)) = some (r1, r2) := by rw [if_pos rfl] at H; exact H
        clear H
        have H := H1
        clear H1
        simp only [Option.some.injEq, Prod.mk.injEq] at H
        obtain ⟨rfl, rfl⟩ := H
        have hcz8_0 : wc.cell? ⟨gb199, 0, none⟩ = some (.slice none 0 0) := (blk_cell BK199.out 0).trans rfl
        have hcz8_1 : wc.cell? ⟨gb199, 1, none⟩ = some (.bool false) := (blk_cell BK199.out 1).trans rfl
        have hfz8_0 := blk_frozen BK199.out 0
        have hfz8_1 := blk_frozen BK199.out 1
        go_wp2
        refine bodyPost_ret (results_cell_row rfl _ _ gb199 44 #[.slice none 0 0, .bool false] (0, 0) _ rfl (by (with_reducible repeat (first | refine blk_drewN ?_ _ | refine blk_drew ?_ | refine blk_alloc ?_ _)); refine blk_put (cs := #[.slice none 0 0, .bool false]) ?_ 1 _ rfl; (with_reducible repeat (first | refine blk_drewN ?_ _ | refine blk_drew ?_ | refine blk_alloc ?_ _)); refine blk_put (cs := #[.slice none 0 0, .bool false]) ?_ 0 _ rfl; (with_reducible repeat (first | refine blk_drewN ?_ _ | refine blk_drew ?_ | refine blk_alloc ?_ _)); exact BK199.out) Tryd.underlying44 rfl (by kernel_rfl)) rfl ?_
        exact ⟨_, by first | rfl | (simp [errW_none, errW_some] <;> rfl) | (simp [*, errW_none, errW_some] <;> rfl), by first | exact Kd.R_nil _ _ _ _ _ | exact Kd.N_nil _ _ _ _ _ | exact Kd.V_nil _ _ _ _ _ | exact Kd.Q_nil _ _ _ _ _ | exact Kd.S_nil _ _ _ _ _, by repeat (first | (with_reducible first | exact HB.out | apply below_alloc | apply pw_below_drewN | apply below_drew1 | refine below_set ?_ GE199.out) | exact HB.out)⟩
      · replace c7 := Bool.eq_false_iff.mpr c7
        subst c7
        have H1 : (umbelref21_Decode.l0 kj1 a0 ([] : List (S49)) 1) = some (r1, r2) := by rw [if_neg (show ¬ (false = true) by decide)] at H; exact H
        clear H
        have H := H1
        clear H1
        have H' := Aside0.mk H
        clear H
        go_wp2
        go_loopg [3, 4] kj1 (fun kq v3 v4 w' => ∃ (x3_2 : List (S49)) (x4_2 : Int), v4 = .int .i64 x4_2 ∧ Aside0 (umbelref21_Decode.l0 kq a0 x3_2 x4_2 = some (r1, r2)) ∧ Aside0 (kq ≤ kj1) ∧ Aside0 (Kd.R k49 49 w' w.heap.size (fun _ => True) v3 x3_2) ∧ Aside0 (w'.heap[gb199]? = some (.cells #[(.slice none 0 0), .bool false] 44 (0, 0))) ∧ Aside0 (Below w.heap.size w w'))
        case atStart => exact ⟨(([] : List (S49))), (1), (by first | rfl | (simp; done) | (simp [*]; done)), H', ⟨Nat.le_refl _⟩, ⟨by first | exact Kd.R_nil _ _ _ _ _ | exact Kd.N_nil _ _ _ _ _ | exact Kd.V_nil _ _ _ _ _ | exact Kd.Q_nil _ _ _ _ _ | exact Kd.S_nil _ _ _ _ _⟩, ⟨by (with_reducible repeat (first | refine blk_drewN ?_ _ | refine blk_drew ?_ | refine blk_alloc ?_ _)); exact BK199.out⟩, ⟨by repeat (first | (with_reducible first | exact HB.out | apply below_alloc | apply pw_below_drewN | apply below_drew1 | refine below_set ?_ GE199.out) | exact HB.out)⟩⟩
        case round =>
          clear H'
          try clear c2
          try clear p2
          try clear c4
          try clear c4b0
          try clear c4b1
          try clear c5
          try clear c5b0
          try clear c5b1
          try clear p6
          try clear q6
          try clear hx6
          try clear qi6
          try clear c7
          try clear hcz8_0
          try clear hcz8_1
          try clear hfz8_0
          try clear hfz8_1
          try clear p2
          try clear p6
          try clear q6
          obtain ⟨x3_2, x4_2, rfl, HA, HK2, HO_3, BK199, HB⟩ := hrel
          cases gk with
          | zero => exact absurd HA.out (by simp [umbelref21_Decode.l0])
          | succ k2 =>
            have H := HA.out
            clear HA
            simp only [umbelref21_Decode.l0] at H
            by_cases c9 : x4_2 < (a0.size : Int)
            · rw [if_pos c9] at H
              have c9b0 : decide (x4_2 < (a0.size : Int)) = true := decide_eq_true c9
              clear c9
              obtain ⟨ji10, hji10⟩ : ∃ j_ : Int, (wrap64 (x4_2 + 32)) = j_ := ⟨_, rfl⟩
              replace H : (if 0 ≤ (ji10) then (if (ji10) ≤ (wrap64 (x4_2 + 38)) then (if (wrap64 (x4_2 + 38)) ≤ (a0.size : Int) then (if 0 ≤ x4_2 then (if x4_2 ≤ (ji10) then (if (ji10) ≤ (a0.size : Int) then (if 0 < ((a0.extract ((ji10) : Int).toNat ((wrap64 (x4_2 + 38)) : Int).toNat).size : Int) then (if 1 < ((a0.extract ((ji10) : Int).toNat ((wrap64 (x4_2 + 38)) : Int).toNat).size : Int) then (if 2 < ((a0.extract ((ji10) : Int).toNat ((wrap64 (x4_2 + 38)) : Int).toNat).size : Int) then (if 3 < ((a0.extract ((ji10) : Int).toNat ((wrap64 (x4_2 + 38)) : Int).toNat).size : Int) then (if 4 < ((a0.extract ((ji10) : Int).toNat ((wrap64 (x4_2 + 38)) : Int).toNat).size : Int) then (if 5 < ((a0.extract ((ji10) : Int).toNat ((wrap64 (x4_2 + 38)) : Int).toNat).size : Int) then (if x3_2.length < 4398046511104 then (umbelref21_Decode.l0 k2 a0 (x3_2 ++ [(⟨a0.extract (x4_2 : Int).toNat ((ji10) : Int).toNat, Go.bits .or .i64 (wrap64 ((wrap64 (bt (a0.extract ((ji10) : Int).toNat ((wrap64 (x4_2 + 38)) : Int).toNat) 0)) * 256)) (wrap64 (bt (a0.extract ((ji10) : Int).toNat ((wrap64 (x4_2 + 38)) : Int).toNat) 1)), Go.bits .or .i64 (Go.bits .or .i64 (Go.bits .or .i64 (wrap64 ((wrap64 (bt (a0.extract ((ji10) : Int).toNat ((wrap64 (x4_2 + 38)) : Int).toNat) 2)) * 16777216)) (wrap64 ((wrap64 (bt (a0.extract ((ji10) : Int).toNat ((wrap64 (x4_2 + 38)) : Int).toNat) 3)) * 65536))) (wrap64 ((wrap64 (bt (a0.extract ((ji10) : Int).toNat ((wrap64 (x4_2 + 38)) : Int).toNat) 4)) * 256))) (wrap64 (bt (a0.extract ((ji10) : Int).toNat ((wrap64 (x4_2 + 38)) : Int).toNat) 5))⟩ : S49)]) (wrap64 (x4_2 + 38))) else (none)) else (none)) else (none)) else (none)) else (none)) else (none)) else (none)) else (none)) else (none)) else (none)) else (none)) else (none)) else (none)) = some (r1, r2) := by first | (rw [hji10] at H; exact H) | (simp only [hji10] at H ⊢; exact H)
              have hji10w : (IntKind.i64.wrap (x4_2 + 32)) = ji10 := (i64_w _).trans hji10
              by_cases c11 : 0 ≤ (ji10)
              · rw [if_pos c11] at H
                have c11b0 := eq_true c11
                have c11b1 : decide (0 ≤ (ji10)) = true := decide_eq_true c11
                clear c11
                by_cases c12 : (ji10) ≤ (wrap64 (x4_2 + 38))
                · rw [if_pos c12] at H
                  have c12b0 := eq_true c12
                  have c12b1 : decide ((ji10) ≤ (wrap64 (x4_2 + 38))) = true := decide_eq_true c12
                  by_cases c13 : (wrap64 (x4_2 + 38)) ≤ (a0.size : Int)
                  · rw [if_pos c13] at H
                    have c13b0 := eq_true c13
                    have c13b1 : decide ((wrap64 (x4_2 + 38)) ≤ (a0.size : Int)) = true := decide_eq_true c13
                    by_cases c14 : 0 ≤ x4_2
                    · rw [if_pos c14] at H
                      have c14b0 := eq_true c14
                      have c14b1 : decide (0 ≤ x4_2) = true := decide_eq_true c14
                      clear c14
                      by_cases c15 : x4_2 ≤ (ji10)
                      · rw [if_pos c15] at H
                        have c15b0 := eq_true c15
                        have c15b1 : decide (x4_2 ≤ (ji10)) = true := decide_eq_true c15
                        clear c15
                        by_cases c16 : (ji10) ≤ (a0.size : Int)
                        · rw [if_pos c16] at H
                          have c16b0 := eq_true c16
                          have c16b1 : decide ((ji10) ≤ (a0.size : Int)) = true := decide_eq_true c16
                          clear c16
                          by_cases c17 : 0 < ((a0.extract ((ji10) : Int).toNat ((wrap64 (x4_2 + 38)) : Int).toNat).size : Int)
                          · rw [if_pos c17] at H
                            have c17b0 : decide (0 < ((a0.extract ((ji10) : Int).toNat ((wrap64 (x4_2 + 38)) : Int).toNat).size : Int)) = true := decide_eq_true c17
                            have c17b1 : decide (0 < (a0.extract ((ji10) : Int).toNat ((wrap64 (x4_2 + 38)) : Int).toNat).size) = true := decide_eq_true (by omega)
                            clear c17
                            by_cases c19 : 1 < ((a0.extract ((ji10) : Int).toNat ((wrap64 (x4_2 + 38)) : Int).toNat).size : Int)
                            · rw [if_pos c19] at H
                              have c19b0 : decide (1 < ((a0.extract ((ji10) : Int).toNat ((wrap64 (x4_2 + 38)) : Int).toNat).size : Int)) = true := decide_eq_true c19
                              have c19b1 : decide (1 < (a0.extract ((ji10) : Int).toNat ((wrap64 (x4_2 + 38)) : Int).toNat).size) = true := decide_eq_true (by omega)
                              clear c19
                              by_cases c21 : 2 < ((a0.extract ((ji10) : Int).toNat ((wrap64 (x4_2 + 38)) : Int).toNat).size : Int)
                              · rw [if_pos c21] at H
                                have c21b0 : decide (2 < ((a0.extract ((ji10) : Int).toNat ((wrap64 (x4_2 + 38)) : Int).toNat).size : Int)) = true := decide_eq_true c21
                                have c21b1 : decide (2 < (a0.extract ((ji10) : Int).toNat ((wrap64 (x4_2 + 38)) : Int).toNat).size) = true := decide_eq_true (by omega)
                                clear c21
                                by_cases c23 : 3 < ((a0.extract ((ji10) : Int).toNat ((wrap64 (x4_2 + 38)) : Int).toNat).size : Int)
                                · rw [if_pos c23] at H
                                  have c23b0 : decide (3 < ((a0.extract ((ji10) : Int).toNat ((wrap64 (x4_2 + 38)) : Int).toNat).size : Int)) = true := decide_eq_true c23
                                  have c23b1 : decide (3 < (a0.extract ((ji10) : Int).toNat ((wrap64 (x4_2 + 38)) : Int).toNat).size) = true := decide_eq_true (by omega)
                                  clear c23
                                  by_cases c25 : 4 < ((a0.extract ((ji10) : Int).toNat ((wrap64 (x4_2 + 38)) : Int).toNat).size : Int)
                                  · rw [if_pos c25] at H
                                    have c25b0 : decide (4 < ((a0.extract ((ji10) : Int).toNat ((wrap64 (x4_2 + 38)) : Int).toNat).size : Int)) = true := decide_eq_true c25
                                    have c25b1 : decide (4 < (a0.extract ((ji10) : Int).toNat ((wrap64 (x4_2 + 38)) : Int).toNat).size) = true := decide_eq_true (by omega)
                                    clear c25
                                    by_cases c27 : 5 < ((a0.extract ((ji10) : Int).toNat ((wrap64 (x4_2 + 38)) : Int).toNat).size : Int)
                                    · rw [if_pos c27] at H
                                      have c27b0 : decide (5 < ((a0.extract ((ji10) : Int).toNat ((wrap64 (x4_2 + 38)) : Int).toNat).size : Int)) = true := decide_eq_true c27
                                      have c27b1 : decide (5 < (a0.extract ((ji10) : Int).toNat ((wrap64 (x4_2 + 38)) : Int).toNat).size) = true := decide_eq_true (by omega)
                                      clear c27
                                      by_cases c29 : x3_2.length < 4398046511104
                                      · rw [if_pos c29] at H
                                        have LMc29 := Aside0.mk c29
                                        clear c29
                                        obtain ⟨y200, hy200⟩ : ∃ y_ : List (S49), y_ = (x3_2 ++ [(⟨a0.extract (x4_2 : Int).toNat ((ji10) : Int).toNat, Go.bits .or .i64 (wrap64 ((wrap64 (bt (a0.extract ((ji10) : Int).toNat ((wrap64 (x4_2 + 38)) : Int).toNat) 0)) * 256)) (wrap64 (bt (a0.extract ((ji10) : Int).toNat ((wrap64 (x4_2 + 38)) : Int).toNat) 1)), Go.bits .or .i64 (Go.bits .or .i64 (Go.bits .or .i64 (wrap64 ((wrap64 (bt (a0.extract ((ji10) : Int).toNat ((wrap64 (x4_2 + 38)) : Int).toNat) 2)) * 16777216)) (wrap64 ((wrap64 (bt (a0.extract ((ji10) : Int).toNat ((wrap64 (x4_2 + 38)) : Int).toNat) 3)) * 65536))) (wrap64 ((wrap64 (bt (a0.extract ((ji10) : Int).toNat ((wrap64 (x4_2 + 38)) : Int).toNat) 4)) * 256))) (wrap64 (bt (a0.extract ((ji10) : Int).toNat ((wrap64 (x4_2 + 38)) : Int).toNat) 5))⟩ : S49)]) := ⟨_, rfl⟩
                                        replace H : (umbelref21_Decode.l0 k2 a0 y200 (wrap64 (x4_2 + 38))) = some (r1, r2) := by first | (rw [hy200]; with_reducible exact H) | (have H2_ := (Option.bind_some _ _).symm.trans H; rw [hy200]; with_reducible exact H2_) | (have H2_ := (Option.bind_some _ _).symm.trans H; with_reducible exact H2_) | with_reducible exact H | (rw [hy200]; exact H) | exact H
                                        have Ny200 := Aside0.mk hy200
                                        clear hy200
                                        have H' := Aside0.mk H
                                        clear H
                                        try go_wp2
                                        have n0_ := Aside0.mk (Kd.R_drew HO_3.out)
                                        have n1_ := Aside0.mk (blk_drew BK199.out)
                                        have n2_ := Aside0.mk (below_drew1 HB.out)
                                        clear HO_3
                                        clear BK199
                                        clear HB
                                        have HO_3 := n0_
                                        have BK199 := n1_
                                        have HB := n2_
                                        clear n0_ n1_ n2_
                                        have p18 : 0 ≤ (0 : Int) := (by omega)
                                        have q18 : 0 < (a0.extract ((ji10) : Int).toNat ((wrap64 (x4_2 + 38)) : Int).toNat).size := (by have : (0 : Int) < ((a0.extract ((ji10) : Int).toNat ((wrap64 (x4_2 + 38)) : Int).toNat).size : Int) := of_decide_eq_true (by first | (with_reducible assumption) | assumption); omega)
                                        have hx18 : ∀ h : 0 < (a0.extract ((ji10) : Int).toNat ((wrap64 (x4_2 + 38)) : Int).toNat).size, (((a0.extract ((ji10) : Int).toNat ((wrap64 (x4_2 + 38)) : Int).toNat)[0]'h).toNat : Int) = bt (a0.extract ((ji10) : Int).toNat ((wrap64 (x4_2 + 38)) : Int).toNat) 0 := bt_at (a0.extract ((ji10) : Int).toNat ((wrap64 (x4_2 + 38)) : Int).toNat) 0
                                        clear p18
                                        have qi18 : (0 < ((a0.extract ((ji10) : Int).toNat ((wrap64 (x4_2 + 38)) : Int).toNat).size : Int)) = True := eq_true (of_decide_eq_true (by first | (with_reducible assumption) | assumption))
                                        have nq18 : (0 < (wrap64 (x4_2 + 38)).toNat - (ji10).toNat) = True := eq_true (by have h_ := q18; rw [ByteArray.size_extract] at h_; omega)
                                        have nbq18 : ((0 : Int) < (((wrap64 (x4_2 + 38)).toNat - (ji10).toNat : Nat) : Int)) = True := eq_true (by have h_ := q18; rw [ByteArray.size_extract] at h_; omega)
                                        replace q18 := eq_true q18
                                        have p20 : 0 ≤ (1 : Int) := (by omega)
                                        have q20 : 1 < (a0.extract ((ji10) : Int).toNat ((wrap64 (x4_2 + 38)) : Int).toNat).size := (by have : (1 : Int) < ((a0.extract ((ji10) : Int).toNat ((wrap64 (x4_2 + 38)) : Int).toNat).size : Int) := of_decide_eq_true (by first | (with_reducible assumption) | assumption); omega)
                                        have hx20 : ∀ h : 1 < (a0.extract ((ji10) : Int).toNat ((wrap64 (x4_2 + 38)) : Int).toNat).size, (((a0.extract ((ji10) : Int).toNat ((wrap64 (x4_2 + 38)) : Int).toNat)[1]'h).toNat : Int) = bt (a0.extract ((ji10) : Int).toNat ((wrap64 (x4_2 + 38)) : Int).toNat) 1 := bt_at (a0.extract ((ji10) : Int).toNat ((wrap64 (x4_2 + 38)) : Int).toNat) 1
                                        clear p20
                                        have qi20 : (1 < ((a0.extract ((ji10) : Int).toNat ((wrap64 (x4_2 + 38)) : Int).toNat).size : Int)) = True := eq_true (of_decide_eq_true (by first | (with_reducible assumption) | assumption))
                                        have nq20 : (1 < (wrap64 (x4_2 + 38)).toNat - (ji10).toNat) = True := eq_true (by have h_ := q20; rw [ByteArray.size_extract] at h_; omega)
                                        have nbq20 : ((1 : Int) < (((wrap64 (x4_2 + 38)).toNat - (ji10).toNat : Nat) : Int)) = True := eq_true (by have h_ := q20; rw [ByteArray.size_extract] at h_; omega)
                                        replace q20 := eq_true q20
                                        have p22 : 0 ≤ (2 : Int) := (by omega)
                                        have q22 : 2 < (a0.extract ((ji10) : Int).toNat ((wrap64 (x4_2 + 38)) : Int).toNat).size := (by have : (2 : Int) < ((a0.extract ((ji10) : Int).toNat ((wrap64 (x4_2 + 38)) : Int).toNat).size : Int) := of_decide_eq_true (by first | (with_reducible assumption) | assumption); omega)
                                        have hx22 : ∀ h : 2 < (a0.extract ((ji10) : Int).toNat ((wrap64 (x4_2 + 38)) : Int).toNat).size, (((a0.extract ((ji10) : Int).toNat ((wrap64 (x4_2 + 38)) : Int).toNat)[2]'h).toNat : Int) = bt (a0.extract ((ji10) : Int).toNat ((wrap64 (x4_2 + 38)) : Int).toNat) 2 := bt_at (a0.extract ((ji10) : Int).toNat ((wrap64 (x4_2 + 38)) : Int).toNat) 2
                                        clear p22
                                        have qi22 : (2 < ((a0.extract ((ji10) : Int).toNat ((wrap64 (x4_2 + 38)) : Int).toNat).size : Int)) = True := eq_true (of_decide_eq_true (by first | (with_reducible assumption) | assumption))
                                        have nq22 : (2 < (wrap64 (x4_2 + 38)).toNat - (ji10).toNat) = True := eq_true (by have h_ := q22; rw [ByteArray.size_extract] at h_; omega)
                                        have nbq22 : ((2 : Int) < (((wrap64 (x4_2 + 38)).toNat - (ji10).toNat : Nat) : Int)) = True := eq_true (by have h_ := q22; rw [ByteArray.size_extract] at h_; omega)
                                        replace q22 := eq_true q22
                                        have p24 : 0 ≤ (3 : Int) := (by omega)
                                        have q24 : 3 < (a0.extract ((ji10) : Int).toNat ((wrap64 (x4_2 + 38)) : Int).toNat).size := (by have : (3 : Int) < ((a0.extract ((ji10) : Int).toNat ((wrap64 (x4_2 + 38)) : Int).toNat).size : Int) := of_decide_eq_true (by first | (with_reducible assumption) | assumption); omega)
                                        have hx24 : ∀ h : 3 < (a0.extract ((ji10) : Int).toNat ((wrap64 (x4_2 + 38)) : Int).toNat).size, (((a0.extract ((ji10) : Int).toNat ((wrap64 (x4_2 + 38)) : Int).toNat)[3]'h).toNat : Int) = bt (a0.extract ((ji10) : Int).toNat ((wrap64 (x4_2 + 38)) : Int).toNat) 3 := bt_at (a0.extract ((ji10) : Int).toNat ((wrap64 (x4_2 + 38)) : Int).toNat) 3
                                        clear p24
                                        have qi24 : (3 < ((a0.extract ((ji10) : Int).toNat ((wrap64 (x4_2 + 38)) : Int).toNat).size : Int)) = True := eq_true (of_decide_eq_true (by first | (with_reducible assumption) | assumption))
                                        have nq24 : (3 < (wrap64 (x4_2 + 38)).toNat - (ji10).toNat) = True := eq_true (by have h_ := q24; rw [ByteArray.size_extract] at h_; omega)
                                        have nbq24 : ((3 : Int) < (((wrap64 (x4_2 + 38)).toNat - (ji10).toNat : Nat) : Int)) = True := eq_true (by have h_ := q24; rw [ByteArray.size_extract] at h_; omega)
                                        replace q24 := eq_true q24
                                        have p26 : 0 ≤ (4 : Int) := (by omega)
                                        have q26 : 4 < (a0.extract ((ji10) : Int).toNat ((wrap64 (x4_2 + 38)) : Int).toNat).size := (by have : (4 : Int) < ((a0.extract ((ji10) : Int).toNat ((wrap64 (x4_2 + 38)) : Int).toNat).size : Int) := of_decide_eq_true (by first | (with_reducible assumption) | assumption); omega)
                                        have hx26 : ∀ h : 4 < (a0.extract ((ji10) : Int).toNat ((wrap64 (x4_2 + 38)) : Int).toNat).size, (((a0.extract ((ji10) : Int).toNat ((wrap64 (x4_2 + 38)) : Int).toNat)[4]'h).toNat : Int) = bt (a0.extract ((ji10) : Int).toNat ((wrap64 (x4_2 + 38)) : Int).toNat) 4 := bt_at (a0.extract ((ji10) : Int).toNat ((wrap64 (x4_2 + 38)) : Int).toNat) 4
                                        clear p26
                                        have qi26 : (4 < ((a0.extract ((ji10) : Int).toNat ((wrap64 (x4_2 + 38)) : Int).toNat).size : Int)) = True := eq_true (of_decide_eq_true (by first | (with_reducible assumption) | assumption))
                                        have nq26 : (4 < (wrap64 (x4_2 + 38)).toNat - (ji10).toNat) = True := eq_true (by have h_ := q26; rw [ByteArray.size_extract] at h_; omega)
                                        have nbq26 : ((4 : Int) < (((wrap64 (x4_2 + 38)).toNat - (ji10).toNat : Nat) : Int)) = True := eq_true (by have h_ := q26; rw [ByteArray.size_extract] at h_; omega)
                                        replace q26 := eq_true q26
                                        have p28 : 0 ≤ (5 : Int) := (by omega)
                                        have q28 : 5 < (a0.extract ((ji10) : Int).toNat ((wrap64 (x4_2 + 38)) : Int).toNat).size := (by have : (5 : Int) < ((a0.extract ((ji10) : Int).toNat ((wrap64 (x4_2 + 38)) : Int).toNat).size : Int) := of_decide_eq_true (by first | (with_reducible assumption) | assumption); omega)
                                        have hx28 : ∀ h : 5 < (a0.extract ((ji10) : Int).toNat ((wrap64 (x4_2 + 38)) : Int).toNat).size, (((a0.extract ((ji10) : Int).toNat ((wrap64 (x4_2 + 38)) : Int).toNat)[5]'h).toNat : Int) = bt (a0.extract ((ji10) : Int).toNat ((wrap64 (x4_2 + 38)) : Int).toNat) 5 := bt_at (a0.extract ((ji10) : Int).toNat ((wrap64 (x4_2 + 38)) : Int).toNat) 5
                                        clear p28
                                        have qi28 : (5 < ((a0.extract ((ji10) : Int).toNat ((wrap64 (x4_2 + 38)) : Int).toNat).size : Int)) = True := eq_true (of_decide_eq_true (by first | (with_reducible assumption) | assumption))
                                        have nq28 : (5 < (wrap64 (x4_2 + 38)).toNat - (ji10).toNat) = True := eq_true (by have h_ := q28; rw [ByteArray.size_extract] at h_; omega)
                                        have nbq28 : ((5 : Int) < (((wrap64 (x4_2 + 38)).toNat - (ji10).toNat : Nat) : Int)) = True := eq_true (by have h_ := q28; rw [ByteArray.size_extract] at h_; omega)
                                        replace q28 := eq_true q28
                                        refine start_ (n := 36) (S := fun w' => True) (ds := []) #[false, false, false, false, false, false, false, false, false, false, false, false, false, false, false, false, false, false, false, false, false, false, false, false, false, false, false, false, false, false, false, false, false, false, false, false] (by kernel_rfl) rfl rfl trivial (fun hHeld => ?_); refine with_tabW umbelref21_Decode.tab8 umbelref21_Decode.bits8 (fun HT_ HW_ => ?_)
                                        generalize wr.drew = w30 at HO_3 BK199 HB hHeld ⊢
                                        refine pure_ (i := 0) (N := some 32) (v := ?_) (a' := ?_) #[true, false, false, false, false, false, false, false, false, false, false, false, false, false, false, false, false, false, false, false, false, false, false, false, false, false, false, false, false, false, false, false, false, false, false, false] rfl rfl (any_of HT_.out (by kernel_rfl)) (fun _ _ _ h => h) (Or.inl ⟨by rfl, ?_⟩) ?_ ?_
                                        rotate_left
                                        · intro w'
                                          go_simp
                                          with_reducible rfl
                                        rotate_left
                                        · simp only [Act.put, List.setIfInBounds_toArray, List.set_cons_zero, List.set_cons_succ, i64_w, i32_w]
                                          rfl
                                        refine pure_ (i := 1) (N := some 33) (v := ?_) (a' := ?_) #[true, true, false, false, false, false, false, false, false, false, false, false, false, false, false, false, false, false, false, false, false, false, false, false, false, false, false, false, false, false, false, false, false, false, false, false] rfl rfl (any_of HT_.out (by kernel_rfl)) (fun _ _ _ h => h) (Or.inl ⟨by rfl, ?_⟩) ?_ ?_
                                        rotate_left
                                        · intro w'
                                          go_simp
                                          with_reducible rfl
                                        rotate_left
                                        · simp only [Act.put, List.setIfInBounds_toArray, List.set_cons_zero, List.set_cons_succ, i64_w, i32_w]
                                          rfl
                                        refine pure_ (i := 2) (N := some 34) (v := ?_) (a' := ?_) #[true, true, true, false, false, false, false, false, false, false, false, false, false, false, false, false, false, false, false, false, false, false, false, false, false, false, false, false, false, false, false, false, false, false, false, false] rfl rfl (any_of HT_.out (by kernel_rfl)) (fun _ _ _ h => h) (Or.inl ⟨by rfl, ?_⟩) ?_ ?_
                                        rotate_left
                                        · intro w'
                                          go_simp
                                          with_reducible rfl
                                        rotate_left
                                        · simp only [Act.put, List.setIfInBounds_toArray, List.set_cons_zero, List.set_cons_succ, i64_w, i32_w]
                                          rfl
                                        refine pure_ (i := 3) (N := some 35) (v := ?_) (a' := ?_) #[true, true, true, true, false, false, false, false, false, false, false, false, false, false, false, false, false, false, false, false, false, false, false, false, false, false, false, false, false, false, false, false, false, false, false, false] rfl rfl (any_of HT_.out (by kernel_rfl)) (fun _ _ _ h => h) (Or.inl ⟨by rfl, ?_⟩) ?_ ?_
                                        rotate_left
                                        · intro w'
                                          go_simp
                                          with_reducible rfl
                                        rotate_left
                                        · simp only [Act.put, List.setIfInBounds_toArray, List.set_cons_zero, List.set_cons_succ, i64_w, i32_w]
                                          rfl
                                        refine pure_ (i := 4) (N := some 36) (v := ?_) (a' := ?_) #[true, true, true, true, true, false, false, false, false, false, false, false, false, false, false, false, false, false, false, false, false, false, false, false, false, false, false, false, false, false, false, false, false, false, false, false] rfl rfl (any_of HT_.out (by kernel_rfl)) (fun _ _ _ h => h) (Or.inl ⟨by rfl, ?_⟩) ?_ ?_
                                        rotate_left
                                        · intro w'
                                          go_simp
                                          with_reducible rfl
                                        rotate_left
                                        · simp only [Act.put, List.setIfInBounds_toArray, List.set_cons_zero, List.set_cons_succ, i64_w, i32_w]
                                          rfl
                                        refine pure_ (i := 5) (N := some 37) (v := ?_) (a' := ?_) #[true, true, true, true, true, true, false, false, false, false, false, false, false, false, false, false, false, false, false, false, false, false, false, false, false, false, false, false, false, false, false, false, false, false, false, false] rfl rfl (any_of HT_.out (by kernel_rfl)) (fun _ _ _ h => h) (Or.inl ⟨by rfl, ?_⟩) ?_ ?_
                                        rotate_left
                                        · intro w'
                                          go_simp
                                          with_reducible rfl
                                        rotate_left
                                        · simp only [Act.put, List.setIfInBounds_toArray, List.set_cons_zero, List.set_cons_succ, i64_w, i32_w]
                                          rfl
                                        refine pure_ (i := 6) (N := some 38) (v := ?_) (a' := ?_) #[true, true, true, true, true, true, true, false, false, false, false, false, false, false, false, false, false, false, false, false, false, false, false, false, false, false, false, false, false, false, false, false, false, false, false, false] rfl rfl (any_of HT_.out (by kernel_rfl)) (fun _ _ _ h => h) (Or.inl ⟨by rfl, ?_⟩) ?_ ?_
                                        rotate_left
                                        · intro w'
                                          go_simp
                                          with_reducible rfl
                                        rotate_left
                                        · simp only [Act.put, List.setIfInBounds_toArray, List.set_cons_zero, List.set_cons_succ, i64_w, i32_w]
                                          rfl
                                        refine pure_ (i := 10) (N := some 42) (v := ?_) (a' := ?_) #[true, true, true, true, true, true, true, false, false, false, true, false, false, false, false, false, false, false, false, false, false, false, false, false, false, false, false, false, false, false, false, false, false, false, false, false] rfl rfl (any_of HT_.out (by kernel_rfl)) (fun _ _ _ h => h) (Or.inl ⟨by rfl, ?_⟩) ?_ ?_
                                        rotate_left
                                        · intro w'
                                          go_simp
                                          with_reducible rfl
                                        rotate_left
                                        · simp only [Act.put, List.setIfInBounds_toArray, List.set_cons_zero, List.set_cons_succ, i64_w, i32_w]
                                          rfl
                                        refine pure_ (i := 14) (N := some 46) (v := ?_) (a' := ?_) #[true, true, true, true, true, true, true, false, false, false, true, false, false, false, true, false, false, false, false, false, false, false, false, false, false, false, false, false, false, false, false, false, false, false, false, false] rfl rfl (any_of HT_.out (by kernel_rfl)) (fun _ _ _ h => h) (Or.inl ⟨by rfl, ?_⟩) ?_ ?_
                                        rotate_left
                                        · intro w'
                                          go_simp
                                          with_reducible rfl
                                        rotate_left
                                        · simp only [Act.put, List.setIfInBounds_toArray, List.set_cons_zero, List.set_cons_succ, i64_w, i32_w]
                                          rfl
                                        refine pure_ (i := 18) (N := some 50) (v := ?_) (a' := ?_) #[true, true, true, true, true, true, true, false, false, false, true, false, false, false, true, false, false, false, true, false, false, false, false, false, false, false, false, false, false, false, false, false, false, false, false, false] rfl rfl (any_of HT_.out (by kernel_rfl)) (fun _ _ _ h => h) (Or.inl ⟨by rfl, ?_⟩) ?_ ?_
                                        rotate_left
                                        · intro w'
                                          go_simp
                                          with_reducible rfl
                                        rotate_left
                                        · simp only [Act.put, List.setIfInBounds_toArray, List.set_cons_zero, List.set_cons_succ, i64_w, i32_w]
                                          rfl
                                        refine pure_ (i := 23) (N := some 55) (v := ?_) (a' := ?_) #[true, true, true, true, true, true, true, false, false, false, true, false, false, false, true, false, false, false, true, false, false, false, false, true, false, false, false, false, false, false, false, false, false, false, false, false] rfl rfl (any_of HT_.out (by kernel_rfl)) (fun _ _ _ h => h) (Or.inl ⟨by rfl, ?_⟩) ?_ ?_
                                        rotate_left
                                        · intro w'
                                          go_simp
                                          with_reducible rfl
                                        rotate_left
                                        · simp only [Act.put, List.setIfInBounds_toArray, List.set_cons_zero, List.set_cons_succ, i64_w, i32_w]
                                          rfl
                                        refine pure_ (i := 28) (N := some 60) (v := ?_) (a' := ?_) #[true, true, true, true, true, true, true, false, false, false, true, false, false, false, true, false, false, false, true, false, false, false, false, true, false, false, false, false, true, false, false, false, false, false, false, false] rfl rfl (any_of HT_.out (by kernel_rfl)) (fun _ _ _ h => h) (Or.inl ⟨by rfl, ?_⟩) ?_ ?_
                                        rotate_left
                                        · intro w'
                                          go_simp
                                          with_reducible rfl
                                        rotate_left
                                        · simp only [Act.put, List.setIfInBounds_toArray, List.set_cons_zero, List.set_cons_succ, i64_w, i32_w]
                                          rfl
                                        refine take_ (i := 7) (N := some 39) (v := ?_) (a' := ?_) #[true, true, true, true, true, true, true, true, false, false, true, false, false, false, true, false, false, false, true, false, false, false, false, true, false, false, false, false, true, false, false, false, false, false, false, false] rfl rfl (take_ofW HT_.out HW_.out (by kernel_rfl)) (fun _ _ _ h => h) (Or.inl ⟨by rfl, ?_⟩) hHeld ?_ ?_
                                        rotate_left
                                        · intro w' _
                                          go_simp
                                          with_reducible rfl
                                        rotate_left
                                        · simp only [Act.put, List.setIfInBounds_toArray, List.set_cons_zero, List.set_cons_succ, i64_w, i32_w]
                                          rfl
                                        refine pure_ (i := 8) (N := some 40) (v := ?_) (a' := ?_) #[true, true, true, true, true, true, true, true, true, false, true, false, false, false, true, false, false, false, true, false, false, false, false, true, false, false, false, false, true, false, false, false, false, false, false, false] rfl rfl (any_of HT_.out (by kernel_rfl)) (fun _ _ _ h => h) (Or.inl ⟨by rfl, ?_⟩) ?_ ?_
                                        rotate_left
                                        · intro w'
                                          go_simp
                                          with_reducible rfl
                                        rotate_left
                                        · simp only [Act.put, List.setIfInBounds_toArray, List.set_cons_zero, List.set_cons_succ, i64_w, i32_w]
                                          rfl
                                        refine pure_ (i := 9) (N := some 41) (v := ?_) (a' := ?_) #[true, true, true, true, true, true, true, true, true, true, true, false, false, false, true, false, false, false, true, false, false, false, false, true, false, false, false, false, true, false, false, false, false, false, false, false] rfl rfl (any_of HT_.out (by kernel_rfl)) (fun _ _ _ h => h) (Or.inl ⟨by rfl, ?_⟩) ?_ ?_
                                        rotate_left
                                        · intro w'
                                          go_simp
                                          with_reducible rfl
                                        rotate_left
                                        · simp only [Act.put, List.setIfInBounds_toArray, List.set_cons_zero, List.set_cons_succ, i64_w, i32_w]
                                          rfl
                                        refine take_ (i := 11) (N := some 43) (v := ?_) (a' := ?_) #[true, true, true, true, true, true, true, true, true, true, true, true, false, false, true, false, false, false, true, false, false, false, false, true, false, false, false, false, true, false, false, false, false, false, false, false] rfl rfl (take_ofW HT_.out HW_.out (by kernel_rfl)) (fun _ _ _ h => h) (Or.inl ⟨by rfl, ?_⟩) hHeld ?_ ?_
                                        rotate_left
                                        · intro w' _
                                          go_simp
                                          with_reducible rfl
                                        rotate_left
                                        · simp only [Act.put, List.setIfInBounds_toArray, List.set_cons_zero, List.set_cons_succ, i64_w, i32_w]
                                          rfl
                                        refine pure_ (i := 12) (N := some 44) (v := ?_) (a' := ?_) #[true, true, true, true, true, true, true, true, true, true, true, true, true, false, true, false, false, false, true, false, false, false, false, true, false, false, false, false, true, false, false, false, false, false, false, false] rfl rfl (any_of HT_.out (by kernel_rfl)) (fun _ _ _ h => h) (Or.inl ⟨by rfl, ?_⟩) ?_ ?_
                                        rotate_left
                                        · intro w'
                                          go_simp
                                          with_reducible rfl
                                        rotate_left
                                        · simp only [Act.put, List.setIfInBounds_toArray, List.set_cons_zero, List.set_cons_succ, i64_w, i32_w]
                                          rfl
                                        refine pure_ (i := 13) (N := some 45) (v := ?_) (a' := ?_) #[true, true, true, true, true, true, true, true, true, true, true, true, true, true, true, false, false, false, true, false, false, false, false, true, false, false, false, false, true, false, false, false, false, false, false, false] rfl rfl (any_of HT_.out (by kernel_rfl)) (fun _ _ _ h => h) (Or.inl ⟨by rfl, ?_⟩) ?_ ?_
                                        rotate_left
                                        · intro w'
                                          go_simp
                                          with_reducible rfl
                                        rotate_left
                                        · simp only [Act.put, List.setIfInBounds_toArray, List.set_cons_zero, List.set_cons_succ, i64_w, i32_w]
                                          rfl
                                        refine take_ (i := 15) (N := some 47) (v := ?_) (a' := ?_) #[true, true, true, true, true, true, true, true, true, true, true, true, true, true, true, true, false, false, true, false, false, false, false, true, false, false, false, false, true, false, false, false, false, false, false, false] rfl rfl (take_ofW HT_.out HW_.out (by kernel_rfl)) (fun _ _ _ h => h) (Or.inl ⟨by rfl, ?_⟩) hHeld ?_ ?_
                                        rotate_left
                                        · intro w' _
                                          go_simp
                                          with_reducible rfl
                                        rotate_left
                                        · simp only [Act.put, List.setIfInBounds_toArray, List.set_cons_zero, List.set_cons_succ, i64_w, i32_w]
                                          rfl
                                        refine pure_ (i := 16) (N := some 48) (v := ?_) (a' := ?_) #[true, true, true, true, true, true, true, true, true, true, true, true, true, true, true, true, true, false, true, false, false, false, false, true, false, false, false, false, true, false, false, false, false, false, false, false] rfl rfl (any_of HT_.out (by kernel_rfl)) (fun _ _ _ h => h) (Or.inl ⟨by rfl, ?_⟩) ?_ ?_
                                        rotate_left
                                        · intro w'
                                          go_simp
                                          with_reducible rfl
                                        rotate_left
                                        · simp only [Act.put, List.setIfInBounds_toArray, List.set_cons_zero, List.set_cons_succ, i64_w, i32_w]
                                          rfl
                                        refine pure_ (i := 17) (N := some 49) (v := ?_) (a' := ?_) #[true, true, true, true, true, true, true, true, true, true, true, true, true, true, true, true, true, true, true, false, false, false, false, true, false, false, false, false, true, false, false, false, false, false, false, false] rfl rfl (any_of HT_.out (by kernel_rfl)) (fun _ _ _ h => h) (Or.inl ⟨by rfl, ?_⟩) ?_ ?_
                                        rotate_left
                                        · intro w'
                                          go_simp
                                          with_reducible rfl
                                        rotate_left
                                        · simp only [Act.put, List.setIfInBounds_toArray, List.set_cons_zero, List.set_cons_succ, i64_w, i32_w]
                                          rfl
                                        refine take_ (i := 19) (N := some 51) (v := ?_) (a' := ?_) #[true, true, true, true, true, true, true, true, true, true, true, true, true, true, true, true, true, true, true, true, false, false, false, true, false, false, false, false, true, false, false, false, false, false, false, false] rfl rfl (take_ofW HT_.out HW_.out (by kernel_rfl)) (fun _ _ _ h => h) (Or.inl ⟨by rfl, ?_⟩) hHeld ?_ ?_
                                        rotate_left
                                        · intro w' _
                                          go_simp
                                          with_reducible rfl
                                        rotate_left
                                        · simp only [Act.put, List.setIfInBounds_toArray, List.set_cons_zero, List.set_cons_succ, i64_w, i32_w]
                                          rfl
                                        refine pure_ (i := 20) (N := some 52) (v := ?_) (a' := ?_) #[true, true, true, true, true, true, true, true, true, true, true, true, true, true, true, true, true, true, true, true, true, false, false, true, false, false, false, false, true, false, false, false, false, false, false, false] rfl rfl (any_of HT_.out (by kernel_rfl)) (fun _ _ _ h => h) (Or.inl ⟨by rfl, ?_⟩) ?_ ?_
                                        rotate_left
                                        · intro w'
                                          go_simp
                                          with_reducible rfl
                                        rotate_left
                                        · simp only [Act.put, List.setIfInBounds_toArray, List.set_cons_zero, List.set_cons_succ, i64_w, i32_w]
                                          rfl
                                        refine pure_ (i := 21) (N := some 53) (v := ?_) (a' := ?_) #[true, true, true, true, true, true, true, true, true, true, true, true, true, true, true, true, true, true, true, true, true, true, false, true, false, false, false, false, true, false, false, false, false, false, false, false] rfl rfl (any_of HT_.out (by kernel_rfl)) (fun _ _ _ h => h) (Or.inl ⟨by rfl, ?_⟩) ?_ ?_
                                        rotate_left
                                        · intro w'
                                          go_simp
                                          with_reducible rfl
                                        rotate_left
                                        · simp only [Act.put, List.setIfInBounds_toArray, List.set_cons_zero, List.set_cons_succ, i64_w, i32_w]
                                          rfl
                                        refine pure_ (i := 22) (N := some 54) (v := ?_) (a' := ?_) #[true, true, true, true, true, true, true, true, true, true, true, true, true, true, true, true, true, true, true, true, true, true, true, true, false, false, false, false, true, false, false, false, false, false, false, false] rfl rfl (any_of HT_.out (by kernel_rfl)) (fun _ _ _ h => h) (Or.inl ⟨by rfl, ?_⟩) ?_ ?_
                                        rotate_left
                                        · intro w'
                                          go_simp
                                          with_reducible rfl
                                        rotate_left
                                        · simp only [Act.put, List.setIfInBounds_toArray, List.set_cons_zero, List.set_cons_succ, i64_w, i32_w]
                                          rfl
                                        refine take_ (i := 24) (N := some 56) (v := ?_) (a' := ?_) #[true, true, true, true, true, true, true, true, true, true, true, true, true, true, true, true, true, true, true, true, true, true, true, true, true, false, false, false, true, false, false, false, false, false, false, false] rfl rfl (take_ofW HT_.out HW_.out (by kernel_rfl)) (fun _ _ _ h => h) (Or.inl ⟨by rfl, ?_⟩) hHeld ?_ ?_
                                        rotate_left
                                        · intro w' _
                                          go_simp
                                          with_reducible rfl
                                        rotate_left
                                        · simp only [Act.put, List.setIfInBounds_toArray, List.set_cons_zero, List.set_cons_succ, i64_w, i32_w]
                                          rfl
                                        refine pure_ (i := 25) (N := some 57) (v := ?_) (a' := ?_) #[true, true, true, true, true, true, true, true, true, true, true, true, true, true, true, true, true, true, true, true, true, true, true, true, true, true, false, false, true, false, false, false, false, false, false, false] rfl rfl (any_of HT_.out (by kernel_rfl)) (fun _ _ _ h => h) (Or.inl ⟨by rfl, ?_⟩) ?_ ?_
                                        rotate_left
                                        · intro w'
                                          go_simp
                                          with_reducible rfl
                                        rotate_left
                                        · simp only [Act.put, List.setIfInBounds_toArray, List.set_cons_zero, List.set_cons_succ, i64_w, i32_w]
                                          rfl
                                        refine pure_ (i := 26) (N := some 58) (v := ?_) (a' := ?_) #[true, true, true, true, true, true, true, true, true, true, true, true, true, true, true, true, true, true, true, true, true, true, true, true, true, true, true, false, true, false, false, false, false, false, false, false] rfl rfl (any_of HT_.out (by kernel_rfl)) (fun _ _ _ h => h) (Or.inl ⟨by rfl, ?_⟩) ?_ ?_
                                        rotate_left
                                        · intro w'
                                          go_simp
                                          with_reducible rfl
                                        rotate_left
                                        · simp only [Act.put, List.setIfInBounds_toArray, List.set_cons_zero, List.set_cons_succ, i64_w, i32_w]
                                          rfl
                                        refine pure_ (i := 27) (N := some 59) (v := ?_) (a' := ?_) #[true, true, true, true, true, true, true, true, true, true, true, true, true, true, true, true, true, true, true, true, true, true, true, true, true, true, true, true, true, false, false, false, false, false, false, false] rfl rfl (any_of HT_.out (by kernel_rfl)) (fun _ _ _ h => h) (Or.inl ⟨by rfl, ?_⟩) ?_ ?_
                                        rotate_left
                                        · intro w'
                                          go_simp
                                          with_reducible rfl
                                        rotate_left
                                        · simp only [Act.put, List.setIfInBounds_toArray, List.set_cons_zero, List.set_cons_succ, i64_w, i32_w]
                                          rfl
                                        refine take_ (i := 29) (N := some 61) (v := ?_) (a' := ?_) #[true, true, true, true, true, true, true, true, true, true, true, true, true, true, true, true, true, true, true, true, true, true, true, true, true, true, true, true, true, true, false, false, false, false, false, false] rfl rfl (take_ofW HT_.out HW_.out (by kernel_rfl)) (fun _ _ _ h => h) (Or.inl ⟨by rfl, ?_⟩) hHeld ?_ ?_
                                        rotate_left
                                        · intro w' _
                                          go_simp
                                          with_reducible rfl
                                        rotate_left
                                        · simp only [Act.put, List.setIfInBounds_toArray, List.set_cons_zero, List.set_cons_succ, i64_w, i32_w]
                                          rfl
                                        refine pure_ (i := 30) (N := some 62) (v := ?_) (a' := ?_) #[true, true, true, true, true, true, true, true, true, true, true, true, true, true, true, true, true, true, true, true, true, true, true, true, true, true, true, true, true, true, true, false, false, false, false, false] rfl rfl (any_of HT_.out (by kernel_rfl)) (fun _ _ _ h => h) (Or.inl ⟨by rfl, ?_⟩) ?_ ?_
                                        rotate_left
                                        · intro w'
                                          go_simp
                                          with_reducible rfl
                                        rotate_left
                                        · simp only [Act.put, List.setIfInBounds_toArray, List.set_cons_zero, List.set_cons_succ, i64_w, i32_w]
                                          rfl
                                        refine pure_ (i := 31) (N := some 63) (v := ?_) (a' := ?_) #[true, true, true, true, true, true, true, true, true, true, true, true, true, true, true, true, true, true, true, true, true, true, true, true, true, true, true, true, true, true, true, true, false, false, false, false] rfl rfl (any_of HT_.out (by kernel_rfl)) (fun _ _ _ h => h) (Or.inl ⟨by rfl, ?_⟩) ?_ ?_
                                        rotate_left
                                        · intro w'
                                          go_simp
                                          with_reducible rfl
                                        rotate_left
                                        · simp only [Act.put, List.setIfInBounds_toArray, List.set_cons_zero, List.set_cons_succ, i64_w, i32_w]
                                          rfl
                                        refine pure_ (i := 32) (N := some 64) (v := ?_) (a' := ?_) #[true, true, true, true, true, true, true, true, true, true, true, true, true, true, true, true, true, true, true, true, true, true, true, true, true, true, true, true, true, true, true, true, true, false, false, false] rfl rfl (any_of HT_.out (by kernel_rfl)) (fun _ _ _ h => h) (Or.inl ⟨by rfl, ?_⟩) ?_ ?_
                                        rotate_left
                                        · intro w'
                                          go_simp
                                          with_reducible rfl
                                        rotate_left
                                        · simp only [Act.put, List.setIfInBounds_toArray, List.set_cons_zero, List.set_cons_succ, i64_w, i32_w]
                                          rfl
                                        refine one_ (i := 33) (N := some 65) #[true, true, true, true, true, true, true, true, true, true, true, true, true, true, true, true, true, true, true, true, true, true, true, true, true, true, true, true, true, true, true, true, true, true, false, false] rfl rfl (one_of HT_.out (by kernel_rfl)) (by decide) (fun K hK => ?_)
                                        refine value_ (w1 := ?_) (v := ?_) (by rfl) rfl ?_ ?_
                                        rotate_left 2
                                        · go_simp
                                          constructor
                                          · rfl
                                          · rfl
                                        refine hK.out _ _ trivial (fun hHeld => ?_)
                                        clear hK K
                                        refine norm_ (a' := ?_) ?_ ?_
                                        rotate_left
                                        · show Act.put _ (some 65) _ = _
                                          simp only [Act.put, List.setIfInBounds_toArray, List.set_cons_zero, List.set_cons_succ, i64_w, i32_w]
                                          rfl
                                        refine one_ (i := 34) (N := some 66) #[true, true, true, true, true, true, true, true, true, true, true, true, true, true, true, true, true, true, true, true, true, true, true, true, true, true, true, true, true, true, true, true, true, true, true, false] rfl rfl (one_of HT_.out (by kernel_rfl)) (by decide) (fun K hK => ?_)
                                        refine Kd.R_append_step k49 (w0 := w) w.heap.size (by rfl) (.tmp 32) (.tmp 65) 36 49 (.agg #[(.string ⟨#[]⟩), (.int .i64 0), (.int .i64 0)]) 32 rfl Tryd.underlying36 info49 rfl (by decide) (by omega) u3 x3_2 (⟨a0.extract (x4_2 : Int).toNat ((ji10) : Int).toNat, Go.bits .or .i64 (wrap64 ((wrap64 (bt (a0.extract ((ji10) : Int).toNat ((wrap64 (x4_2 + 38)) : Int).toNat) 0)) * 256)) (wrap64 (bt (a0.extract ((ji10) : Int).toNat ((wrap64 (x4_2 + 38)) : Int).toNat) 1)), Go.bits .or .i64 (Go.bits .or .i64 (Go.bits .or .i64 (wrap64 ((wrap64 (bt (a0.extract ((ji10) : Int).toNat ((wrap64 (x4_2 + 38)) : Int).toNat) 2)) * 16777216)) (wrap64 ((wrap64 (bt (a0.extract ((ji10) : Int).toNat ((wrap64 (x4_2 + 38)) : Int).toNat) 3)) * 65536))) (wrap64 ((wrap64 (bt (a0.extract ((ji10) : Int).toNat ((wrap64 (x4_2 + 38)) : Int).toNat) 4)) * 256))) (wrap64 (bt (a0.extract ((ji10) : Int).toNat ((wrap64 (x4_2 + 38)) : Int).toNat) 5))⟩ : S49) [.string (a0.extract (x4_2 : Int).toNat ((ji10) : Int).toNat), .int .i64 (Go.bits .or .i64 (wrap64 ((wrap64 (bt (a0.extract ((ji10) : Int).toNat ((wrap64 (x4_2 + 38)) : Int).toNat) 0)) * 256)) (wrap64 (bt (a0.extract ((ji10) : Int).toNat ((wrap64 (x4_2 + 38)) : Int).toNat) 1))), .int .i64 (Go.bits .or .i64 (Go.bits .or .i64 (Go.bits .or .i64 (wrap64 ((wrap64 (bt (a0.extract ((ji10) : Int).toNat ((wrap64 (x4_2 + 38)) : Int).toNat) 2)) * 16777216)) (wrap64 ((wrap64 (bt (a0.extract ((ji10) : Int).toNat ((wrap64 (x4_2 + 38)) : Int).toNat) 3)) * 65536))) (wrap64 ((wrap64 (bt (a0.extract ((ji10) : Int).toNat ((wrap64 (x4_2 + 38)) : Int).toNat) 4)) * 256))) (wrap64 (bt (a0.extract ((ji10) : Int).toNat ((wrap64 (x4_2 + 38)) : Int).toNat) 5)))] (fun _ => True) (fun _ => False) rfl rfl ?aP (fun _ hk => hk.elim) ?aF ?aO ?aB ?aS ?aL ?_
                                        (case aP => exact k49_mkM _ _ _ (⟨a0.extract (x4_2 : Int).toNat ((ji10) : Int).toNat, Go.bits .or .i64 (wrap64 ((wrap64 (bt (a0.extract ((ji10) : Int).toNat ((wrap64 (x4_2 + 38)) : Int).toNat) 0)) * 256)) (wrap64 (bt (a0.extract ((ji10) : Int).toNat ((wrap64 (x4_2 + 38)) : Int).toNat) 1)), Go.bits .or .i64 (Go.bits .or .i64 (Go.bits .or .i64 (wrap64 ((wrap64 (bt (a0.extract ((ji10) : Int).toNat ((wrap64 (x4_2 + 38)) : Int).toNat) 2)) * 16777216)) (wrap64 ((wrap64 (bt (a0.extract ((ji10) : Int).toNat ((wrap64 (x4_2 + 38)) : Int).toNat) 3)) * 65536))) (wrap64 ((wrap64 (bt (a0.extract ((ji10) : Int).toNat ((wrap64 (x4_2 + 38)) : Int).toNat) 4)) * 256))) (wrap64 (bt (a0.extract ((ji10) : Int).toNat ((wrap64 (x4_2 + 38)) : Int).toNat) 5))⟩ : S49))
                                        (case aB => exact (by repeat (first | (with_reducible first | exact HB.out | apply below_alloc | apply pw_below_drewN | apply below_drew1 | refine below_set ?_ GE199.out) | exact HB.out)))
                                        (case aF => exact (fun _ _ => trivial))
                                        (case aO => exact (by (with_reducible repeat (first | apply Kd.R_alloc | apply Kd.R_drewN | apply Kd.R_drew)); exact HO_3.out))
                                        (case aS => exact (below_size (by repeat (first | (with_reducible first | exact HB.out | apply below_alloc | apply pw_below_drewN | apply below_drew1 | refine below_set ?_ GE199.out) | exact HB.out))))
                                        (case aL => have := LMc29.out; omega)
                                        intro v201 w31 ho hb hg hat
                                        rw [← Ny200.out] at ho
                                        have n0_ := Aside0.mk (blk_grown (g := gb199) (o := .cells #[.slice none 0 0, .bool false] 44 (0, 0)) (by (with_reducible repeat (first | refine blk_drewN ?_ _ | refine blk_drew ?_ | refine blk_alloc ?_ _)); exact BK199.out) hg (Kd.R_ne HO_3.out BK199.out (by decide)))
                                        have n1_ := Aside0.mk (hb)
                                        have n2_ := Aside0.mk (ho)
                                        clear BK199
                                        clear HB
                                        clear HO_3
                                        have BK199 := n0_
                                        have HB := n1_
                                        have HO202 := n2_
                                        clear n0_ n1_ n2_
                                        clear ho hb hg hat
                                        refine hK.out _ _ trivial (fun hHeld => ?_)
                                        clear hK K
                                        refine norm_ (a' := ?_) ?_ ?_
                                        rotate_left
                                        · show Act.put _ (some 66) _ = _
                                          simp only [Act.put, List.setIfInBounds_toArray, List.set_cons_zero, List.set_cons_succ, i64_w, i32_w]
                                          rfl
                                        refine pure_ (i := 35) (N := some 3) (v := ?_) (a' := ?_) #[true, true, true, true, true, true, true, true, true, true, true, true, true, true, true, true, true, true, true, true, true, true, true, true, true, true, true, true, true, true, true, true, true, true, true, true] rfl rfl (any_of HT_.out (by kernel_rfl)) (fun _ _ _ h => h) (Or.inl ⟨by rfl, ?_⟩) ?_ ?_
                                        rotate_left
                                        · intro w'
                                          go_simp
                                          with_reducible rfl
                                        rotate_left
                                        · simp only [Act.put, List.setIfInBounds_toArray, List.set_cons_zero, List.set_cons_succ, i64_w, i32_w]
                                          rfl
                                        refine done_ (done_of HT_.out (by kernel_rfl)) ?_
                                        try go_wp2
                                        go_roundg k2
                                        case measure => have := HJ1.out; have := HK2.out; omega
                                        case rel => exact ⟨(y200), (wrap64 (x4_2 + 38)), (by first | rfl | (simp; done) | (simp [*]; done)), H', ⟨by have := HJ1.out; have := HK2.out; omega⟩, ⟨by (with_reducible repeat (first | apply Kd.R_alloc | apply Kd.R_drewN | apply Kd.R_drew)); exact HO202.out⟩, ⟨by (with_reducible repeat (first | refine blk_drewN ?_ _ | refine blk_drew ?_ | refine blk_alloc ?_ _)); exact BK199.out⟩, ⟨by repeat (first | (with_reducible first | exact HB.out | apply below_alloc | apply pw_below_drewN | apply below_drew1 | refine below_set ?_ GE199.out) | exact HB.out)⟩⟩
                                      · rw [if_neg c29] at H
                                        exact absurd H (by simp)
                                    · rw [if_neg c27] at H
                                      exact absurd H (by simp)
                                  · rw [if_neg c25] at H
                                    exact absurd H (by simp)
                                · rw [if_neg c23] at H
                                  exact absurd H (by simp)
                              · rw [if_neg c21] at H
                                exact absurd H (by simp)
                            · rw [if_neg c19] at H
                              exact absurd H (by simp)
                          · rw [if_neg c17] at H
                            exact absurd H (by simp)
                        · rw [if_neg c16] at H
                          exact absurd H (by simp)
                      · rw [if_neg c15] at H
                        exact absurd H (by simp)
                    · rw [if_neg c14] at H
                      exact absurd H (by simp)
                  · rw [if_neg c13] at H
                    exact absurd H (by simp)
                · rw [if_neg c12] at H
                  exact absurd H (by simp)
              · rw [if_neg c11] at H
                exact absurd H (by simp)
            · rw [if_neg c9] at H
              have c9b0 : decide (x4_2 < (a0.size : Int)) = false := decide_eq_false c9
              clear c9
              replace H := Option.bind_eq_some_iff.mp H
              obtain ⟨t203, A320, H⟩ := H
              replace H : (if t203.toList = a0.toList then (some (x3_2, true)) else (some (([] : List (S49)), false))) = some (r1, r2) := H
              have A32 := Aside0.mk A320
              clear A320
              by_cases c33 : t203.toList = a0.toList
              · rw [if_pos c33] at H
                have c33b0 : (t203.toList == a0.toList) = true := beq_iff_eq.mpr c33
                have c33b1 : (t203.toList != a0.toList) = false := bne_eq_false_iff_eq.mpr c33
                clear c33
                simp only [Option.some.injEq, Prod.mk.injEq] at H
                obtain ⟨rfl, rfl⟩ := H
                obtain ⟨Ao34, co34, eo34⟩ := Kd.R_slice HO_3.out
                subst eo34
                go_wp2_with (first | ((with_reducible refine gate_callee (f := 22) rfl ?_); refine goesL_ (some 68) rfl rfl Tryd.func22 (by kernel_rfl) rfl #[.slice Ao34 x3_2.length co34] rfl (by (try simp only [List.map_toArray, List.map_cons, List.map_nil]); first | done | rfl | (simp only [List.length_drop, List.length_take]; rfl)) ?_; (with_reducible refine (umbelref21_Encode.calls k2 _ _ x3_2 t203 _ ?side1 ?side2 A32.out).mono ?_); (case side1 => repeat (first | exact (Kd.R_reads' HO_3.out).2.2 | (with_reducible refine Kd.C_alloc ?_ _) | (with_reducible refine Kd.C_drewN ?_ _) | (with_reducible refine Kd.C_drew ?_))); (case side2 => exact (Kd.R_reads' HO_3.out).2.1); rintro e w35 ⟨rfl, hb⟩; refine ⟨_, rfl, ?_⟩; have n0_ := Aside0.mk (Kd.R_below (by (with_reducible repeat (first | apply Kd.R_alloc | apply Kd.R_drewN | apply Kd.R_drew)); exact HO_3.out) hb); have n1_ := Aside0.mk (blk_below (g := gb199) (o := .cells #[.slice none 0 0, .bool false] 44 (0, 0)) (by (with_reducible repeat (first | refine blk_drewN ?_ _ | refine blk_drew ?_ | refine blk_alloc ?_ _)); exact BK199.out) hb); have n2_ := Aside0.mk (below_step (by repeat (first | (with_reducible first | exact HB.out | apply below_alloc | apply pw_below_drewN | apply below_drew1 | refine below_set ?_ GE199.out) | exact HB.out)) hb); clear HO_3; clear BK199; clear HB; have HO_3 := n0_; have BK199 := n1_; have HB := n2_; clear n0_ n1_ n2_; (try clear hb); (try clear hb2); (try clear hk); (try clear hi); have hcz36_0 : w35.cell? ⟨gb199, 0, none⟩ = some (.slice none 0 0) := (blk_cell BK199.out 0).trans rfl; have hcz36_1 : w35.cell? ⟨gb199, 1, none⟩ = some (.bool false) := (blk_cell BK199.out 1).trans rfl; have hfz36_0 := blk_frozen BK199.out 0; have hfz36_1 := blk_frozen BK199.out 1))
                refine bodyPost_ret (results_cell_row rfl _ _ gb199 44 #[.slice Ao34 x3_2.length co34, .bool true] (0, 0) _ rfl (by (with_reducible repeat (first | refine blk_drewN ?_ _ | refine blk_drew ?_ | refine blk_alloc ?_ _)); refine blk_put (cs := #[.slice Ao34 x3_2.length co34, .bool false]) ?_ 1 _ rfl; (with_reducible repeat (first | refine blk_drewN ?_ _ | refine blk_drew ?_ | refine blk_alloc ?_ _)); refine blk_put (cs := #[.slice none 0 0, .bool false]) ?_ 0 _ rfl; (with_reducible repeat (first | refine blk_drewN ?_ _ | refine blk_drew ?_ | refine blk_alloc ?_ _)); exact BK199.out) Tryd.underlying44 rfl (by kernel_rfl)) rfl ?_
                exact ⟨_, by first | rfl | (simp [errW_none, errW_some] <;> rfl) | (simp [*, errW_none, errW_some] <;> rfl), by (with_reducible repeat (first | apply Kd.R_alloc | apply Kd.R_drewN | apply Kd.R_drew)); exact Kd.R_mono (Kd.R_far (p := ⟨gb199, 1, none⟩) (Kd.R_far (p := ⟨gb199, 0, none⟩) (Kd.R_types HO_3.out BK199.out (by decide)) (fun _ hk => hk.2) (.slice Ao34 x3_2.length co34)) (fun _ hk => hk.2) (.bool true)) (fun _ hk => trivial), by repeat (first | (with_reducible first | exact HB.out | apply below_alloc | apply pw_below_drewN | apply below_drew1 | refine below_set ?_ GE199.out) | exact HB.out)⟩
              · rw [if_neg c33] at H
                have c33b0 : (t203.toList == a0.toList) = false := beq_eq_false_iff_ne.mpr c33
                have c33b1 : (t203.toList != a0.toList) = true := bne_iff_ne.mpr c33
                simp only [Option.some.injEq, Prod.mk.injEq] at H
                obtain ⟨rfl, rfl⟩ := H
                obtain ⟨Ao37, co37, eo37⟩ := Kd.R_slice HO_3.out
                subst eo37
                go_wp2_with (first | ((with_reducible refine gate_callee (f := 22) rfl ?_); refine goesL_ (some 68) rfl rfl Tryd.func22 (by kernel_rfl) rfl #[.slice Ao37 x3_2.length co37] rfl (by (try simp only [List.map_toArray, List.map_cons, List.map_nil]); first | done | rfl | (simp only [List.length_drop, List.length_take]; rfl)) ?_; (with_reducible refine (umbelref21_Encode.calls k2 _ _ x3_2 t203 _ ?side1 ?side2 A32.out).mono ?_); (case side1 => repeat (first | exact (Kd.R_reads' HO_3.out).2.2 | (with_reducible refine Kd.C_alloc ?_ _) | (with_reducible refine Kd.C_drewN ?_ _) | (with_reducible refine Kd.C_drew ?_))); (case side2 => exact (Kd.R_reads' HO_3.out).2.1); rintro e w38 ⟨rfl, hb⟩; refine ⟨_, rfl, ?_⟩; have n0_ := Aside0.mk (Kd.R_below (by (with_reducible repeat (first | apply Kd.R_alloc | apply Kd.R_drewN | apply Kd.R_drew)); exact HO_3.out) hb); have n1_ := Aside0.mk (blk_below (g := gb199) (o := .cells #[.slice none 0 0, .bool false] 44 (0, 0)) (by (with_reducible repeat (first | refine blk_drewN ?_ _ | refine blk_drew ?_ | refine blk_alloc ?_ _)); exact BK199.out) hb); have n2_ := Aside0.mk (below_step (by repeat (first | (with_reducible first | exact HB.out | apply below_alloc | apply pw_below_drewN | apply below_drew1 | refine below_set ?_ GE199.out) | exact HB.out)) hb); clear HO_3; clear BK199; clear HB; have HO_3 := n0_; have BK199 := n1_; have HB := n2_; clear n0_ n1_ n2_; (try clear hb); (try clear hb2); (try clear hk); (try clear hi); have hcz39_0 : w38.cell? ⟨gb199, 0, none⟩ = some (.slice none 0 0) := (blk_cell BK199.out 0).trans rfl; have hcz39_1 : w38.cell? ⟨gb199, 1, none⟩ = some (.bool false) := (blk_cell BK199.out 1).trans rfl; have hfz39_0 := blk_frozen BK199.out 0; have hfz39_1 := blk_frozen BK199.out 1))
                refine bodyPost_ret (results_cell_row rfl _ _ gb199 44 #[.slice none 0 0, .bool false] (0, 0) _ rfl (by (with_reducible repeat (first | refine blk_drewN ?_ _ | refine blk_drew ?_ | refine blk_alloc ?_ _)); refine blk_put (cs := #[.slice none 0 0, .bool false]) ?_ 1 _ rfl; (with_reducible repeat (first | refine blk_drewN ?_ _ | refine blk_drew ?_ | refine blk_alloc ?_ _)); refine blk_put (cs := #[.slice none 0 0, .bool false]) ?_ 0 _ rfl; (with_reducible repeat (first | refine blk_drewN ?_ _ | refine blk_drew ?_ | refine blk_alloc ?_ _)); exact BK199.out) Tryd.underlying44 rfl (by kernel_rfl)) rfl ?_
                exact ⟨_, by first | rfl | (simp [errW_none, errW_some] <;> rfl) | (simp [*, errW_none, errW_some] <;> rfl), by first | exact Kd.R_nil _ _ _ _ _ | exact Kd.N_nil _ _ _ _ _ | exact Kd.V_nil _ _ _ _ _ | exact Kd.Q_nil _ _ _ _ _ | exact Kd.S_nil _ _ _ _ _, by repeat (first | (with_reducible first | exact HB.out | apply below_alloc | apply pw_below_drewN | apply below_drew1 | refine below_set ?_ GE199.out) | exact HB.out)⟩

end Go.Proofs.YtbphehijikdkjaaDoor.PRng
