-- Written by a program of this session for this seat. Not trusted: Lean checks it.
import Derived.Test.YtiajgmocmnjijaaDoorPPagx0
import Derived.Test.YtiajgmocmnjijaaDoorPPagx5
namespace Go.Proofs.YtiajgmocmnjijaaDoor.PPag
open Go.RowKit Go.Proofs.YtiajgmocmnjijaaDoorW.PrintWords Go.Proofs.YtiajgmocmnjijaaDoorW.PrintLast Go.Proofs.YtiajgmocmnjijaaDoorW.PrintMore
attribute [local go_sem] max2_int min2_int max_two min_two max_three min_three max_four min_four   -- for this text's walks alone
set_option linter.unusedVariables false
set_option linter.unusedSimpArgs false
open Go.Proofs.YtiajgmocmnjijaaDoor.HW Go.Proofs.YtiajgmocmnjijaaDoor.SumH

/-! ### umbelref07_Put: function 12 -/
def umbelref07_Put.j0 : Nat → Int → Bool → Int → Int → ByteArray → Option (ByteArray)
  | 0, _, _, _, _, _ => none
  | k + 1, x1, x37, x164000, x164001, x164002 => if x37 = true then (some (⟨#[]⟩ : ByteArray)) else ((umbelref07_big.f k x164000 1).bind fun t164 => ((umbelref07_big.f k x1 2).bind fun t165 => (if t164.size + t165.size ≤ 9223372036854775807 then ((umbelref07_big.f k x164001 4).bind fun t166 => (if (t164 ++ t165).size + t166.size ≤ 9223372036854775807 then ((umbelref07_big.f k (x164002.size : Int) 2).bind fun t167 => (if ((t164 ++ t165) ++ t166).size + t167.size ≤ 9223372036854775807 then (if (((t164 ++ t165) ++ t166) ++ t167).size + x164002.size ≤ 9223372036854775807 then (if 0 ≤ (wrap64 (252 - (((((t164 ++ t165) ++ t166) ++ t167) ++ x164002).size : Int))) then (if (wrap64 (252 - (((((t164 ++ t165) ++ t166) ++ t167) ++ x164002).size : Int)) : Int).toNat ≤ 281474976710656 then ((some (List.replicate (wrap64 (252 - (((((t164 ++ t165) ++ t166) ++ t167) ++ x164002).size : Int)) : Int).toNat 0 : List Int)).bind fun y168 => (if ((((t164 ++ t165) ++ t166) ++ t167) ++ x164002).size + (strOfNums y168).size ≤ 9223372036854775807 then ((umbelref03_Of.f (((((t164 ++ t165) ++ t166) ++ t167) ++ x164002) ++ (strOfNums y168))).bind fun t171 => ((umbelref03_Put.f t171).bind fun t172 => (if (((((t164 ++ t165) ++ t166) ++ t167) ++ x164002) ++ (strOfNums y168)).size + t172.size ≤ 9223372036854775807 then (some ((((((t164 ++ t165) ++ t166) ++ t167) ++ x164002) ++ (strOfNums y168)) ++ t172)) else (none)))) else (none))) else (none)) else (none)) else (none)) else (none))) else (none))) else (none))))
def umbelref07_Put.f (k : Nat) (a0_0 : Int) (a0_1 : Int) (a0_2 : ByteArray) (a1 : Int) : Option (ByteArray) := if a0_0 < 1 then (umbelref07_Put.j0 k a1 true a0_0 a0_1 a0_2) else (if a0_0 > 255 then (umbelref07_Put.j0 k a1 true a0_0 a0_1 a0_2) else (if a1 < 0 then (umbelref07_Put.j0 k a1 true a0_0 a0_1 a0_2) else (if a1 > 65535 then (umbelref07_Put.j0 k a1 true a0_0 a0_1 a0_2) else (if a0_1 < 0 then (umbelref07_Put.j0 k a1 true a0_0 a0_1 a0_2) else (if a0_1 > 2147483647 then (umbelref07_Put.j0 k a1 true a0_0 a0_1 a0_2) else (umbelref07_Put.j0 k a1 (decide ((a0_2.size : Int) > 243)) a0_0 a0_1 a0_2))))))
theorem umbelref07_Put.mono_l : ∀ k, (∀ y0 y1 y2 y3 y4, LeO (umbelref07_Put.j0 k y0 y1 y2 y3 y4) (umbelref07_Put.j0 (k + 1) y0 y1 y2 y3 y4))
  | 0 => fun _ _ _ _ _ r h => by simp [umbelref07_Put.j0] at h
  | k + 1 => by
    have ih0 := umbelref07_Put.mono_l k
    · intro y0 y1 y2 y3 y4
      unfold umbelref07_Put.j0
      repeat' first
      | (with_reducible exact ih0 _ _ _ _ _)
      | (with_reducible exact umbelref07_big.mono _ _ _)
      | (with_reducible exact LeO.refl _)
      | (with_reducible exact LeO.none _)
      | (with_reducible refine LeO.ite ?_ ?_)
      | (with_reducible refine LeO.bind ?_ (fun _ => ?_))
      | exact ih0 _ _ _ _ _
      | exact umbelref07_big.mono _ _ _
      | exact LeO.none _
      | refine LeO.ite ?_ ?_
      | refine LeO.bind ?_ (fun _ => ?_)
theorem umbelref07_Put.mono : ∀ a0 a1 a2 a3 k, LeO (umbelref07_Put.f k a0 a1 a2 a3) (umbelref07_Put.f (k + 1) a0 a1 a2 a3) := by
  intro a0 a1 a2 a3 k
  have ih0 := umbelref07_Put.mono_l k
  unfold umbelref07_Put.f
  repeat' first
      | (with_reducible exact ih0 _ _ _ _ _)
      | (with_reducible exact umbelref07_big.mono _ _ _)
      | (with_reducible exact LeO.refl _)
      | (with_reducible exact LeO.none _)
      | (with_reducible refine LeO.ite ?_ ?_)
      | (with_reducible refine LeO.bind ?_ (fun _ => ?_))
      | exact ih0 _ _ _ _ _
      | exact umbelref07_big.mono _ _ _
      | exact LeO.none _
      | refine LeO.ite ?_ ?_
      | refine LeO.bind ?_ (fun _ => ?_)
def umbelref07_Put.T3 : Bool × List (List Nat × List Nat) := (true, [([], []), ([0], [0]), ([1], [1]), ([], []), ([3, 2], [3]), ([2, 4], [2, 4]), ([], []), ([6], [6]), ([7, 4], [7]), ([5, 8], [5, 8]), ([], []), ([10], [10]), ([11], [11]), ([12, 8], [12]), ([9, 13], [9, 13]), ([], []), ([15], [15]), ([14, 16], [14, 16]), ([17, 13, 0, 1, 2, 3, 4, 5, 6, 7, 8, 9, 10, 11, 12, 13, 14, 15, 16, 17], [17])])
def umbelref07_Put.B3 : List Nat := [0, 1, 3, 0, 15, 31, 0, 64, 223, 511, 0, 1024, 3072, 7647, 16383, 0, 32768, 131071, 262143]
theorem umbelref07_Put.tab3 : rtab .any (opsOf Tryd.f12 3) = umbelref07_Put.T3 := by kernel_rfl
theorem umbelref07_Put.bits3 : waitsOk umbelref07_Put.T3.2 umbelref07_Put.B3 = true := by kernel_rfl
set_option maxHeartbeats 8000000 in
set_option maxRecDepth 100000 in
theorem umbelref07_Put.calls (k : Nat) (a0_0 : Int) (a0_1 : Int) (a0_2 : ByteArray) (a1 : Int) (r : ByteArray) (w : World) (h : umbelref07_Put.f k a0_0 a0_1 a0_2 a1 = some r) :
    Calls Tryd.prog 12 #[.agg #[.int .i64 a0_0, .int .i64 a0_1, .string a0_2], .int .i64 a1] w fun e w' => e = .returned (.string r) ∧ Below w.heap.size w w' := by
  have hu23 := Tryd.underlying23
  have HB := Aside0.mk (Below.refl w.heap.size w)
  have H : (if a0_0 < 1 then (umbelref07_Put.j0 k a1 true a0_0 a0_1 a0_2) else (if a0_0 > 255 then (umbelref07_Put.j0 k a1 true a0_0 a0_1 a0_2) else (if a1 < 0 then (umbelref07_Put.j0 k a1 true a0_0 a0_1 a0_2) else (if a1 > 65535 then (umbelref07_Put.j0 k a1 true a0_0 a0_1 a0_2) else (if a0_1 < 0 then (umbelref07_Put.j0 k a1 true a0_0 a0_1 a0_2) else (if a0_1 > 2147483647 then (umbelref07_Put.j0 k a1 true a0_0 a0_1 a0_2) else (umbelref07_Put.j0 k a1 (decide ((a0_2.size : Int) > 243)) a0_0 a0_1 a0_2))))))) = some r := h
  clear h
  have HC3 := Aside0.mk H
  clear H
  go_enter Tryd.func12, Tryd.ntmps12
  go_upto_region 1 with (first | ((with_reducible refine gate_dst (N := 2) rfl ?_); (try (refine gate_guard (by rfl) ?_; dsimp only)); refine box_event ?hg (N := 2) ?hd (cs := #[.int .i64 a0_0, .int .i64 a0_1, .string a0_2]) (t := 23) ?hr ?_; (case hd => rfl); (case hg => rfl); (case hr => first | (go_simp; done) | (go_simp; rfl)); intro gb163 hg w4 hbox hb; have n0_ := Aside0.mk (below_step (by repeat (first | (with_reducible first | exact HB.out | apply below_alloc | apply pw_below_drewN | apply below_drew1) | exact HB.out)) hb); have n1_ := Aside0.mk (hbox); have n2_ := Aside0.mk ((by rw [hg]; exact (below_size (by repeat (first | (with_reducible first | exact HB.out | apply below_alloc | apply pw_below_drewN | apply below_drew1) | exact HB.out))) : w.heap.size ≤ gb163)); have n3_ := Aside0.mk ((by rw [hg]; exact (below_size (by repeat (first | (with_reducible first | exact HB.out | apply below_alloc | apply pw_below_drewN | apply below_drew1) | exact HB.out))) : w.heap.size ≤ gb163)); clear HB; have HB := n0_; have BK163 := n1_; have GW163 := n2_; have GE163 := n3_; clear n0_ n1_ n2_ n3_; clear hb hbox hg))
  (try simp only [Act.put, List.setIfInBounds_toArray, List.set_cons_zero, List.set_cons_succ])
  go_cut [37] (fun v37 wc => ∃ (kq : Nat) (x37_2 : Bool), v37 = .bool x37_2 ∧ Aside0 (umbelref07_Put.j0 kq a1 x37_2 a0_0 a0_1 a0_2 = some r) ∧ Aside0 (kq ≤ k) ∧ Aside0 (wc.heap[gb163]? = some (.cells #[.int .i64 a0_0, .int .i64 a0_1, .string a0_2] 23 (0, 0))) ∧ Aside0 (Below w.heap.size w wc))
  case first =>
    have H := HC3.out
    clear HC3
    by_cases c5 : a0_0 < 1
    · rw [if_pos c5] at H
      have c5b0 : decide (a0_0 < 1) = true := decide_eq_true c5
      clear c5
      (first | rw [c5b0] | (simp only [i64_w, i32_w]; rw [c5b0]) | skip)
      have H' := Aside0.mk H
      clear H
      have hcz6_0 : w4.cell? ⟨gb163, 0, none⟩ = some (.int .i64 a0_0) := (blk_cell BK163.out 0).trans rfl
      have hcz6_1 : w4.cell? ⟨gb163, 1, none⟩ = some (.int .i64 a0_1) := (blk_cell BK163.out 1).trans rfl
      have hcz6_2 : w4.cell? ⟨gb163, 2, none⟩ = some (.string a0_2) := (blk_cell BK163.out 2).trans rfl
      have hfz6_0 := blk_frozen BK163.out 0
      have hfz6_1 := blk_frozen BK163.out 1
      have hfz6_2 := blk_frozen BK163.out 2
      go_wp2
      go_meet
      case rel => exact ⟨_, (true), (by first | rfl | (simp; done) | (simp [*]; done)), H', ⟨by first | omega | exact Nat.le_refl _⟩, ⟨by (with_reducible repeat (first | refine blk_drewN ?_ _ | refine blk_drew ?_ | refine blk_alloc ?_ _)); exact BK163.out⟩, ⟨by repeat (first | (with_reducible first | exact HB.out | apply below_alloc | apply pw_below_drewN | apply below_drew1 | refine below_set ?_ GE163.out) | exact HB.out)⟩⟩
    · rw [if_neg c5] at H
      have c5b0 : decide (a0_0 < 1) = false := decide_eq_false c5
      clear c5
      (first | rw [c5b0] | (simp only [i64_w, i32_w]; rw [c5b0]) | skip)
      by_cases c7 : a0_0 > 255
      · rw [if_pos c7] at H
        have c7b0 : decide (255 < a0_0) = true := decide_eq_true c7
        clear c7
        have H' := Aside0.mk H
        clear H
        have hcz8_0 : w4.cell? ⟨gb163, 0, none⟩ = some (.int .i64 a0_0) := (blk_cell BK163.out 0).trans rfl
        have hcz8_1 : w4.cell? ⟨gb163, 1, none⟩ = some (.int .i64 a0_1) := (blk_cell BK163.out 1).trans rfl
        have hcz8_2 : w4.cell? ⟨gb163, 2, none⟩ = some (.string a0_2) := (blk_cell BK163.out 2).trans rfl
        have hfz8_0 := blk_frozen BK163.out 0
        have hfz8_1 := blk_frozen BK163.out 1
        have hfz8_2 := blk_frozen BK163.out 2
        go_wp2
        go_meet
        case rel => exact ⟨_, (true), (by first | rfl | (simp; done) | (simp [*]; done)), H', ⟨by first | omega | exact Nat.le_refl _⟩, ⟨by (with_reducible repeat (first | refine blk_drewN ?_ _ | refine blk_drew ?_ | refine blk_alloc ?_ _)); exact BK163.out⟩, ⟨by repeat (first | (with_reducible first | exact HB.out | apply below_alloc | apply pw_below_drewN | apply below_drew1 | refine below_set ?_ GE163.out) | exact HB.out)⟩⟩
      · rw [if_neg c7] at H
        have c7b0 : decide (255 < a0_0) = false := decide_eq_false c7
        clear c7
        by_cases c9 : a1 < 0
        · rw [if_pos c9] at H
          have c9b0 : decide (a1 < 0) = true := decide_eq_true c9
          clear c9
          have H' := Aside0.mk H
          clear H
          have hcz10_0 : w4.cell? ⟨gb163, 0, none⟩ = some (.int .i64 a0_0) := (blk_cell BK163.out 0).trans rfl
          have hcz10_1 : w4.cell? ⟨gb163, 1, none⟩ = some (.int .i64 a0_1) := (blk_cell BK163.out 1).trans rfl
          have hcz10_2 : w4.cell? ⟨gb163, 2, none⟩ = some (.string a0_2) := (blk_cell BK163.out 2).trans rfl
          have hfz10_0 := blk_frozen BK163.out 0
          have hfz10_1 := blk_frozen BK163.out 1
          have hfz10_2 := blk_frozen BK163.out 2
          go_wp2
          go_meet
          case rel => exact ⟨_, (true), (by first | rfl | (simp; done) | (simp [*]; done)), H', ⟨by first | omega | exact Nat.le_refl _⟩, ⟨by (with_reducible repeat (first | refine blk_drewN ?_ _ | refine blk_drew ?_ | refine blk_alloc ?_ _)); exact BK163.out⟩, ⟨by repeat (first | (with_reducible first | exact HB.out | apply below_alloc | apply pw_below_drewN | apply below_drew1 | refine below_set ?_ GE163.out) | exact HB.out)⟩⟩
        · rw [if_neg c9] at H
          have c9b0 : decide (a1 < 0) = false := decide_eq_false c9
          clear c9
          by_cases c11 : a1 > 65535
          · rw [if_pos c11] at H
            have c11b0 : decide (65535 < a1) = true := decide_eq_true c11
            clear c11
            have H' := Aside0.mk H
            clear H
            have hcz12_0 : w4.cell? ⟨gb163, 0, none⟩ = some (.int .i64 a0_0) := (blk_cell BK163.out 0).trans rfl
            have hcz12_1 : w4.cell? ⟨gb163, 1, none⟩ = some (.int .i64 a0_1) := (blk_cell BK163.out 1).trans rfl
            have hcz12_2 : w4.cell? ⟨gb163, 2, none⟩ = some (.string a0_2) := (blk_cell BK163.out 2).trans rfl
            have hfz12_0 := blk_frozen BK163.out 0
            have hfz12_1 := blk_frozen BK163.out 1
            have hfz12_2 := blk_frozen BK163.out 2
            go_wp2
            go_meet
            case rel => exact ⟨_, (true), (by first | rfl | (simp; done) | (simp [*]; done)), H', ⟨by first | omega | exact Nat.le_refl _⟩, ⟨by (with_reducible repeat (first | refine blk_drewN ?_ _ | refine blk_drew ?_ | refine blk_alloc ?_ _)); exact BK163.out⟩, ⟨by repeat (first | (with_reducible first | exact HB.out | apply below_alloc | apply pw_below_drewN | apply below_drew1 | refine below_set ?_ GE163.out) | exact HB.out)⟩⟩
          · rw [if_neg c11] at H
            have c11b0 : decide (65535 < a1) = false := decide_eq_false c11
            clear c11
            by_cases c13 : a0_1 < 0
            · rw [if_pos c13] at H
              have c13b0 : decide (a0_1 < 0) = true := decide_eq_true c13
              clear c13
              have H' := Aside0.mk H
              clear H
              have hcz14_0 : w4.cell? ⟨gb163, 0, none⟩ = some (.int .i64 a0_0) := (blk_cell BK163.out 0).trans rfl
              have hcz14_1 : w4.cell? ⟨gb163, 1, none⟩ = some (.int .i64 a0_1) := (blk_cell BK163.out 1).trans rfl
              have hcz14_2 : w4.cell? ⟨gb163, 2, none⟩ = some (.string a0_2) := (blk_cell BK163.out 2).trans rfl
              have hfz14_0 := blk_frozen BK163.out 0
              have hfz14_1 := blk_frozen BK163.out 1
              have hfz14_2 := blk_frozen BK163.out 2
              go_wp2
              go_meet
              case rel => exact ⟨_, (true), (by first | rfl | (simp; done) | (simp [*]; done)), H', ⟨by first | omega | exact Nat.le_refl _⟩, ⟨by (with_reducible repeat (first | refine blk_drewN ?_ _ | refine blk_drew ?_ | refine blk_alloc ?_ _)); exact BK163.out⟩, ⟨by repeat (first | (with_reducible first | exact HB.out | apply below_alloc | apply pw_below_drewN | apply below_drew1 | refine below_set ?_ GE163.out) | exact HB.out)⟩⟩
            · rw [if_neg c13] at H
              have c13b0 : decide (a0_1 < 0) = false := decide_eq_false c13
              clear c13
              by_cases c15 : a0_1 > 2147483647
              · rw [if_pos c15] at H
                have c15b0 : decide (2147483647 < a0_1) = true := decide_eq_true c15
                clear c15
                have H' := Aside0.mk H
                clear H
                have hcz16_0 : w4.cell? ⟨gb163, 0, none⟩ = some (.int .i64 a0_0) := (blk_cell BK163.out 0).trans rfl
                have hcz16_1 : w4.cell? ⟨gb163, 1, none⟩ = some (.int .i64 a0_1) := (blk_cell BK163.out 1).trans rfl
                have hcz16_2 : w4.cell? ⟨gb163, 2, none⟩ = some (.string a0_2) := (blk_cell BK163.out 2).trans rfl
                have hfz16_0 := blk_frozen BK163.out 0
                have hfz16_1 := blk_frozen BK163.out 1
                have hfz16_2 := blk_frozen BK163.out 2
                go_wp2
                go_meet
                case rel => exact ⟨_, (true), (by first | rfl | (simp; done) | (simp [*]; done)), H', ⟨by first | omega | exact Nat.le_refl _⟩, ⟨by (with_reducible repeat (first | refine blk_drewN ?_ _ | refine blk_drew ?_ | refine blk_alloc ?_ _)); exact BK163.out⟩, ⟨by repeat (first | (with_reducible first | exact HB.out | apply below_alloc | apply pw_below_drewN | apply below_drew1 | refine below_set ?_ GE163.out) | exact HB.out)⟩⟩
              · rw [if_neg c15] at H
                have c15b0 : decide (2147483647 < a0_1) = false := decide_eq_false c15
                clear c15
                have H' := Aside0.mk H
                clear H
                have hcz17_0 : w4.cell? ⟨gb163, 0, none⟩ = some (.int .i64 a0_0) := (blk_cell BK163.out 0).trans rfl
                have hcz17_1 : w4.cell? ⟨gb163, 1, none⟩ = some (.int .i64 a0_1) := (blk_cell BK163.out 1).trans rfl
                have hcz17_2 : w4.cell? ⟨gb163, 2, none⟩ = some (.string a0_2) := (blk_cell BK163.out 2).trans rfl
                have hfz17_0 := blk_frozen BK163.out 0
                have hfz17_1 := blk_frozen BK163.out 1
                have hfz17_2 := blk_frozen BK163.out 2
                go_wp2
                go_meet
                case rel => exact ⟨_, (decide ((a0_2.size : Int) > 243)), (by first | rfl | (simp; done) | (simp [*]; done)), H', ⟨by first | omega | exact Nat.le_refl _⟩, ⟨by (with_reducible repeat (first | refine blk_drewN ?_ _ | refine blk_drew ?_ | refine blk_alloc ?_ _)); exact BK163.out⟩, ⟨by repeat (first | (with_reducible first | exact HB.out | apply below_alloc | apply pw_below_drewN | apply below_drew1 | refine below_set ?_ GE163.out) | exact HB.out)⟩⟩
  case rest =>
    clear HC3
    try clear c1
    try clear p2
    try clear c5
    try clear c5b0
    try clear c7
    try clear c7b0
    try clear c9
    try clear c9b0
    try clear c11
    try clear c11b0
    try clear c12
    try clear c13
    try clear c13b0
    try clear c15
    try clear c15b0
    try clear hcz10_0
    try clear hcz10_1
    try clear hcz10_2
    try clear hcz12_0
    try clear hcz12_1
    try clear hcz12_2
    try clear hcz14_0
    try clear hcz14_1
    try clear hcz14_2
    try clear hcz16_0
    try clear hcz16_1
    try clear hcz16_2
    try clear hcz17_0
    try clear hcz17_1
    try clear hcz17_2
    try clear hcz6_0
    try clear hcz6_1
    try clear hcz6_2
    try clear hcz8_0
    try clear hcz8_1
    try clear hcz8_2
    try clear hfz10_0
    try clear hfz10_1
    try clear hfz10_2
    try clear hfz12_0
    try clear hfz12_1
    try clear hfz12_2
    try clear hfz14_0
    try clear hfz14_1
    try clear hfz14_2
    try clear hfz16_0
    try clear hfz16_1
    try clear hfz16_2
    try clear hfz17_0
    try clear hfz17_1
    try clear hfz17_2
    try clear hfz6_0
    try clear hfz6_1
    try clear hfz6_2
    try clear hfz8_0
    try clear hfz8_1
    try clear hfz8_2
    obtain ⟨kq, x37_2, rfl, HA, HJ2, BK163, HB⟩ := hcut
    cases kq with
    | zero => exact absurd HA.out (by simp [umbelref07_Put.j0])
    | succ kj2 =>
      have H := HA.out
      clear HA
      simp only [umbelref07_Put.j0] at H
      by_cases c18 : x37_2 = true
      · subst c18
        have H1 : (some (⟨#[]⟩ : ByteArray)) = some r := by rw [if_pos rfl] at H; exact H
        clear H
        have H := H1
        clear H1
        obtain rfl := Option.some.inj H
        go_wp2
        go_ret
        exact ⟨by first | rfl | (simp [errW_none, errW_some] <;> rfl) | (simp [*, errW_none, errW_some] <;> rfl), by repeat (first | (with_reducible first | exact HB.out | apply below_alloc | apply pw_below_drewN | apply below_drew1 | refine below_set ?_ GE163.out) | exact HB.out)⟩
      · replace c18 := Bool.eq_false_iff.mpr c18
        subst c18
        have H1 : ((umbelref07_big.f kj2 a0_0 1).bind fun t164 => ((umbelref07_big.f kj2 a1 2).bind fun t165 => (if t164.size + t165.size ≤ 9223372036854775807 then ((umbelref07_big.f kj2 a0_1 4).bind fun t166 => (if (t164 ++ t165).size + t166.size ≤ 9223372036854775807 then ((umbelref07_big.f kj2 (a0_2.size : Int) 2).bind fun t167 => (if ((t164 ++ t165) ++ t166).size + t167.size ≤ 9223372036854775807 then (if (((t164 ++ t165) ++ t166) ++ t167).size + a0_2.size ≤ 9223372036854775807 then (if 0 ≤ (wrap64 (252 - (((((t164 ++ t165) ++ t166) ++ t167) ++ a0_2).size : Int))) then (if (wrap64 (252 - (((((t164 ++ t165) ++ t166) ++ t167) ++ a0_2).size : Int)) : Int).toNat ≤ 281474976710656 then ((some (List.replicate (wrap64 (252 - (((((t164 ++ t165) ++ t166) ++ t167) ++ a0_2).size : Int)) : Int).toNat 0 : List Int)).bind fun y168 => (if ((((t164 ++ t165) ++ t166) ++ t167) ++ a0_2).size + (strOfNums y168).size ≤ 9223372036854775807 then ((umbelref03_Of.f (((((t164 ++ t165) ++ t166) ++ t167) ++ a0_2) ++ (strOfNums y168))).bind fun t171 => ((umbelref03_Put.f t171).bind fun t172 => (if (((((t164 ++ t165) ++ t166) ++ t167) ++ a0_2) ++ (strOfNums y168)).size + t172.size ≤ 9223372036854775807 then (some ((((((t164 ++ t165) ++ t166) ++ t167) ++ a0_2) ++ (strOfNums y168)) ++ t172)) else (none)))) else (none))) else (none)) else (none)) else (none)) else (none))) else (none))) else (none)))) = some r := by rw [if_neg (show ¬ (false = true) by decide)] at H; exact H
        clear H
        have H := H1
        clear H1
        replace H := Option.bind_eq_some_iff.mp H
        obtain ⟨t164, A190, H⟩ := H
        replace H : ((umbelref07_big.f kj2 a1 2).bind fun t165 => (if t164.size + t165.size ≤ 9223372036854775807 then ((umbelref07_big.f kj2 a0_1 4).bind fun t166 => (if (t164 ++ t165).size + t166.size ≤ 9223372036854775807 then ((umbelref07_big.f kj2 (a0_2.size : Int) 2).bind fun t167 => (if ((t164 ++ t165) ++ t166).size + t167.size ≤ 9223372036854775807 then (if (((t164 ++ t165) ++ t166) ++ t167).size + a0_2.size ≤ 9223372036854775807 then (if 0 ≤ (wrap64 (252 - (((((t164 ++ t165) ++ t166) ++ t167) ++ a0_2).size : Int))) then (if (wrap64 (252 - (((((t164 ++ t165) ++ t166) ++ t167) ++ a0_2).size : Int)) : Int).toNat ≤ 281474976710656 then ((some (List.replicate (wrap64 (252 - (((((t164 ++ t165) ++ t166) ++ t167) ++ a0_2).size : Int)) : Int).toNat 0 : List Int)).bind fun y168 => (if ((((t164 ++ t165) ++ t166) ++ t167) ++ a0_2).size + (strOfNums y168).size ≤ 9223372036854775807 then ((umbelref03_Of.f (((((t164 ++ t165) ++ t166) ++ t167) ++ a0_2) ++ (strOfNums y168))).bind fun t171 => ((umbelref03_Put.f t171).bind fun t172 => (if (((((t164 ++ t165) ++ t166) ++ t167) ++ a0_2) ++ (strOfNums y168)).size + t172.size ≤ 9223372036854775807 then (some ((((((t164 ++ t165) ++ t166) ++ t167) ++ a0_2) ++ (strOfNums y168)) ++ t172)) else (none)))) else (none))) else (none)) else (none)) else (none)) else (none))) else (none))) else (none))) = some r := H
        have A19 := Aside0.mk A190
        clear A190
        replace H := Option.bind_eq_some_iff.mp H
        obtain ⟨t165, A200, H⟩ := H
        replace H : (if t164.size + t165.size ≤ 9223372036854775807 then ((umbelref07_big.f kj2 a0_1 4).bind fun t166 => (if (t164 ++ t165).size + t166.size ≤ 9223372036854775807 then ((umbelref07_big.f kj2 (a0_2.size : Int) 2).bind fun t167 => (if ((t164 ++ t165) ++ t166).size + t167.size ≤ 9223372036854775807 then (if (((t164 ++ t165) ++ t166) ++ t167).size + a0_2.size ≤ 9223372036854775807 then (if 0 ≤ (wrap64 (252 - (((((t164 ++ t165) ++ t166) ++ t167) ++ a0_2).size : Int))) then (if (wrap64 (252 - (((((t164 ++ t165) ++ t166) ++ t167) ++ a0_2).size : Int)) : Int).toNat ≤ 281474976710656 then ((some (List.replicate (wrap64 (252 - (((((t164 ++ t165) ++ t166) ++ t167) ++ a0_2).size : Int)) : Int).toNat 0 : List Int)).bind fun y168 => (if ((((t164 ++ t165) ++ t166) ++ t167) ++ a0_2).size + (strOfNums y168).size ≤ 9223372036854775807 then ((umbelref03_Of.f (((((t164 ++ t165) ++ t166) ++ t167) ++ a0_2) ++ (strOfNums y168))).bind fun t171 => ((umbelref03_Put.f t171).bind fun t172 => (if (((((t164 ++ t165) ++ t166) ++ t167) ++ a0_2) ++ (strOfNums y168)).size + t172.size ≤ 9223372036854775807 then (some ((((((t164 ++ t165) ++ t166) ++ t167) ++ a0_2) ++ (strOfNums y168)) ++ t172)) else (none)))) else (none))) else (none)) else (none)) else (none)) else (none))) else (none))) else (none)) = some r := H
        have A20 := Aside0.mk A200
        clear A200
        by_cases c21 : t164.size + t165.size ≤ 9223372036854775807
        · rw [if_pos c21] at H
          have c21b0 := eq_true c21
          have c21b1 : decide (t164.size + t165.size ≤ 9223372036854775807) = true := decide_eq_true c21
          try have c21b2 : (9223372036854775807 < t164.size + t165.size) = False := eq_false (Nat.not_lt.2 c21)
          replace H := Option.bind_eq_some_iff.mp H
          obtain ⟨t166, A220, H⟩ := H
          replace H : (if (t164 ++ t165).size + t166.size ≤ 9223372036854775807 then ((umbelref07_big.f kj2 (a0_2.size : Int) 2).bind fun t167 => (if ((t164 ++ t165) ++ t166).size + t167.size ≤ 9223372036854775807 then (if (((t164 ++ t165) ++ t166) ++ t167).size + a0_2.size ≤ 9223372036854775807 then (if 0 ≤ (wrap64 (252 - (((((t164 ++ t165) ++ t166) ++ t167) ++ a0_2).size : Int))) then (if (wrap64 (252 - (((((t164 ++ t165) ++ t166) ++ t167) ++ a0_2).size : Int)) : Int).toNat ≤ 281474976710656 then ((some (List.replicate (wrap64 (252 - (((((t164 ++ t165) ++ t166) ++ t167) ++ a0_2).size : Int)) : Int).toNat 0 : List Int)).bind fun y168 => (if ((((t164 ++ t165) ++ t166) ++ t167) ++ a0_2).size + (strOfNums y168).size ≤ 9223372036854775807 then ((umbelref03_Of.f (((((t164 ++ t165) ++ t166) ++ t167) ++ a0_2) ++ (strOfNums y168))).bind fun t171 => ((umbelref03_Put.f t171).bind fun t172 => (if (((((t164 ++ t165) ++ t166) ++ t167) ++ a0_2) ++ (strOfNums y168)).size + t172.size ≤ 9223372036854775807 then (some ((((((t164 ++ t165) ++ t166) ++ t167) ++ a0_2) ++ (strOfNums y168)) ++ t172)) else (none)))) else (none))) else (none)) else (none)) else (none)) else (none))) else (none)) = some r := H
          have A22 := Aside0.mk A220
          clear A220
          by_cases c23 : (t164 ++ t165).size + t166.size ≤ 9223372036854775807
          · rw [if_pos c23] at H
            have c23b0 := eq_true c23
            have c23b1 : decide ((t164 ++ t165).size + t166.size ≤ 9223372036854775807) = true := decide_eq_true c23
            try have c23b2 : (9223372036854775807 < (t164 ++ t165).size + t166.size) = False := eq_false (Nat.not_lt.2 c23)
            try have c23b2s_ := c23b2
            try simp only [ByteArray.size_append] at c23b2s_
            replace H := Option.bind_eq_some_iff.mp H
            obtain ⟨t167, A240, H⟩ := H
            replace H : (if ((t164 ++ t165) ++ t166).size + t167.size ≤ 9223372036854775807 then (if (((t164 ++ t165) ++ t166) ++ t167).size + a0_2.size ≤ 9223372036854775807 then (if 0 ≤ (wrap64 (252 - (((((t164 ++ t165) ++ t166) ++ t167) ++ a0_2).size : Int))) then (if (wrap64 (252 - (((((t164 ++ t165) ++ t166) ++ t167) ++ a0_2).size : Int)) : Int).toNat ≤ 281474976710656 then ((some (List.replicate (wrap64 (252 - (((((t164 ++ t165) ++ t166) ++ t167) ++ a0_2).size : Int)) : Int).toNat 0 : List Int)).bind fun y168 => (if ((((t164 ++ t165) ++ t166) ++ t167) ++ a0_2).size + (strOfNums y168).size ≤ 9223372036854775807 then ((umbelref03_Of.f (((((t164 ++ t165) ++ t166) ++ t167) ++ a0_2) ++ (strOfNums y168))).bind fun t171 => ((umbelref03_Put.f t171).bind fun t172 => (if (((((t164 ++ t165) ++ t166) ++ t167) ++ a0_2) ++ (strOfNums y168)).size + t172.size ≤ 9223372036854775807 then (some ((((((t164 ++ t165) ++ t166) ++ t167) ++ a0_2) ++ (strOfNums y168)) ++ t172)) else (none)))) else (none))) else (none)) else (none)) else (none)) else (none)) = some r := H
            have A24 := Aside0.mk A240
            clear A240
            by_cases c25 : ((t164 ++ t165) ++ t166).size + t167.size ≤ 9223372036854775807
            · rw [if_pos c25] at H
              have c25b0 := eq_true c25
              have c25b1 : decide (((t164 ++ t165) ++ t166).size + t167.size ≤ 9223372036854775807) = true := decide_eq_true c25
              try have c25b2 : (9223372036854775807 < ((t164 ++ t165) ++ t166).size + t167.size) = False := eq_false (Nat.not_lt.2 c25)
              try have c25b2s_ := c25b2
              try simp only [ByteArray.size_append] at c25b2s_
              by_cases c26 : (((t164 ++ t165) ++ t166) ++ t167).size + a0_2.size ≤ 9223372036854775807
              · rw [if_pos c26] at H
                have c26b0 := eq_true c26
                have c26b1 : decide ((((t164 ++ t165) ++ t166) ++ t167).size + a0_2.size ≤ 9223372036854775807) = true := decide_eq_true c26
                try have c26b2 : (9223372036854775807 < (((t164 ++ t165) ++ t166) ++ t167).size + a0_2.size) = False := eq_false (Nat.not_lt.2 c26)
                try have c26b2s_ := c26b2
                try simp only [ByteArray.size_append] at c26b2s_
                obtain ⟨ji27, hji27⟩ : ∃ j_ : Int, (wrap64 (252 - (((((t164 ++ t165) ++ t166) ++ t167) ++ a0_2).size : Int))) = j_ := ⟨_, rfl⟩
                replace H : (if 0 ≤ (ji27) then (if (ji27 : Int).toNat ≤ 281474976710656 then ((some (List.replicate (ji27 : Int).toNat 0 : List Int)).bind fun y168 => (if ((((t164 ++ t165) ++ t166) ++ t167) ++ a0_2).size + (strOfNums y168).size ≤ 9223372036854775807 then ((umbelref03_Of.f (((((t164 ++ t165) ++ t166) ++ t167) ++ a0_2) ++ (strOfNums y168))).bind fun t171 => ((umbelref03_Put.f t171).bind fun t172 => (if (((((t164 ++ t165) ++ t166) ++ t167) ++ a0_2) ++ (strOfNums y168)).size + t172.size ≤ 9223372036854775807 then (some ((((((t164 ++ t165) ++ t166) ++ t167) ++ a0_2) ++ (strOfNums y168)) ++ t172)) else (none)))) else (none))) else (none)) else (none)) = some r := by first | (rw [hji27] at H; exact H) | (simp only [hji27] at H ⊢; exact H)
                (try rw [hji27] at A19)
                (try rw [hji27] at A20)
                (try rw [hji27] at A22)
                (try rw [hji27] at A24)
                have hji27w : (IntKind.i64.wrap (252 - (((((t164 ++ t165) ++ t166) ++ t167) ++ a0_2).size : Int))) = ji27 := (i64_w _).trans hji27
                have hji27s := hji27
                simp only [ByteArray.size_append, Int.natCast_add] at hji27s
                by_cases c28 : 0 ≤ (ji27)
                · rw [if_pos c28] at H
                  have c28b0 := eq_true c28
                  have c28b1 : decide (0 ≤ (ji27)) = true := decide_eq_true c28
                  clear c28
                  by_cases c29 : (ji27 : Int).toNat ≤ 281474976710656
                  · rw [if_pos c29] at H
                    have c29b0 := eq_true c29
                    have c29b1 : decide ((ji27 : Int).toNat ≤ 281474976710656) = true := decide_eq_true c29
                    clear c29
                    obtain ⟨y168, hy168⟩ : ∃ y_ : List Int, y_ = (List.replicate (ji27 : Int).toNat 0) := ⟨_, rfl⟩
                    replace H : (if ((((t164 ++ t165) ++ t166) ++ t167) ++ a0_2).size + (strOfNums y168).size ≤ 9223372036854775807 then ((umbelref03_Of.f (((((t164 ++ t165) ++ t166) ++ t167) ++ a0_2) ++ (strOfNums y168))).bind fun t171 => ((umbelref03_Put.f t171).bind fun t172 => (if (((((t164 ++ t165) ++ t166) ++ t167) ++ a0_2) ++ (strOfNums y168)).size + t172.size ≤ 9223372036854775807 then (some ((((((t164 ++ t165) ++ t166) ++ t167) ++ a0_2) ++ (strOfNums y168)) ++ t172)) else (none)))) else (none)) = some r := by first | (rw [hy168]; with_reducible exact H) | (have H2_ := (Option.bind_some _ _).symm.trans H; rw [hy168]; with_reducible exact H2_) | (have H2_ := (Option.bind_some _ _).symm.trans H; with_reducible exact H2_) | with_reducible exact H | (rw [hy168]; exact H) | exact H
                    have Ny168 := Aside0.mk hy168
                    clear hy168
                    by_cases c30 : ((((t164 ++ t165) ++ t166) ++ t167) ++ a0_2).size + (strOfNums y168).size ≤ 9223372036854775807
                    · rw [if_pos c30] at H
                      have c30b0 := eq_true c30
                      have c30b1 : decide (((((t164 ++ t165) ++ t166) ++ t167) ++ a0_2).size + (strOfNums y168).size ≤ 9223372036854775807) = true := decide_eq_true c30
                      try have c30b2 : (9223372036854775807 < ((((t164 ++ t165) ++ t166) ++ t167) ++ a0_2).size + (strOfNums y168).size) = False := eq_false (Nat.not_lt.2 c30)
                      try have c30b2s_ := c30b2
                      try simp only [ByteArray.size_append] at c30b2s_
                      replace H := Option.bind_eq_some_iff.mp H
                      obtain ⟨t171, A310, H⟩ := H
                      replace H : ((umbelref03_Put.f t171).bind fun t172 => (if (((((t164 ++ t165) ++ t166) ++ t167) ++ a0_2) ++ (strOfNums y168)).size + t172.size ≤ 9223372036854775807 then (some ((((((t164 ++ t165) ++ t166) ++ t167) ++ a0_2) ++ (strOfNums y168)) ++ t172)) else (none))) = some r := H
                      have A31 := Aside0.mk A310
                      clear A310
                      replace H := Option.bind_eq_some_iff.mp H
                      obtain ⟨t172, A320, H⟩ := H
                      replace H : (if (((((t164 ++ t165) ++ t166) ++ t167) ++ a0_2) ++ (strOfNums y168)).size + t172.size ≤ 9223372036854775807 then (some ((((((t164 ++ t165) ++ t166) ++ t167) ++ a0_2) ++ (strOfNums y168)) ++ t172)) else (none)) = some r := H
                      have A32 := Aside0.mk A320
                      clear A320
                      by_cases c33 : (((((t164 ++ t165) ++ t166) ++ t167) ++ a0_2) ++ (strOfNums y168)).size + t172.size ≤ 9223372036854775807
                      · rw [if_pos c33] at H
                        have c33b0 := eq_true c33
                        have c33b1 : decide ((((((t164 ++ t165) ++ t166) ++ t167) ++ a0_2) ++ (strOfNums y168)).size + t172.size ≤ 9223372036854775807) = true := decide_eq_true c33
                        try have c33b2 : (9223372036854775807 < (((((t164 ++ t165) ++ t166) ++ t167) ++ a0_2) ++ (strOfNums y168)).size + t172.size) = False := eq_false (Nat.not_lt.2 c33)
                        try have c33b2s_ := c33b2
                        try simp only [ByteArray.size_append] at c33b2s_
                        obtain rfl := Option.some.inj H
                        try go_wp2
                        have n0_ := Aside0.mk (blk_drew BK163.out)
                        have n1_ := Aside0.mk (below_drew1 HB.out)
                        clear BK163
                        clear HB
                        have BK163 := n0_
                        have HB := n1_
                        clear n0_ n1_
                        refine start_ (n := 19) (S := fun w' => w'.cell? ⟨gb163, 0, none⟩ = some (.int .i64 a0_0) ∧ w'.cell? ⟨gb163, 1, none⟩ = some (.int .i64 a0_1) ∧ w'.cell? ⟨gb163, 2, none⟩ = some (.string a0_2)) (ds := []) #[false, false, false, false, false, false, false, false, false, false, false, false, false, false, false, false, false, false, false] (by kernel_rfl) rfl rfl ⟨(blk_cell BK163.out 0).trans rfl, (blk_cell BK163.out 1).trans rfl, (blk_cell BK163.out 2).trans rfl⟩ (fun hHeld => ?_); refine with_tabW umbelref07_Put.tab3 umbelref07_Put.bits3 (fun HT_ HW_ => ?_)
                        generalize wc.drew = w34 at BK163 HB hHeld ⊢
                        refine pure_ (i := 0) (N := some 38) (v := ?_) (a' := ?_) #[true, false, false, false, false, false, false, false, false, false, false, false, false, false, false, false, false, false, false] rfl rfl (any_of HT_.out (by kernel_rfl)) (fun _ _ _ h => h) (Or.inl ⟨by rfl, ?_⟩) ?_ ?_
                        rotate_left
                        · intro w'
                          go_simp
                          with_reducible rfl
                        rotate_left
                        · simp only [Act.put, List.setIfInBounds_toArray, List.set_cons_zero, List.set_cons_succ, i64_w, i32_w]
                          rfl
                        refine pure_ (i := 3) (N := some 41) (v := ?_) (a' := ?_) #[true, false, false, true, false, false, false, false, false, false, false, false, false, false, false, false, false, false, false] rfl rfl (any_of HT_.out (by kernel_rfl)) (fun _ _ _ h => h) (Or.inl ⟨by rfl, ?_⟩) ?_ ?_
                        rotate_left
                        · intro w'
                          go_simp
                          with_reducible rfl
                        rotate_left
                        · simp only [Act.put, List.setIfInBounds_toArray, List.set_cons_zero, List.set_cons_succ, i64_w, i32_w]
                          rfl
                        refine pure_ (i := 6) (N := some 44) (v := ?_) (a' := ?_) #[true, false, false, true, false, false, true, false, false, false, false, false, false, false, false, false, false, false, false] rfl rfl (any_of HT_.out (by kernel_rfl)) (fun _ _ _ h => h) (Or.inl ⟨by rfl, ?_⟩) ?_ ?_
                        rotate_left
                        · intro w'
                          go_simp
                          with_reducible rfl
                        rotate_left
                        · simp only [Act.put, List.setIfInBounds_toArray, List.set_cons_zero, List.set_cons_succ, i64_w, i32_w]
                          rfl
                        refine pure_ (i := 10) (N := some 48) (v := ?_) (a' := ?_) #[true, false, false, true, false, false, true, false, false, false, true, false, false, false, false, false, false, false, false] rfl rfl (any_of HT_.out (by kernel_rfl)) (fun _ _ _ h => h) (Or.inl ⟨by rfl, ?_⟩) ?_ ?_
                        rotate_left
                        · intro w'
                          go_simp
                          with_reducible rfl
                        rotate_left
                        · simp only [Act.put, List.setIfInBounds_toArray, List.set_cons_zero, List.set_cons_succ, i64_w, i32_w]
                          rfl
                        refine pure_ (i := 15) (N := some 53) (v := ?_) (a' := ?_) #[true, false, false, true, false, false, true, false, false, false, true, false, false, false, false, true, false, false, false] rfl rfl (any_of HT_.out (by kernel_rfl)) (fun _ _ _ h => h) (Or.inl ⟨by rfl, ?_⟩) ?_ ?_
                        rotate_left
                        · intro w'
                          go_simp
                          with_reducible rfl
                        rotate_left
                        · simp only [Act.put, List.setIfInBounds_toArray, List.set_cons_zero, List.set_cons_succ, i64_w, i32_w]
                          rfl
                        refine take_ (i := 1) (N := some 39) (v := ?_) (a' := ?_) #[true, true, false, true, false, false, true, false, false, false, true, false, false, false, false, true, false, false, false] rfl rfl (take_ofW HT_.out HW_.out (by kernel_rfl)) (fun _ _ _ h => h) (Or.inl ⟨by rfl, ?_⟩) hHeld ?_ ?_
                        rotate_left
                        · rintro w' ⟨s0, s1, s2⟩
                          go_simp
                          with_reducible rfl
                        rotate_left
                        · simp only [Act.put, List.setIfInBounds_toArray, List.set_cons_zero, List.set_cons_succ, i64_w, i32_w]
                          rfl
                        refine take_ (i := 7) (N := some 45) (v := ?_) (a' := ?_) #[true, true, false, true, false, false, true, true, false, false, true, false, false, false, false, true, false, false, false] rfl rfl (take_ofW HT_.out HW_.out (by kernel_rfl)) (fun _ _ _ h => h) (Or.inl ⟨by rfl, ?_⟩) hHeld ?_ ?_
                        rotate_left
                        · rintro w' ⟨s0, s1, s2⟩
                          go_simp
                          with_reducible rfl
                        rotate_left
                        · simp only [Act.put, List.setIfInBounds_toArray, List.set_cons_zero, List.set_cons_succ, i64_w, i32_w]
                          rfl
                        refine take_ (i := 11) (N := some 49) (v := ?_) (a' := ?_) #[true, true, false, true, false, false, true, true, false, false, true, true, false, false, false, true, false, false, false] rfl rfl (take_ofW HT_.out HW_.out (by kernel_rfl)) (fun _ _ _ h => h) (Or.inl ⟨by rfl, ?_⟩) hHeld ?_ ?_
                        rotate_left
                        · rintro w' ⟨s0, s1, s2⟩
                          go_simp
                          with_reducible rfl
                        rotate_left
                        · simp only [Act.put, List.setIfInBounds_toArray, List.set_cons_zero, List.set_cons_succ, i64_w, i32_w]
                          rfl
                        refine pure_ (i := 12) (N := some 50) (v := ?_) (a' := ?_) #[true, true, false, true, false, false, true, true, false, false, true, true, true, false, false, true, false, false, false] rfl rfl (any_of HT_.out (by kernel_rfl)) (fun _ _ _ h => h) (Or.inl ⟨by rfl, ?_⟩) ?_ ?_
                        rotate_left
                        · intro w'
                          go_simp
                          with_reducible rfl
                        rotate_left
                        · simp only [Act.put, List.setIfInBounds_toArray, List.set_cons_zero, List.set_cons_succ, i64_w, i32_w]
                          rfl
                        refine take_ (i := 16) (N := some 54) (v := ?_) (a' := ?_) #[true, true, false, true, false, false, true, true, false, false, true, true, true, false, false, true, true, false, false] rfl rfl (take_ofW HT_.out HW_.out (by kernel_rfl)) (fun _ _ _ h => h) (Or.inl ⟨by rfl, ?_⟩) hHeld ?_ ?_
                        rotate_left
                        · rintro w' ⟨s0, s1, s2⟩
                          go_simp
                          with_reducible rfl
                        rotate_left
                        · simp only [Act.put, List.setIfInBounds_toArray, List.set_cons_zero, List.set_cons_succ, i64_w, i32_w]
                          rfl
                        refine one_ (i := 2) (N := some 40) #[true, true, true, true, false, false, true, true, false, false, true, true, true, false, false, true, true, false, false] rfl rfl (one_of HT_.out (by kernel_rfl)) (by decide) (fun K hK => ?_)
                        refine goes_ Tryd.func31 (by kernel_rfl) rfl #[.int .i64 a0_0, .int .i64 1] (by rfl) rfl rfl (by (try simp only [List.map_toArray, List.map_cons, List.map_nil]); first | done | rfl | (simp only [List.length_drop, List.length_take]; rfl)) ?_
                        with_reducible refine (umbelref07_big.calls kj2 a0_0 1 t164 _ A19.out).mono ?_
                        rintro e w35 ⟨rfl, hb⟩
                        refine ⟨_, rfl, ?_⟩
                        have n0_ := Aside0.mk (blk_below (g := gb163) (o := .cells #[.int .i64 a0_0, .int .i64 a0_1, .string a0_2] 23 (0, 0)) (by (with_reducible repeat (first | refine blk_drewN ?_ _ | refine blk_drew ?_ | refine blk_alloc ?_ _)); exact BK163.out) hb)
                        have n1_ := Aside0.mk (below_step (by repeat (first | (with_reducible first | exact HB.out | apply below_alloc | apply pw_below_drewN | apply below_drew1 | refine below_set ?_ GE163.out) | exact HB.out)) hb)
                        clear BK163
                        clear HB
                        have BK163 := n0_
                        have HB := n1_
                        clear n0_ n1_
                        (try clear hb)
                        (try clear hb2)
                        (try clear hk)
                        (try clear hi)
                        refine hK.out _ _ ⟨(blk_cell BK163.out 0).trans rfl, (blk_cell BK163.out 1).trans rfl, (blk_cell BK163.out 2).trans rfl⟩ (fun hHeld => ?_)
                        clear hK K
                        refine norm_ (a' := ?_) ?_ ?_
                        rotate_left
                        · show Act.put _ (some 40) _ = _
                          simp only [Act.put, List.setIfInBounds_toArray, List.set_cons_zero, List.set_cons_succ, i64_w, i32_w]
                          rfl
                        refine one_ (i := 4) (N := some 42) #[true, true, true, true, true, false, true, true, false, false, true, true, true, false, false, true, true, false, false] rfl rfl (one_of HT_.out (by kernel_rfl)) (by decide) (fun K hK => ?_)
                        refine goes_ Tryd.func31 (by kernel_rfl) rfl #[.int .i64 a1, .int .i64 2] (by rfl) rfl rfl (by (try simp only [List.map_toArray, List.map_cons, List.map_nil]); first | done | rfl | (simp only [List.length_drop, List.length_take]; rfl)) ?_
                        with_reducible refine (umbelref07_big.calls kj2 a1 2 t165 _ A20.out).mono ?_
                        rintro e w36 ⟨rfl, hb⟩
                        refine ⟨_, rfl, ?_⟩
                        have n0_ := Aside0.mk (blk_below (g := gb163) (o := .cells #[.int .i64 a0_0, .int .i64 a0_1, .string a0_2] 23 (0, 0)) (by (with_reducible repeat (first | refine blk_drewN ?_ _ | refine blk_drew ?_ | refine blk_alloc ?_ _)); exact BK163.out) hb)
                        have n1_ := Aside0.mk (below_step (by repeat (first | (with_reducible first | exact HB.out | apply below_alloc | apply pw_below_drewN | apply below_drew1 | refine below_set ?_ GE163.out) | exact HB.out)) hb)
                        clear BK163
                        clear HB
                        have BK163 := n0_
                        have HB := n1_
                        clear n0_ n1_
                        (try clear hb)
                        (try clear hb2)
                        (try clear hk)
                        (try clear hi)
                        refine hK.out _ _ ⟨(blk_cell BK163.out 0).trans rfl, (blk_cell BK163.out 1).trans rfl, (blk_cell BK163.out 2).trans rfl⟩ (fun hHeld => ?_)
                        clear hK K
                        refine norm_ (a' := ?_) ?_ ?_
                        rotate_left
                        · show Act.put _ (some 42) _ = _
                          simp only [Act.put, List.setIfInBounds_toArray, List.set_cons_zero, List.set_cons_succ, i64_w, i32_w]
                          rfl
                        refine pure_ (i := 5) (N := some 43) (v := ?_) (a' := ?_) #[true, true, true, true, true, true, true, true, false, false, true, true, true, false, false, true, true, false, false] rfl rfl (any_of HT_.out (by kernel_rfl)) (fun _ _ _ h => h) (Or.inl ⟨by rfl, ?_⟩) ?_ ?_
                        rotate_left
                        · intro w'
                          go_simp
                          with_reducible rfl
                        rotate_left
                        · simp only [Act.put, List.setIfInBounds_toArray, List.set_cons_zero, List.set_cons_succ, i64_w, i32_w]
                          rfl
                        refine one_ (i := 8) (N := some 46) #[true, true, true, true, true, true, true, true, true, false, true, true, true, false, false, true, true, false, false] rfl rfl (one_of HT_.out (by kernel_rfl)) (by decide) (fun K hK => ?_)
                        refine goes_ Tryd.func31 (by kernel_rfl) rfl #[.int .i64 a0_1, .int .i64 4] (by rfl) rfl rfl (by (try simp only [List.map_toArray, List.map_cons, List.map_nil]); first | done | rfl | (simp only [List.length_drop, List.length_take]; rfl)) ?_
                        with_reducible refine (umbelref07_big.calls kj2 a0_1 4 t166 _ A22.out).mono ?_
                        rintro e w37 ⟨rfl, hb⟩
                        refine ⟨_, rfl, ?_⟩
                        have n0_ := Aside0.mk (blk_below (g := gb163) (o := .cells #[.int .i64 a0_0, .int .i64 a0_1, .string a0_2] 23 (0, 0)) (by (with_reducible repeat (first | refine blk_drewN ?_ _ | refine blk_drew ?_ | refine blk_alloc ?_ _)); exact BK163.out) hb)
                        have n1_ := Aside0.mk (below_step (by repeat (first | (with_reducible first | exact HB.out | apply below_alloc | apply pw_below_drewN | apply below_drew1 | refine below_set ?_ GE163.out) | exact HB.out)) hb)
                        clear BK163
                        clear HB
                        have BK163 := n0_
                        have HB := n1_
                        clear n0_ n1_
                        (try clear hb)
                        (try clear hb2)
                        (try clear hk)
                        (try clear hi)
                        refine hK.out _ _ ⟨(blk_cell BK163.out 0).trans rfl, (blk_cell BK163.out 1).trans rfl, (blk_cell BK163.out 2).trans rfl⟩ (fun hHeld => ?_)
                        clear hK K
                        refine norm_ (a' := ?_) ?_ ?_
                        rotate_left
                        · show Act.put _ (some 46) _ = _
                          simp only [Act.put, List.setIfInBounds_toArray, List.set_cons_zero, List.set_cons_succ, i64_w, i32_w]
                          rfl
                        refine pure_ (i := 9) (N := some 47) (v := ?_) (a' := ?_) #[true, true, true, true, true, true, true, true, true, true, true, true, true, false, false, true, true, false, false] rfl rfl (any_of HT_.out (by kernel_rfl)) (fun _ _ _ h => h) (Or.inl ⟨by rfl, ?_⟩) ?_ ?_
                        rotate_left
                        · intro w'
                          go_simp
                          with_reducible rfl
                        rotate_left
                        · simp only [Act.put, List.setIfInBounds_toArray, List.set_cons_zero, List.set_cons_succ, i64_w, i32_w]
                          rfl
                        refine one_ (i := 13) (N := some 51) #[true, true, true, true, true, true, true, true, true, true, true, true, true, true, false, true, true, false, false] rfl rfl (one_of HT_.out (by kernel_rfl)) (by decide) (fun K hK => ?_)
                        refine goes_ Tryd.func31 (by kernel_rfl) rfl #[.int .i64 (a0_2.size : Int), .int .i64 2] (by rfl) rfl rfl (by (try simp only [List.map_toArray, List.map_cons, List.map_nil]); first | done | rfl | (simp only [List.length_drop, List.length_take]; rfl)) ?_
                        with_reducible refine (umbelref07_big.calls kj2 (a0_2.size : Int) 2 t167 _ A24.out).mono ?_
                        rintro e w38 ⟨rfl, hb⟩
                        refine ⟨_, rfl, ?_⟩
                        have n0_ := Aside0.mk (blk_below (g := gb163) (o := .cells #[.int .i64 a0_0, .int .i64 a0_1, .string a0_2] 23 (0, 0)) (by (with_reducible repeat (first | refine blk_drewN ?_ _ | refine blk_drew ?_ | refine blk_alloc ?_ _)); exact BK163.out) hb)
                        have n1_ := Aside0.mk (below_step (by repeat (first | (with_reducible first | exact HB.out | apply below_alloc | apply pw_below_drewN | apply below_drew1 | refine below_set ?_ GE163.out) | exact HB.out)) hb)
                        clear BK163
                        clear HB
                        have BK163 := n0_
                        have HB := n1_
                        clear n0_ n1_
                        (try clear hb)
                        (try clear hb2)
                        (try clear hk)
                        (try clear hi)
                        refine hK.out _ _ ⟨(blk_cell BK163.out 0).trans rfl, (blk_cell BK163.out 1).trans rfl, (blk_cell BK163.out 2).trans rfl⟩ (fun hHeld => ?_)
                        clear hK K
                        refine norm_ (a' := ?_) ?_ ?_
                        rotate_left
                        · show Act.put _ (some 51) _ = _
                          simp only [Act.put, List.setIfInBounds_toArray, List.set_cons_zero, List.set_cons_succ, i64_w, i32_w]
                          rfl
                        refine pure_ (i := 14) (N := some 52) (v := ?_) (a' := ?_) #[true, true, true, true, true, true, true, true, true, true, true, true, true, true, true, true, true, false, false] rfl rfl (any_of HT_.out (by kernel_rfl)) (fun _ _ _ h => h) (Or.inl ⟨by rfl, ?_⟩) ?_ ?_
                        rotate_left
                        · intro w'
                          go_simp
                          with_reducible rfl
                        rotate_left
                        · simp only [Act.put, List.setIfInBounds_toArray, List.set_cons_zero, List.set_cons_succ, i64_w, i32_w]
                          rfl
                        refine pure_ (i := 17) (N := some 55) (v := ?_) (a' := ?_) #[true, true, true, true, true, true, true, true, true, true, true, true, true, true, true, true, true, true, false] rfl rfl (any_of HT_.out (by kernel_rfl)) (fun _ _ _ h => h) (Or.inl ⟨by rfl, ?_⟩) ?_ ?_
                        rotate_left
                        · intro w'
                          go_simp
                          with_reducible rfl
                        rotate_left
                        · simp only [Act.put, List.setIfInBounds_toArray, List.set_cons_zero, List.set_cons_succ, i64_w, i32_w]
                          rfl
                        refine pure_ (i := 18) (N := some 5) (v := ?_) (a' := ?_) #[true, true, true, true, true, true, true, true, true, true, true, true, true, true, true, true, true, true, true] rfl rfl (any_of HT_.out (by kernel_rfl)) (fun _ _ _ h => h) (Or.inl ⟨by rfl, ?_⟩) ?_ ?_
                        rotate_left
                        · intro w'
                          go_simp
                          with_reducible rfl
                        rotate_left
                        · simp only [Act.put, List.setIfInBounds_toArray, List.set_cons_zero, List.set_cons_succ, i64_w, i32_w]
                          rfl
                        refine done_ (done_of HT_.out (by kernel_rfl)) ?_
                        subst hji27s
                        try go_wp2_with (first | ((with_reducible refine gate_dst (N := 60) rfl ?_); (try (refine gate_guard (by rfl) ?_; dsimp only)); refine Kd.R_make (Kd.int .u8) _ 5 rfl (N := 60) rfl 39 _ _ rfl _ rfl rfl Tryd.underlying39 (.int .u8 0) 1 info5 rfl (by decide) (by omega) 0 (ok := fun _ => True) (okp := fun _ => True) rfl (fun _ hk => hk) trivial (of_decide_eq_true (by first | (with_reducible assumption) | assumption)) (Nat.le_trans (Nat.mul_le_mul_right _ (of_decide_eq_true (by first | (with_reducible assumption) | assumption) : (wrap64 (252 - (((t164.size : Int) + (t165.size : Int)) + (t166.size : Int) + (t167.size : Int) + (a0_2.size : Int)))).toNat ≤ 281474976710656)) (by omega)) (Below.refl _ _) (Nat.le_refl _) ?_; intro v169 w39 ho40 hb hg_ hnew_; clear hg_ hnew_; (first | rw [← Ny168.out] at ho40 | (simp only [Int.reduceToNat] at ho40; rw [← Ny168.out] at ho40)); have n0_ := Aside0.mk (Kd.R_lower ho40 (below_size (by repeat (first | (with_reducible first | exact HB.out | apply below_alloc | apply pw_below_drewN | apply below_drew1 | refine below_set ?_ GE163.out) | exact HB.out)))); have n1_ := Aside0.mk (blk_below (g := gb163) (o := .cells #[.int .i64 a0_0, .int .i64 a0_1, .string a0_2] 23 (0, 0)) (by (with_reducible repeat (first | refine blk_drewN ?_ _ | refine blk_drew ?_ | refine blk_alloc ?_ _)); exact BK163.out) hb); have n2_ := Aside0.mk (below_step (by repeat (first | (with_reducible first | exact HB.out | apply below_alloc | apply pw_below_drewN | apply below_drew1 | refine below_set ?_ GE163.out) | exact HB.out)) hb); clear BK163; clear HB; have HO170 := n0_; have BK163 := n1_; have HB := n2_; clear n0_ n1_ n2_; clear hb ho40; have hcv41 := own_string (P := Tryd.prog) Tryd.underlying39 Tryd.underlying5 Tryd.underlying9 (Kd.own_of_R HO170.out)) | ((with_reducible refine gate_callee (f := 33) rfl ?_); refine goesL_ (some 65) rfl rfl Tryd.func33 (by kernel_rfl) rfl #[.string (((((t164 ++ t165) ++ t166) ++ t167) ++ a0_2) ++ (strOfNums y168))] rfl (by (try simp only [List.map_toArray, List.map_cons, List.map_nil]); first | done | rfl | (simp only [List.length_drop, List.length_take]; rfl)) ?_; (with_reducible refine (umbelref03_Of.calls (((((t164 ++ t165) ++ t166) ++ t167) ++ a0_2) ++ (strOfNums y168)) t171 _ A31.out).mono ?_); rintro e w42 ⟨rfl, hb⟩; refine ⟨_, rfl, ?_⟩; have n0_ := Aside0.mk (Kd.R_below (by (with_reducible repeat (first | apply Kd.R_alloc | apply Kd.R_drewN | apply Kd.R_drew)); exact HO170.out) hb); have n1_ := Aside0.mk (blk_below (g := gb163) (o := .cells #[.int .i64 a0_0, .int .i64 a0_1, .string a0_2] 23 (0, 0)) (by (with_reducible repeat (first | refine blk_drewN ?_ _ | refine blk_drew ?_ | refine blk_alloc ?_ _)); exact BK163.out) hb); have n2_ := Aside0.mk (below_step (by repeat (first | (with_reducible first | exact HB.out | apply below_alloc | apply pw_below_drewN | apply below_drew1 | refine below_set ?_ GE163.out) | exact HB.out)) hb); clear HO170; clear BK163; clear HB; have HO170 := n0_; have BK163 := n1_; have HB := n2_; clear n0_ n1_ n2_; (try clear hb); (try clear hb2); (try clear hk); (try clear hi)) | ((with_reducible refine gate_callee (f := 32) rfl ?_); refine goesL_ (some 66) rfl rfl Tryd.func32 (by kernel_rfl) rfl #[.int .u32 t171] rfl (by (try simp only [List.map_toArray, List.map_cons, List.map_nil]); first | done | rfl | (simp only [List.length_drop, List.length_take]; rfl)) ?_; (with_reducible refine (umbelref03_Put.calls t171 t172 _ A32.out).mono ?_); rintro e w43 ⟨rfl, hb⟩; refine ⟨_, rfl, ?_⟩; have n0_ := Aside0.mk (Kd.R_below (by (with_reducible repeat (first | apply Kd.R_alloc | apply Kd.R_drewN | apply Kd.R_drew)); exact HO170.out) hb); have n1_ := Aside0.mk (blk_below (g := gb163) (o := .cells #[.int .i64 a0_0, .int .i64 a0_1, .string a0_2] 23 (0, 0)) (by (with_reducible repeat (first | refine blk_drewN ?_ _ | refine blk_drew ?_ | refine blk_alloc ?_ _)); exact BK163.out) hb); have n2_ := Aside0.mk (below_step (by repeat (first | (with_reducible first | exact HB.out | apply below_alloc | apply pw_below_drewN | apply below_drew1 | refine below_set ?_ GE163.out) | exact HB.out)) hb); clear HO170; clear BK163; clear HB; have HO170 := n0_; have BK163 := n1_; have HB := n2_; clear n0_ n1_ n2_; (try clear hb); (try clear hb2); (try clear hk); (try clear hi)))
                        go_ret
                        exact ⟨by first | rfl | (simp [errW_none, errW_some] <;> rfl) | (simp only [← hji27]; first | rfl | (simp [errW_none, errW_some] <;> rfl)) | (simp [*, errW_none, errW_some] <;> rfl), by repeat (first | (with_reducible first | exact HB.out | apply below_alloc | apply pw_below_drewN | apply below_drew1 | refine below_set ?_ GE163.out) | exact HB.out)⟩
                      · rw [if_neg c33] at H
                        exact absurd H (by simp)
                    · rw [if_neg c30] at H
                      exact absurd H (by simp)
                  · rw [if_neg c29] at H
                    exact absurd H (by simp)
                · rw [if_neg c28] at H
                  exact absurd H (by simp)
              · rw [if_neg c26] at H
                exact absurd H (by simp)
            · rw [if_neg c25] at H
              exact absurd H (by simp)
          · rw [if_neg c23] at H
            exact absurd H (by simp)
        · rw [if_neg c21] at H
          exact absurd H (by simp)

/-! ### umbelref07_num: function 35 -/
def umbelref07_num.l0 : Nat → ByteArray → Int → Int → Option (Int)
  | 0, _, _, _ => none
  | k + 1, x0, x3, x4 => if x4 < (x0.size : Int) then (if 0 ≤ x4 then (umbelref07_num.l0 k x0 (Go.bits .or .i64 (wrap64 (x3 * 256)) (wrap64 (bt x0 x4))) (wrap64 (x4 + 1))) else (none)) else (some x3)
def umbelref07_num.f (k : Nat) (a0 : ByteArray) : Option (Int) := umbelref07_num.l0 k a0 0 0
theorem umbelref07_num.mono_l : ∀ k, (∀ y0 y1 y2, LeO (umbelref07_num.l0 k y0 y1 y2) (umbelref07_num.l0 (k + 1) y0 y1 y2))
  | 0 => fun _ _ _ r h => by simp [umbelref07_num.l0] at h
  | k + 1 => by
    have ih0 := umbelref07_num.mono_l k
    · intro y0 y1 y2
      unfold umbelref07_num.l0
      repeat' first
      | (with_reducible exact ih0 _ _ _)
      | (with_reducible exact LeO.refl _)
      | (with_reducible exact LeO.none _)
      | (with_reducible refine LeO.ite ?_ ?_)
      | (with_reducible refine LeO.bind ?_ (fun _ => ?_))
      | exact ih0 _ _ _
      | exact LeO.none _
      | refine LeO.ite ?_ ?_
      | refine LeO.bind ?_ (fun _ => ?_)
theorem umbelref07_num.mono : ∀ a0 k, LeO (umbelref07_num.f k a0) (umbelref07_num.f (k + 1) a0) := by
  intro a0 k
  have ih0 := umbelref07_num.mono_l k
  unfold umbelref07_num.f
  repeat' first
      | (with_reducible exact ih0 _ _ _)
      | (with_reducible exact LeO.refl _)
      | (with_reducible exact LeO.none _)
      | (with_reducible refine LeO.ite ?_ ?_)
      | (with_reducible refine LeO.bind ?_ (fun _ => ?_))
      | exact ih0 _ _ _
      | exact LeO.none _
      | refine LeO.ite ?_ ?_
      | refine LeO.bind ?_ (fun _ => ?_)
set_option maxHeartbeats 8000000 in
set_option maxRecDepth 100000 in
theorem umbelref07_num.calls (k : Nat) (a0 : ByteArray) (r : Int) (w : World) (h : umbelref07_num.f k a0 = some r) :
    Calls Tryd.prog 35 #[.string a0] w fun e w' => e = .returned (.int .i64 r) ∧ Drawn0 w w' := by
  have H : (umbelref07_num.l0 k a0 0 0) = some r := h
  clear h
  have H' := Aside0.mk H
  clear H
  go_enter Tryd.func35, Tryd.ntmps35
  go_wp2
  go_loopg [3, 4] k (fun kq v3 v4 w' => ∃ (x3_1 : Int) (x4_1 : Int), v3 = .int .i64 x3_1 ∧ v4 = .int .i64 x4_1 ∧ Aside0 (umbelref07_num.l0 kq a0 x3_1 x4_1 = some r) ∧ Aside0 (kq ≤ k) ∧ Drawn0 w w')
  case atStart => exact ⟨(0), (0), (by first | rfl | (simp; done) | (simp [*]; done)), (by first | rfl | (simp; done) | (simp [*]; done)), H', ⟨Nat.le_refl _⟩, by repeat (first | exact Drawn0.refl _ | apply Drawn0.step)⟩
  case round =>
    clear H'
    obtain ⟨x3_1, x4_1, rfl, rfl, HA, HK1, ⟨m1, rfl⟩⟩ := hrel
    cases gk with
    | zero => exact absurd HA.out (by simp [umbelref07_num.l0])
    | succ k1 =>
      have H := HA.out
      clear HA
      simp only [umbelref07_num.l0] at H
      by_cases c2 : x4_1 < (a0.size : Int)
      · rw [if_pos c2] at H
        have c2b0 : decide (x4_1 < (a0.size : Int)) = true := decide_eq_true c2
        clear c2
        by_cases c3 : 0 ≤ x4_1
        · rw [if_pos c3] at H
          have c3b0 : decide (0 ≤ x4_1) = true := decide_eq_true c3
          clear c3
          have H' := Aside0.mk H
          clear H
          have p4 : 0 ≤ (x4_1 : Int) := of_decide_eq_true (by first | (with_reducible assumption) | assumption)
          have q4 : x4_1 < (a0.size : Int) := of_decide_eq_true (by first | (with_reducible assumption) | assumption)
          have hx4 := bt_at a0 x4_1
          replace p4 := eq_true p4
          replace q4 := eq_true q4
          go_wp2
          go_roundg k1
          case measure => have := HK1.out; omega
          case rel => exact ⟨(Go.bits .or .i64 (wrap64 (x3_1 * 256)) (wrap64 (bt a0 x4_1))), (wrap64 (x4_1 + 1)), (by first | rfl | (simp; done) | (simp [*]; done)), (by first | rfl | (simp; done) | (simp [*]; done)), H', ⟨by have := HK1.out; omega⟩, by repeat (first | exact Drawn0.refl _ | apply Drawn0.step)⟩
        · rw [if_neg c3] at H
          exact absurd H (by simp)
      · rw [if_neg c2] at H
        have c2b0 : decide (x4_1 < (a0.size : Int)) = false := decide_eq_false c2
        clear c2
        obtain rfl := Option.some.inj H
        go_wp2
        go_ret
        exact ⟨by first | rfl | (simp; done) | (simp [*]; done), by repeat (first | exact Drawn0.refl _ | apply Drawn0.step)⟩

end Go.Proofs.YtiajgmocmnjijaaDoor.PPag
